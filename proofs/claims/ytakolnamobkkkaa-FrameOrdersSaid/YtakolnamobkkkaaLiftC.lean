/- Own text, printed by the lifting program: each Go function beside a plain function, and the proof that a call of the one comes to the other. Conditions: what came in can be read. -/
import Derived.Test.YtakolnamobkkkaaLiftB
set_option linter.unusedVariables false
set_option linter.unusedSimpArgs false
set_option maxRecDepth 10000
set_option maxHeartbeats 4000000
namespace Go.Proofs.Ytakolnamobkkkaa
open Go Go.Sx
theorem fa64_0 : FA Try.prog 64 0 0 := FA.of Try.underlying64 rfl ti3 (by decide) rfl
theorem fa64_1 : FA Try.prog 64 1 1 := FA.of Try.underlying64 rfl ti3 (by decide) rfl
theorem fa64_2 : FA Try.prog 64 2 2 := FA.of Try.underlying64 rfl ti3 (by decide) rfl
theorem go14 : GoF Try.prog 14 := GoF.of Try.func14 (by kernel_rfl) (by kernel_rfl)
theorem go17 : GoF Try.prog 17 := GoF.of Try.func17 (by kernel_rfl) (by kernel_rfl)
theorem go34 : GoF Try.prog 34 := GoF.of Try.func34 (by kernel_rfl) (by kernel_rfl)
theorem go58 : GoF Try.prog 58 := GoF.of Try.func58 (by kernel_rfl) (by kernel_rfl)
theorem go59 : GoF Try.prog 59 := GoF.of Try.func59 (by kernel_rfl) (by kernel_rfl)
/-! ### salvor/salvortop.keyOf: function 58 -/
def keyOf.l1 (t1 : Int) : Nat → (ByteArray) → Option (ByteArray)
  | 0, _ => none
  | k + 1, i45 => (if t1 = 5 then (some (decide ((i45.size : Int) < 64))) else (some false)).bind fun o48 => if o48 = true then (gd (i45.size + (⟨#[166]⟩ : ByteArray).size ≤ 9223372036854775807) (keyOf.l1 t1 k (i45 ++ (⟨#[166]⟩ : ByteArray)))) else (some i45)
def keyOf.f (K : Nat) (a0 : Int) : Option (ByteArray) := (pick.f a0 6).bind fun t1 => gd ((0 : Int) ≤ t1 ∧ (0 : Int) ≤ (IntKind.wrap .i64 (t1 + 1)) ∧ ((Int.toNat t1) ≤ (Int.toNat (IntKind.wrap .i64 (t1 + 1))) ∧ (Int.toNat (IntKind.wrap .i64 (t1 + 1))) ≤ (⟨#[97, 98, 99, 100, 101, 102]⟩ : ByteArray).size)) ((if t1 = 4 then (gd (((⟨#[97, 98, 99, 100, 101, 102]⟩ : ByteArray).extract (Int.toNat t1) (Int.toNat (IntKind.wrap .i64 (t1 + 1)))).size + (⟨#[167, 0, 166, 167]⟩ : ByteArray).size ≤ 9223372036854775807) (some (((⟨#[97, 98, 99, 100, 101, 102]⟩ : ByteArray).extract (Int.toNat t1) (Int.toNat (IntKind.wrap .i64 (t1 + 1)))) ++ (⟨#[167, 0, 166, 167]⟩ : ByteArray)))) else (some ((⟨#[97, 98, 99, 100, 101, 102]⟩ : ByteArray).extract (Int.toNat t1) (Int.toNat (IntKind.wrap .i64 (t1 + 1)))))).bind fun o8 => (keyOf.l1 t1 K o8).bind fun o28 => some o28)
theorem keyOf.calls {B : Nat} {w0 : World} {G : List HP} (K : Nat) (a0 : Int) (r : ByteArray) (H : keyOf.f K a0 = some r) (w : World) (hw : St B w0 (G) w) :
    Calls Try.prog 58 [.int .i64 a0].toArray w (fun e w' => e = .returned (.string r) ∧ St B w0 (G) w') := by
  unfold keyOf.f at H
  refine calls_of (n := 25) (s := [(0, .int .i64 a0)]) Try.func58 rfl rfl rfl rfl ?_ hw
  refine C.rs ?_
  refine J.p rfl rfl rfl rfl (Y.asg rfl) ?_
  refine J.nx ?_
  refine C.rs ?_
  refine J.p rfl rfl rfl rfl (Y.mv rfl) ?_
  obtain ⟨t1, hC2, H⟩ := bind_some H
  refine J.call (us := []) (cap := []) rfl rfl rfl go34 (fun w hw => by have hcc := pick.calls a0 6 t1 hC2 w hw; exact hcc) (fun e w1 h1 => ?_)
  obtain ⟨rfl, hw56⟩ := h1
  refine ⟨_, _, rfl, hw56, ?_⟩
  refine J.p rfl rfl rfl rfl (Y.asg rfl) ?_
  refine J.nx ?_
  refine C.rs ?_
  refine J.p rfl rfl rfl rfl (Y.mv rfl) ?_
  refine J.p rfl rfl rfl rfl (Y.mv rfl) ?_
  refine J.p rfl rfl rfl rfl (Y.bin rfl rfl rfl) ?_
  obtain ⟨p3, H⟩ := gd_some H
  refine J.p rfl rfl rfl rfl (Y.slcT Try.underlying9 rfl (bnd.yes rfl p3.1) (bnd.yes rfl p3.2.1) p3.2.2) ?_
  refine J.p rfl rfl rfl rfl (Y.asg rfl) ?_
  refine J.nx ?_
  refine C.seq ?_
  refine C.rs ?_
  refine J.p rfl rfl rfl rfl (Y.mv rfl) ?_
  refine J.p rfl rfl rfl rfl (Y.bin rfl rfl rfl) ?_
  refine J.nx ?_
  refine C.joinN H (fun (o8 : ByteArray) (j9 : Unit) => [(3, .int .i64 t1), (4, .string o8)]) (fun (o8 : ByteArray) (j9 : Unit) => G) (fun (o8 : ByteArray) (j9 : Unit) => True) (fun o6 H HK7 => ?_) (fun o8 j9 H _ => ?_)
  · refine split2 H (fun c10 H => ?_) (fun c10 H => ?_)
    · refine C.condT (congrArg (fun b => some (Value.bool b)) (decide_eq_true c10)) ?_
      refine C.reg ?_
      refine J.p rfl rfl rfl rfl (Y.mv rfl) ?_
      obtain ⟨p11, H⟩ := gd_some H
      refine J.p rfl rfl rfl rfl (Y.cat rfl rfl p11) ?_
      refine J.p rfl rfl rfl rfl (Y.asg rfl) ?_
      refine J.nil ?_
      obtain rfl := Option.some.inj H
      exact N.meet (((⟨#[97, 98, 99, 100, 101, 102]⟩ : ByteArray).extract (Int.toNat t1) (Int.toNat (IntKind.wrap .i64 (t1 + 1)))) ++ (⟨#[167, 0, 166, 167]⟩ : ByteArray), ()) ⟨HK7, trivial⟩ (by exact ⟨rfl, rfl, trivial⟩) (by exact fun w h => h)
    · refine C.condF (congrArg (fun b => some (Value.bool b)) (decide_eq_false c10)) ?_
      refine C.skip ?_
      obtain rfl := Option.some.inj H
      exact N.meet ((⟨#[97, 98, 99, 100, 101, 102]⟩ : ByteArray).extract (Int.toNat t1) (Int.toNat (IntKind.wrap .i64 (t1 + 1))), ()) ⟨HK7, trivial⟩ (by exact ⟨rfl, rfl, trivial⟩) (by exact fun w h => h)
  · refine N.at (s' := [(3, .int .i64 t1), (4, .string o8)]) (G' := G) rfl rfl ?_
    refine N.nx ?_
    refine C.joinB H (fun (o28 : ByteArray) (j29 : Unit) => [(4, .string o28)]) (fun (o28 : ByteArray) (j29 : Unit) => G) (fun (o28 : ByteArray) (j29 : Unit) => True) (fun o26 H HK27 => ?_) (fun o28 j29 H _ => ?_)
    · refine C.blk ?_
      refine C.loop (fun (i : Nat × (ByteArray) × (Unit)) => [(3, .int .i64 t1), (4, .string i.2.1)]) (fun (i : Nat × (ByteArray) × (Unit)) => G) (fun (i : Nat × (ByteArray) × (Unit)) => keyOf.l1 t1 i.1 i.2.1 = some o26 ∧ (True)) (fun i => i.1) (K, o8, ()) ⟨H, trivial⟩ (by exact ⟨rfl, rfl, trivial⟩) (by exact fun w h => h) ?_
      rintro ⟨k55, i45, j46⟩ ⟨H, _⟩
      replace H : keyOf.l1 t1 k55 i45 = some o26 := H
      obtain ⟨k44, rfl⟩ : ∃ m, k55 = m + 1 := by cases k55 with | zero => exact absurd H (by simp [keyOf.l1]) | succ m => exact ⟨m, rfl⟩
      rw [keyOf.l1] at H
      refine C.at (s' := [(3, .int .i64 t1), (4, .string i45)]) (G' := G) rfl rfl ?_
      refine C.seq ?_
      refine C.rs ?_
      refine J.joinB H (fun (o48 : Bool) (j49 : Unit) => [(3, .int .i64 t1), (4, .string i45), (21, .bool o48)]) (fun (o48 : Bool) (j49 : Unit) => G) (fun (o48 : Bool) (j49 : Unit) => True) (fun o50 H HK51 => ?_) (fun o48 j49 H _ => ?_)
      · refine J.p rfl rfl rfl rfl (Y.mv rfl) ?_
        refine J.p rfl rfl rfl rfl (Y.bin rfl rfl rfl) ?_
        refine J.p rfl rfl rfl rfl (Y.mv rfl) ?_
        refine split2 H (fun c52 H => ?_) (fun c52 H => ?_)
        · refine J.as (k := 17) rfl (congrArg Value.bool (decide_eq_true c52)) ?_
          refine J.p rfl rfl rfl rfl (Y.mv rfl) ?_
          refine J.p rfl rfl rfl rfl (Y.lenT Try.underlying9 rfl) ?_
          refine J.p rfl rfl rfl rfl (Y.bin rfl rfl rfl) ?_
          refine J.p rfl rfl rfl rfl (Y.pickT rfl rfl) ?_
          refine J.nil ?_
          obtain rfl := Option.some.inj H
          exact N.meet (decide ((i45.size : Int) < 64), ()) ⟨HK51, trivial⟩ (by exact ⟨rfl, rfl, rfl, trivial⟩) (by exact fun w h => h)
        · refine J.as (k := 17) rfl (congrArg Value.bool (decide_eq_false c52)) ?_
          refine J.skip rfl rfl ?_
          refine J.skip rfl rfl ?_
          refine J.skip rfl rfl ?_
          refine J.p rfl rfl rfl rfl (Y.pickF rfl rfl) ?_
          refine J.nil ?_
          obtain rfl := Option.some.inj H
          exact N.meet (false, ()) ⟨HK51, trivial⟩ (by exact ⟨rfl, rfl, rfl, trivial⟩) (by exact fun w h => h)
      · refine C.at (s' := [(3, .int .i64 t1), (4, .string i45), (21, .bool o48)]) (G' := G) rfl rfl ?_
        refine split2 H (fun c53 H => ?_) (fun c53 H => ?_)
        · refine C.condT (congrArg (fun b => some (Value.bool b)) (c53)) ?_
          refine C.skip ?_
          refine N.nx ?_
          refine C.blk ?_
          refine C.reg ?_
          refine J.p rfl rfl rfl rfl (Y.mv rfl) ?_
          obtain ⟨p54, H⟩ := gd_some H
          refine J.p rfl rfl rfl rfl (Y.cat rfl rfl p54) ?_
          refine J.p rfl rfl rfl rfl (Y.asg rfl) ?_
          refine J.nil ?_
          refine N.ib ?_
          exact N.again (k44, i45 ++ (⟨#[166]⟩ : ByteArray), ()) ⟨H, trivial⟩ (Nat.lt_succ_self _) (by exact ⟨rfl, rfl, trivial⟩) (by exact fun w h => h)
        · refine C.condF (congrArg (fun b => some (Value.bool b)) (nt c53)) ?_
          refine C.exit ?_
          refine X.th ?_
          refine X.th ?_
          refine X.hit ?_
          obtain rfl := Option.some.inj H
          exact N.meet (i45, ()) ⟨HK27, trivial⟩ (by exact ⟨rfl, trivial⟩) (by exact fun w h => h)
    · refine C.at (s' := [(4, .string o28)]) (G' := G) rfl rfl ?_
      refine C.rs ?_
      refine J.p rfl rfl rfl rfl (Y.mv rfl) ?_
      refine J.p rfl rfl rfl rfl (Y.asg rfl) ?_
      refine J.nx ?_
      refine C.ret ?_
      obtain rfl := Option.some.inj H
      exact ret_ok (ks := [2]) rfl rfl (fun w h => ⟨rfl, h⟩)
/-! ### salvor/salvortop.valueOf: function 59 -/
def valueOf.l1 (o8 : Int) (a0 : Int) : Nat → (ByteArray × Int) → Option (ByteArray)
  | 0, _ => none
  | k + 1, i56 => if i56.2 < o8 then (gd ((IntKind.wrap .i64 (1 + (Int.tmod i56.2 5))) ≠ (0 : Int)) ((pick.f (IntKind.wrap .i64 ((IntKind.wrap .i64 (Int.tdiv a0 (IntKind.wrap .i64 (1 + (Int.tmod i56.2 5))))) + (IntKind.wrap .i64 (i56.2 * 31)))) 256).bind fun t60 => gd (i56.1.size + (strOfNums [IntKind.wrap .u8 t60]).size ≤ 9223372036854775807) (valueOf.l1 o8 a0 k (i56.1 ++ (strOfNums [IntKind.wrap .u8 t60]), IntKind.wrap .i64 (i56.2 + 1))))) else (some i56.1)
def valueOf.f (K : Nat) (a0 : Int) : Option (ByteArray) := (pick.f a0 9).bind fun t1 => (pick.f (IntKind.wrap .i64 (Int.tdiv a0 9)) 40).bind fun t3 => (if t1 = 8 then (some (IntKind.wrap .i64 (t3 * 9))) else (some t3)).bind fun o8 => (valueOf.l1 o8 a0 K ((⟨#[]⟩ : ByteArray), 0)).bind fun o33 => (if t1 = 6 then ((fEncode.f K 1 999999 1 (⟨#[97]⟩ : ByteArray) (⟨#[102, 111, 114, 103, 101, 100]⟩ : ByteArray) 0 0 0 0 ByteArray.empty 0 0 0 0).bind fun t83 => if t83.2 = 0 then (gd (o33.size + (strOfNums t83.1).size ≤ 9223372036854775807) (some (o33 ++ (strOfNums t83.1)))) else (some o33)) else (if t1 = 7 then (gd (o33.size + (⟨#[167, 167, 0, 0]⟩ : ByteArray).size ≤ 9223372036854775807) (some (o33 ++ (⟨#[167, 167, 0, 0]⟩ : ByteArray)))) else (some o33))).bind fun o80 => some o80
theorem valueOf.calls {B : Nat} {w0 : World} {G : List HP} (K : Nat) (a0 : Int) (r : ByteArray) (H : valueOf.f K a0 = some r) (w : World) (hw : St B w0 (G) w) :
    Calls Try.prog 59 [.int .i64 a0].toArray w (fun e w' => e = .returned (.string r) ∧ St B w0 (G) w') := by
  unfold valueOf.f at H
  refine calls_of (n := 57) (s := [(0, .int .i64 a0)]) Try.func59 rfl rfl rfl rfl ?_ hw
  refine C.rs ?_
  refine J.p rfl rfl rfl rfl (Y.asg rfl) ?_
  refine J.nx ?_
  refine C.rs ?_
  refine J.p rfl rfl rfl rfl (Y.mv rfl) ?_
  obtain ⟨t1, hC2, H⟩ := bind_some H
  refine J.call (us := []) (cap := []) rfl rfl rfl go34 (fun w hw => by have hcc := pick.calls a0 9 t1 hC2 w hw; exact hcc) (fun e w1 h1 => ?_)
  obtain ⟨rfl, hw94⟩ := h1
  refine ⟨_, _, rfl, hw94, ?_⟩
  refine J.p rfl rfl rfl rfl (Y.asg rfl) ?_
  refine J.nx ?_
  refine C.rs ?_
  refine J.p rfl rfl rfl rfl (Y.asg rfl) ?_
  refine J.nx ?_
  refine C.rs ?_
  refine J.p rfl rfl rfl rfl (Y.mv rfl) ?_
  refine J.p rfl rfl rfl rfl (Y.quo rfl rfl (by decide)) ?_
  obtain ⟨t3, hC4, H⟩ := bind_some H
  refine J.call (us := []) (cap := []) rfl rfl rfl go34 (fun w hw => by have hcc := pick.calls (IntKind.wrap .i64 (Int.tdiv a0 9)) 40 t3 hC4 w hw; exact hcc) (fun e w1 h1 => ?_)
  obtain ⟨rfl, hw93⟩ := h1
  refine ⟨_, _, rfl, hw93, ?_⟩
  refine J.p rfl rfl rfl rfl (Y.asg rfl) ?_
  refine J.nx ?_
  refine C.seq ?_
  refine C.rs ?_
  refine J.p rfl rfl rfl rfl (Y.mv rfl) ?_
  refine J.p rfl rfl rfl rfl (Y.bin rfl rfl rfl) ?_
  refine J.nx ?_
  refine C.joinN H (fun (o8 : Int) (j9 : Unit) => [(0, .int .i64 a0), (3, .int .i64 t1), (4, .string (⟨#[]⟩ : ByteArray)), (5, .int .i64 o8)]) (fun (o8 : Int) (j9 : Unit) => G) (fun (o8 : Int) (j9 : Unit) => True) (fun o6 H HK7 => ?_) (fun o8 j9 H _ => ?_)
  · refine split2 H (fun c10 H => ?_) (fun c10 H => ?_)
    · refine C.condT (congrArg (fun b => some (Value.bool b)) (decide_eq_true c10)) ?_
      refine C.reg ?_
      refine J.p rfl rfl rfl rfl (Y.mv rfl) ?_
      refine J.p rfl rfl rfl rfl (Y.bin rfl rfl rfl) ?_
      refine J.p rfl rfl rfl rfl (Y.asg rfl) ?_
      refine J.nil ?_
      obtain rfl := Option.some.inj H
      exact N.meet (IntKind.wrap .i64 (t3 * 9), ()) ⟨HK7, trivial⟩ (by exact ⟨rfl, rfl, rfl, rfl, trivial⟩) (by exact fun w h => h)
    · refine C.condF (congrArg (fun b => some (Value.bool b)) (decide_eq_false c10)) ?_
      refine C.skip ?_
      obtain rfl := Option.some.inj H
      exact N.meet (t3, ()) ⟨HK7, trivial⟩ (by exact ⟨rfl, rfl, rfl, rfl, trivial⟩) (by exact fun w h => h)
  · refine N.at (s' := [(0, .int .i64 a0), (3, .int .i64 t1), (4, .string (⟨#[]⟩ : ByteArray)), (5, .int .i64 o8)]) (G' := G) rfl rfl ?_
    refine N.nx ?_
    refine C.seq ?_
    refine C.rs ?_
    refine J.p rfl rfl rfl rfl (Y.asg rfl) ?_
    refine J.nx ?_
    refine C.joinN H (fun (o33 : ByteArray) (j34 : Unit) => [(3, .int .i64 t1), (4, .string o33)]) (fun (o33 : ByteArray) (j34 : Unit) => G) (fun (o33 : ByteArray) (j34 : Unit) => True) (fun o31 H HK32 => ?_) (fun o33 j34 H _ => ?_)
    · refine C.blk ?_
      refine C.loop (fun (i : Nat × (ByteArray × Int) × (Unit)) => [(0, .int .i64 a0), (3, .int .i64 t1), (4, .string i.2.1.1), (5, .int .i64 o8), (6, .int .i64 i.2.1.2)]) (fun (i : Nat × (ByteArray × Int) × (Unit)) => G) (fun (i : Nat × (ByteArray × Int) × (Unit)) => valueOf.l1 o8 a0 i.1 i.2.1 = some o31 ∧ (True)) (fun i => i.1) (K, ((⟨#[]⟩ : ByteArray), 0), ()) ⟨H, trivial⟩ (by exact ⟨rfl, rfl, rfl, rfl, rfl, trivial⟩) (by exact fun w h => h) ?_
      rintro ⟨k66, i56, j57⟩ ⟨H, _⟩
      replace H : valueOf.l1 o8 a0 k66 i56 = some o31 := H
      obtain ⟨k55, rfl⟩ : ∃ m, k66 = m + 1 := by cases k66 with | zero => exact absurd H (by simp [valueOf.l1]) | succ m => exact ⟨m, rfl⟩
      rw [valueOf.l1] at H
      refine C.at (s' := [(0, .int .i64 a0), (3, .int .i64 t1), (4, .string i56.1), (5, .int .i64 o8), (6, .int .i64 i56.2)]) (G' := G) rfl rfl ?_
      refine C.seq ?_
      refine C.rs ?_
      refine J.p rfl rfl rfl rfl (Y.mv rfl) ?_
      refine J.p rfl rfl rfl rfl (Y.mv rfl) ?_
      refine J.p rfl rfl rfl rfl (Y.bin rfl rfl rfl) ?_
      refine J.nx ?_
      refine split2 H (fun c58 H => ?_) (fun c58 H => ?_)
      · refine C.condT (congrArg (fun b => some (Value.bool b)) (decide_eq_true c58)) ?_
        refine C.skip ?_
        refine N.nx ?_
        refine C.seq ?_
        refine C.blk ?_
        refine C.reg ?_
        refine J.p rfl rfl rfl rfl (Y.mv rfl) ?_
        refine J.p rfl rfl rfl rfl (Y.mv rfl) ?_
        refine J.p rfl rfl rfl rfl (Y.mv rfl) ?_
        refine J.p rfl rfl rfl rfl (Y.rem rfl rfl (by decide)) ?_
        refine J.p rfl rfl rfl rfl (Y.bin rfl rfl rfl) ?_
        obtain ⟨p59, H⟩ := gd_some H
        refine J.p rfl rfl rfl rfl (Y.quo rfl rfl p59) ?_
        refine J.p rfl rfl rfl rfl (Y.mv rfl) ?_
        refine J.p rfl rfl rfl rfl (Y.bin rfl rfl rfl) ?_
        refine J.p rfl rfl rfl rfl (Y.bin rfl rfl rfl) ?_
        obtain ⟨t60, hC61, H⟩ := bind_some H
        refine J.call (us := []) (cap := []) rfl rfl rfl go34 (fun w hw => by have hcc := pick.calls (IntKind.wrap .i64 ((IntKind.wrap .i64 (Int.tdiv a0 (IntKind.wrap .i64 (1 + (Int.tmod i56.2 5))))) + (IntKind.wrap .i64 (i56.2 * 31)))) 256 t60 hC61 w hw; exact hcc) (fun e w1 h1 => ?_)
        obtain ⟨rfl, hw65⟩ := h1
        refine ⟨_, _, rfl, hw65, ?_⟩
        refine J.p rfl rfl rfl rfl (Y.conv Try.underlying3 Try.underlying5 rfl) ?_
        refine J.bsL (enc := (Value.int .u8)) (xs := [IntKind.wrap .u8 t60]) rfl Try.underlying22 ti5 rfl rfl rfl rfl rfl (fun A62 => ?_)
        refine J.r rfl rfl rfl rfl (Y.b2s Try.underlying22 Try.underlying5 Try.underlying9 rfl (RdG.own 0 rfl)) ?_
        obtain ⟨p64, H⟩ := gd_some H
        refine J.p rfl rfl rfl rfl (Y.cat rfl rfl p64) ?_
        refine J.p rfl rfl rfl rfl (Y.asg rfl) ?_
        refine J.nil ?_
        refine N.ib ?_
        refine N.nx ?_
        refine C.reg ?_
        refine J.p rfl rfl rfl rfl (Y.mv rfl) ?_
        refine J.p rfl rfl rfl rfl (Y.bin rfl rfl rfl) ?_
        refine J.p rfl rfl rfl rfl (Y.asg rfl) ?_
        refine J.nil ?_
        exact N.again (k55, (i56.1 ++ (strOfNums [IntKind.wrap .u8 t60]), IntKind.wrap .i64 (i56.2 + 1)), ()) ⟨H, trivial⟩ (Nat.lt_succ_self _) (by exact ⟨rfl, rfl, rfl, rfl, rfl, trivial⟩) (by exact fun w h => (St.pick [] [_] h rfl))
      · refine C.condF (congrArg (fun b => some (Value.bool b)) (decide_eq_false c58)) ?_
        refine C.exit ?_
        refine X.th ?_
        refine X.th ?_
        refine X.hit ?_
        obtain rfl := Option.some.inj H
        exact N.meet (i56.1, ()) ⟨HK32, trivial⟩ (by exact ⟨rfl, rfl, trivial⟩) (by exact fun w h => h)
    · refine N.at (s' := [(3, .int .i64 t1), (4, .string o33)]) (G' := G) rfl rfl ?_
      refine N.nx ?_
      refine C.seq ?_
      refine C.rs ?_
      refine J.p rfl rfl rfl rfl (Y.mv rfl) ?_
      refine J.nx ?_
      refine C.joinN H (fun (o80 : ByteArray) (j81 : Unit) => [(4, .string o80)]) (fun (o80 : ByteArray) (j81 : Unit) => G) (fun (o80 : ByteArray) (j81 : Unit) => True) (fun o78 H HK79 => ?_) (fun o80 j81 H _ => ?_)
      · refine C.blk ?_
        refine C.rs ?_
        refine J.p rfl rfl rfl rfl (Y.bin rfl rfl rfl) ?_
        refine J.p rfl rfl rfl rfl (Y.asg rfl) ?_
        refine J.nx ?_
        refine split2 H (fun c82 H => ?_) (fun c82 H => ?_)
        · refine C.condT (congrArg (fun b => some (Value.bool b)) (decide_eq_true c82)) ?_
          refine C.rs ?_
          refine J.p rfl rfl rfl rfl (Y.bld (cs := [.int .u64 999999, .int .i64 1, .string (⟨#[97]⟩ : ByteArray), .string (⟨#[102, 111, 114, 103, 101, 100]⟩ : ByteArray)]) rfl pl27 ti27 rfl (by kernel_rfl)) ?_
          refine J.p rfl rfl rfl rfl (Y.bld (cs := [.int .i64 1, .int .u64 999999, .int .i64 1, .string (⟨#[97]⟩ : ByteArray), .string (⟨#[102, 111, 114, 103, 101, 100]⟩ : ByteArray), .int .u64 0, .int .i64 0, .int .i64 0, .int .i64 0, .string ByteArray.empty, .int .i64 0, .int .i64 0, .int .i64 0, .int .u32 0]) rfl pl36 ti36 rfl (by kernel_rfl)) ?_
          obtain ⟨t83, hC84, H⟩ := bind_some H
          refine J.call (us := []) (cap := []) rfl rfl rfl go18 (fun w hw => by have hcc := fEncode.calls K 1 999999 1 (⟨#[97]⟩ : ByteArray) (⟨#[102, 111, 114, 103, 101, 100]⟩ : ByteArray) 0 0 0 0 ByteArray.empty 0 0 0 0 t83 hC84 w hw; exact hcc) (fun e w1 h1 => ?_)
          obtain ⟨A85, c86, rfl, hw90⟩ := h1
          refine ⟨_, _, rfl, hw90, ?_⟩
          refine J.p rfl rfl rfl rfl (Y.mv rfl) ?_
          refine J.p rfl rfl rfl rfl (Y.ext rfl rfl) ?_
          refine J.p rfl rfl rfl rfl (Y.ext rfl rfl) ?_
          refine J.p rfl rfl rfl rfl (Y.asg rfl) ?_
          refine J.p rfl rfl rfl rfl (Y.asg rfl) ?_
          refine J.nx ?_
          refine C.rs ?_
          refine J.p rfl rfl rfl rfl (Y.mv rfl) ?_
          refine J.p rfl rfl rfl rfl (Y.bin rfl rfl rfl) ?_
          refine J.nx ?_
          refine split2 H (fun c88 H => ?_) (fun c88 H => ?_)
          · refine C.condT (congrArg (fun b => some (Value.bool b)) (decide_eq_true c88)) ?_
            refine C.reg ?_
            refine J.p rfl rfl rfl rfl (Y.mv rfl) ?_
            refine J.p rfl rfl rfl rfl (Y.mv rfl) ?_
            refine J.r rfl rfl rfl rfl (Y.b2s Try.underlying22 Try.underlying5 Try.underlying9 rfl (RdG.own 0 rfl)) ?_
            obtain ⟨p89, H⟩ := gd_some H
            refine J.p rfl rfl rfl rfl (Y.cat rfl rfl p89) ?_
            refine J.p rfl rfl rfl rfl (Y.asg rfl) ?_
            refine J.nil ?_
            refine N.ib ?_
            obtain rfl := Option.some.inj H
            exact N.meet (o33 ++ (strOfNums t83.1), ()) ⟨HK79, trivial⟩ (by exact ⟨rfl, trivial⟩) (by exact fun w h => (St.pick [] [_] h rfl))
          · refine C.condF (congrArg (fun b => some (Value.bool b)) (decide_eq_false c88)) ?_
            refine C.skip ?_
            refine N.ib ?_
            obtain rfl := Option.some.inj H
            exact N.meet (o33, ()) ⟨HK79, trivial⟩ (by exact ⟨rfl, trivial⟩) (by exact fun w h => (St.pick [] [_] h rfl))
        · refine C.condF (congrArg (fun b => some (Value.bool b)) (decide_eq_false c82)) ?_
          refine C.rs ?_
          refine J.p rfl rfl rfl rfl (Y.bin rfl rfl rfl) ?_
          refine J.p rfl rfl rfl rfl (Y.asg rfl) ?_
          refine J.nx ?_
          refine split2 H (fun c91 H => ?_) (fun c91 H => ?_)
          · refine C.condT (congrArg (fun b => some (Value.bool b)) (decide_eq_true c91)) ?_
            refine C.reg ?_
            refine J.p rfl rfl rfl rfl (Y.mv rfl) ?_
            obtain ⟨p92, H⟩ := gd_some H
            refine J.p rfl rfl rfl rfl (Y.cat rfl rfl p92) ?_
            refine J.p rfl rfl rfl rfl (Y.asg rfl) ?_
            refine J.nil ?_
            refine N.ib ?_
            obtain rfl := Option.some.inj H
            exact N.meet (o33 ++ (⟨#[167, 167, 0, 0]⟩ : ByteArray), ()) ⟨HK79, trivial⟩ (by exact ⟨rfl, trivial⟩) (by exact fun w h => h)
          · refine C.condF (congrArg (fun b => some (Value.bool b)) (decide_eq_false c91)) ?_
            refine C.skip ?_
            refine N.ib ?_
            obtain rfl := Option.some.inj H
            exact N.meet (o33, ()) ⟨HK79, trivial⟩ (by exact ⟨rfl, trivial⟩) (by exact fun w h => h)
      · refine N.at (s' := [(4, .string o80)]) (G' := G) rfl rfl ?_
        refine N.nx ?_
        refine C.rs ?_
        refine J.p rfl rfl rfl rfl (Y.mv rfl) ?_
        refine J.p rfl rfl rfl rfl (Y.asg rfl) ?_
        refine J.nx ?_
        refine C.ret ?_
        obtain rfl := Option.some.inj H
        exact ret_ok (ks := [2]) rfl rfl (fun w h => ⟨rfl, h⟩)
/-! ### salvor/salvortop.recordOf: function 29 -/
def recordOf.f (K : Nat) (a0_0 : Int) (a0_1 : Int) (a0_2 : Int) (a0_3 : Int) (a1 : Int) : Option (Int × Int × ByteArray × ByteArray) := (pick.f a0_0 4).bind fun t5 => if t5 = 0 then ((keyOf.f K a0_1).bind fun t8 => some (a1, 2, t8, ByteArray.empty)) else ((keyOf.f K a0_1).bind fun t11 => (valueOf.f K a0_2).bind fun t13 => some (a1, 1, t11, t13))
theorem recordOf.calls {B : Nat} {w0 : World} {G : List HP} (K : Nat) (a0_0 : Int) (a0_1 : Int) (a0_2 : Int) (a0_3 : Int) (a1 : Int) (r : Int × Int × ByteArray × ByteArray) (H : recordOf.f K a0_0 a0_1 a0_2 a0_3 a1 = some r) (w : World) (hw : St B w0 (G) w) :
    Calls Try.prog 29 [.agg #[.int .i64 a0_0, .int .i64 a0_1, .int .i64 a0_2, .int .i64 a0_3], .int .u64 a1].toArray w (fun e w' => e = .returned (.agg #[.int .u64 r.1, .int .i64 r.2.1, .string r.2.2.1, .string r.2.2.2]) ∧ St B w0 (G) w') := by
  unfold recordOf.f at H
  refine calls_of (n := 22) (s := [(0, .agg #[.int .i64 a0_0, .int .i64 a0_1, .int .i64 a0_2, .int .i64 a0_3]), (1, .int .u64 a1)]) Try.func29 rfl rfl rfl rfl ?_ hw
  refine C.rs ?_
  refine J.box (L := [.int .i64 a0_0, .int .i64 a0_1, .int .i64 a0_2, .int .i64 a0_3]) rfl rfl rfl (fun g1 => ?_)
  refine J.alloc (L := [.int .u64 0, .int .i64 0, .string ByteArray.empty, .string ByteArray.empty]) rfl ti27 rfl (fun g3 => ?_)
  refine J.nx ?_
  refine C.seq ?_
  refine C.rs ?_
  refine J.p rfl rfl rfl rfl (Y.fa0 fa64_0 rfl rfl) ?_
  refine J.r rfl rfl rfl rfl (Y.ldC 1 Try.underlying3 rfl rfl rfl rfl) ?_
  obtain ⟨t5, hC6, H⟩ := bind_some H
  refine J.call (us := []) (cap := []) rfl rfl rfl go34 (fun w hw => by have hcc := pick.calls a0_0 4 t5 hC6 w hw; exact hcc) (fun e w1 h1 => ?_)
  obtain ⟨rfl, hw17⟩ := h1
  refine ⟨_, _, rfl, hw17, ?_⟩
  refine J.p rfl rfl rfl rfl (Y.bin rfl rfl rfl) ?_
  refine J.nx ?_
  refine split2 H (fun c7 H => ?_) (fun c7 H => ?_)
  · refine C.condT (congrArg (fun b => some (Value.bool b)) (decide_eq_true c7)) ?_
    refine C.rs ?_
    refine J.p rfl rfl rfl rfl (Y.mv rfl) ?_
    refine J.p rfl rfl rfl rfl (Y.fa0 fa64_1 rfl rfl) ?_
    refine J.r rfl rfl rfl rfl (Y.ldC 1 Try.underlying3 rfl rfl rfl rfl) ?_
    obtain ⟨t8, hC9, H⟩ := bind_some H
    refine J.call (us := []) (cap := []) rfl rfl rfl go58 (fun w hw => by have hcc := keyOf.calls K a0_1 t8 hC9 w hw; exact hcc) (fun e w1 h1 => ?_)
    obtain ⟨rfl, hw10⟩ := h1
    refine ⟨_, _, rfl, hw10, ?_⟩
    refine J.p rfl rfl rfl rfl (Y.bld (cs := [.int .u64 a1, .int .i64 2, .string t8, .string ByteArray.empty]) rfl pl27 ti27 rfl (by kernel_rfl)) ?_
    refine J.stA (us := [.int .u64 a1, .int .i64 2, .string t8, .string ByteArray.empty]) (L' := [.int .u64 a1, .int .i64 2, .string t8, .string ByteArray.empty]) ti27 rfl rfl rfl rfl rfl rfl ?_
    refine J.nx ?_
    refine C.ret ?_
    obtain rfl := Option.some.inj H
    refine T.th ?_
    exact ret_okG (rvs := [.cell 4 27]) (vs := [.agg #[.int .u64 a1, .int .i64 2, .string t8, .string ByteArray.empty]]) rfl ⟨RV.cellA (us := [.int .u64 a1, .int .i64 2, .string t8, .string ByteArray.empty]) 0 Try.underlying27 rfl ti27 rfl rfl rfl rfl, trivial⟩ (fun w h => ⟨rfl, (St.pick [] [_, _] h rfl)⟩)
  · refine C.condF (congrArg (fun b => some (Value.bool b)) (decide_eq_false c7)) ?_
    refine C.skip ?_
    refine N.nx ?_
    refine C.seq ?_
    refine C.drawn (fuel := 9) (ls := [false, false, false, false, false, false, false, false, false]) [] (cells g1 64 [.int .i64 a0_0, .int .i64 a0_1, .int .i64 a0_2, .int .i64 a0_3] :: G) mx rfl rfl ?_
    refine D.p (ls' := [true, false, false, false, false, false, false, false, false]) 0 rfl rfl rfl rfl (by kernel_rfl) rfl (Y.mv rfl) ?_
    refine D.p (ls' := [true, true, false, false, false, false, false, false, false]) 1 rfl rfl rfl rfl (by kernel_rfl) rfl (Y.fa0 fa64_1 rfl rfl) ?_
    refine D.r (ls' := [true, true, true, false, false, false, false, false, false]) 2 1 1 rfl rfl rfl rfl (by kernel_rfl) (by kernel_rfl) rfl rfl (Y.ldC 0 Try.underlying3 rfl rfl rfl rfl) ?_
    refine D.p (ls' := [true, true, true, false, true, false, false, false, false]) 4 rfl rfl rfl rfl (by kernel_rfl) rfl (Y.fa0 fa64_2 rfl rfl) ?_
    refine D.r (ls' := [true, true, true, false, true, true, false, false, false]) 5 1 1 rfl rfl rfl rfl (by kernel_rfl) (by kernel_rfl) rfl rfl (Y.ldC 0 Try.underlying3 rfl rfl rfl rfl) ?_
    refine D.any [3] (by kernel_rfl) rfl ⟨?_, trivial⟩
    refine DW.j (ls' := [true, true, true, true, true, true, false, false, false]) rfl rfl ?_
    obtain ⟨t11, hC12, H⟩ := bind_some H
    refine J.call (us := []) (cap := []) rfl rfl rfl go58 (fun w hw => by have hcc := keyOf.calls K a0_1 t11 hC12 w hw; exact hcc) (fun e w1 h1 => ?_)
    obtain ⟨rfl, hw16⟩ := h1
    refine ⟨_, _, rfl, hw16, ?_⟩
    refine J.nil ?_
    refine D.backK 1 rfl ?_
    refine D.any [6] (by kernel_rfl) rfl ⟨?_, trivial⟩
    refine DW.j (ls' := [true, true, true, true, true, true, true, false, false]) rfl rfl ?_
    obtain ⟨t13, hC14, H⟩ := bind_some H
    refine J.call (us := []) (cap := []) rfl rfl rfl go59 (fun w hw => by have hcc := valueOf.calls K a0_2 t13 hC14 w hw; exact hcc) (fun e w1 h1 => ?_)
    obtain ⟨rfl, hw15⟩ := h1
    refine ⟨_, _, rfl, hw15, ?_⟩
    refine J.nil ?_
    refine D.backK 1 rfl ?_
    refine D.p (ls' := [true, true, true, true, true, true, true, true, false]) 7 rfl rfl rfl rfl (by kernel_rfl) rfl (Y.bld (cs := [.int .u64 a1, .int .i64 1, .string t11, .string t13]) rfl pl27 ti27 rfl (by kernel_rfl)) ?_
    refine D.any [8] (by kernel_rfl) rfl ⟨?_, trivial⟩
    refine DW.j (ls' := [true, true, true, true, true, true, true, true, true]) rfl rfl ?_
    refine J.stA (us := [.int .u64 a1, .int .i64 1, .string t11, .string t13]) (L' := [.int .u64 a1, .int .i64 1, .string t11, .string t13]) ti27 rfl rfl rfl rfl rfl rfl ?_
    refine J.nil ?_
    refine D.backK 1 rfl ?_
    refine D.nil (by kernel_rfl) ?_
    refine N.nx ?_
    refine C.ret ?_
    obtain rfl := Option.some.inj H
    exact ret_okG (rvs := [.cell 4 27]) (vs := [.agg #[.int .u64 a1, .int .i64 1, .string t11, .string t13]]) rfl ⟨RV.cellA (us := [.int .u64 a1, .int .i64 1, .string t11, .string t13]) 0 Try.underlying27 rfl ti27 rfl rfl rfl rfl, trivial⟩ (fun w h => ⟨rfl, (St.pick [] [_, _] h rfl)⟩)
/-! ### salvor/salvortop.framed: function 30 -/
def framed.f (K : Nat) (a0_0 : Int) (a0_1 : Int) (a0_2 : ByteArray) (a0_3 : ByteArray) : Option ((List Int)) := (fEncode.f K a0_1 a0_0 a0_1 a0_2 a0_3 0 0 0 0 ByteArray.empty 0 0 0 0).bind fun t3 => if t3.2 ≠ 0 then (some ([] : List Int)) else (some t3.1)
theorem framed.calls {B : Nat} {w0 : World} {G : List HP} (K : Nat) (a0_0 : Int) (a0_1 : Int) (a0_2 : ByteArray) (a0_3 : ByteArray) (r : (List Int)) (H : framed.f K a0_0 a0_1 a0_2 a0_3 = some r) (w : World) (hw : St B w0 (G) w) :
    Calls Try.prog 30 [.agg #[.int .u64 a0_0, .int .i64 a0_1, .string a0_2, .string a0_3]].toArray w (fun e w' => ∃ A0 c0, e = .returned (.slice A0 r.length c0) ∧ St B w0 (own 5 1 A0 c0 (r.map (Value.int .u8)) :: G) w') := by
  unfold framed.f at H
  refine calls_of (n := 16) (s := [(0, .agg #[.int .u64 a0_0, .int .i64 a0_1, .string a0_2, .string a0_3])]) Try.func30 rfl rfl rfl rfl ?_ hw
  refine C.rs ?_
  refine J.box (L := [.int .u64 a0_0, .int .i64 a0_1, .string a0_2, .string a0_3]) rfl rfl rfl (fun g1 => ?_)
  refine J.p rfl rfl rfl rfl (Y.asg rfl) ?_
  refine J.nx ?_
  refine C.rs ?_
  refine J.p rfl rfl rfl rfl (Y.fa0 fa27_1 rfl rfl) ?_
  refine J.r rfl rfl rfl rfl (Y.ldC 0 Try.underlying24 rfl rfl rfl rfl) ?_
  refine J.r rfl rfl rfl rfl (Y.ldCA (us := [.int .u64 a0_0, .int .i64 a0_1, .string a0_2, .string a0_3]) 0 Try.underlying27 rfl ti27 rfl rfl rfl rfl) ?_
  refine J.p rfl rfl rfl rfl (Y.bld (cs := [.int .i64 a0_1, .int .u64 a0_0, .int .i64 a0_1, .string a0_2, .string a0_3, .int .u64 0, .int .i64 0, .int .i64 0, .int .i64 0, .string ByteArray.empty, .int .i64 0, .int .i64 0, .int .i64 0, .int .u32 0]) rfl pl36 ti36 rfl (by kernel_rfl)) ?_
  obtain ⟨t3, hC4, H⟩ := bind_some H
  refine J.call (us := []) (cap := []) rfl rfl rfl go18 (fun w hw => by have hcc := fEncode.calls K a0_1 a0_0 a0_1 a0_2 a0_3 0 0 0 0 ByteArray.empty 0 0 0 0 t3 hC4 w hw; exact hcc) (fun e w1 h1 => ?_)
  obtain ⟨A5, c6, rfl, hw10⟩ := h1
  refine ⟨_, _, rfl, hw10, ?_⟩
  refine J.p rfl rfl rfl rfl (Y.mv rfl) ?_
  refine J.p rfl rfl rfl rfl (Y.ext rfl rfl) ?_
  refine J.p rfl rfl rfl rfl (Y.ext rfl rfl) ?_
  refine J.p rfl rfl rfl rfl (Y.asg rfl) ?_
  refine J.p rfl rfl rfl rfl (Y.asg rfl) ?_
  refine J.nx ?_
  refine C.seq ?_
  refine C.rs ?_
  refine J.p rfl rfl rfl rfl (Y.mv rfl) ?_
  refine J.p rfl rfl rfl rfl (Y.bin rfl rfl rfl) ?_
  refine J.nx ?_
  refine split2 H (fun c8 H => ?_) (fun c8 H => ?_)
  · refine C.condT (congrArg (fun b => some (Value.bool b)) (decide_eq_true c8)) ?_
    refine C.rs ?_
    refine J.p rfl rfl rfl rfl (Y.asg rfl) ?_
    refine J.nx ?_
    refine C.ret ?_
    obtain rfl := Option.some.inj H
    refine T.th ?_
    exact ret_ok (ks := [2]) rfl rfl (fun w h => ⟨none, 0, rfl, (St.pick [0] [_, _, _] (h.nilOwn 5 1) rfl)⟩)
  · refine C.condF (congrArg (fun b => some (Value.bool b)) (decide_eq_false c8)) ?_
    refine C.skip ?_
    refine N.nx ?_
    refine C.rs ?_
    refine J.p rfl rfl rfl rfl (Y.mv rfl) ?_
    refine J.p rfl rfl rfl rfl (Y.asg rfl) ?_
    refine J.nx ?_
    refine C.ret ?_
    obtain rfl := Option.some.inj H
    exact ret_ok (ks := [2]) rfl rfl (fun w h => ⟨A5, c6, rfl, (St.pick [0] [_, _] h rfl)⟩)
end Go.Proofs.Ytakolnamobkkkaa
