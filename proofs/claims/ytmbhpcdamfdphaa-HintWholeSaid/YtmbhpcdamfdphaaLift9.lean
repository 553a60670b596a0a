/- Own text, printed by the lifting program: each Go function beside a plain function, and the proof that a call of the one comes to the other. Conditions: what came in can be read. -/
import Derived.Test.YtmbhpcdamfdphaaLiftC
set_option linter.unusedVariables false
set_option linter.unusedSimpArgs false
set_option maxRecDepth 10000
set_option maxHeartbeats 4000000
namespace Go.Proofs.Ytmbhpcdamfdphaa
open Go Go.Sx
theorem go11 : GoF Try.prog 11 := GoF.of Try.func11 (by kernel_rfl) (by kernel_rfl)
theorem go19 : GoF Try.prog 19 := GoF.of Try.func19 (by kernel_rfl) (by kernel_rfl)
theorem go23 : GoF Try.prog 23 := GoF.of Try.func23 (by kernel_rfl) (by kernel_rfl)
theorem go25 : GoF Try.prog 25 := GoF.of Try.func25 (by kernel_rfl) (by kernel_rfl)
theorem go26 : GoF Try.prog 26 := GoF.of Try.func26 (by kernel_rfl) (by kernel_rfl)
/-! ### salvor/salvorlaw10.HintWhole: function 9 -/
def HintWhole.l1 (K : Nat) (t5 : (List T44_) × Int) (a0 : List Int) (t1 : Bool) : Nat → (Int) → Option ((Bool) ⊕ (Unit))
  | 0, _ => none
  | k + 1, i61 => if i61 < (t5.1.length : Int) then (gd ((0 : Int) ≤ i61 ∧ i61 < (t5.1.length : Int)) (gd ((0 : Int) ≤ i61 ∧ i61 < (t5.1.length : Int)) ((hCheck.f K a0 ((rd t5.1 i61).1) ((rd t5.1 i61).2.1) ((rd t5.1 i61).2.2.1) ((rd t5.1 i61).2.2.2.1) ((rd t5.1 i61).2.2.2.2)).bind fun t68 => if t68 = true then (HintWhole.l1 K t5 a0 t1 k (IntKind.wrap .i64 (i61 + 1))) else (some (.inl (t1)))))) else (some (.inr ()))
def HintWhole.f (K : Nat) (a0 : List Int) (a1 : List Int) : Option (Bool) := (known.f K).bind fun t1 => (sPrint.f K a0).bind fun t3 => (hLoad.f K a1 t3.1 t3.2.1 t3.2.2).bind fun t5 => if t5.2 ≠ 1 then (if t1 = true then (some (decide ((t5.1.length : Int) = 0))) else (some false)) else (thn (HintWhole.l1 K t5 a0 t1 K 0) fun o36 => (hOf.f K a0).bind fun t73 => (same.f K t73.1 a1).bind fun t79 => if t1 = true then (if t73.2 = 0 then (some t79) else (some false)) else (some false))
theorem HintWhole.calls {B : Nat} {w0 : World} {G : List HP} (K : Nat) (a0 : List Int) (a1 : List Int) (Aa0 : Option Addr) (ca0 : Nat) (Aa1 : Option Addr) (ca1 : Nat) (ha0 : RdG B w0 G Aa0 (a0.map (Value.int .u8))) (ka0 : a0.length ≤ ca0) (ha1 : RdG B w0 G Aa1 (a1.map (Value.int .u8))) (ka1 : a1.length ≤ ca1) (r : Bool) (H : HintWhole.f K a0 a1 = some r) (w : World) (hw : St B w0 (G) w) :
    Calls Try.prog 9 [.slice Aa0 a0.length ca0, .slice Aa1 a1.length ca1].toArray w (fun e w' => e = .returned (.bool r) ∧ St B w0 (G) w') := by
  unfold HintWhole.f at H
  refine calls_of (n := 60) (s := [(0, .slice Aa0 a0.length ca0), (1, .slice Aa1 a1.length ca1)]) Try.func9 rfl rfl rfl rfl ?_ hw
  refine C.rs ?_
  refine J.p rfl rfl rfl rfl (Y.asg rfl) ?_
  refine J.nx ?_
  refine C.rs ?_
  obtain ⟨t1, hC2, H⟩ := bind_some H
  refine J.call (us := []) (cap := []) rfl rfl rfl go11 (fun w hw => by have hcc := known.calls K t1 hC2 w hw; exact hcc) (fun e w1 h1 => ?_)
  obtain ⟨rfl, hw87⟩ := h1
  refine ⟨_, _, rfl, hw87, ?_⟩
  refine J.p rfl rfl rfl rfl (Y.asg rfl) ?_
  refine J.nx ?_
  refine C.rs ?_
  refine J.p rfl rfl rfl rfl (Y.mv rfl) ?_
  refine J.p rfl rfl rfl rfl (Y.mv rfl) ?_
  obtain ⟨t3, hC4, H⟩ := bind_some H
  refine J.call (us := []) (cap := []) rfl rfl rfl go26 (fun w hw => by have hcc := sPrint.calls K a0 Aa0 ca0 ha0 ka0 t3 hC4 w hw; exact hcc) (fun e w1 h1 => ?_)
  obtain ⟨rfl, hw86⟩ := h1
  refine ⟨_, _, rfl, hw86, ?_⟩
  obtain ⟨t5, hC6, H⟩ := bind_some H
  refine J.call (us := []) (cap := []) rfl rfl rfl go17 (fun w hw => by have hcc := hLoad.calls K a1 t3.1 t3.2.1 t3.2.2 Aa1 ca1 ha1 ka1 t5 hC6 w hw; exact hcc) (fun e w1 h1 => ?_)
  obtain ⟨A7, c8, rfl, hw85⟩ := h1
  refine ⟨_, _, rfl, hw85, ?_⟩
  refine J.p rfl rfl rfl rfl (Y.mv rfl) ?_
  refine J.p rfl rfl rfl rfl (Y.ext rfl rfl) ?_
  refine J.p rfl rfl rfl rfl (Y.ext rfl rfl) ?_
  refine J.p rfl rfl rfl rfl (Y.asg rfl) ?_
  refine J.p rfl rfl rfl rfl (Y.asg rfl) ?_
  refine J.nx ?_
  refine C.seq ?_
  refine C.rs ?_
  refine J.p rfl rfl rfl rfl (Y.mv rfl) ?_
  refine J.p rfl rfl rfl rfl (Y.bin rfl rfl rfl) ?_
  refine J.nx ?_
  refine split2 H (fun c10 H => ?_) (fun c10 H => ?_)
  · refine C.condT (congrArg (fun b => some (Value.bool b)) (decide_eq_true c10)) ?_
    refine C.rs ?_
    refine J.p rfl rfl rfl rfl (Y.mv rfl) ?_
    refine J.p rfl rfl rfl rfl (Y.mv rfl) ?_
    refine split2 H (fun c11 H => ?_) (fun c11 H => ?_)
    · refine J.as (k := 24) rfl (congrArg Value.bool (c11)) ?_
      refine J.p rfl rfl rfl rfl (Y.mv rfl) ?_
      refine J.p rfl rfl rfl rfl (Y.lenS Try.underlying36 rfl) ?_
      refine J.p rfl rfl rfl rfl (Y.bin rfl rfl rfl) ?_
      refine J.p rfl rfl rfl rfl (Y.pickT rfl rfl) ?_
      refine J.p rfl rfl rfl rfl (Y.asg rfl) ?_
      refine J.nx ?_
      refine C.ret ?_
      obtain rfl := Option.some.inj H
      refine T.th ?_
      exact ret_ok (ks := [4]) rfl rfl (fun w h => ⟨rfl, (St.pick [] [_] h rfl)⟩)
    · refine J.as (k := 24) rfl (congrArg Value.bool (nt c11)) ?_
      refine J.skip rfl rfl ?_
      refine J.skip rfl rfl ?_
      refine J.skip rfl rfl ?_
      refine J.p rfl rfl rfl rfl (Y.pickF rfl rfl) ?_
      refine J.p rfl rfl rfl rfl (Y.asg rfl) ?_
      refine J.nx ?_
      refine C.ret ?_
      obtain rfl := Option.some.inj H
      refine T.th ?_
      exact ret_ok (ks := [4]) rfl rfl (fun w h => ⟨rfl, (St.pick [] [_] h rfl)⟩)
  · refine C.condF (congrArg (fun b => some (Value.bool b)) (decide_eq_false c10)) ?_
    refine C.skip ?_
    refine N.nx ?_
    refine C.seq ?_
    refine C.rs ?_
    refine J.p rfl rfl rfl rfl (Y.asg rfl) ?_
    refine J.nx ?_
    refine C.joinNR H (fun (o36 : Unit) (j37 : Unit) => [(0, .slice Aa0 a0.length ca0), (1, .slice Aa1 a1.length ca1), (5, .bool t1)]) (fun (o36 : Unit) (j37 : Unit) => G) (fun (o36 : Unit) (j37 : Unit) => True) (fun o34 H HK35 => ?_) (fun o36 j37 H _ => ?_)
    · refine C.blk ?_
      refine C.loop (fun (i : Nat × (Int) × (Unit)) => [(0, .slice Aa0 a0.length ca0), (1, .slice Aa1 a1.length ca1), (5, .bool t1), (6, .slice A7 t5.1.length c8), (8, .int .i64 i.2.1)]) (fun (i : Nat × (Int) × (Unit)) => own 44 5 A7 c8 (t5.1.flatMap encT44_) :: G) (fun (i : Nat × (Int) × (Unit)) => HintWhole.l1 K t5 a0 t1 i.1 i.2.1 = some o34 ∧ (True)) (fun i => i.1) (K, 0, ()) ⟨H, trivial⟩ (by exact ⟨rfl, rfl, rfl, rfl, rfl, trivial⟩) (by exact fun w h => h) ?_
      rintro ⟨k72, i61, j62⟩ ⟨H, _⟩
      replace H : HintWhole.l1 K t5 a0 t1 k72 i61 = some o34 := H
      obtain ⟨k60, rfl⟩ : ∃ m, k72 = m + 1 := by cases k72 with | zero => exact absurd H (by simp [HintWhole.l1]) | succ m => exact ⟨m, rfl⟩
      rw [HintWhole.l1] at H
      refine C.at (s' := [(0, .slice Aa0 a0.length ca0), (1, .slice Aa1 a1.length ca1), (5, .bool t1), (6, .slice A7 t5.1.length c8), (8, .int .i64 i61)]) (G' := own 44 5 A7 c8 (t5.1.flatMap encT44_) :: G) rfl rfl ?_
      refine C.seq ?_
      refine C.rs ?_
      refine J.p rfl rfl rfl rfl (Y.mv rfl) ?_
      refine J.p rfl rfl rfl rfl (Y.mv rfl) ?_
      refine J.p rfl rfl rfl rfl (Y.lenS Try.underlying36 rfl) ?_
      refine J.p rfl rfl rfl rfl (Y.bin rfl rfl rfl) ?_
      refine J.nx ?_
      refine split2 H (fun c63 H => ?_) (fun c63 H => ?_)
      · refine C.condT (congrArg (fun b => some (Value.bool b)) (decide_eq_true c63)) ?_
        refine C.skip ?_
        refine N.nx ?_
        refine C.seq ?_
        refine C.blk ?_
        refine C.rs ?_
        refine J.p rfl rfl rfl rfl (Y.mv rfl) ?_
        refine J.p rfl rfl rfl rfl (Y.mv rfl) ?_
        refine J.p rfl rfl rfl rfl (Y.mv rfl) ?_
        obtain ⟨p66, H⟩ := gd_some H
        refine J.know (RdG.someM lenT44_ (by decide) (RdG.own 0 rfl) p66) (fun hh => ?_)
        obtain ⟨a64, ha65⟩ := hh
        refine J.p rfl rfl rfl rfl (Y.ixa Try.underlying36 ti44 rfl rfl p66 ha65) ?_
        obtain ⟨p67, H⟩ := gd_some H
        refine J.r rfl rfl rfl rfl (Y.ldM (us := [.int .u64 ((rd t5.1 i61).1), .int .i64 ((rd t5.1 i61).2.1), .int .i64 ((rd t5.1 i61).2.2.1), .int .i64 ((rd t5.1 i61).2.2.2.1), .string ((rd t5.1 i61).2.2.2.2)]) lenT44_ Try.underlying44 rfl ti44 rfl ha65 p67 (RdG.own 0 rfl) rfl) ?_
        obtain ⟨t68, hC69, H⟩ := bind_some H
        refine J.call (us := []) (cap := []) rfl rfl rfl go20 (fun w hw => by have hcc := hCheck.calls K a0 ((rd t5.1 i61).1) ((rd t5.1 i61).2.1) ((rd t5.1 i61).2.2.1) ((rd t5.1 i61).2.2.2.1) ((rd t5.1 i61).2.2.2.2) Aa0 ca0 (ha0.suf [_] rfl) ka0 t68 hC69 w hw; exact hcc) (fun e w1 h1 => ?_)
        obtain ⟨rfl, hw71⟩ := h1
        refine ⟨_, _, rfl, hw71, ?_⟩
        refine J.p rfl rfl rfl rfl (Y.asg rfl) ?_
        refine J.nx ?_
        refine C.rs ?_
        refine J.p rfl rfl rfl rfl (Y.mv rfl) ?_
        refine J.p rfl rfl rfl rfl (Y.notb rfl) ?_
        refine J.nx ?_
        refine split2 H (fun c70 H => ?_) (fun c70 H => ?_)
        · refine C.condF (congrArg (fun b => some (Value.bool b)) (congrArg Bool.not (c70))) ?_
          refine C.skip ?_
          refine N.ib ?_
          refine N.nx ?_
          refine C.reg ?_
          refine J.p rfl rfl rfl rfl (Y.mv rfl) ?_
          refine J.p rfl rfl rfl rfl (Y.bin rfl rfl rfl) ?_
          refine J.p rfl rfl rfl rfl (Y.asg rfl) ?_
          refine J.nil ?_
          exact N.again (k60, IntKind.wrap .i64 (i61 + 1), ()) ⟨H, trivial⟩ (Nat.lt_succ_self _) (by exact ⟨rfl, rfl, rfl, rfl, rfl, trivial⟩) (by exact fun w h => h)
        · refine C.condT (congrArg (fun b => some (Value.bool b)) (congrArg Bool.not (nt c70))) ?_
          refine C.rs ?_
          refine J.p rfl rfl rfl rfl (Y.mv rfl) ?_
          refine J.p rfl rfl rfl rfl (Y.asg rfl) ?_
          refine J.nx ?_
          refine C.ret ?_
          obtain rfl := Option.some.inj H
          obtain rfl := fin_inl HK35
          refine T.ib ?_
          refine T.th ?_
          refine T.th ?_
          refine T.ib ?_
          refine T.th ?_
          refine T.th ?_
          exact ret_ok (ks := [4]) rfl rfl (fun w h => ⟨rfl, (St.pick [] [_] h rfl)⟩)
      · refine C.condF (congrArg (fun b => some (Value.bool b)) (decide_eq_false c63)) ?_
        refine C.exit ?_
        refine X.th ?_
        refine X.th ?_
        refine X.hit ?_
        obtain rfl := Option.some.inj H
        exact N.meet ((), ()) ⟨fin_inr HK35, trivial⟩ (by exact ⟨rfl, rfl, rfl, trivial⟩) (by exact fun w h => (St.pick [] [_] h rfl))
    · refine N.at (s' := [(0, .slice Aa0 a0.length ca0), (1, .slice Aa1 a1.length ca1), (5, .bool t1)]) (G' := G) rfl rfl ?_
      refine N.nx ?_
      refine C.rs ?_
      refine J.p rfl rfl rfl rfl (Y.mv rfl) ?_
      obtain ⟨t73, hC74, H⟩ := bind_some H
      refine J.call (us := []) (cap := []) rfl rfl rfl go13 (fun w hw => by have hcc := hOf.calls K a0 Aa0 ca0 ha0 ka0 t73 hC74 w hw; exact hcc) (fun e w1 h1 => ?_)
      obtain ⟨A75, c76, rfl, hw84⟩ := h1
      refine ⟨_, _, rfl, hw84, ?_⟩
      refine J.p rfl rfl rfl rfl (Y.mv rfl) ?_
      refine J.p rfl rfl rfl rfl (Y.ext rfl rfl) ?_
      refine J.p rfl rfl rfl rfl (Y.ext rfl rfl) ?_
      refine J.p rfl rfl rfl rfl (Y.asg rfl) ?_
      refine J.p rfl rfl rfl rfl (Y.asg rfl) ?_
      refine J.nx ?_
      refine C.rs ?_
      refine J.p rfl rfl rfl rfl (Y.mv rfl) ?_
      refine J.p rfl rfl rfl rfl (Y.mv rfl) ?_
      refine J.know (own_leL 0 rfl) (fun hc78 => ?_)
      obtain ⟨t79, hC80, H⟩ := bind_some H
      refine J.call (us := []) (cap := []) rfl rfl rfl go16 (fun w hw => by have hcc := same.calls K t73.1 a1 A75 c76 Aa1 ca1 (RdG.own 0 rfl) hc78 (ha1.suf [_] rfl) ka1 t79 hC80 w hw; exact hcc) (fun e w1 h1 => ?_)
      obtain ⟨rfl, hw83⟩ := h1
      refine ⟨_, _, rfl, hw83, ?_⟩
      refine J.p rfl rfl rfl rfl (Y.asg rfl) ?_
      refine J.nx ?_
      refine C.rs ?_
      refine J.p rfl rfl rfl rfl (Y.mv rfl) ?_
      refine J.p rfl rfl rfl rfl (Y.mv rfl) ?_
      refine split2 H (fun c81 H => ?_) (fun c81 H => ?_)
      · refine J.as (k := 53) rfl (congrArg Value.bool (c81)) ?_
        refine J.p rfl rfl rfl rfl (Y.mv rfl) ?_
        refine J.p rfl rfl rfl rfl (Y.bin rfl rfl rfl) ?_
        refine J.p rfl rfl rfl rfl (Y.pickT rfl rfl) ?_
        refine J.p rfl rfl rfl rfl (Y.mv rfl) ?_
        refine split2 H (fun c82 H => ?_) (fun c82 H => ?_)
        · refine J.as (k := 57) rfl (congrArg Value.bool (decide_eq_true c82)) ?_
          refine J.p rfl rfl rfl rfl (Y.mv rfl) ?_
          refine J.p rfl rfl rfl rfl (Y.pickT rfl rfl) ?_
          refine J.p rfl rfl rfl rfl (Y.asg rfl) ?_
          refine J.nx ?_
          refine C.ret ?_
          obtain rfl := Option.some.inj H
          exact ret_ok (ks := [4]) rfl rfl (fun w h => ⟨rfl, (St.pick [] [_] h rfl)⟩)
        · refine J.as (k := 57) rfl (congrArg Value.bool (decide_eq_false c82)) ?_
          refine J.skip rfl rfl ?_
          refine J.p rfl rfl rfl rfl (Y.pickF rfl rfl) ?_
          refine J.p rfl rfl rfl rfl (Y.asg rfl) ?_
          refine J.nx ?_
          refine C.ret ?_
          obtain rfl := Option.some.inj H
          exact ret_ok (ks := [4]) rfl rfl (fun w h => ⟨rfl, (St.pick [] [_] h rfl)⟩)
      · refine J.as (k := 53) rfl (congrArg Value.bool (nt c81)) ?_
        refine J.skip rfl rfl ?_
        refine J.skip rfl rfl ?_
        refine J.p rfl rfl rfl rfl (Y.pickF rfl rfl) ?_
        refine J.p rfl rfl rfl rfl (Y.mv rfl) ?_
        refine J.skip rfl rfl ?_
        refine J.p rfl rfl rfl rfl (Y.pickF rfl rfl) ?_
        refine J.p rfl rfl rfl rfl (Y.asg rfl) ?_
        refine J.nx ?_
        refine C.ret ?_
        obtain rfl := Option.some.inj H
        exact ret_ok (ks := [4]) rfl rfl (fun w h => ⟨rfl, (St.pick [] [_] h rfl)⟩)
end Go.Proofs.Ytmbhpcdamfdphaa
