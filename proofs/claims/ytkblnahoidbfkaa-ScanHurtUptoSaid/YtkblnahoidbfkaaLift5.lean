/- Own text, printed by the lifting program: each Go function beside a plain function, and the proof that a call of the one comes to the other. Conditions: what came in can be read. -/
import Derived.Test.YtkblnahoidbfkaaLiftF
set_option linter.unusedVariables false
set_option linter.unusedSimpArgs false
set_option maxRecDepth 10000
set_option maxHeartbeats 4000000
namespace Go.Proofs.Ytkblnahoidbfkaa
open Go Go.Sx
theorem fa62_0 : FA Try.prog 62 0 0 := FA.of Try.underlying62 rfl ti3 (by decide) rfl
theorem fa62_1 : FA Try.prog 62 1 1 := FA.of Try.underlying62 rfl ti3 (by decide) rfl
theorem go28 : GoF Try.prog 28 := GoF.of Try.func28 (by kernel_rfl) (by kernel_rfl)
theorem go30 : GoF Try.prog 30 := GoF.of Try.func30 (by kernel_rfl) (by kernel_rfl)
theorem go31 : GoF Try.prog 31 := GoF.of Try.func31 (by kernel_rfl) (by kernel_rfl)
theorem go32 : GoF Try.prog 32 := GoF.of Try.func32 (by kernel_rfl) (by kernel_rfl)
/-! ### salvor/salvorlaw5.ScanPart: function 5 -/
def ScanPart.l1 (K : Nat) (t5 : (List T62_)) (t1 : Int) (t3 : Int) (t11 : (List T62_)) : Nat → (Int × Int) → Option ((Bool) ⊕ (Int))
  | 0, _ => none
  | k + 1, i103 => if i103.2 < (t5.length : Int) then (thn (gd ((0 : Int) ≤ i103.2 ∧ i103.2 < (t5.length : Int)) (gd ((0 : Int) ≤ i103.2 ∧ i103.2 < (t5.length : Int)) ((if ((rd t5 i103.2).1) < t1 then (some true) else (some (decide ((IntKind.wrap .i64 (t1 + t3)) < (IntKind.wrap .i64 (((rd t5 i103.2).1) + ((rd t5 i103.2).2))))))).bind fun o132 => if o132 = true then (some (.inr i103.1)) else ((has.f K t11 (IntKind.wrap .i64 (((rd t5 i103.2).1) - t1)) ((rd t5 i103.2).2)).bind fun t139 => if t139 = true then (some (.inr (IntKind.wrap .i64 (i103.1 + 1)))) else (some (.inl (.inl (false)))))))) fun o123 => ScanPart.l1 K t5 t1 t3 t11 k (o123, IntKind.wrap .i64 (i103.2 + 1))) else (some (.inr i103.1))
def ScanPart.f (K : Nat) (a0 : List Int) (a1 : Int) (a2 : Int) : Option (Bool) := (lpick.f a1 (IntKind.wrap .i64 ((a0.length : Int) + 1))).bind fun t1 => (lpick.f a2 (IntKind.wrap .i64 ((IntKind.wrap .i64 ((a0.length : Int) - t1)) + 1))).bind fun t3 => (spots.f K a0).bind fun t5 => gd ((0 : Int) ≤ t1 ∧ (0 : Int) ≤ (IntKind.wrap .i64 (t1 + t3)) ∧ ((Int.toNat t1) ≤ (Int.toNat (IntKind.wrap .i64 (t1 + t3))) ∧ (Int.toNat (IntKind.wrap .i64 (t1 + t3))) ≤ a0.length)) ((spots.f K ((a0.take (Int.toNat (IntKind.wrap .i64 (t1 + t3)))).drop (Int.toNat t1))).bind fun t11 => (works.f K).bind fun t16 => thn (ScanPart.l1 K t5 t1 t3 t11 K (0, 0)) fun o60 => if o60 = (t11.length : Int) then (some t16) else (some false))
theorem ScanPart.calls {B : Nat} {w0 : World} {G : List HP} (K : Nat) (a0 : List Int) (a1 : Int) (a2 : Int) (Aa0 : Option Addr) (ca0 : Nat) (ha0 : RdG B w0 G Aa0 (a0.map (Value.int .u8))) (ka0 : a0.length ≤ ca0) (r : Bool) (H : ScanPart.f K a0 a1 a2 = some r) (w : World) (hw : St B w0 (G) w) :
    Calls Try.prog 5 [.slice Aa0 a0.length ca0, .int .i64 a1, .int .i64 a2].toArray w (fun e w' => e = .returned (.bool r) ∧ St B w0 (G) w') := by
  unfold ScanPart.f at H
  refine calls_of (n := 81) (s := [(0, .slice Aa0 a0.length ca0), (1, .int .i64 a1), (2, .int .i64 a2)]) Try.func5 rfl rfl rfl rfl ?_ hw
  refine C.rs ?_
  refine J.p rfl rfl rfl rfl (Y.asg rfl) ?_
  refine J.nx ?_
  refine C.rs ?_
  refine J.p rfl rfl rfl rfl (Y.mv rfl) ?_
  refine J.p rfl rfl rfl rfl (Y.mv rfl) ?_
  refine J.p rfl rfl rfl rfl (Y.lenS Try.underlying22 rfl) ?_
  refine J.p rfl rfl rfl rfl (Y.bin rfl rfl rfl) ?_
  obtain ⟨t1, hC2, H⟩ := bind_some H
  refine J.call (us := []) (cap := []) rfl rfl rfl go30 (fun w hw => by have hcc := lpick.calls a1 (IntKind.wrap .i64 ((a0.length : Int) + 1)) t1 hC2 w hw; exact hcc) (fun e w1 h1 => ?_)
  obtain ⟨rfl, hw149⟩ := h1
  refine ⟨_, _, rfl, hw149, ?_⟩
  refine J.p rfl rfl rfl rfl (Y.asg rfl) ?_
  refine J.nx ?_
  refine C.rs ?_
  refine J.p rfl rfl rfl rfl (Y.mv rfl) ?_
  refine J.p rfl rfl rfl rfl (Y.mv rfl) ?_
  refine J.p rfl rfl rfl rfl (Y.mv rfl) ?_
  refine J.p rfl rfl rfl rfl (Y.lenS Try.underlying22 rfl) ?_
  refine J.p rfl rfl rfl rfl (Y.mv rfl) ?_
  refine J.p rfl rfl rfl rfl (Y.bin rfl rfl rfl) ?_
  refine J.p rfl rfl rfl rfl (Y.bin rfl rfl rfl) ?_
  obtain ⟨t3, hC4, H⟩ := bind_some H
  refine J.call (us := []) (cap := []) rfl rfl rfl go30 (fun w hw => by have hcc := lpick.calls a2 (IntKind.wrap .i64 ((IntKind.wrap .i64 ((a0.length : Int) - t1)) + 1)) t3 hC4 w hw; exact hcc) (fun e w1 h1 => ?_)
  obtain ⟨rfl, hw148⟩ := h1
  refine ⟨_, _, rfl, hw148, ?_⟩
  refine J.p rfl rfl rfl rfl (Y.bin rfl rfl rfl) ?_
  refine J.p rfl rfl rfl rfl (Y.asg rfl) ?_
  refine J.nx ?_
  refine C.rs ?_
  refine J.p rfl rfl rfl rfl (Y.mv rfl) ?_
  obtain ⟨t5, hC6, H⟩ := bind_some H
  refine J.call (us := []) (cap := []) rfl rfl rfl go31 (fun w hw => by have hcc := spots.calls K a0 Aa0 ca0 ha0 ka0 t5 hC6 w hw; exact hcc) (fun e w1 h1 => ?_)
  obtain ⟨A7, c8, rfl, hw147⟩ := h1
  refine ⟨_, _, rfl, hw147, ?_⟩
  refine J.p rfl rfl rfl rfl (Y.asg rfl) ?_
  refine J.nx ?_
  refine C.rs ?_
  refine J.p rfl rfl rfl rfl (Y.mv rfl) ?_
  refine J.p rfl rfl rfl rfl (Y.mv rfl) ?_
  refine J.p rfl rfl rfl rfl (Y.mv rfl) ?_
  obtain ⟨p10, H⟩ := gd_some H
  refine J.p rfl rfl rfl rfl (Y.slcL Try.underlying22 ti5 rfl (bnd.yes rfl p10.1) (bnd.yes rfl p10.2.1) p10.2.2 ka0) ?_
  obtain ⟨t11, hC12, H⟩ := bind_some H
  refine J.call (us := []) (cap := []) rfl rfl rfl go31 (fun w hw => by have hcc := spots.calls K ((a0.take (Int.toNat (IntKind.wrap .i64 (t1 + t3)))).drop (Int.toNat t1)) (subA 1 Aa0 ca0 (Int.toNat t1)) (ca0 - (Int.toNat t1)) (RdG.subL (l := (Int.toNat t1)) (h := (Int.toNat (IntKind.wrap .i64 (t1 + t3)))) (ha0.suf [_] rfl) ka0) (hc_sub ka0) t11 hC12 w hw; exact hcc) (fun e w1 h1 => ?_)
  obtain ⟨A13, c14, rfl, hw146⟩ := h1
  refine ⟨_, _, rfl, hw146, ?_⟩
  refine J.p rfl rfl rfl rfl (Y.asg rfl) ?_
  refine J.nx ?_
  refine C.rs ?_
  obtain ⟨t16, hC17, H⟩ := bind_some H
  refine J.call (us := []) (cap := []) rfl rfl rfl go28 (fun w hw => by have hcc := works.calls K t16 hC17 w hw; exact hcc) (fun e w1 h1 => ?_)
  obtain ⟨rfl, hw145⟩ := h1
  refine ⟨_, _, rfl, hw145, ?_⟩
  refine J.p rfl rfl rfl rfl (Y.asg rfl) ?_
  refine J.nx ?_
  refine C.rs ?_
  refine J.p rfl rfl rfl rfl (Y.asg rfl) ?_
  refine J.nx ?_
  refine C.seq ?_
  refine C.rs ?_
  refine J.p rfl rfl rfl rfl (Y.asg rfl) ?_
  refine J.nx ?_
  refine C.joinNR H (fun (o60 : Int) (j61 : Unit) => [(10, .slice A13 t11.length c14), (11, .bool t16), (12, .int .i64 o60)]) (fun (o60 : Int) (j61 : Unit) => own 62 2 A13 c14 (t11.flatMap encT62_) :: G) (fun (o60 : Int) (j61 : Unit) => True) (fun o58 H HK59 => ?_) (fun o60 j61 H _ => ?_)
  · refine C.blk ?_
    refine C.loop (fun (i : Nat × (Int × Int) × (Unit)) => [(7, .int .i64 t1), (8, .int .i64 (IntKind.wrap .i64 (t1 + t3))), (9, .slice A7 t5.length c8), (10, .slice A13 t11.length c14), (11, .bool t16), (12, .int .i64 i.2.1.1), (13, .int .i64 i.2.1.2)]) (fun (i : Nat × (Int × Int) × (Unit)) => own 62 2 A7 c8 (t5.flatMap encT62_) :: own 62 2 A13 c14 (t11.flatMap encT62_) :: G) (fun (i : Nat × (Int × Int) × (Unit)) => ScanPart.l1 K t5 t1 t3 t11 i.1 i.2.1 = some o58 ∧ (True)) (fun i => i.1) (K, (0, 0), ()) ⟨H, trivial⟩ (by exact ⟨rfl, rfl, rfl, rfl, rfl, rfl, rfl, trivial⟩) (by exact fun w h => (St.pick [1, 0] [_, _] h rfl)) ?_
    rintro ⟨k143, i103, j104⟩ ⟨H, _⟩
    replace H : ScanPart.l1 K t5 t1 t3 t11 k143 i103 = some o58 := H
    obtain ⟨k102, rfl⟩ : ∃ m, k143 = m + 1 := by cases k143 with | zero => exact absurd H (by simp [ScanPart.l1]) | succ m => exact ⟨m, rfl⟩
    rw [ScanPart.l1] at H
    refine C.at (s' := [(7, .int .i64 t1), (8, .int .i64 (IntKind.wrap .i64 (t1 + t3))), (9, .slice A7 t5.length c8), (10, .slice A13 t11.length c14), (11, .bool t16), (12, .int .i64 i103.1), (13, .int .i64 i103.2)]) (G' := own 62 2 A7 c8 (t5.flatMap encT62_) :: own 62 2 A13 c14 (t11.flatMap encT62_) :: G) rfl rfl ?_
    refine C.seq ?_
    refine C.rs ?_
    refine J.p rfl rfl rfl rfl (Y.mv rfl) ?_
    refine J.p rfl rfl rfl rfl (Y.mv rfl) ?_
    refine J.p rfl rfl rfl rfl (Y.lenS Try.underlying59 rfl) ?_
    refine J.p rfl rfl rfl rfl (Y.bin rfl rfl rfl) ?_
    refine J.nx ?_
    refine split2 H (fun c105 H => ?_) (fun c105 H => ?_)
    · refine C.condT (congrArg (fun b => some (Value.bool b)) (decide_eq_true c105)) ?_
      refine C.skip ?_
      refine N.nx ?_
      refine C.joinR H (fun (o123 : Int) (j124 : Unit) => [(7, .int .i64 t1), (8, .int .i64 (IntKind.wrap .i64 (t1 + t3))), (9, .slice A7 t5.length c8), (10, .slice A13 t11.length c14), (11, .bool t16), (12, .int .i64 o123), (13, .int .i64 i103.2)]) (fun (o123 : Int) (j124 : Unit) => own 62 2 A7 c8 (t5.flatMap encT62_) :: own 62 2 A13 c14 (t11.flatMap encT62_) :: G) (fun (o123 : Int) (j124 : Unit) => True) (fun o121 H HK122 => ?_) (fun o123 j124 H _ => ?_)
      · refine C.blk ?_
        refine C.rs ?_
        refine J.p rfl rfl rfl rfl (Y.mv rfl) ?_
        refine J.p rfl rfl rfl rfl (Y.mv rfl) ?_
        obtain ⟨p127, H⟩ := gd_some H
        refine J.know (RdG.someM lenT62_ (by decide) (RdG.own 0 rfl) p127) (fun hh => ?_)
        obtain ⟨a125, ha126⟩ := hh
        refine J.p rfl rfl rfl rfl (Y.ixa Try.underlying59 ti62 rfl rfl p127 ha126) ?_
        obtain ⟨p128, H⟩ := gd_some H
        refine J.r rfl rfl rfl rfl (Y.ldM (us := [.int .i64 ((rd t5 i103.2).1), .int .i64 ((rd t5 i103.2).2)]) lenT62_ Try.underlying62 rfl ti62 rfl ha126 p128 (RdG.own 0 rfl) rfl) ?_
        refine J.alloc (L := [.int .i64 0, .int .i64 0]) rfl ti62 rfl (fun g129 => ?_)
        refine J.stA (us := [.int .i64 ((rd t5 i103.2).1), .int .i64 ((rd t5 i103.2).2)]) (L' := [.int .i64 ((rd t5 i103.2).1), .int .i64 ((rd t5 i103.2).2)]) ti62 rfl rfl rfl rfl rfl rfl ?_
        refine J.nx ?_
        refine C.seq ?_
        refine C.rs ?_
        refine J.joinB H (fun (o132 : Bool) (j133 : Unit) => [(7, .int .i64 t1), (8, .int .i64 (IntKind.wrap .i64 (t1 + t3))), (9, .slice A7 t5.length c8), (10, .slice A13 t11.length c14), (11, .bool t16), (12, .int .i64 i103.1), (13, .int .i64 i103.2), (14, .pointer (some ⟨g129, 0, none⟩)), (60, .bool o132)]) (fun (o132 : Bool) (j133 : Unit) => own 62 2 A7 c8 (t5.flatMap encT62_) :: own 62 2 A13 c14 (t11.flatMap encT62_) :: cells g129 62 [.int .i64 ((rd t5 i103.2).1), .int .i64 ((rd t5 i103.2).2)] :: G) (fun (o132 : Bool) (j133 : Unit) => True) (fun o134 H HK135 => ?_) (fun o132 j133 H _ => ?_)
        · refine J.p rfl rfl rfl rfl (Y.fa0 fa62_0 rfl rfl) ?_
          refine J.r rfl rfl rfl rfl (Y.ldC 0 Try.underlying3 rfl rfl rfl rfl) ?_
          refine J.p rfl rfl rfl rfl (Y.mv rfl) ?_
          refine J.p rfl rfl rfl rfl (Y.bin rfl rfl rfl) ?_
          refine J.p rfl rfl rfl rfl (Y.mv rfl) ?_
          refine split2 H (fun c136 H => ?_) (fun c136 H => ?_)
          · refine J.as (k := 52) rfl (congrArg Value.bool (decide_eq_true c136)) ?_
            refine J.skip rfl rfl ?_
            refine J.skip rfl rfl ?_
            refine J.skip rfl rfl ?_
            refine J.skip rfl rfl ?_
            refine J.skip rfl rfl ?_
            refine J.skip rfl rfl ?_
            refine J.skip rfl rfl ?_
            refine J.p rfl rfl rfl rfl (Y.pickT rfl rfl) ?_
            refine J.nil ?_
            obtain rfl := Option.some.inj H
            exact N.meet (true, ()) ⟨HK135, trivial⟩ (by exact ⟨rfl, rfl, rfl, rfl, rfl, rfl, rfl, rfl, rfl, trivial⟩) (by exact fun w h => (St.pick [1, 2, 0] [_, _, _] h rfl))
          · refine J.as (k := 52) rfl (congrArg Value.bool (decide_eq_false c136)) ?_
            refine J.p rfl rfl rfl rfl (Y.fa0 fa62_0 rfl rfl) ?_
            refine J.r rfl rfl rfl rfl (Y.ldC 0 Try.underlying3 rfl rfl rfl rfl) ?_
            refine J.p rfl rfl rfl rfl (Y.fa0 fa62_1 rfl rfl) ?_
            refine J.r rfl rfl rfl rfl (Y.ldC 0 Try.underlying3 rfl rfl rfl rfl) ?_
            refine J.p rfl rfl rfl rfl (Y.bin rfl rfl rfl) ?_
            refine J.p rfl rfl rfl rfl (Y.mv rfl) ?_
            refine J.p rfl rfl rfl rfl (Y.bin rfl rfl rfl) ?_
            refine J.p rfl rfl rfl rfl (Y.pickF rfl rfl) ?_
            refine J.nil ?_
            obtain rfl := Option.some.inj H
            exact N.meet (decide ((IntKind.wrap .i64 (t1 + t3)) < (IntKind.wrap .i64 (((rd t5 i103.2).1) + ((rd t5 i103.2).2)))), ()) ⟨HK135, trivial⟩ (by exact ⟨rfl, rfl, rfl, rfl, rfl, rfl, rfl, rfl, rfl, trivial⟩) (by exact fun w h => (St.pick [1, 2, 0] [_, _, _] h rfl))
        · refine C.at (s' := [(7, .int .i64 t1), (8, .int .i64 (IntKind.wrap .i64 (t1 + t3))), (9, .slice A7 t5.length c8), (10, .slice A13 t11.length c14), (11, .bool t16), (12, .int .i64 i103.1), (13, .int .i64 i103.2), (14, .pointer (some ⟨g129, 0, none⟩)), (60, .bool o132)]) (G' := own 62 2 A7 c8 (t5.flatMap encT62_) :: own 62 2 A13 c14 (t11.flatMap encT62_) :: cells g129 62 [.int .i64 ((rd t5 i103.2).1), .int .i64 ((rd t5 i103.2).2)] :: G) rfl rfl ?_
          refine split2 H (fun c137 H => ?_) (fun c137 H => ?_)
          · refine C.condT (congrArg (fun b => some (Value.bool b)) (c137)) ?_
            refine C.exit ?_
            refine X.th ?_
            refine X.hit ?_
            obtain rfl := Option.some.inj H
            exact N.meet (i103.1, ()) ⟨fin_inr HK122, trivial⟩ (by exact ⟨rfl, rfl, rfl, rfl, rfl, rfl, rfl, trivial⟩) (by exact fun w h => (St.pick [0, 1] [_, _, _] h rfl))
          · refine C.condF (congrArg (fun b => some (Value.bool b)) (nt c137)) ?_
            refine C.skip ?_
            refine N.nx ?_
            refine C.rs ?_
            refine J.p rfl rfl rfl rfl (Y.mv rfl) ?_
            refine J.p rfl rfl rfl rfl (Y.fa0 fa62_0 rfl rfl) ?_
            refine J.r rfl rfl rfl rfl (Y.ldC 2 Try.underlying3 rfl rfl rfl rfl) ?_
            refine J.p rfl rfl rfl rfl (Y.mv rfl) ?_
            refine J.p rfl rfl rfl rfl (Y.bin rfl rfl rfl) ?_
            refine J.p rfl rfl rfl rfl (Y.fa0 fa62_1 rfl rfl) ?_
            refine J.r rfl rfl rfl rfl (Y.ldC 2 Try.underlying3 rfl rfl rfl rfl) ?_
            refine J.p rfl rfl rfl rfl (Y.bld (cs := [.int .i64 (IntKind.wrap .i64 (((rd t5 i103.2).1) - t1)), .int .i64 ((rd t5 i103.2).2)]) rfl pl62 ti62 rfl (by kernel_rfl)) ?_
            refine J.know (own_leM lenT62_ (by decide) 1 rfl) (fun hc138 => ?_)
            obtain ⟨t139, hC140, H⟩ := bind_some H
            refine J.call (us := []) (cap := []) rfl rfl rfl go32 (fun w hw => by have hcc := has.calls K t11 (IntKind.wrap .i64 (((rd t5 i103.2).1) - t1)) ((rd t5 i103.2).2) A13 c14 (RdG.own 1 rfl) hc138 t139 hC140 w hw; exact hcc) (fun e w1 h1 => ?_)
            obtain ⟨rfl, hw142⟩ := h1
            refine ⟨_, _, rfl, hw142, ?_⟩
            refine J.p rfl rfl rfl rfl (Y.asg rfl) ?_
            refine J.nx ?_
            refine C.seq ?_
            refine C.rs ?_
            refine J.p rfl rfl rfl rfl (Y.mv rfl) ?_
            refine J.p rfl rfl rfl rfl (Y.notb rfl) ?_
            refine J.nx ?_
            refine split2 H (fun c141 H => ?_) (fun c141 H => ?_)
            · refine C.condF (congrArg (fun b => some (Value.bool b)) (congrArg Bool.not (c141))) ?_
              refine C.skip ?_
              refine N.nx ?_
              refine C.reg ?_
              refine J.p rfl rfl rfl rfl (Y.mv rfl) ?_
              refine J.p rfl rfl rfl rfl (Y.bin rfl rfl rfl) ?_
              refine J.p rfl rfl rfl rfl (Y.asg rfl) ?_
              refine J.nil ?_
              refine N.ib ?_
              obtain rfl := Option.some.inj H
              exact N.meet (IntKind.wrap .i64 (i103.1 + 1), ()) ⟨fin_inr HK122, trivial⟩ (by exact ⟨rfl, rfl, rfl, rfl, rfl, rfl, rfl, trivial⟩) (by exact fun w h => (St.pick [0, 1] [_, _, _] h rfl))
            · refine C.condT (congrArg (fun b => some (Value.bool b)) (congrArg Bool.not (nt c141))) ?_
              refine C.rs ?_
              refine J.p rfl rfl rfl rfl (Y.asg rfl) ?_
              refine J.nx ?_
              refine C.ret ?_
              obtain rfl := Option.some.inj H
              obtain rfl := fin_inl HK122
              obtain rfl := fin_inl HK59
              refine T.th ?_
              refine T.ib ?_
              refine T.th ?_
              refine T.th ?_
              refine T.ib ?_
              refine T.th ?_
              refine T.th ?_
              exact ret_ok (ks := [6]) rfl rfl (fun w h => ⟨rfl, (St.pick [] [_, _, _] h rfl)⟩)
      · refine C.at (s' := [(7, .int .i64 t1), (8, .int .i64 (IntKind.wrap .i64 (t1 + t3))), (9, .slice A7 t5.length c8), (10, .slice A13 t11.length c14), (11, .bool t16), (12, .int .i64 o123), (13, .int .i64 i103.2)]) (G' := own 62 2 A7 c8 (t5.flatMap encT62_) :: own 62 2 A13 c14 (t11.flatMap encT62_) :: G) rfl rfl ?_
        refine C.reg ?_
        refine J.p rfl rfl rfl rfl (Y.mv rfl) ?_
        refine J.p rfl rfl rfl rfl (Y.bin rfl rfl rfl) ?_
        refine J.p rfl rfl rfl rfl (Y.asg rfl) ?_
        refine J.nil ?_
        exact N.again (k102, (o123, IntKind.wrap .i64 (i103.2 + 1)), ()) ⟨H, trivial⟩ (Nat.lt_succ_self _) (by exact ⟨rfl, rfl, rfl, rfl, rfl, rfl, rfl, trivial⟩) (by exact fun w h => h)
    · refine C.condF (congrArg (fun b => some (Value.bool b)) (decide_eq_false c105)) ?_
      refine C.exit ?_
      refine X.th ?_
      refine X.th ?_
      refine X.hit ?_
      obtain rfl := Option.some.inj H
      exact N.meet (i103.1, ()) ⟨fin_inr HK59, trivial⟩ (by exact ⟨rfl, rfl, rfl, trivial⟩) (by exact fun w h => (St.pick [1] [_, _] h rfl))
  · refine N.at (s' := [(10, .slice A13 t11.length c14), (11, .bool t16), (12, .int .i64 o60)]) (G' := own 62 2 A13 c14 (t11.flatMap encT62_) :: G) rfl rfl ?_
    refine N.nx ?_
    refine C.rs ?_
    refine J.p rfl rfl rfl rfl (Y.mv rfl) ?_
    refine J.p rfl rfl rfl rfl (Y.mv rfl) ?_
    refine J.p rfl rfl rfl rfl (Y.lenS Try.underlying59 rfl) ?_
    refine J.p rfl rfl rfl rfl (Y.bin rfl rfl rfl) ?_
    refine J.p rfl rfl rfl rfl (Y.mv rfl) ?_
    refine split2 H (fun c144 H => ?_) (fun c144 H => ?_)
    · refine J.as (k := 78) rfl (congrArg Value.bool (decide_eq_true c144)) ?_
      refine J.p rfl rfl rfl rfl (Y.mv rfl) ?_
      refine J.p rfl rfl rfl rfl (Y.pickT rfl rfl) ?_
      refine J.p rfl rfl rfl rfl (Y.asg rfl) ?_
      refine J.nx ?_
      refine C.ret ?_
      obtain rfl := Option.some.inj H
      exact ret_ok (ks := [6]) rfl rfl (fun w h => ⟨rfl, (St.pick [] [_] h rfl)⟩)
    · refine J.as (k := 78) rfl (congrArg Value.bool (decide_eq_false c144)) ?_
      refine J.skip rfl rfl ?_
      refine J.p rfl rfl rfl rfl (Y.pickF rfl rfl) ?_
      refine J.p rfl rfl rfl rfl (Y.asg rfl) ?_
      refine J.nx ?_
      refine C.ret ?_
      obtain rfl := Option.some.inj H
      exact ret_ok (ks := [6]) rfl rfl (fun w h => ⟨rfl, (St.pick [] [_] h rfl)⟩)
end Go.Proofs.Ytkblnahoidbfkaa
