/- Own text, printed by the lifting program: each Go function beside a plain function, and the proof that a call of the one comes to the other. Conditions: what came in can be read. -/
import Derived.Test.YtmbhpcdamfdphaaLiftC
set_option linter.unusedVariables false
set_option linter.unusedSimpArgs false
set_option maxRecDepth 10000
set_option maxHeartbeats 4000000
namespace Go.Proofs.Ytmbhpcdamfdphaa
open Go Go.Sx
theorem go11 : GoF Try.prog 11 := GoF.of Try.func11 (by kernel_rfl) (by kernel_rfl)
theorem go19 : GoF Try.prog 19 := GoF.of Try.func19 (by kernel_rfl) (by kernel_rfl)
theorem go23 : GoF Try.prog 23 := GoF.of Try.func23 (by kernel_rfl) (by kernel_rfl)
theorem go25 : GoF Try.prog 25 := GoF.of Try.func25 (by kernel_rfl) (by kernel_rfl)
theorem go26 : GoF Try.prog 26 := GoF.of Try.func26 (by kernel_rfl) (by kernel_rfl)
/-! ### salvor/salvorlaw10.HintBack: function 8 -/
def HintBack.l1 (K : Nat) (a0 : List T50_) (t23 : (List T44_) × Int) (t5 : (List Int)) : Nat → (Int × Int × Int) → Option ((Bool) ⊕ (Int))
  | 0, _ => none
  | k + 1, i196 => if i196.2.2 < (a0.length : Int) then (thn (gd ((0 : Int) ≤ i196.2.2 ∧ i196.2.2 < (a0.length : Int)) (gd ((0 : Int) ≤ i196.2.2 ∧ i196.2.2 < (a0.length : Int)) ((fOf.f ((rd a0 i196.2.2).1) ((rd a0 i196.2.2).2.1) ((rd a0 i196.2.2).2.2.1) ((rd a0 i196.2.2).2.2.2)).bind fun t242 => (fEncode.f K t242.1 t242.2.1 t242.2.2.1 t242.2.2.2.1 t242.2.2.2.2.1 t242.2.2.2.2.2.1 t242.2.2.2.2.2.2.1 t242.2.2.2.2.2.2.2.1 t242.2.2.2.2.2.2.2.2.1 t242.2.2.2.2.2.2.2.2.2.1 t242.2.2.2.2.2.2.2.2.2.2.1 t242.2.2.2.2.2.2.2.2.2.2.2.1 t242.2.2.2.2.2.2.2.2.2.2.2.2.1 t242.2.2.2.2.2.2.2.2.2.2.2.2.2).bind fun t244 => if t244.2 ≠ 0 then (some (.inr (i196.1, i196.2.1))) else ((if (t23.1.length : Int) ≤ i196.2.1 then (some true) else (gd ((0 : Int) ≤ i196.2.1 ∧ i196.2.1 < (t23.1.length : Int)) (gd ((0 : Int) ≤ i196.2.1 ∧ i196.2.1 < (t23.1.length : Int)) (some (!(decide (((rd t23.1 i196.2.1).1) = ((rd a0 i196.2.2).1) ∧ ((rd t23.1 i196.2.1).2.1) = ((rd a0 i196.2.2).2.1) ∧ ((rd t23.1 i196.2.1).2.2.1) = i196.1 ∧ ((rd t23.1 i196.2.1).2.2.2.1) = (t244.1.length : Int) ∧ ((rd t23.1 i196.2.1).2.2.2.2) = ((rd a0 i196.2.2).2.2.1) ∧ True))))))).bind fun o257 => if o257 = true then (some (.inl (.inl (false)))) else (gd ((0 : Int) ≤ i196.2.1 ∧ i196.2.1 < (t23.1.length : Int)) (gd ((0 : Int) ≤ i196.2.1 ∧ i196.2.1 < (t23.1.length : Int)) ((hCheck.f K t5 ((rd t23.1 i196.2.1).1) ((rd t23.1 i196.2.1).2.1) ((rd t23.1 i196.2.1).2.2.1) ((rd t23.1 i196.2.1).2.2.2.1) ((rd t23.1 i196.2.1).2.2.2.2)).bind fun t270 => if t270 = true then (some (.inr (IntKind.wrap .i64 (i196.1 + (t244.1.length : Int)), IntKind.wrap .i64 (i196.2.1 + 1)))) else (some (.inl (.inl (false))))))))))) fun o234 => HintBack.l1 K a0 t23 t5 k (o234.1, o234.2, IntKind.wrap .i64 (i196.2.2 + 1))) else (some (.inr i196.2.1))
def HintBack.f (K : Nat) (a0 : List T50_) (a1_0 : Int) (a1_1 : Int) (a1_2 : Int) : Option (Bool) := (known.f K).bind fun t3 => (clean.f K a0).bind fun t5 => if 4194304 < (t5.length : Int) then (some t3) else ((hOf.f K t5).bind fun t12 => (sPrint.f K t5).bind fun t18 => (hLoad.f K t12.1 t18.1 t18.2.1 t18.2.2).bind fun t23 => (if t3 = true then (if t12.2 ≠ 0 then (some true) else (if t23.2 ≠ 1 then (some true) else (some (decide (t18.1 ≠ (t5.length : Int)))))) else (some true)).bind fun o31 => if o31 = true then (some false) else (thn (HintBack.l1 K a0 t23 t5 K (0, 0, 0)) fun o117 => (hLoad.f K t12.1 a1_0 a1_1 a1_2).bind fun t278 => (if t278.2 = 3 then (some (decide ((t278.1.length : Int) = 0))) else (some false)).bind fun o284 => if o117 = (t23.1.length : Int) then (if a1_0 = t18.1 ∧ a1_1 = t18.2.1 ∧ a1_2 = t18.2.2 ∧ True then (some true) else (some o284)) else (some false)))
theorem HintBack.calls {B : Nat} {w0 : World} {G : List HP} (K : Nat) (a0 : List T50_) (a1_0 : Int) (a1_1 : Int) (a1_2 : Int) (Aa0 : Option Addr) (ca0 : Nat) (ha0 : RdG B w0 G Aa0 (a0.flatMap encT50_)) (ka0 : a0.length ≤ ca0) (r : Bool) (H : HintBack.f K a0 a1_0 a1_1 a1_2 = some r) (w : World) (hw : St B w0 (G) w) :
    Calls Try.prog 8 [.slice Aa0 a0.length ca0, .agg #[.int .i64 a1_0, .int .i64 a1_1, .int .u32 a1_2]].toArray w (fun e w' => e = .returned (.bool r) ∧ St B w0 (G) w') := by
  unfold HintBack.f at H
  refine calls_of (n := 137) (s := [(0, .slice Aa0 a0.length ca0), (1, .agg #[.int .i64 a1_0, .int .i64 a1_1, .int .u32 a1_2])]) Try.func8 rfl rfl rfl rfl ?_ hw
  refine C.rs ?_
  refine J.box (L := [.int .i64 a1_0, .int .i64 a1_1, .int .u32 a1_2]) rfl rfl rfl (fun g1 => ?_)
  refine J.p rfl rfl rfl rfl (Y.asg rfl) ?_
  refine J.nx ?_
  refine C.rs ?_
  obtain ⟨t3, hC4, H⟩ := bind_some H
  refine J.call (us := []) (cap := []) rfl rfl rfl go11 (fun w hw => by have hcc := known.calls K t3 hC4 w hw; exact hcc) (fun e w1 h1 => ?_)
  obtain ⟨rfl, hw296⟩ := h1
  refine ⟨_, _, rfl, hw296, ?_⟩
  refine J.p rfl rfl rfl rfl (Y.asg rfl) ?_
  refine J.nx ?_
  refine C.rs ?_
  refine J.p rfl rfl rfl rfl (Y.mv rfl) ?_
  obtain ⟨t5, hC6, H⟩ := bind_some H
  refine J.call (us := []) (cap := []) rfl rfl rfl go25 (fun w hw => by have hcc := clean.calls K a0 Aa0 ca0 (ha0.suf [_] rfl) ka0 t5 hC6 w hw; exact hcc) (fun e w1 h1 => ?_)
  obtain ⟨A7, c8, rfl, hw295⟩ := h1
  refine ⟨_, _, rfl, hw295, ?_⟩
  refine J.p rfl rfl rfl rfl (Y.asg rfl) ?_
  refine J.nx ?_
  refine C.seq ?_
  refine C.rs ?_
  refine J.p rfl rfl rfl rfl (Y.mv rfl) ?_
  refine J.p rfl rfl rfl rfl (Y.lenS Try.underlying22 rfl) ?_
  refine J.p rfl rfl rfl rfl (Y.bin rfl rfl rfl) ?_
  refine J.nx ?_
  refine split2 H (fun c10 H => ?_) (fun c10 H => ?_)
  · refine C.condT (congrArg (fun b => some (Value.bool b)) (decide_eq_true c10)) ?_
    refine C.rs ?_
    refine J.p rfl rfl rfl rfl (Y.mv rfl) ?_
    refine J.p rfl rfl rfl rfl (Y.asg rfl) ?_
    refine J.nx ?_
    refine C.ret ?_
    obtain rfl := Option.some.inj H
    refine T.th ?_
    exact ret_ok (ks := [4]) rfl rfl (fun w h => ⟨rfl, (St.pick [] [_, _] h rfl)⟩)
  · refine C.condF (congrArg (fun b => some (Value.bool b)) (decide_eq_false c10)) ?_
    refine C.skip ?_
    refine N.nx ?_
    refine C.rs ?_
    refine J.p rfl rfl rfl rfl (Y.mv rfl) ?_
    refine J.know (own_leL 0 rfl) (fun hc11 => ?_)
    obtain ⟨t12, hC13, H⟩ := bind_some H
    refine J.call (us := []) (cap := []) rfl rfl rfl go13 (fun w hw => by have hcc := hOf.calls K t5 A7 c8 (RdG.own 0 rfl) hc11 t12 hC13 w hw; exact hcc) (fun e w1 h1 => ?_)
    obtain ⟨A14, c15, rfl, hw294⟩ := h1
    refine ⟨_, _, rfl, hw294, ?_⟩
    refine J.p rfl rfl rfl rfl (Y.mv rfl) ?_
    refine J.p rfl rfl rfl rfl (Y.ext rfl rfl) ?_
    refine J.p rfl rfl rfl rfl (Y.ext rfl rfl) ?_
    refine J.p rfl rfl rfl rfl (Y.asg rfl) ?_
    refine J.p rfl rfl rfl rfl (Y.asg rfl) ?_
    refine J.nx ?_
    refine C.rs ?_
    refine J.p rfl rfl rfl rfl (Y.mv rfl) ?_
    refine J.know (own_leL 1 rfl) (fun hc17 => ?_)
    obtain ⟨t18, hC19, H⟩ := bind_some H
    refine J.call (us := []) (cap := []) rfl rfl rfl go26 (fun w hw => by have hcc := sPrint.calls K t5 A7 c8 (RdG.own 1 rfl) hc17 t18 hC19 w hw; exact hcc) (fun e w1 h1 => ?_)
    obtain ⟨rfl, hw293⟩ := h1
    refine ⟨_, _, rfl, hw293, ?_⟩
    refine J.alloc (L := [.int .i64 0, .int .i64 0, .int .u32 0]) rfl ti35 rfl (fun g20 => ?_)
    refine J.stA (us := [.int .i64 t18.1, .int .i64 t18.2.1, .int .u32 t18.2.2]) (L' := [.int .i64 t18.1, .int .i64 t18.2.1, .int .u32 t18.2.2]) ti35 rfl rfl rfl rfl rfl rfl ?_
    refine J.nx ?_
    refine C.rs ?_
    refine J.p rfl rfl rfl rfl (Y.mv rfl) ?_
    refine J.r rfl rfl rfl rfl (Y.ldCA (us := [.int .i64 t18.1, .int .i64 t18.2.1, .int .u32 t18.2.2]) 0 Try.underlying35 rfl ti35 rfl rfl rfl rfl) ?_
    refine J.know (own_leL 1 rfl) (fun hc22 => ?_)
    obtain ⟨t23, hC24, H⟩ := bind_some H
    refine J.call (us := []) (cap := []) rfl rfl rfl go17 (fun w hw => by have hcc := hLoad.calls K t12.1 t18.1 t18.2.1 t18.2.2 A14 c15 (RdG.own 1 rfl) hc22 t23 hC24 w hw; exact hcc) (fun e w1 h1 => ?_)
    obtain ⟨A25, c26, rfl, hw292⟩ := h1
    refine ⟨_, _, rfl, hw292, ?_⟩
    refine J.p rfl rfl rfl rfl (Y.mv rfl) ?_
    refine J.p rfl rfl rfl rfl (Y.ext rfl rfl) ?_
    refine J.p rfl rfl rfl rfl (Y.ext rfl rfl) ?_
    refine J.p rfl rfl rfl rfl (Y.asg rfl) ?_
    refine J.p rfl rfl rfl rfl (Y.asg rfl) ?_
    refine J.nx ?_
    refine C.seq ?_
    refine C.rs ?_
    refine J.joinB H (fun (o31 : Bool) (j32 : Unit) => [(0, .slice Aa0 a0.length ca0), (3, .pointer (some ⟨g1, 0, none⟩)), (6, .slice A7 t5.length c8), (7, .slice A14 t12.1.length c15), (9, .pointer (some ⟨g20, 0, none⟩)), (10, .slice A25 t23.1.length c26), (58, .bool o31)]) (fun (o31 : Bool) (j32 : Unit) => cells g1 35 [.int .i64 a1_0, .int .i64 a1_1, .int .u32 a1_2] :: own 5 1 A7 c8 (t5.map (Value.int .u8)) :: own 5 1 A14 c15 (t12.1.map (Value.int .u8)) :: cells g20 35 [.int .i64 t18.1, .int .i64 t18.2.1, .int .u32 t18.2.2] :: own 44 5 A25 c26 (t23.1.flatMap encT44_) :: G) (fun (o31 : Bool) (j32 : Unit) => True) (fun o33 H HK34 => ?_) (fun o31 j32 H _ => ?_)
    · refine J.p rfl rfl rfl rfl (Y.mv rfl) ?_
      refine J.p rfl rfl rfl rfl (Y.notb rfl) ?_
      refine J.p rfl rfl rfl rfl (Y.mv rfl) ?_
      refine split2 H (fun c35 H => ?_) (fun c35 H => ?_)
      · refine J.as (k := 44) rfl (congrArg Value.bool (congrArg Bool.not (c35))) ?_
        refine J.p rfl rfl rfl rfl (Y.mv rfl) ?_
        refine J.p rfl rfl rfl rfl (Y.bin rfl rfl rfl) ?_
        refine J.p rfl rfl rfl rfl (Y.pickF rfl rfl) ?_
        refine J.p rfl rfl rfl rfl (Y.mv rfl) ?_
        refine split2 H (fun c36 H => ?_) (fun c36 H => ?_)
        · refine J.as (k := 48) rfl (congrArg Value.bool (decide_eq_true c36)) ?_
          refine J.skip rfl rfl ?_
          refine J.skip rfl rfl ?_
          refine J.p rfl rfl rfl rfl (Y.pickT rfl rfl) ?_
          refine J.p rfl rfl rfl rfl (Y.mv rfl) ?_
          refine J.skip rfl rfl ?_
          refine J.skip rfl rfl ?_
          refine J.skip rfl rfl ?_
          refine J.skip rfl rfl ?_
          refine J.skip rfl rfl ?_
          refine J.p rfl rfl rfl rfl (Y.pickT rfl rfl) ?_
          refine J.nil ?_
          obtain rfl := Option.some.inj H
          exact N.meet (true, ()) ⟨HK34, trivial⟩ (by exact ⟨rfl, rfl, rfl, rfl, rfl, rfl, rfl, trivial⟩) (by exact fun w h => (St.pick [4, 3, 2, 1, 0] [_, _, _, _, _] h rfl))
        · refine J.as (k := 48) rfl (congrArg Value.bool (decide_eq_false c36)) ?_
          refine J.p rfl rfl rfl rfl (Y.mv rfl) ?_
          refine J.p rfl rfl rfl rfl (Y.bin rfl rfl rfl) ?_
          refine J.p rfl rfl rfl rfl (Y.pickF rfl rfl) ?_
          refine J.p rfl rfl rfl rfl (Y.mv rfl) ?_
          refine split2 H (fun c37 H => ?_) (fun c37 H => ?_)
          · refine J.as (k := 52) rfl (congrArg Value.bool (decide_eq_true c37)) ?_
            refine J.skip rfl rfl ?_
            refine J.skip rfl rfl ?_
            refine J.skip rfl rfl ?_
            refine J.skip rfl rfl ?_
            refine J.skip rfl rfl ?_
            refine J.p rfl rfl rfl rfl (Y.pickT rfl rfl) ?_
            refine J.nil ?_
            obtain rfl := Option.some.inj H
            exact N.meet (true, ()) ⟨HK34, trivial⟩ (by exact ⟨rfl, rfl, rfl, rfl, rfl, rfl, rfl, trivial⟩) (by exact fun w h => (St.pick [4, 3, 2, 1, 0] [_, _, _, _, _] h rfl))
          · refine J.as (k := 52) rfl (congrArg Value.bool (decide_eq_false c37)) ?_
            refine J.p rfl rfl rfl rfl (Y.fa0 fa35_0 rfl rfl) ?_
            refine J.r rfl rfl rfl rfl (Y.ldC 1 Try.underlying3 rfl rfl rfl rfl) ?_
            refine J.p rfl rfl rfl rfl (Y.mv rfl) ?_
            refine J.p rfl rfl rfl rfl (Y.lenS Try.underlying22 rfl) ?_
            refine J.p rfl rfl rfl rfl (Y.bin rfl rfl rfl) ?_
            refine J.p rfl rfl rfl rfl (Y.pickF rfl rfl) ?_
            refine J.nil ?_
            obtain rfl := Option.some.inj H
            exact N.meet (decide (t18.1 ≠ (t5.length : Int)), ()) ⟨HK34, trivial⟩ (by exact ⟨rfl, rfl, rfl, rfl, rfl, rfl, rfl, trivial⟩) (by exact fun w h => (St.pick [4, 3, 2, 1, 0] [_, _, _, _, _] h rfl))
      · refine J.as (k := 44) rfl (congrArg Value.bool (congrArg Bool.not (nt c35))) ?_
        refine J.skip rfl rfl ?_
        refine J.skip rfl rfl ?_
        refine J.p rfl rfl rfl rfl (Y.pickT rfl rfl) ?_
        refine J.p rfl rfl rfl rfl (Y.mv rfl) ?_
        refine J.skip rfl rfl ?_
        refine J.skip rfl rfl ?_
        refine J.p rfl rfl rfl rfl (Y.pickT rfl rfl) ?_
        refine J.p rfl rfl rfl rfl (Y.mv rfl) ?_
        refine J.skip rfl rfl ?_
        refine J.skip rfl rfl ?_
        refine J.skip rfl rfl ?_
        refine J.skip rfl rfl ?_
        refine J.skip rfl rfl ?_
        refine J.p rfl rfl rfl rfl (Y.pickT rfl rfl) ?_
        refine J.nil ?_
        obtain rfl := Option.some.inj H
        exact N.meet (true, ()) ⟨HK34, trivial⟩ (by exact ⟨rfl, rfl, rfl, rfl, rfl, rfl, rfl, trivial⟩) (by exact fun w h => (St.pick [4, 3, 2, 1, 0] [_, _, _, _, _] h rfl))
    · refine C.at (s' := [(0, .slice Aa0 a0.length ca0), (3, .pointer (some ⟨g1, 0, none⟩)), (6, .slice A7 t5.length c8), (7, .slice A14 t12.1.length c15), (9, .pointer (some ⟨g20, 0, none⟩)), (10, .slice A25 t23.1.length c26), (58, .bool o31)]) (G' := cells g1 35 [.int .i64 a1_0, .int .i64 a1_1, .int .u32 a1_2] :: own 5 1 A7 c8 (t5.map (Value.int .u8)) :: own 5 1 A14 c15 (t12.1.map (Value.int .u8)) :: cells g20 35 [.int .i64 t18.1, .int .i64 t18.2.1, .int .u32 t18.2.2] :: own 44 5 A25 c26 (t23.1.flatMap encT44_) :: G) rfl rfl ?_
      refine split2 H (fun c38 H => ?_) (fun c38 H => ?_)
      · refine C.condT (congrArg (fun b => some (Value.bool b)) (c38)) ?_
        refine C.rs ?_
        refine J.p rfl rfl rfl rfl (Y.asg rfl) ?_
        refine J.nx ?_
        refine C.ret ?_
        obtain rfl := Option.some.inj H
        refine T.th ?_
        exact ret_ok (ks := [4]) rfl rfl (fun w h => ⟨rfl, (St.pick [] [_, _, _, _, _] h rfl)⟩)
      · refine C.condF (congrArg (fun b => some (Value.bool b)) (nt c38)) ?_
        refine C.skip ?_
        refine N.nx ?_
        refine C.rs ?_
        refine J.p rfl rfl rfl rfl (Y.asg rfl) ?_
        refine J.nx ?_
        refine C.rs ?_
        refine J.p rfl rfl rfl rfl (Y.asg rfl) ?_
        refine J.nx ?_
        refine C.seq ?_
        refine C.rs ?_
        refine J.p rfl rfl rfl rfl (Y.asg rfl) ?_
        refine J.nx ?_
        refine C.joinNR H (fun (o117 : Int) (j118 : Unit) => [(3, .pointer (some ⟨g1, 0, none⟩)), (7, .slice A14 t12.1.length c15), (9, .pointer (some ⟨g20, 0, none⟩)), (10, .slice A25 t23.1.length c26), (13, .int .i64 o117)]) (fun (o117 : Int) (j118 : Unit) => cells g1 35 [.int .i64 a1_0, .int .i64 a1_1, .int .u32 a1_2] :: own 5 1 A14 c15 (t12.1.map (Value.int .u8)) :: cells g20 35 [.int .i64 t18.1, .int .i64 t18.2.1, .int .u32 t18.2.2] :: own 44 5 A25 c26 (t23.1.flatMap encT44_) :: G) (fun (o117 : Int) (j118 : Unit) => True) (fun o115 H HK116 => ?_) (fun o117 j118 H _ => ?_)
        · refine C.blk ?_
          refine C.loop (fun (i : Nat × (Int × Int × Int) × (Unit)) => [(0, .slice Aa0 a0.length ca0), (3, .pointer (some ⟨g1, 0, none⟩)), (6, .slice A7 t5.length c8), (7, .slice A14 t12.1.length c15), (9, .pointer (some ⟨g20, 0, none⟩)), (10, .slice A25 t23.1.length c26), (12, .int .i64 i.2.1.1), (13, .int .i64 i.2.1.2.1), (14, .int .i64 i.2.1.2.2)]) (fun (i : Nat × (Int × Int × Int) × (Unit)) => cells g1 35 [.int .i64 a1_0, .int .i64 a1_1, .int .u32 a1_2] :: own 5 1 A7 c8 (t5.map (Value.int .u8)) :: own 5 1 A14 c15 (t12.1.map (Value.int .u8)) :: cells g20 35 [.int .i64 t18.1, .int .i64 t18.2.1, .int .u32 t18.2.2] :: own 44 5 A25 c26 (t23.1.flatMap encT44_) :: G) (fun (i : Nat × (Int × Int × Int) × (Unit)) => HintBack.l1 K a0 t23 t5 i.1 i.2.1 = some o115 ∧ (True)) (fun i => i.1) (K, (0, 0, 0), ()) ⟨H, trivial⟩ (by exact ⟨rfl, rfl, rfl, rfl, rfl, rfl, rfl, rfl, rfl, trivial⟩) (by exact fun w h => h) ?_
          rintro ⟨k276, i196, j197⟩ ⟨H, _⟩
          replace H : HintBack.l1 K a0 t23 t5 k276 i196 = some o115 := H
          obtain ⟨k195, rfl⟩ : ∃ m, k276 = m + 1 := by cases k276 with | zero => exact absurd H (by simp [HintBack.l1]) | succ m => exact ⟨m, rfl⟩
          rw [HintBack.l1] at H
          refine C.at (s' := [(0, .slice Aa0 a0.length ca0), (3, .pointer (some ⟨g1, 0, none⟩)), (6, .slice A7 t5.length c8), (7, .slice A14 t12.1.length c15), (9, .pointer (some ⟨g20, 0, none⟩)), (10, .slice A25 t23.1.length c26), (12, .int .i64 i196.1), (13, .int .i64 i196.2.1), (14, .int .i64 i196.2.2)]) (G' := cells g1 35 [.int .i64 a1_0, .int .i64 a1_1, .int .u32 a1_2] :: own 5 1 A7 c8 (t5.map (Value.int .u8)) :: own 5 1 A14 c15 (t12.1.map (Value.int .u8)) :: cells g20 35 [.int .i64 t18.1, .int .i64 t18.2.1, .int .u32 t18.2.2] :: own 44 5 A25 c26 (t23.1.flatMap encT44_) :: G) rfl rfl ?_
          refine C.seq ?_
          refine C.rs ?_
          refine J.p rfl rfl rfl rfl (Y.mv rfl) ?_
          refine J.p rfl rfl rfl rfl (Y.mv rfl) ?_
          refine J.p rfl rfl rfl rfl (Y.lenS Try.underlying58 rfl) ?_
          refine J.p rfl rfl rfl rfl (Y.bin rfl rfl rfl) ?_
          refine J.nx ?_
          refine split2 H (fun c198 H => ?_) (fun c198 H => ?_)
          · refine C.condT (congrArg (fun b => some (Value.bool b)) (decide_eq_true c198)) ?_
            refine C.skip ?_
            refine N.nx ?_
            refine C.joinR H (fun (o234 : Int × Int) (j235 : Unit) => [(0, .slice Aa0 a0.length ca0), (3, .pointer (some ⟨g1, 0, none⟩)), (6, .slice A7 t5.length c8), (7, .slice A14 t12.1.length c15), (9, .pointer (some ⟨g20, 0, none⟩)), (10, .slice A25 t23.1.length c26), (12, .int .i64 o234.1), (13, .int .i64 o234.2), (14, .int .i64 i196.2.2)]) (fun (o234 : Int × Int) (j235 : Unit) => cells g1 35 [.int .i64 a1_0, .int .i64 a1_1, .int .u32 a1_2] :: own 5 1 A7 c8 (t5.map (Value.int .u8)) :: own 5 1 A14 c15 (t12.1.map (Value.int .u8)) :: cells g20 35 [.int .i64 t18.1, .int .i64 t18.2.1, .int .u32 t18.2.2] :: own 44 5 A25 c26 (t23.1.flatMap encT44_) :: G) (fun (o234 : Int × Int) (j235 : Unit) => True) (fun o232 H HK233 => ?_) (fun o234 j235 H _ => ?_)
            · refine C.blk ?_
              refine C.rs ?_
              refine J.p rfl rfl rfl rfl (Y.mv rfl) ?_
              refine J.p rfl rfl rfl rfl (Y.mv rfl) ?_
              obtain ⟨p238, H⟩ := gd_some H
              refine J.know (RdG.someM lenT50_ (by decide) (ha0.suf [_, _, _, _, _] rfl) p238) (fun hh => ?_)
              obtain ⟨a236, ha237⟩ := hh
              refine J.p rfl rfl rfl rfl (Y.ixa Try.underlying58 ti50 rfl rfl p238 ha237) ?_
              obtain ⟨p239, H⟩ := gd_some H
              refine J.r rfl rfl rfl rfl (Y.ldM (us := [.int .u64 ((rd a0 i196.2.2).1), .int .i64 ((rd a0 i196.2.2).2.1), .string ((rd a0 i196.2.2).2.2.1), .string ((rd a0 i196.2.2).2.2.2)]) lenT50_ Try.underlying50 rfl ti50 rfl ha237 p239 (ha0.suf [_, _, _, _, _] rfl) rfl) ?_
              refine J.alloc (L := [.int .u64 0, .int .i64 0, .string ByteArray.empty, .string ByteArray.empty]) rfl ti50 rfl (fun g240 => ?_)
              refine J.stA (us := [.int .u64 ((rd a0 i196.2.2).1), .int .i64 ((rd a0 i196.2.2).2.1), .string ((rd a0 i196.2.2).2.2.1), .string ((rd a0 i196.2.2).2.2.2)]) (L' := [.int .u64 ((rd a0 i196.2.2).1), .int .i64 ((rd a0 i196.2.2).2.1), .string ((rd a0 i196.2.2).2.2.1), .string ((rd a0 i196.2.2).2.2.2)]) ti50 rfl rfl rfl rfl rfl rfl ?_
              refine J.nx ?_
              refine C.rs ?_
              refine J.r rfl rfl rfl rfl (Y.ldCA (us := [.int .u64 ((rd a0 i196.2.2).1), .int .i64 ((rd a0 i196.2.2).2.1), .string ((rd a0 i196.2.2).2.2.1), .string ((rd a0 i196.2.2).2.2.2)]) 0 Try.underlying50 rfl ti50 rfl rfl rfl rfl) ?_
              obtain ⟨t242, hC243, H⟩ := bind_some H
              refine J.call (us := []) (cap := []) rfl rfl rfl go27 (fun w hw => by have hcc := fOf.calls ((rd a0 i196.2.2).1) ((rd a0 i196.2.2).2.1) ((rd a0 i196.2.2).2.2.1) ((rd a0 i196.2.2).2.2.2) t242 hC243 w hw; exact hcc) (fun e w1 h1 => ?_)
              obtain ⟨rfl, hw275⟩ := h1
              refine ⟨_, _, rfl, hw275, ?_⟩
              obtain ⟨t244, hC245, H⟩ := bind_some H
              refine J.call (us := []) (cap := []) rfl rfl rfl go22 (fun w hw => by have hcc := fEncode.calls K t242.1 t242.2.1 t242.2.2.1 t242.2.2.2.1 t242.2.2.2.2.1 t242.2.2.2.2.2.1 t242.2.2.2.2.2.2.1 t242.2.2.2.2.2.2.2.1 t242.2.2.2.2.2.2.2.2.1 t242.2.2.2.2.2.2.2.2.2.1 t242.2.2.2.2.2.2.2.2.2.2.1 t242.2.2.2.2.2.2.2.2.2.2.2.1 t242.2.2.2.2.2.2.2.2.2.2.2.2.1 t242.2.2.2.2.2.2.2.2.2.2.2.2.2 t244 hC245 w hw; exact hcc) (fun e w1 h1 => ?_)
              obtain ⟨A246, c247, rfl, hw274⟩ := h1
              refine ⟨_, _, rfl, hw274, ?_⟩
              refine J.p rfl rfl rfl rfl (Y.mv rfl) ?_
              refine J.p rfl rfl rfl rfl (Y.ext rfl rfl) ?_
              refine J.p rfl rfl rfl rfl (Y.ext rfl rfl) ?_
              refine J.p rfl rfl rfl rfl (Y.asg rfl) ?_
              refine J.p rfl rfl rfl rfl (Y.asg rfl) ?_
              refine J.nx ?_
              refine C.seq ?_
              refine C.rs ?_
              refine J.p rfl rfl rfl rfl (Y.mv rfl) ?_
              refine J.p rfl rfl rfl rfl (Y.bin rfl rfl rfl) ?_
              refine J.nx ?_
              refine split2 H (fun c249 H => ?_) (fun c249 H => ?_)
              · refine C.condT (congrArg (fun b => some (Value.bool b)) (decide_eq_true c249)) ?_
                refine C.exit ?_
                refine X.th ?_
                refine X.hit ?_
                obtain rfl := Option.some.inj H
                exact N.meet ((i196.1, i196.2.1), ()) ⟨fin_inr HK233, trivial⟩ (by exact ⟨rfl, rfl, rfl, rfl, rfl, rfl, rfl, rfl, rfl, trivial⟩) (by exact fun w h => (St.pick [2, 3, 4, 5, 6] [_, _, _, _, _, _, _] h rfl))
              · refine C.condF (congrArg (fun b => some (Value.bool b)) (decide_eq_false c249)) ?_
                refine C.skip ?_
                refine N.nx ?_
                refine C.seq ?_
                refine C.joinB H (fun (o257 : Bool) (j258 : Unit) => [(0, .slice Aa0 a0.length ca0), (3, .pointer (some ⟨g1, 0, none⟩)), (6, .slice A7 t5.length c8), (7, .slice A14 t12.1.length c15), (9, .pointer (some ⟨g20, 0, none⟩)), (10, .slice A25 t23.1.length c26), (12, .int .i64 i196.1), (13, .int .i64 i196.2.1), (14, .int .i64 i196.2.2), (16, .slice A246 t244.1.length c247), (97, .bool o257)]) (fun (o257 : Bool) (j258 : Unit) => cells g1 35 [.int .i64 a1_0, .int .i64 a1_1, .int .u32 a1_2] :: own 5 1 A7 c8 (t5.map (Value.int .u8)) :: own 5 1 A14 c15 (t12.1.map (Value.int .u8)) :: cells g20 35 [.int .i64 t18.1, .int .i64 t18.2.1, .int .u32 t18.2.2] :: own 44 5 A25 c26 (t23.1.flatMap encT44_) :: own 5 1 A246 c247 (t244.1.map (Value.int .u8)) :: G) (fun (o257 : Bool) (j258 : Unit) => True) (fun o255 H HK256 => ?_) (fun o257 j258 H _ => ?_)
                · refine C.drawn (fuel := 21) (ls := [false, false, false, false, false, false, false, false, false, false, false, false, false, false, false, false, false, false, false, false, false]) [] (own 5 1 A246 c247 (t244.1.map (Value.int .u8)) :: cells g240 50 [.int .u64 ((rd a0 i196.2.2).1), .int .i64 ((rd a0 i196.2.2).2.1), .string ((rd a0 i196.2.2).2.2.1), .string ((rd a0 i196.2.2).2.2.2)] :: cells g1 35 [.int .i64 a1_0, .int .i64 a1_1, .int .u32 a1_2] :: own 5 1 A7 c8 (t5.map (Value.int .u8)) :: own 5 1 A14 c15 (t12.1.map (Value.int .u8)) :: cells g20 35 [.int .i64 t18.1, .int .i64 t18.2.1, .int .u32 t18.2.2] :: own 44 5 A25 c26 (t23.1.flatMap encT44_) :: G) mx rfl rfl ?_
                  refine D.p (ls' := [true, false, false, false, false, false, false, false, false, false, false, false, false, false, false, false, false, false, false, false, false]) 0 rfl rfl rfl rfl (by kernel_rfl) rfl (Y.mv rfl) ?_
                  refine D.p (ls' := [true, true, false, false, false, false, false, false, false, false, false, false, false, false, false, false, false, false, false, false, false]) 1 rfl rfl rfl rfl (by kernel_rfl) rfl (Y.mv rfl) ?_
                  refine D.p (ls' := [true, true, true, false, false, false, false, false, false, false, false, false, false, false, false, false, false, false, false, false, false]) 2 rfl rfl rfl rfl (by kernel_rfl) rfl (Y.lenS Try.underlying36 rfl) ?_
                  refine D.p (ls' := [true, true, true, true, false, false, false, false, false, false, false, false, false, false, false, false, false, false, false, false, false]) 3 rfl rfl rfl rfl (by kernel_rfl) rfl (Y.bin rfl rfl rfl) ?_
                  refine D.p (ls' := [true, true, true, true, true, false, false, false, false, false, false, false, false, false, false, false, false, false, false, false, false]) 4 rfl rfl rfl rfl (by kernel_rfl) rfl (Y.mv rfl) ?_
                  refine split2 H (fun c259 H => ?_) (fun c259 H => ?_)
                  · refine D.as (k := 81) rfl (congrArg Value.bool (decide_eq_true c259)) ?_
                    refine D.off (ls' := [true, true, true, true, true, true, false, false, false, false, false, false, false, false, false, false, false, false, false, false, false]) 5 rfl rfl rfl rfl (by kernel_rfl) rfl ?_
                    refine D.off (ls' := [true, true, true, true, true, true, true, false, false, false, false, false, false, false, false, false, false, false, false, false, false]) 6 rfl rfl rfl rfl (by kernel_rfl) rfl ?_
                    refine D.off (ls' := [true, true, true, true, true, true, true, true, false, false, false, false, false, false, false, false, false, false, false, false, false]) 7 rfl rfl rfl rfl (by kernel_rfl) rfl ?_
                    refine D.off (ls' := [true, true, true, true, true, true, true, true, true, false, false, false, false, false, false, false, false, false, false, false, false]) 8 rfl rfl rfl rfl (by kernel_rfl) rfl ?_
                    refine D.off (ls' := [true, true, true, true, true, true, true, true, true, true, false, false, false, false, false, false, false, false, false, false, false]) 9 rfl rfl rfl rfl (by kernel_rfl) rfl ?_
                    refine D.off (ls' := [true, true, true, true, true, true, true, true, true, true, true, false, false, false, false, false, false, false, false, false, false]) 10 rfl rfl rfl rfl (by kernel_rfl) rfl ?_
                    refine D.off (ls' := [true, true, true, true, true, true, true, true, true, true, true, true, false, false, false, false, false, false, false, false, false]) 11 rfl rfl rfl rfl (by kernel_rfl) rfl ?_
                    refine D.off (ls' := [true, true, true, true, true, true, true, true, true, true, true, true, true, false, false, false, false, false, false, false, false]) 12 rfl rfl rfl rfl (by kernel_rfl) rfl ?_
                    refine D.off (ls' := [true, true, true, true, true, true, true, true, true, true, true, true, true, true, false, false, false, false, false, false, false]) 13 rfl rfl rfl rfl (by kernel_rfl) rfl ?_
                    refine D.off (ls' := [true, true, true, true, true, true, true, true, true, true, true, true, true, true, true, false, false, false, false, false, false]) 14 rfl rfl rfl rfl (by kernel_rfl) rfl ?_
                    refine D.off (ls' := [true, true, true, true, true, true, true, true, true, true, true, true, true, true, true, true, false, false, false, false, false]) 15 rfl rfl rfl rfl (by kernel_rfl) rfl ?_
                    refine D.off (ls' := [true, true, true, true, true, true, true, true, true, true, true, true, true, true, true, true, true, false, false, false, false]) 16 rfl rfl rfl rfl (by kernel_rfl) rfl ?_
                    refine D.off (ls' := [true, true, true, true, true, true, true, true, true, true, true, true, true, true, true, true, true, true, false, false, false]) 17 rfl rfl rfl rfl (by kernel_rfl) rfl ?_
                    refine D.off (ls' := [true, true, true, true, true, true, true, true, true, true, true, true, true, true, true, true, true, true, true, false, false]) 18 rfl rfl rfl rfl (by kernel_rfl) rfl ?_
                    refine D.off (ls' := [true, true, true, true, true, true, true, true, true, true, true, true, true, true, true, true, true, true, true, true, false]) 19 rfl rfl rfl rfl (by kernel_rfl) rfl ?_
                    refine D.p (ls' := [true, true, true, true, true, true, true, true, true, true, true, true, true, true, true, true, true, true, true, true, true]) 20 rfl rfl rfl rfl (by kernel_rfl) rfl (Y.pickT rfl rfl) ?_
                    refine D.nil (by kernel_rfl) ?_
                    obtain rfl := Option.some.inj H
                    exact N.meet (true, ()) ⟨HK256, trivial⟩ (by exact ⟨rfl, rfl, rfl, rfl, rfl, rfl, rfl, rfl, rfl, rfl, rfl, trivial⟩) (by exact fun w h => (St.pick [2, 3, 4, 5, 6, 0] [_, _, _, _, _, _, _] h rfl))
                  · refine D.as (k := 81) rfl (congrArg Value.bool (decide_eq_false c259)) ?_
                    refine D.p (ls' := [true, true, true, true, true, true, false, false, false, false, false, false, false, false, false, false, false, false, false, false, false]) 5 rfl rfl rfl rfl (by kernel_rfl) rfl (Y.mv rfl) ?_
                    refine D.p (ls' := [true, true, true, true, true, true, true, false, false, false, false, false, false, false, false, false, false, false, false, false, false]) 6 rfl rfl rfl rfl (by kernel_rfl) rfl (Y.mv rfl) ?_
                    obtain ⟨p262, H⟩ := gd_some H
                    refine D.know (RdG.someM lenT44_ (by decide) (RdG.own 6 rfl) p262) (fun hh => ?_)
                    obtain ⟨a260, ha261⟩ := hh
                    refine D.p (ls' := [true, true, true, true, true, true, true, true, false, false, false, false, false, false, false, false, false, false, false, false, false]) 7 rfl rfl rfl rfl (by kernel_rfl) rfl (Y.ixa Try.underlying36 ti44 rfl rfl p262 ha261) ?_
                    obtain ⟨p263, H⟩ := gd_some H
                    refine D.r (ls' := [true, true, true, true, true, true, true, true, true, false, false, false, false, false, false, false, false, false, false, false, false]) 8 1 0 rfl rfl rfl rfl (by kernel_rfl) (by kernel_rfl) rfl rfl (Y.ldM (us := [.int .u64 ((rd t23.1 i196.2.1).1), .int .i64 ((rd t23.1 i196.2.1).2.1), .int .i64 ((rd t23.1 i196.2.1).2.2.1), .int .i64 ((rd t23.1 i196.2.1).2.2.2.1), .string ((rd t23.1 i196.2.1).2.2.2.2)]) lenT44_ Try.underlying44 rfl ti44 rfl ha261 p263 (RdG.own 6 rfl) rfl) ?_
                    refine D.p (ls' := [true, true, true, true, true, true, true, true, true, true, false, false, false, false, false, false, false, false, false, false, false]) 9 rfl rfl rfl rfl (by kernel_rfl) rfl (Y.fa0 fa50_0 rfl rfl) ?_
                    refine D.r (ls' := [true, true, true, true, true, true, true, true, true, true, true, false, false, false, false, false, false, false, false, false, false]) 10 1 0 rfl rfl rfl rfl (by kernel_rfl) (by kernel_rfl) rfl rfl (Y.ldC 1 Try.underlying41 rfl rfl rfl rfl) ?_
                    refine D.p (ls' := [true, true, true, true, true, true, true, true, true, true, true, true, false, false, false, false, false, false, false, false, false]) 11 rfl rfl rfl rfl (by kernel_rfl) rfl (Y.fa0 fa50_1 rfl rfl) ?_
                    refine D.r (ls' := [true, true, true, true, true, true, true, true, true, true, true, true, true, false, false, false, false, false, false, false, false]) 12 1 0 rfl rfl rfl rfl (by kernel_rfl) (by kernel_rfl) rfl rfl (Y.ldC 1 Try.underlying42 rfl rfl rfl rfl) ?_
                    refine D.p (ls' := [true, true, true, true, true, true, true, true, true, true, true, true, true, true, false, false, false, false, false, false, false]) 13 rfl rfl rfl rfl (by kernel_rfl) rfl (Y.mv rfl) ?_
                    refine D.p (ls' := [true, true, true, true, true, true, true, true, true, true, true, true, true, true, true, false, false, false, false, false, false]) 14 rfl rfl rfl rfl (by kernel_rfl) rfl (Y.mv rfl) ?_
                    refine D.p (ls' := [true, true, true, true, true, true, true, true, true, true, true, true, true, true, true, true, false, false, false, false, false]) 15 rfl rfl rfl rfl (by kernel_rfl) rfl (Y.lenS Try.underlying22 rfl) ?_
                    refine D.p (ls' := [true, true, true, true, true, true, true, true, true, true, true, true, true, true, true, true, true, false, false, false, false]) 16 rfl rfl rfl rfl (by kernel_rfl) rfl (Y.fa0 fa50_2 rfl rfl) ?_
                    refine D.r (ls' := [true, true, true, true, true, true, true, true, true, true, true, true, true, true, true, true, true, true, false, false, false]) 17 1 0 rfl rfl rfl rfl (by kernel_rfl) (by kernel_rfl) rfl rfl (Y.ldC 1 Try.underlying9 rfl rfl rfl rfl) ?_
                    refine D.p (ls' := [true, true, true, true, true, true, true, true, true, true, true, true, true, true, true, true, true, true, true, false, false]) 18 rfl rfl rfl rfl (by kernel_rfl) rfl (Y.bld (cs := [.int .u64 ((rd a0 i196.2.2).1), .int .i64 ((rd a0 i196.2.2).2.1), .int .i64 i196.1, .int .i64 (t244.1.length : Int), .string ((rd a0 i196.2.2).2.2.1)]) rfl pl44 ti44 rfl (by kernel_rfl)) ?_
                    refine D.p (ls' := [true, true, true, true, true, true, true, true, true, true, true, true, true, true, true, true, true, true, true, true, false]) 19 rfl rfl rfl rfl (by kernel_rfl) rfl (Y.nest Try.eqGuardType44 rfl (EqV.struct Try.underlying44 Try.stoodInHeld44 (EqFs.cons rfl (part_one (v := .int .u64 ((rd t23.1 i196.2.1).1)) Try.underlying41 rfl (by kernel_rfl)) (part_one (v := .int .u64 ((rd a0 i196.2.2).1)) Try.underlying41 rfl (by kernel_rfl)) (EqV.int 0 Try.underlying41) (EqFs.cons rfl (part_one (v := .int .i64 ((rd t23.1 i196.2.1).2.1)) Try.underlying42 rfl (by kernel_rfl)) (part_one (v := .int .i64 ((rd a0 i196.2.2).2.1)) Try.underlying42 rfl (by kernel_rfl)) (EqV.int 0 Try.underlying42) (EqFs.cons rfl (part_one (v := .int .i64 ((rd t23.1 i196.2.1).2.2.1)) Try.underlying3 rfl (by kernel_rfl)) (part_one (v := .int .i64 i196.1) Try.underlying3 rfl (by kernel_rfl)) (EqV.int 0 Try.underlying3) (EqFs.cons rfl (part_one (v := .int .i64 ((rd t23.1 i196.2.1).2.2.2.1)) Try.underlying3 rfl (by kernel_rfl)) (part_one (v := .int .i64 (t244.1.length : Int)) Try.underlying3 rfl (by kernel_rfl)) (EqV.int 0 Try.underlying3) (EqFs.cons rfl (part_one (v := .string ((rd t23.1 i196.2.1).2.2.2.2)) Try.underlying9 rfl (by kernel_rfl)) (part_one (v := .string ((rd a0 i196.2.2).2.2.1)) Try.underlying9 rfl (by kernel_rfl)) (EqV.str 0 Try.underlying9) EqFs.nil)))))) rfl rfl) ?_
                    refine D.p (ls' := [true, true, true, true, true, true, true, true, true, true, true, true, true, true, true, true, true, true, true, true, true]) 20 rfl rfl rfl rfl (by kernel_rfl) rfl (Y.pickF rfl rfl) ?_
                    refine D.nil (by kernel_rfl) ?_
                    obtain rfl := Option.some.inj H
                    exact N.meet (!(decide (((rd t23.1 i196.2.1).1) = ((rd a0 i196.2.2).1) ∧ ((rd t23.1 i196.2.1).2.1) = ((rd a0 i196.2.2).2.1) ∧ ((rd t23.1 i196.2.1).2.2.1) = i196.1 ∧ ((rd t23.1 i196.2.1).2.2.2.1) = (t244.1.length : Int) ∧ ((rd t23.1 i196.2.1).2.2.2.2) = ((rd a0 i196.2.2).2.2.1) ∧ True)), ()) ⟨HK256, trivial⟩ (by exact ⟨rfl, rfl, rfl, rfl, rfl, rfl, rfl, rfl, rfl, rfl, rfl, trivial⟩) (by exact fun w h => (St.pick [2, 3, 4, 5, 6, 0] [_, _, _, _, _, _, _] h rfl))
                · refine C.at (s' := [(0, .slice Aa0 a0.length ca0), (3, .pointer (some ⟨g1, 0, none⟩)), (6, .slice A7 t5.length c8), (7, .slice A14 t12.1.length c15), (9, .pointer (some ⟨g20, 0, none⟩)), (10, .slice A25 t23.1.length c26), (12, .int .i64 i196.1), (13, .int .i64 i196.2.1), (14, .int .i64 i196.2.2), (16, .slice A246 t244.1.length c247), (97, .bool o257)]) (G' := cells g1 35 [.int .i64 a1_0, .int .i64 a1_1, .int .u32 a1_2] :: own 5 1 A7 c8 (t5.map (Value.int .u8)) :: own 5 1 A14 c15 (t12.1.map (Value.int .u8)) :: cells g20 35 [.int .i64 t18.1, .int .i64 t18.2.1, .int .u32 t18.2.2] :: own 44 5 A25 c26 (t23.1.flatMap encT44_) :: own 5 1 A246 c247 (t244.1.map (Value.int .u8)) :: G) rfl rfl ?_
                  refine split2 H (fun c264 H => ?_) (fun c264 H => ?_)
                  · refine C.condT (congrArg (fun b => some (Value.bool b)) (c264)) ?_
                    refine C.rs ?_
                    refine J.p rfl rfl rfl rfl (Y.asg rfl) ?_
                    refine J.nx ?_
                    refine C.ret ?_
                    obtain rfl := Option.some.inj H
                    obtain rfl := fin_inl HK233
                    obtain rfl := fin_inl HK116
                    refine T.th ?_
                    refine T.ib ?_
                    refine T.th ?_
                    refine T.th ?_
                    refine T.ib ?_
                    refine T.th ?_
                    refine T.th ?_
                    exact ret_ok (ks := [4]) rfl rfl (fun w h => ⟨rfl, (St.pick [] [_, _, _, _, _, _] h rfl)⟩)
                  · refine C.condF (congrArg (fun b => some (Value.bool b)) (nt c264)) ?_
                    refine C.skip ?_
                    refine N.nx ?_
                    refine C.rs ?_
                    refine J.p rfl rfl rfl rfl (Y.mv rfl) ?_
                    refine J.p rfl rfl rfl rfl (Y.mv rfl) ?_
                    refine J.p rfl rfl rfl rfl (Y.mv rfl) ?_
                    obtain ⟨p267, H⟩ := gd_some H
                    refine J.know (RdG.someM lenT44_ (by decide) (RdG.own 4 rfl) p267) (fun hh => ?_)
                    obtain ⟨a265, ha266⟩ := hh
                    refine J.p rfl rfl rfl rfl (Y.ixa Try.underlying36 ti44 rfl rfl p267 ha266) ?_
                    obtain ⟨p268, H⟩ := gd_some H
                    refine J.r rfl rfl rfl rfl (Y.ldM (us := [.int .u64 ((rd t23.1 i196.2.1).1), .int .i64 ((rd t23.1 i196.2.1).2.1), .int .i64 ((rd t23.1 i196.2.1).2.2.1), .int .i64 ((rd t23.1 i196.2.1).2.2.2.1), .string ((rd t23.1 i196.2.1).2.2.2.2)]) lenT44_ Try.underlying44 rfl ti44 rfl ha266 p268 (RdG.own 4 rfl) rfl) ?_
                    refine J.know (own_leL 1 rfl) (fun hc269 => ?_)
                    obtain ⟨t270, hC271, H⟩ := bind_some H
                    refine J.call (us := []) (cap := []) rfl rfl rfl go20 (fun w hw => by have hcc := hCheck.calls K t5 ((rd t23.1 i196.2.1).1) ((rd t23.1 i196.2.1).2.1) ((rd t23.1 i196.2.1).2.2.1) ((rd t23.1 i196.2.1).2.2.2.1) ((rd t23.1 i196.2.1).2.2.2.2) A7 c8 (RdG.own 1 rfl) hc269 t270 hC271 w hw; exact hcc) (fun e w1 h1 => ?_)
                    obtain ⟨rfl, hw273⟩ := h1
                    refine ⟨_, _, rfl, hw273, ?_⟩
                    refine J.p rfl rfl rfl rfl (Y.asg rfl) ?_
                    refine J.nx ?_
                    refine C.seq ?_
                    refine C.rs ?_
                    refine J.p rfl rfl rfl rfl (Y.mv rfl) ?_
                    refine J.p rfl rfl rfl rfl (Y.notb rfl) ?_
                    refine J.nx ?_
                    refine split2 H (fun c272 H => ?_) (fun c272 H => ?_)
                    · refine C.condF (congrArg (fun b => some (Value.bool b)) (congrArg Bool.not (c272))) ?_
                      refine C.skip ?_
                      refine N.nx ?_
                      refine C.rs ?_
                      refine J.p rfl rfl rfl rfl (Y.mv rfl) ?_
                      refine J.p rfl rfl rfl rfl (Y.mv rfl) ?_
                      refine J.p rfl rfl rfl rfl (Y.lenS Try.underlying22 rfl) ?_
                      refine J.p rfl rfl rfl rfl (Y.bin rfl rfl rfl) ?_
                      refine J.p rfl rfl rfl rfl (Y.asg rfl) ?_
                      refine J.nx ?_
                      refine C.reg ?_
                      refine J.p rfl rfl rfl rfl (Y.mv rfl) ?_
                      refine J.p rfl rfl rfl rfl (Y.bin rfl rfl rfl) ?_
                      refine J.p rfl rfl rfl rfl (Y.asg rfl) ?_
                      refine J.nil ?_
                      refine N.ib ?_
                      obtain rfl := Option.some.inj H
                      exact N.meet ((IntKind.wrap .i64 (i196.1 + (t244.1.length : Int)), IntKind.wrap .i64 (i196.2.1 + 1)), ()) ⟨fin_inr HK233, trivial⟩ (by exact ⟨rfl, rfl, rfl, rfl, rfl, rfl, rfl, rfl, rfl, trivial⟩) (by exact fun w h => (St.pick [0, 1, 2, 3, 4] [_, _, _, _, _, _] h rfl))
                    · refine C.condT (congrArg (fun b => some (Value.bool b)) (congrArg Bool.not (nt c272))) ?_
                      refine C.rs ?_
                      refine J.p rfl rfl rfl rfl (Y.asg rfl) ?_
                      refine J.nx ?_
                      refine C.ret ?_
                      obtain rfl := Option.some.inj H
                      obtain rfl := fin_inl HK233
                      obtain rfl := fin_inl HK116
                      refine T.th ?_
                      refine T.ib ?_
                      refine T.th ?_
                      refine T.th ?_
                      refine T.ib ?_
                      refine T.th ?_
                      refine T.th ?_
                      exact ret_ok (ks := [4]) rfl rfl (fun w h => ⟨rfl, (St.pick [] [_, _, _, _, _, _] h rfl)⟩)
            · refine C.at (s' := [(0, .slice Aa0 a0.length ca0), (3, .pointer (some ⟨g1, 0, none⟩)), (6, .slice A7 t5.length c8), (7, .slice A14 t12.1.length c15), (9, .pointer (some ⟨g20, 0, none⟩)), (10, .slice A25 t23.1.length c26), (12, .int .i64 o234.1), (13, .int .i64 o234.2), (14, .int .i64 i196.2.2)]) (G' := cells g1 35 [.int .i64 a1_0, .int .i64 a1_1, .int .u32 a1_2] :: own 5 1 A7 c8 (t5.map (Value.int .u8)) :: own 5 1 A14 c15 (t12.1.map (Value.int .u8)) :: cells g20 35 [.int .i64 t18.1, .int .i64 t18.2.1, .int .u32 t18.2.2] :: own 44 5 A25 c26 (t23.1.flatMap encT44_) :: G) rfl rfl ?_
              refine C.reg ?_
              refine J.p rfl rfl rfl rfl (Y.mv rfl) ?_
              refine J.p rfl rfl rfl rfl (Y.bin rfl rfl rfl) ?_
              refine J.p rfl rfl rfl rfl (Y.asg rfl) ?_
              refine J.nil ?_
              exact N.again (k195, (o234.1, o234.2, IntKind.wrap .i64 (i196.2.2 + 1)), ()) ⟨H, trivial⟩ (Nat.lt_succ_self _) (by exact ⟨rfl, rfl, rfl, rfl, rfl, rfl, rfl, rfl, rfl, trivial⟩) (by exact fun w h => h)
          · refine C.condF (congrArg (fun b => some (Value.bool b)) (decide_eq_false c198)) ?_
            refine C.exit ?_
            refine X.th ?_
            refine X.th ?_
            refine X.hit ?_
            obtain rfl := Option.some.inj H
            exact N.meet (i196.2.1, ()) ⟨fin_inr HK116, trivial⟩ (by exact ⟨rfl, rfl, rfl, rfl, rfl, trivial⟩) (by exact fun w h => (St.pick [0, 2, 3, 4] [_, _, _, _, _] h rfl))
        · refine N.at (s' := [(3, .pointer (some ⟨g1, 0, none⟩)), (7, .slice A14 t12.1.length c15), (9, .pointer (some ⟨g20, 0, none⟩)), (10, .slice A25 t23.1.length c26), (13, .int .i64 o117)]) (G' := cells g1 35 [.int .i64 a1_0, .int .i64 a1_1, .int .u32 a1_2] :: own 5 1 A14 c15 (t12.1.map (Value.int .u8)) :: cells g20 35 [.int .i64 t18.1, .int .i64 t18.2.1, .int .u32 t18.2.2] :: own 44 5 A25 c26 (t23.1.flatMap encT44_) :: G) rfl rfl ?_
          refine N.nx ?_
          refine C.rs ?_
          refine J.p rfl rfl rfl rfl (Y.mv rfl) ?_
          refine J.r rfl rfl rfl rfl (Y.ldCA (us := [.int .i64 a1_0, .int .i64 a1_1, .int .u32 a1_2]) 0 Try.underlying35 rfl ti35 rfl rfl rfl rfl) ?_
          refine J.know (own_leL 1 rfl) (fun hc277 => ?_)
          obtain ⟨t278, hC279, H⟩ := bind_some H
          refine J.call (us := []) (cap := []) rfl rfl rfl go17 (fun w hw => by have hcc := hLoad.calls K t12.1 a1_0 a1_1 a1_2 A14 c15 (RdG.own 1 rfl) hc277 t278 hC279 w hw; exact hcc) (fun e w1 h1 => ?_)
          obtain ⟨A280, c281, rfl, hw291⟩ := h1
          refine ⟨_, _, rfl, hw291, ?_⟩
          refine J.p rfl rfl rfl rfl (Y.mv rfl) ?_
          refine J.p rfl rfl rfl rfl (Y.ext rfl rfl) ?_
          refine J.p rfl rfl rfl rfl (Y.ext rfl rfl) ?_
          refine J.p rfl rfl rfl rfl (Y.asg rfl) ?_
          refine J.p rfl rfl rfl rfl (Y.asg rfl) ?_
          refine J.nx ?_
          refine C.rs ?_
          refine J.joinB H (fun (o284 : Bool) (j285 : Unit) => [(3, .pointer (some ⟨g1, 0, none⟩)), (9, .pointer (some ⟨g20, 0, none⟩)), (10, .slice A25 t23.1.length c26), (13, .int .i64 o117), (21, .bool o284)]) (fun (o284 : Bool) (j285 : Unit) => cells g1 35 [.int .i64 a1_0, .int .i64 a1_1, .int .u32 a1_2] :: cells g20 35 [.int .i64 t18.1, .int .i64 t18.2.1, .int .u32 t18.2.2] :: own 44 5 A25 c26 (t23.1.flatMap encT44_) :: G) (fun (o284 : Bool) (j285 : Unit) => True) (fun o286 H HK287 => ?_) (fun o284 j285 H _ => ?_)
          · refine J.p rfl rfl rfl rfl (Y.mv rfl) ?_
            refine J.p rfl rfl rfl rfl (Y.bin rfl rfl rfl) ?_
            refine J.p rfl rfl rfl rfl (Y.mv rfl) ?_
            refine split2 H (fun c288 H => ?_) (fun c288 H => ?_)
            · refine J.as (k := 120) rfl (congrArg Value.bool (decide_eq_true c288)) ?_
              refine J.p rfl rfl rfl rfl (Y.mv rfl) ?_
              refine J.p rfl rfl rfl rfl (Y.lenS Try.underlying36 rfl) ?_
              refine J.p rfl rfl rfl rfl (Y.bin rfl rfl rfl) ?_
              refine J.p rfl rfl rfl rfl (Y.pickT rfl rfl) ?_
              refine J.p rfl rfl rfl rfl (Y.asg rfl) ?_
              refine J.nil ?_
              obtain rfl := Option.some.inj H
              exact N.meet (decide ((t278.1.length : Int) = 0), ()) ⟨HK287, trivial⟩ (by exact ⟨rfl, rfl, rfl, rfl, rfl, trivial⟩) (by exact fun w h => (St.pick [1, 3, 4] [_, _, _, _, _] h rfl))
            · refine J.as (k := 120) rfl (congrArg Value.bool (decide_eq_false c288)) ?_
              refine J.skip rfl rfl ?_
              refine J.skip rfl rfl ?_
              refine J.skip rfl rfl ?_
              refine J.p rfl rfl rfl rfl (Y.pickF rfl rfl) ?_
              refine J.p rfl rfl rfl rfl (Y.asg rfl) ?_
              refine J.nil ?_
              obtain rfl := Option.some.inj H
              exact N.meet (false, ()) ⟨HK287, trivial⟩ (by exact ⟨rfl, rfl, rfl, rfl, rfl, trivial⟩) (by exact fun w h => (St.pick [1, 3, 4] [_, _, _, _, _] h rfl))
          · refine C.at (s' := [(3, .pointer (some ⟨g1, 0, none⟩)), (9, .pointer (some ⟨g20, 0, none⟩)), (10, .slice A25 t23.1.length c26), (13, .int .i64 o117), (21, .bool o284)]) (G' := cells g1 35 [.int .i64 a1_0, .int .i64 a1_1, .int .u32 a1_2] :: cells g20 35 [.int .i64 t18.1, .int .i64 t18.2.1, .int .u32 t18.2.2] :: own 44 5 A25 c26 (t23.1.flatMap encT44_) :: G) rfl rfl ?_
            refine C.rs ?_
            refine J.p rfl rfl rfl rfl (Y.mv rfl) ?_
            refine J.p rfl rfl rfl rfl (Y.mv rfl) ?_
            refine J.p rfl rfl rfl rfl (Y.lenS Try.underlying36 rfl) ?_
            refine J.p rfl rfl rfl rfl (Y.bin rfl rfl rfl) ?_
            refine J.p rfl rfl rfl rfl (Y.mv rfl) ?_
            refine split2 H (fun c289 H => ?_) (fun c289 H => ?_)
            · refine J.as (k := 129) rfl (congrArg Value.bool (decide_eq_true c289)) ?_
              refine J.r rfl rfl rfl rfl (Y.ldCA (us := [.int .i64 a1_0, .int .i64 a1_1, .int .u32 a1_2]) 0 Try.underlying35 rfl ti35 rfl rfl rfl rfl) ?_
              refine J.r rfl rfl rfl rfl (Y.ldCA (us := [.int .i64 t18.1, .int .i64 t18.2.1, .int .u32 t18.2.2]) 1 Try.underlying35 rfl ti35 rfl rfl rfl rfl) ?_
              refine J.p rfl rfl rfl rfl (Y.eqst Try.eqGuardType35 rfl (EqV.struct Try.underlying35 Try.stoodInHeld35 (EqFs.cons rfl (part_one (v := .int .i64 a1_0) Try.underlying3 rfl (by kernel_rfl)) (part_one (v := .int .i64 t18.1) Try.underlying3 rfl (by kernel_rfl)) (EqV.int 0 Try.underlying3) (EqFs.cons rfl (part_one (v := .int .i64 a1_1) Try.underlying3 rfl (by kernel_rfl)) (part_one (v := .int .i64 t18.2.1) Try.underlying3 rfl (by kernel_rfl)) (EqV.int 0 Try.underlying3) (EqFs.cons rfl (part_one (v := .int .u32 a1_2) Try.underlying33 rfl (by kernel_rfl)) (part_one (v := .int .u32 t18.2.2) Try.underlying33 rfl (by kernel_rfl)) (EqV.int 0 Try.underlying33) EqFs.nil)))) rfl rfl) ?_
              refine J.p rfl rfl rfl rfl (Y.mv rfl) ?_
              refine split2 H (fun c290 H => ?_) (fun c290 H => ?_)
              · refine J.as (k := 133) rfl (congrArg Value.bool (decide_eq_true c290)) ?_
                refine J.skip rfl rfl ?_
                refine J.p rfl rfl rfl rfl (Y.pickT rfl rfl) ?_
                refine J.p rfl rfl rfl rfl (Y.pickT rfl rfl) ?_
                refine J.p rfl rfl rfl rfl (Y.asg rfl) ?_
                refine J.nx ?_
                refine C.ret ?_
                obtain rfl := Option.some.inj H
                exact ret_ok (ks := [4]) rfl rfl (fun w h => ⟨rfl, (St.pick [] [_, _, _] h rfl)⟩)
              · refine J.as (k := 133) rfl (congrArg Value.bool (decide_eq_false c290)) ?_
                refine J.p rfl rfl rfl rfl (Y.mv rfl) ?_
                refine J.p rfl rfl rfl rfl (Y.pickF rfl rfl) ?_
                refine J.p rfl rfl rfl rfl (Y.pickT rfl rfl) ?_
                refine J.p rfl rfl rfl rfl (Y.asg rfl) ?_
                refine J.nx ?_
                refine C.ret ?_
                obtain rfl := Option.some.inj H
                exact ret_ok (ks := [4]) rfl rfl (fun w h => ⟨rfl, (St.pick [] [_, _, _] h rfl)⟩)
            · refine J.as (k := 129) rfl (congrArg Value.bool (decide_eq_false c289)) ?_
              refine J.skip rfl rfl ?_
              refine J.skip rfl rfl ?_
              refine J.skip rfl rfl ?_
              refine J.skip rfl rfl ?_
              refine J.skip rfl rfl ?_
              refine J.skip rfl rfl ?_
              refine J.p rfl rfl rfl rfl (Y.pickF rfl rfl) ?_
              refine J.p rfl rfl rfl rfl (Y.asg rfl) ?_
              refine J.nx ?_
              refine C.ret ?_
              obtain rfl := Option.some.inj H
              exact ret_ok (ks := [4]) rfl rfl (fun w h => ⟨rfl, (St.pick [] [_, _, _] h rfl)⟩)
end Go.Proofs.Ytmbhpcdamfdphaa
