/- Own text, printed by the lifting program: each Go function beside a plain function, and the proof that a call of the one comes to the other. Conditions: what came in can be read. -/
import Derived.Test.YtkblnahoidbfkaaLiftF
set_option linter.unusedVariables false
set_option linter.unusedSimpArgs false
set_option maxRecDepth 10000
set_option maxHeartbeats 4000000
namespace Go.Proofs.Ytkblnahoidbfkaa
open Go Go.Sx
theorem fa62_0 : FA Try.prog 62 0 0 := FA.of Try.underlying62 rfl ti3 (by decide) rfl
theorem fa62_1 : FA Try.prog 62 1 1 := FA.of Try.underlying62 rfl ti3 (by decide) rfl
theorem go13 : GoF Try.prog 13 := GoF.of Try.func13 (by kernel_rfl) (by kernel_rfl)
theorem go15 : GoF Try.prog 15 := GoF.of Try.func15 (by kernel_rfl) (by kernel_rfl)
theorem go28 : GoF Try.prog 28 := GoF.of Try.func28 (by kernel_rfl) (by kernel_rfl)
theorem go30 : GoF Try.prog 30 := GoF.of Try.func30 (by kernel_rfl) (by kernel_rfl)
theorem go31 : GoF Try.prog 31 := GoF.of Try.func31 (by kernel_rfl) (by kernel_rfl)
theorem go32 : GoF Try.prog 32 := GoF.of Try.func32 (by kernel_rfl) (by kernel_rfl)
/-! ### salvor/salvorlaw5.ScanJoined: function 7 -/
def ScanJoined.l1 (t21 : (List T40_)) (t1 : (List Int)) : Nat → ((List T40_) × Int) → Option ((List T40_))
  | 0, _ => none
  | k + 1, i94 => if i94.2 < (t21.length : Int) then (gd ((0 : Int) ≤ i94.2 ∧ i94.2 < (t21.length : Int)) (gd ((0 : Int) ≤ i94.2 ∧ i94.2 < (t21.length : Int)) (gd ((i94.1.length + [((rd t21 i94.2).1, IntKind.wrap .i64 (((rd t21 i94.2).2.1) + (t1.length : Int)), (rd t21 i94.2).2.2)].length) * 24 ≤ 140737488355328) (ScanJoined.l1 t21 t1 k ((i94.1 ++ [((rd t21 i94.2).1, IntKind.wrap .i64 (((rd t21 i94.2).2.1) + (t1.length : Int)), (rd t21 i94.2).2.2)]), IntKind.wrap .i64 (i94.2 + 1)))))) else (some i94.1)
def ScanJoined.f (K : Nat) (a0 : List Int) (a1 : List Int) : Option (Bool) := (sClean.f K a0).bind fun t1 => gd ((([] : List Int).length + t1.length) * 1 ≤ 140737488355328) (gd (((([] : List Int) ++ t1).length + a1.length) * 1 ≤ 140737488355328) ((sExtents.f K t1).bind fun t16 => (sExtents.f K a1).bind fun t21 => (ScanJoined.l1 t21 t1 K (t16, 0)).bind fun o59 => (sExtents.f K ((([] : List Int) ++ t1) ++ a1)).bind fun t112 => (sameExtents.f K t112 o59).bind fun t119 => if t119 = true then ((works.f K).bind fun t122 => some t122) else (some false)))
theorem ScanJoined.calls {B : Nat} {w0 : World} {G : List HP} (K : Nat) (a0 : List Int) (a1 : List Int) (Aa0 : Option Addr) (ca0 : Nat) (Aa1 : Option Addr) (ca1 : Nat) (ha0 : RdG B w0 G Aa0 (a0.map (Value.int .u8))) (ka0 : a0.length ≤ ca0) (ha1 : RdG B w0 G Aa1 (a1.map (Value.int .u8))) (ka1 : a1.length ≤ ca1) (r : Bool) (H : ScanJoined.f K a0 a1 = some r) (w : World) (hw : St B w0 (G) w) :
    Calls Try.prog 7 [.slice Aa0 a0.length ca0, .slice Aa1 a1.length ca1].toArray w (fun e w' => e = .returned (.bool r) ∧ St B w0 (G) w') := by
  unfold ScanJoined.f at H
  refine calls_of (n := 52) (s := [(0, .slice Aa0 a0.length ca0), (1, .slice Aa1 a1.length ca1)]) Try.func7 rfl rfl rfl rfl ?_ hw
  refine C.rs ?_
  refine J.p rfl rfl rfl rfl (Y.asg rfl) ?_
  refine J.nx ?_
  refine C.rs ?_
  refine J.p rfl rfl rfl rfl (Y.mv rfl) ?_
  obtain ⟨t1, hC2, H⟩ := bind_some H
  refine J.call (us := []) (cap := []) rfl rfl rfl go19 (fun w hw => by have hcc := sClean.calls K a0 Aa0 ca0 ha0 ka0 t1 hC2 w hw; exact hcc) (fun e w1 h1 => ?_)
  obtain ⟨A3, c4, rfl, hw129⟩ := h1
  refine ⟨_, _, rfl, hw129, ?_⟩
  refine J.p rfl rfl rfl rfl (Y.asg rfl) ?_
  refine J.nx ?_
  refine C.rs ?_
  refine J.p rfl rfl rfl rfl (Y.asg rfl) ?_
  refine J.nx ?_
  refine C.rs ?_
  refine J.p rfl rfl rfl rfl (Y.mv rfl) ?_
  refine J.p rfl rfl rfl rfl (Y.mv rfl) ?_
  refine J.nilOwn 5 1 ?_
  obtain ⟨p9, H⟩ := gd_some H
  refine J.appL (enc := (Value.int .u8)) (xs := ([] : List Int)) (ys := t1) rfl Try.underlying22 ti5 rfl (by decide) rfl rfl (fun _ => rfl) (RdG.own 1 rfl) p9 (fun A7 c8 => ?_)
  refine J.p rfl rfl rfl rfl (Y.asg rfl) ?_
  refine J.nx ?_
  refine C.rs ?_
  refine J.p rfl rfl rfl rfl (Y.mv rfl) ?_
  refine J.p rfl rfl rfl rfl (Y.mv rfl) ?_
  obtain ⟨p13, H⟩ := gd_some H
  refine J.appL (enc := (Value.int .u8)) (xs := (([] : List Int) ++ t1)) (ys := a1) rfl Try.underlying22 ti5 rfl (by decide) rfl rfl (fun _ => rfl) (ha1.suf [_, _] rfl) p13 (fun A11 c12 => ?_)
  refine J.p rfl rfl rfl rfl (Y.asg rfl) ?_
  refine J.nx ?_
  refine C.rs ?_
  refine J.p rfl rfl rfl rfl (Y.mv rfl) ?_
  refine J.know (own_leL 1 rfl) (fun hc15 => ?_)
  obtain ⟨t16, hC17, H⟩ := bind_some H
  refine J.call (us := []) (cap := []) rfl rfl rfl go14 (fun w hw => by have hcc := sExtents.calls K t1 A3 c4 (RdG.own 1 rfl) hc15 t16 hC17 w hw; exact hcc) (fun e w1 h1 => ?_)
  obtain ⟨A18, c19, rfl, hw128⟩ := h1
  refine ⟨_, _, rfl, hw128, ?_⟩
  refine J.p rfl rfl rfl rfl (Y.asg rfl) ?_
  refine J.nx ?_
  refine C.rs ?_
  refine J.p rfl rfl rfl rfl (Y.mv rfl) ?_
  obtain ⟨t21, hC22, H⟩ := bind_some H
  refine J.call (us := []) (cap := []) rfl rfl rfl go14 (fun w hw => by have hcc := sExtents.calls K a1 Aa1 ca1 (ha1.suf [_, _, _] rfl) ka1 t21 hC22 w hw; exact hcc) (fun e w1 h1 => ?_)
  obtain ⟨A23, c24, rfl, hw127⟩ := h1
  refine ⟨_, _, rfl, hw127, ?_⟩
  refine J.p rfl rfl rfl rfl (Y.asg rfl) ?_
  refine J.nx ?_
  refine C.seq ?_
  refine C.rs ?_
  refine J.p rfl rfl rfl rfl (Y.asg rfl) ?_
  refine J.nx ?_
  refine C.joinN H (fun (o59 : (List T40_)) (j60 : (Option Addr) × Nat) => [(6, .slice A11 ((([] : List Int) ++ t1) ++ a1).length c12), (7, .slice j60.1 o59.length j60.2)]) (fun (o59 : (List T40_)) (j60 : (Option Addr) × Nat) => own 40 3 j60.1 j60.2 (o59.flatMap encT40_) :: own 5 1 A11 c12 (((([] : List Int) ++ t1) ++ a1).map (Value.int .u8)) :: G) (fun (o59 : (List T40_)) (j60 : (Option Addr) × Nat) => True) (fun o57 H HK58 => ?_) (fun o59 j60 H _ => ?_)
  · refine C.blk ?_
    refine C.loop (fun (i : Nat × ((List T40_) × Int) × ((Option Addr) × Nat)) => [(5, .slice A3 t1.length c4), (6, .slice A11 ((([] : List Int) ++ t1) ++ a1).length c12), (7, .slice i.2.2.1 i.2.1.1.length i.2.2.2), (8, .slice A23 t21.length c24), (9, .int .i64 i.2.1.2)]) (fun (i : Nat × ((List T40_) × Int) × ((Option Addr) × Nat)) => own 40 3 i.2.2.1 i.2.2.2 (i.2.1.1.flatMap encT40_) :: own 5 1 A3 c4 (t1.map (Value.int .u8)) :: own 5 1 A11 c12 (((([] : List Int) ++ t1) ++ a1).map (Value.int .u8)) :: own 40 3 A23 c24 (t21.flatMap encT40_) :: G) (fun (i : Nat × ((List T40_) × Int) × ((Option Addr) × Nat)) => ScanJoined.l1 t21 t1 i.1 i.2.1 = some o57 ∧ (True)) (fun i => i.1) (K, (t16, 0), (A18, c19)) ⟨H, trivial⟩ (by exact ⟨rfl, rfl, rfl, rfl, rfl, trivial⟩) (by exact fun w h => (St.pick [1, 3, 2, 0] [_, _, _, _] h rfl)) ?_
    rintro ⟨k110, i94, j95⟩ ⟨H, _⟩
    replace H : ScanJoined.l1 t21 t1 k110 i94 = some o57 := H
    obtain ⟨k93, rfl⟩ : ∃ m, k110 = m + 1 := by cases k110 with | zero => exact absurd H (by simp [ScanJoined.l1]) | succ m => exact ⟨m, rfl⟩
    rw [ScanJoined.l1] at H
    refine C.at (s' := [(5, .slice A3 t1.length c4), (6, .slice A11 ((([] : List Int) ++ t1) ++ a1).length c12), (7, .slice j95.1 i94.1.length j95.2), (8, .slice A23 t21.length c24), (9, .int .i64 i94.2)]) (G' := own 40 3 j95.1 j95.2 (i94.1.flatMap encT40_) :: own 5 1 A3 c4 (t1.map (Value.int .u8)) :: own 5 1 A11 c12 (((([] : List Int) ++ t1) ++ a1).map (Value.int .u8)) :: own 40 3 A23 c24 (t21.flatMap encT40_) :: G) rfl rfl ?_
    refine C.seq ?_
    refine C.rs ?_
    refine J.p rfl rfl rfl rfl (Y.mv rfl) ?_
    refine J.p rfl rfl rfl rfl (Y.mv rfl) ?_
    refine J.p rfl rfl rfl rfl (Y.lenS Try.underlying28 rfl) ?_
    refine J.p rfl rfl rfl rfl (Y.bin rfl rfl rfl) ?_
    refine J.nx ?_
    refine split2 H (fun c97 H => ?_) (fun c97 H => ?_)
    · refine C.condT (congrArg (fun b => some (Value.bool b)) (decide_eq_true c97)) ?_
      refine C.skip ?_
      refine N.nx ?_
      refine C.seq ?_
      refine C.blk ?_
      refine C.rs ?_
      refine J.p rfl rfl rfl rfl (Y.mv rfl) ?_
      refine J.p rfl rfl rfl rfl (Y.mv rfl) ?_
      obtain ⟨p100, H⟩ := gd_some H
      refine J.know (RdG.someM lenT40_ (by decide) (RdG.own 3 rfl) p100) (fun hh => ?_)
      obtain ⟨a98, ha99⟩ := hh
      refine J.p rfl rfl rfl rfl (Y.ixa Try.underlying28 ti40 rfl rfl p100 ha99) ?_
      obtain ⟨p101, H⟩ := gd_some H
      refine J.r rfl rfl rfl rfl (Y.ldM (us := [.bool ((rd t21 i94.2).1), .int .i64 ((rd t21 i94.2).2.1), .int .i64 ((rd t21 i94.2).2.2)]) lenT40_ Try.underlying40 rfl ti40 rfl ha99 p101 (RdG.own 3 rfl) rfl) ?_
      refine J.alloc (L := [.bool false, .int .i64 0, .int .i64 0]) rfl ti40 rfl (fun g102 => ?_)
      refine J.stA (us := [.bool ((rd t21 i94.2).1), .int .i64 ((rd t21 i94.2).2.1), .int .i64 ((rd t21 i94.2).2.2)]) (L' := [.bool ((rd t21 i94.2).1), .int .i64 ((rd t21 i94.2).2.1), .int .i64 ((rd t21 i94.2).2.2)]) ti40 rfl rfl rfl rfl rfl rfl ?_
      refine J.nx ?_
      refine C.rs ?_
      refine J.p rfl rfl rfl rfl (Y.fa0 fa40_1 rfl rfl) ?_
      refine J.r rfl rfl rfl rfl (Y.ldC 0 Try.underlying3 rfl rfl rfl rfl) ?_
      refine J.p rfl rfl rfl rfl (Y.mv rfl) ?_
      refine J.p rfl rfl rfl rfl (Y.lenS Try.underlying22 rfl) ?_
      refine J.p rfl rfl rfl rfl (Y.bin rfl rfl rfl) ?_
      refine J.p rfl rfl rfl rfl (Y.fa0 fa40_1 rfl rfl) ?_
      refine J.stE (L' := [.bool ((rd t21 i94.2).1), .int .i64 (IntKind.wrap .i64 (((rd t21 i94.2).2.1) + (t1.length : Int))), .int .i64 ((rd t21 i94.2).2.2)]) ti3 rfl rfl rfl rfl rfl ?_
      refine J.nx ?_
      refine C.reg ?_
      refine J.p rfl rfl rfl rfl (Y.mv rfl) ?_
      refine J.r rfl rfl rfl rfl (Y.ldCA (us := [.bool ((rd t21 i94.2).1), .int .i64 (IntKind.wrap .i64 (((rd t21 i94.2).2.1) + (t1.length : Int))), .int .i64 ((rd t21 i94.2).2.2)]) 0 Try.underlying40 rfl ti40 rfl rfl rfl rfl) ?_
      refine J.bsM (enc := encT40_) (xs := [((rd t21 i94.2).1, IntKind.wrap .i64 (((rd t21 i94.2).2.1) + (t1.length : Int)), (rd t21 i94.2).2.2)]) (zs := [.bool false, .int .i64 0, .int .i64 0]) lenT40_ rfl Try.underlying28 ti40 (by kernel_rfl) rfl (by kernel_rfl) rfl rfl rfl (fun A104 => ?_)
      refine J.pull 2 rfl rfl ?_
      obtain ⟨p108, H⟩ := gd_some H
      refine J.appM (enc := encT40_) (xs := i94.1) (ys := [((rd t21 i94.2).1, IntKind.wrap .i64 (((rd t21 i94.2).2.1) + (t1.length : Int)), (rd t21 i94.2).2.2)]) lenT40_ oneT40_ rfl Try.underlying28 ti40 rfl (by decide) (by decide) rfl rfl (RdG.own 1 rfl) p108 (fun A106 c107 => ?_)
      refine J.pull 1 rfl rfl (J.drop ?_)
      refine J.p rfl rfl rfl rfl (Y.asg rfl) ?_
      refine J.nil ?_
      refine N.ib ?_
      refine N.nx ?_
      refine C.reg ?_
      refine J.p rfl rfl rfl rfl (Y.mv rfl) ?_
      refine J.p rfl rfl rfl rfl (Y.bin rfl rfl rfl) ?_
      refine J.p rfl rfl rfl rfl (Y.asg rfl) ?_
      refine J.nil ?_
      exact N.again (k93, ((i94.1 ++ [((rd t21 i94.2).1, IntKind.wrap .i64 (((rd t21 i94.2).2.1) + (t1.length : Int)), (rd t21 i94.2).2.2)]), IntKind.wrap .i64 (i94.2 + 1)), (A106, c107)) ⟨H, trivial⟩ (Nat.lt_succ_self _) (by exact ⟨rfl, rfl, rfl, rfl, rfl, trivial⟩) (by exact fun w h => (St.pick [0, 2, 3, 4] [_, _, _, _, _] h rfl))
    · refine C.condF (congrArg (fun b => some (Value.bool b)) (decide_eq_false c97)) ?_
      refine C.exit ?_
      refine X.th ?_
      refine X.th ?_
      refine X.hit ?_
      obtain rfl := Option.some.inj H
      exact N.meet (i94.1, (j95.1, j95.2)) ⟨HK58, trivial⟩ (by exact ⟨rfl, rfl, trivial⟩) (by exact fun w h => (St.pick [0, 2] [_, _, _, _] h rfl))
  · refine N.at (s' := [(6, .slice A11 ((([] : List Int) ++ t1) ++ a1).length c12), (7, .slice j60.1 o59.length j60.2)]) (G' := own 40 3 j60.1 j60.2 (o59.flatMap encT40_) :: own 5 1 A11 c12 (((([] : List Int) ++ t1) ++ a1).map (Value.int .u8)) :: G) rfl rfl ?_
    refine N.nx ?_
    refine C.rs ?_
    refine J.p rfl rfl rfl rfl (Y.mv rfl) ?_
    refine J.know (own_leL 1 rfl) (fun hc111 => ?_)
    obtain ⟨t112, hC113, H⟩ := bind_some H
    refine J.call (us := []) (cap := []) rfl rfl rfl go14 (fun w hw => by have hcc := sExtents.calls K ((([] : List Int) ++ t1) ++ a1) A11 c12 (RdG.own 1 rfl) hc111 t112 hC113 w hw; exact hcc) (fun e w1 h1 => ?_)
    obtain ⟨A114, c115, rfl, hw126⟩ := h1
    refine ⟨_, _, rfl, hw126, ?_⟩
    refine J.p rfl rfl rfl rfl (Y.asg rfl) ?_
    refine J.nx ?_
    refine C.rs ?_
    refine J.p rfl rfl rfl rfl (Y.mv rfl) ?_
    refine J.p rfl rfl rfl rfl (Y.mv rfl) ?_
    refine J.know (own_leM lenT40_ (by decide) 0 rfl) (fun hc117 => ?_)
    refine J.know (own_leM lenT40_ (by decide) 1 rfl) (fun hc118 => ?_)
    obtain ⟨t119, hC120, H⟩ := bind_some H
    refine J.call (us := []) (cap := []) rfl rfl rfl go15 (fun w hw => by have hcc := sameExtents.calls K t112 o59 A114 c115 j60.1 j60.2 (RdG.own 0 rfl) hc117 (RdG.own 1 rfl) hc118 t119 hC120 w hw; exact hcc) (fun e w1 h1 => ?_)
    obtain ⟨rfl, hw125⟩ := h1
    refine ⟨_, _, rfl, hw125, ?_⟩
    refine J.p rfl rfl rfl rfl (Y.mv rfl) ?_
    refine split2 H (fun c121 H => ?_) (fun c121 H => ?_)
    · refine J.as (k := 49) rfl (congrArg Value.bool (c121)) ?_
      refine J.want rfl ?_
      obtain ⟨t122, hC123, H⟩ := bind_some H
      refine J.call (us := []) (cap := []) rfl rfl rfl go28 (fun w hw => by have hcc := works.calls K t122 hC123 w hw; exact hcc) (fun e w1 h1 => ?_)
      obtain ⟨rfl, hw124⟩ := h1
      refine ⟨_, _, rfl, hw124, ?_⟩
      refine J.p rfl rfl rfl rfl (Y.pickT rfl rfl) ?_
      refine J.p rfl rfl rfl rfl (Y.asg rfl) ?_
      refine J.nx ?_
      refine C.ret ?_
      obtain rfl := Option.some.inj H
      exact ret_ok (ks := [4]) rfl rfl (fun w h => ⟨rfl, (St.pick [] [_, _, _] h rfl)⟩)
    · refine J.as (k := 49) rfl (congrArg Value.bool (nt c121)) ?_
      refine J.skip rfl rfl ?_
      refine J.p rfl rfl rfl rfl (Y.pickF rfl rfl) ?_
      refine J.p rfl rfl rfl rfl (Y.asg rfl) ?_
      refine J.nx ?_
      refine C.ret ?_
      obtain rfl := Option.some.inj H
      exact ret_ok (ks := [4]) rfl rfl (fun w h => ⟨rfl, (St.pick [] [_, _, _] h rfl)⟩)
end Go.Proofs.Ytkblnahoidbfkaa
