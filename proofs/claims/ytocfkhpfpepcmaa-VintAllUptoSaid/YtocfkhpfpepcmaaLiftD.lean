/- Own text, printed by the lifting program: each Go function beside a plain function, and the proof that a call of the one comes to the other. Conditions: what came in can be read. -/
import Derived.Test.YtocfkhpfpepcmaaLiftC
set_option linter.unusedVariables false
set_option linter.unusedSimpArgs false
set_option maxRecDepth 10000
set_option maxHeartbeats 4000000
namespace Go.Proofs.Ytocfkhpfpepcmaa
open Go Go.Sx
theorem ti3 : TI Try.prog 3 1 8 (.int .i64 0) := TI.of (by kernel_rfl)
theorem ti4 : TI Try.prog 4 1 1 (.bool false) := TI.of (by kernel_rfl)
theorem ti52 : TI Try.prog 52 1 24 (.slice none 0 0) := TI.of (by kernel_rfl)
theorem ti59 : TI Try.prog 59 1 24 (.slice none 0 0) := TI.of (by kernel_rfl)
theorem go25 : GoF Try.prog 25 := GoF.of Try.func25 (by kernel_rfl) (by kernel_rfl)
theorem go36 : GoF Try.prog 36 := GoF.of Try.func36 (by kernel_rfl) (by kernel_rfl)
theorem go37 : GoF Try.prog 37 := GoF.of Try.func37 (by kernel_rfl) (by kernel_rfl)
theorem go40 : GoF Try.prog 40 := GoF.of Try.func40 (by kernel_rfl) (by kernel_rfl)
/-! ### salvor/salvorlaw2.VintSplit: function 12 -/
def VintSplit.l1 (K : Nat) (a0 : List Int) : Nat → (Int × Int × (List Int) × (List Int)) → Option ((List Int) × (List Int))
  | 0, _ => none
  | k + 1, i157 => if i157.2.1 < (a0.length : Int) then (gd ((i157.2.2.1.length + [i157.1].length) * 8 ≤ 140737488355328) (gd ((0 : Int) ≤ i157.2.1 ∧ i157.2.1 < (a0.length : Int)) (gd ((0 : Int) ≤ i157.2.1 ∧ i157.2.1 < (a0.length : Int)) (gd ((i157.2.2.2.length + [rd a0 i157.2.1].length) * 8 ≤ 140737488355328) (gd ((0 : Int) ≤ i157.2.1 ∧ i157.2.1 < (a0.length : Int)) ((Size.f K [rd a0 i157.2.1]).bind fun t378 => VintSplit.l1 K a0 k (IntKind.wrap .i64 (i157.1 + t378), IntKind.wrap .i64 (i157.2.1 + 1), (i157.2.2.1 ++ [i157.1]), (i157.2.2.2 ++ [rd a0 i157.2.1])))))))) else (some (i157.2.2.1, i157.2.2.2))
def VintSplit.f (K : Nat) (a0 : List Int) (a1 : List Int) : Option (Bool) := (Encode.f K a0).bind fun t3 => gd ((([] : List Int).length + t3.length) * 1 ≤ 140737488355328) (gd (((([] : List Int) ++ t3).length + a1.length) * 1 ≤ 140737488355328) ((All.f a1).bind fun t23 => (All.f ((([] : List Int) ++ t3) ++ a1)).bind fun t28 => (some ()).bind fun o32 => (VintSplit.l1 K a0 K (0, 0, ([] : List Int), ([] : List Int))).bind fun o95 => (AllF.f K (fun (i418 : (List Int) × (List Int)) (x425 : Int × Int) => gd ((i418.1.length + [IntKind.wrap .i64 ((t3.length : Int) + x425.1)].length) * 8 ≤ 140737488355328) (gd ((i418.2.length + [x425.2].length) * 8 ≤ 140737488355328) (some (.inl ((i418.1 ++ [IntKind.wrap .i64 ((t3.length : Int) + x425.1)]), (i418.2 ++ [x425.2])))))) (o95.1, o95.2) a1).bind fun t423 => ysel t423 (fun i418 => (AllF.f K (fun (i483 : Int) (x491 : Int × Int) => (if (i418.1.length : Int) ≤ i483 then (some true) else (gd ((0 : Int) ≤ i483 ∧ i483 < (i418.1.length : Int)) (gd ((0 : Int) ≤ i483 ∧ i483 < (i418.1.length : Int)) (if (rd i418.1 i483) ≠ x491.1 then (some true) else (gd ((0 : Int) ≤ i483 ∧ i483 < (i418.2.length : Int)) (gd ((0 : Int) ≤ i483 ∧ i483 < (i418.2.length : Int)) (some (decide ((rd i418.2 i483) ≠ x491.2))))))))).bind fun o513 => if o513 = true then (some (.inr i483)) else (some (.inl (IntKind.wrap .i64 (i483 + 1))))) 0 ((([] : List Int) ++ t3) ++ a1)).bind fun t489 => ysel t489 (fun i483 => if i483 = (i418.1.length : Int) then ((works.f K).bind fun t530 => some t530) else (some false)) (fun e486 => some false)) ((fun (e : Empty) => none))))
theorem VintSplit.calls {B : Nat} {w0 : World} {G : List HP} (K : Nat) (a0 : List Int) (a1 : List Int) (Aa0 : Option Addr) (ca0 : Nat) (Aa1 : Option Addr) (ca1 : Nat) (ha0 : RdG B w0 G Aa0 (a0.map (Value.int .u64))) (ka0 : a0.length ≤ ca0) (ha1 : RdG B w0 G Aa1 (a1.map (Value.int .u8))) (ka1 : a1.length ≤ ca1) (r : Bool) (H : VintSplit.f K a0 a1 = some r) (w : World) (hw : St B w0 (G) w) :
    Calls Try.prog 12 [.slice Aa0 a0.length ca0, .slice Aa1 a1.length ca1].toArray w (fun e w' => e = .returned (.bool r) ∧ St B w0 (G) w') := by
  unfold VintSplit.f at H
  refine calls_ofM (n := 107) (s := [(0, .slice Aa0 a0.length ca0), (1, .slice Aa1 a1.length ca1)]) Try.func12 rfl rfl rfl rfl ?_ hw
  refine C.rs ?_
  refine J.alloc (L := [.bool false]) rfl ti4 rfl (fun g1 => ?_)
  refine J.nx ?_
  refine C.rs ?_
  refine J.p rfl rfl rfl rfl (Y.mv rfl) ?_
  obtain ⟨t3, hC4, H⟩ := bind_some H
  refine J.call (us := []) (cap := []) rfl rfl rfl go20 (fun w hw => by have hcc := Encode.calls K a0 Aa0 ca0 (ha0.suf [_, _] rfl) ka0 t3 hC4 w hw; exact hcc) (fun e w1 h1 => ?_)
  obtain ⟨A5, c6, rfl, hw535⟩ := h1
  refine ⟨_, _, rfl, hw535, ?_⟩
  refine J.alloc (L := [.slice none 0 0]) rfl ti22 rfl (fun g8 => ?_)
  refine J.stE (L' := [.slice A5 t3.length c6]) ti22 rfl rfl rfl rfl rfl ?_
  refine J.nx ?_
  refine C.rs ?_
  refine J.p rfl rfl rfl rfl (Y.asg rfl) ?_
  refine J.nx ?_
  refine C.rs ?_
  refine J.p rfl rfl rfl rfl (Y.mv rfl) ?_
  refine J.r rfl rfl rfl rfl (Y.ldC 0 Try.underlying22 rfl rfl rfl rfl) ?_
  refine J.nilOwn 5 1 ?_
  obtain ⟨p13, H⟩ := gd_some H
  refine J.appL (enc := (Value.int .u8)) (xs := ([] : List Int)) (ys := t3) rfl Try.underlying22 ti5 rfl (by decide) rfl rfl (fun _ => rfl) (RdG.own 2 rfl) p13 (fun A11 c12 => ?_)
  refine J.p rfl rfl rfl rfl (Y.asg rfl) ?_
  refine J.nx ?_
  refine C.rs ?_
  refine J.p rfl rfl rfl rfl (Y.mv rfl) ?_
  refine J.p rfl rfl rfl rfl (Y.mv rfl) ?_
  obtain ⟨p17, H⟩ := gd_some H
  refine J.appL (enc := (Value.int .u8)) (xs := (([] : List Int) ++ t3)) (ys := a1) rfl Try.underlying22 ti5 rfl (by decide) rfl rfl (fun _ => rfl) (ha1.suf [_, _, _, _, _] rfl) p17 (fun A15 c16 => ?_)
  refine J.p rfl rfl rfl rfl (Y.asg rfl) ?_
  refine J.nx ?_
  refine C.rs ?_
  refine J.alloc (L := [.slice none 0 0]) rfl ti59 rfl (fun g19 => ?_)
  refine J.nx ?_
  refine C.rs ?_
  refine J.alloc (L := [.slice none 0 0]) rfl ti52 rfl (fun g21 => ?_)
  refine J.nx ?_
  refine C.rs ?_
  refine J.p rfl rfl rfl rfl (Y.mv rfl) ?_
  obtain ⟨t23, hC24, H⟩ := bind_some H
  refine J.call (us := []) (cap := []) rfl rfl rfl go25 (fun w hw => by have hcc := All.calls a1 Aa1 ca1 (ha1.suf [_, _, _, _, _, _, _] rfl) ka1 t23 hC24 w hw; exact hcc) (fun e w1 h1 => ?_)
  obtain ⟨g25, rfl, hw534⟩ := h1
  refine ⟨_, _, rfl, hw534, ?_⟩
  refine J.p rfl rfl rfl rfl (Y.asg rfl) ?_
  refine J.nx ?_
  refine C.rs ?_
  refine J.p rfl rfl rfl rfl (Y.mv rfl) ?_
  refine J.know (own_leL 3 rfl) (fun hc27 => ?_)
  obtain ⟨t28, hC29, H⟩ := bind_some H
  refine J.call (us := []) (cap := []) rfl rfl rfl go25 (fun w hw => by have hcc := All.calls ((([] : List Int) ++ t3) ++ a1) A15 c16 (RdG.own 3 rfl) hc27 t28 hC29 w hw; exact hcc) (fun e w1 h1 => ?_)
  obtain ⟨g30, rfl, hw533⟩ := h1
  refine ⟨_, _, rfl, hw533, ?_⟩
  refine J.p rfl rfl rfl rfl (Y.asg rfl) ?_
  refine J.nx ?_
  refine C.seq ?_
  refine C.rs ?_
  refine J.joinBD H (fun (o32 : Unit) (j33 : Unit) => [(0, .slice Aa0 a0.length ca0), (4, .pointer (some ⟨g1, 0, none⟩)), (5, .pointer (some ⟨g8, 0, none⟩)), (7, .pointer (some ⟨g19, 0, none⟩)), (8, .pointer (some ⟨g21, 0, none⟩)), (9, .func (.func 40) #[] #[.pointer (some ⟨g25, 0, none⟩)]), (10, .func (.func 40) #[] #[.pointer (some ⟨g30, 0, none⟩)]), (35, .bool false)]) (fun (o32 : Unit) (j33 : Unit) => cells g1 4 [.bool false] :: cells g8 22 [.slice A5 t3.length c6] :: cells g19 59 [.slice none 0 0] :: cells g21 52 [.slice none 0 0] :: cells g25 22 [.slice Aa1 a1.length ca1] :: cells g30 22 [.slice A15 ((([] : List Int) ++ t3) ++ a1).length c16] :: own 5 1 A5 c6 (t3.map (Value.int .u8)) :: own 5 1 A15 c16 (((([] : List Int) ++ t3) ++ a1).map (Value.int .u8)) :: G) (fun (o32 : Unit) (j33 : Unit) => True) (fun o35 H HK36 => ?_) (fun ds34 o32 j33 H _ => ?_)
  · refine J.p rfl rfl rfl rfl (Y.mv rfl) ?_
    refine J.p rfl rfl rfl rfl (Y.eqfn Try.underlying40 rfl rfl) ?_
    refine J.p rfl rfl rfl rfl (Y.mv rfl) ?_
    refine J.p rfl rfl rfl rfl (Y.mv rfl) ?_
    refine J.p rfl rfl rfl rfl (Y.eqfn Try.underlying40 rfl rfl) ?_
    refine J.p rfl rfl rfl rfl (Y.pickF rfl rfl) ?_
    refine J.nil ?_
    obtain rfl := Option.some.inj H
    exact N.meetD ((), ()) ⟨HK36, trivial⟩ (by exact ⟨rfl, rfl, rfl, rfl, rfl, rfl, rfl, rfl, trivial⟩) (by exact fun w h => (St.pick [8, 7, 5, 3, 2, 1, 0, 6, 4] [_, _, _, _, _, _, _, _, _] h rfl))
  · refine C.at (s' := [(0, .slice Aa0 a0.length ca0), (4, .pointer (some ⟨g1, 0, none⟩)), (5, .pointer (some ⟨g8, 0, none⟩)), (7, .pointer (some ⟨g19, 0, none⟩)), (8, .pointer (some ⟨g21, 0, none⟩)), (9, .func (.func 40) #[] #[.pointer (some ⟨g25, 0, none⟩)]), (10, .func (.func 40) #[] #[.pointer (some ⟨g30, 0, none⟩)]), (35, .bool false)]) (G' := dblks ds34 :: cells g1 4 [.bool false] :: cells g8 22 [.slice A5 t3.length c6] :: cells g19 59 [.slice none 0 0] :: cells g21 52 [.slice none 0 0] :: cells g25 22 [.slice Aa1 a1.length ca1] :: cells g30 22 [.slice A15 ((([] : List Int) ++ t3) ++ a1).length c16] :: own 5 1 A5 c6 (t3.map (Value.int .u8)) :: own 5 1 A15 c16 (((([] : List Int) ++ t3) ++ a1).map (Value.int .u8)) :: G) rfl rfl ?_
    refine C.condF rfl ?_
    refine C.skip ?_
    refine N.nx ?_
    refine C.rs ?_
    refine J.p rfl rfl rfl rfl (Y.asg rfl) ?_
    refine J.nx ?_
    refine C.seq ?_
    refine C.rs ?_
    refine J.p rfl rfl rfl rfl (Y.asg rfl) ?_
    refine J.nx ?_
    refine C.joinND H (fun (o95 : (List Int) × (List Int)) (j96 : (Option Addr) × Nat × (Option Addr) × Nat) => [(4, .pointer (some ⟨g1, 0, none⟩)), (5, .pointer (some ⟨g8, 0, none⟩)), (7, .pointer (some ⟨g19, 0, none⟩)), (8, .pointer (some ⟨g21, 0, none⟩)), (9, .func (.func 40) #[] #[.pointer (some ⟨g25, 0, none⟩)]), (10, .func (.func 40) #[] #[.pointer (some ⟨g30, 0, none⟩)])]) (fun (o95 : (List Int) × (List Int)) (j96 : (Option Addr) × Nat × (Option Addr) × Nat) => cells g1 4 [.bool false] :: cells g8 22 [.slice A5 t3.length c6] :: own 3 1 j96.1 j96.2.1 (o95.1.map (Value.int .i64)) :: cells g19 59 [.slice j96.1 o95.1.length j96.2.1] :: own 24 1 j96.2.2.1 j96.2.2.2 (o95.2.map (Value.int .u64)) :: cells g21 52 [.slice j96.2.2.1 o95.2.length j96.2.2.2] :: cells g25 22 [.slice Aa1 a1.length ca1] :: cells g30 22 [.slice A15 ((([] : List Int) ++ t3) ++ a1).length c16] :: own 5 1 A5 c6 (t3.map (Value.int .u8)) :: own 5 1 A15 c16 (((([] : List Int) ++ t3) ++ a1).map (Value.int .u8)) :: G) (fun (o95 : (List Int) × (List Int)) (j96 : (Option Addr) × Nat × (Option Addr) × Nat) => True) (fun o93 H HK94 => ?_) (fun ds99 o95 j96 H _ => ?_)
    · refine C.blk ?_
      refine C.loopD (fun (i : Nat × (Int × Int × (List Int) × (List Int)) × ((Option Addr) × Nat × (Option Addr) × Nat)) => [(0, .slice Aa0 a0.length ca0), (4, .pointer (some ⟨g1, 0, none⟩)), (5, .pointer (some ⟨g8, 0, none⟩)), (7, .pointer (some ⟨g19, 0, none⟩)), (8, .pointer (some ⟨g21, 0, none⟩)), (9, .func (.func 40) #[] #[.pointer (some ⟨g25, 0, none⟩)]), (10, .func (.func 40) #[] #[.pointer (some ⟨g30, 0, none⟩)]), (11, .int .i64 i.2.1.1), (12, .int .i64 i.2.1.2.1)]) (fun (i : Nat × (Int × Int × (List Int) × (List Int)) × ((Option Addr) × Nat × (Option Addr) × Nat)) => cells g1 4 [.bool false] :: cells g8 22 [.slice A5 t3.length c6] :: own 3 1 i.2.2.1 i.2.2.2.1 (i.2.1.2.2.1.map (Value.int .i64)) :: cells g19 59 [.slice i.2.2.1 i.2.1.2.2.1.length i.2.2.2.1] :: own 24 1 i.2.2.2.2.1 i.2.2.2.2.2 (i.2.1.2.2.2.map (Value.int .u64)) :: cells g21 52 [.slice i.2.2.2.2.1 i.2.1.2.2.2.length i.2.2.2.2.2] :: cells g25 22 [.slice Aa1 a1.length ca1] :: cells g30 22 [.slice A15 ((([] : List Int) ++ t3) ++ a1).length c16] :: own 5 1 A5 c6 (t3.map (Value.int .u8)) :: own 5 1 A15 c16 (((([] : List Int) ++ t3) ++ a1).map (Value.int .u8)) :: G) (fun (i : Nat × (Int × Int × (List Int) × (List Int)) × ((Option Addr) × Nat × (Option Addr) × Nat)) => VintSplit.l1 K a0 i.1 i.2.1 = some o93 ∧ (True)) (fun i => i.1) (K, (0, 0, ([] : List Int), ([] : List Int)), (none, 0, none, 0)) ⟨H, trivial⟩ (by exact ⟨rfl, rfl, rfl, rfl, rfl, rfl, rfl, rfl, rfl, trivial⟩) (by exact fun w h => (St.pick [2, 3, 4, 1, 5, 0, 6, 7, 8, 9, 10] [_, _, _, _, _, _, _, _, _, _, _] ((h.nilOwn 3 1).nilOwn 24 1) rfl)) ?_
      rintro ds161 ⟨k385, i157, j158⟩ ⟨H, _⟩
      replace H : VintSplit.l1 K a0 k385 i157 = some o93 := H
      obtain ⟨k156, rfl⟩ : ∃ m, k385 = m + 1 := by cases k385 with | zero => exact absurd H (by simp [VintSplit.l1]) | succ m => exact ⟨m, rfl⟩
      rw [VintSplit.l1] at H
      refine C.at (s' := [(0, .slice Aa0 a0.length ca0), (4, .pointer (some ⟨g1, 0, none⟩)), (5, .pointer (some ⟨g8, 0, none⟩)), (7, .pointer (some ⟨g19, 0, none⟩)), (8, .pointer (some ⟨g21, 0, none⟩)), (9, .func (.func 40) #[] #[.pointer (some ⟨g25, 0, none⟩)]), (10, .func (.func 40) #[] #[.pointer (some ⟨g30, 0, none⟩)]), (11, .int .i64 i157.1), (12, .int .i64 i157.2.1)]) (G' := dblks ds161 :: cells g1 4 [.bool false] :: cells g8 22 [.slice A5 t3.length c6] :: own 3 1 j158.1 j158.2.1 (i157.2.2.1.map (Value.int .i64)) :: cells g19 59 [.slice j158.1 i157.2.2.1.length j158.2.1] :: own 24 1 j158.2.2.1 j158.2.2.2 (i157.2.2.2.map (Value.int .u64)) :: cells g21 52 [.slice j158.2.2.1 i157.2.2.2.length j158.2.2.2] :: cells g25 22 [.slice Aa1 a1.length ca1] :: cells g30 22 [.slice A15 ((([] : List Int) ++ t3) ++ a1).length c16] :: own 5 1 A5 c6 (t3.map (Value.int .u8)) :: own 5 1 A15 c16 (((([] : List Int) ++ t3) ++ a1).map (Value.int .u8)) :: G) rfl rfl ?_
      refine C.seq ?_
      refine C.rs ?_
      refine J.p rfl rfl rfl rfl (Y.mv rfl) ?_
      refine J.p rfl rfl rfl rfl (Y.mv rfl) ?_
      refine J.p rfl rfl rfl rfl (Y.lenS Try.underlying52 rfl) ?_
      refine J.p rfl rfl rfl rfl (Y.bin rfl rfl rfl) ?_
      refine J.nx ?_
      refine split2 H (fun c164 H => ?_) (fun c164 H => ?_)
      · refine C.condT (congrArg (fun b => some (Value.bool b)) (decide_eq_true c164)) ?_
        refine C.skip ?_
        refine N.nx ?_
        refine C.seq ?_
        refine C.blk ?_
        refine C.rs ?_
        refine J.r rfl rfl rfl rfl (Y.ldC 4 Try.underlying59 rfl rfl rfl rfl) ?_
        refine J.p rfl rfl rfl rfl (Y.mv rfl) ?_
        refine J.bsL (enc := (Value.int .i64)) (xs := [i157.1]) rfl Try.underlying59 ti3 rfl rfl rfl rfl rfl (fun A165 => ?_)
        refine J.pull 4 rfl rfl ?_
        obtain ⟨p169, H⟩ := gd_some H
        refine J.appL (enc := (Value.int .i64)) (xs := i157.2.2.1) (ys := [i157.1]) rfl Try.underlying59 ti3 rfl (by decide) rfl rfl (fun _ => rfl) (RdG.own 1 rfl) p169 (fun A167 c168 => ?_)
        refine J.pull 1 rfl rfl (J.drop ?_)
        refine J.pull 4 rfl rfl ?_
        refine J.stE (L' := [.slice A167 (i157.2.2.1 ++ [i157.1]).length c168]) ti59 rfl rfl rfl rfl rfl ?_
        refine J.nx ?_
        refine C.seq ?_
        refine C.imp (G' := own 24 1 j158.2.2.1 j158.2.2.2 (i157.2.2.2.map (Value.int .u64)) :: cells g21 52 [.slice j158.2.2.1 i157.2.2.2.length j158.2.2.2] :: cells g19 59 [.slice A167 (i157.2.2.1 ++ [i157.1]).length c168] :: own 3 1 A167 c168 ((i157.2.2.1 ++ [i157.1]).map (Value.int .i64)) :: dblks ds161 :: cells g1 4 [.bool false] :: cells g8 22 [.slice A5 t3.length c6] :: cells g25 22 [.slice Aa1 a1.length ca1] :: cells g30 22 [.slice A15 ((([] : List Int) ++ t3) ++ a1).length c16] :: own 5 1 A5 c6 (t3.map (Value.int .u8)) :: own 5 1 A15 c16 (((([] : List Int) ++ t3) ++ a1).map (Value.int .u8)) :: G) (fun w h => (St.pick [5, 6, 0, 1, 2, 3, 4, 7, 8, 9, 10] [_, _, _, _, _, _, _, _, _, _, _] h rfl)) ?_
        refine C.drawn (fuel := 8) (ls := [false, false, false, false, false, false, false, false]) [] (cells g19 59 [.slice A167 (i157.2.2.1 ++ [i157.1]).length c168] :: own 3 1 A167 c168 ((i157.2.2.1 ++ [i157.1]).map (Value.int .i64)) :: dblks ds161 :: cells g1 4 [.bool false] :: cells g8 22 [.slice A5 t3.length c6] :: cells g25 22 [.slice Aa1 a1.length ca1] :: cells g30 22 [.slice A15 ((([] : List Int) ++ t3) ++ a1).length c16] :: own 5 1 A5 c6 (t3.map (Value.int .u8)) :: own 5 1 A15 c16 (((([] : List Int) ++ t3) ++ a1).map (Value.int .u8)) :: G) mx rfl rfl ?_
        refine D.p (ls' := [false, true, false, false, false, false, false, false]) 1 rfl rfl rfl rfl (by kernel_rfl) rfl (Y.mv rfl) ?_
        refine D.p (ls' := [false, true, true, false, false, false, false, false]) 2 rfl rfl rfl rfl (by kernel_rfl) rfl (Y.mv rfl) ?_
        obtain ⟨p173, H⟩ := gd_some H
        refine D.know ((ha0.suf [_, _, _, _, _, _, _, _, _, _, _] rfl).some_ (j := Int.toNat i157.2.1) (by rw [List.length_map]; exact idx_lt p173)) (fun hh => ?_)
        obtain ⟨a171, ha172⟩ := hh
        refine D.p (ls' := [false, true, true, true, false, false, false, false]) 3 rfl rfl rfl rfl (by kernel_rfl) rfl (Y.ixa Try.underlying52 ti24 rfl rfl p173 ha172) ?_
        obtain ⟨p174, H⟩ := gd_some H
        refine D.r (ls' := [false, true, true, true, true, false, false, false]) 4 1 2 rfl rfl rfl rfl (by kernel_rfl) (by kernel_rfl) rfl rfl (Y.ldE Try.underlying24 rfl rfl ha172 p174 (ha0.suf [_, _, _, _, _, _, _, _, _] rfl)) ?_
        obtain ⟨p179, H⟩ := gd_some H
        refine D.share (fun (i : (Option Addr) × Nat) => [(0, .slice Aa0 a0.length ca0), (4, .pointer (some ⟨g1, 0, none⟩)), (5, .pointer (some ⟨g8, 0, none⟩)), (7, .pointer (some ⟨g19, 0, none⟩)), (8, .pointer (some ⟨g21, 0, none⟩)), (9, .func (.func 40) #[] #[.pointer (some ⟨g25, 0, none⟩)]), (10, .func (.func 40) #[] #[.pointer (some ⟨g30, 0, none⟩)]), (11, .int .i64 i157.1), (12, .int .i64 i157.2.1)]) (fun (i : (Option Addr) × Nat) => cells g21 52 [.slice i.1 (i157.2.2.2 ++ [rd a0 i157.2.1]).length i.2] :: own 24 1 i.1 i.2 ((i157.2.2.2 ++ [rd a0 i157.2.1]).map (Value.int .u64)) :: cells g19 59 [.slice A167 (i157.2.2.1 ++ [i157.1]).length c168] :: own 3 1 A167 c168 ((i157.2.2.1 ++ [i157.1]).map (Value.int .i64)) :: dblks ds161 :: cells g1 4 [.bool false] :: cells g8 22 [.slice A5 t3.length c6] :: cells g25 22 [.slice Aa1 a1.length ca1] :: cells g30 22 [.slice A15 ((([] : List Int) ++ t3) ++ a1).length c16] :: own 5 1 A5 c6 (t3.map (Value.int .u8)) :: own 5 1 A15 c16 (((([] : List Int) ++ t3) ++ a1).map (Value.int .u8)) :: G) 0 [true, true, true, true, true, true, true, true] (fun i => ?_) (fun hD374 => ?_)
        · obtain ⟨A325, c326⟩ := i
          refine D.to (s' := [(0, .slice Aa0 a0.length ca0), (4, .pointer (some ⟨g1, 0, none⟩)), (5, .pointer (some ⟨g8, 0, none⟩)), (7, .pointer (some ⟨g19, 0, none⟩)), (8, .pointer (some ⟨g21, 0, none⟩)), (9, .func (.func 40) #[] #[.pointer (some ⟨g25, 0, none⟩)]), (10, .func (.func 40) #[] #[.pointer (some ⟨g30, 0, none⟩)]), (11, .int .i64 i157.1), (12, .int .i64 i157.2.1)]) (G' := cells g21 52 [.slice A325 (i157.2.2.2 ++ [rd a0 i157.2.1]).length c326] :: own 24 1 A325 c326 ((i157.2.2.2 ++ [rd a0 i157.2.1]).map (Value.int .u64)) :: cells g19 59 [.slice A167 (i157.2.2.1 ++ [i157.1]).length c168] :: own 3 1 A167 c168 ((i157.2.2.1 ++ [i157.1]).map (Value.int .i64)) :: dblks ds161 :: cells g1 4 [.bool false] :: cells g8 22 [.slice A5 t3.length c6] :: cells g25 22 [.slice Aa1 a1.length ca1] :: cells g30 22 [.slice A15 ((([] : List Int) ++ t3) ++ a1).length c16] :: own 5 1 A5 c6 (t3.map (Value.int .u8)) :: own 5 1 A15 c16 (((([] : List Int) ++ t3) ++ a1).map (Value.int .u8)) :: G) (by exact ⟨rfl, rfl, rfl, rfl, rfl, rfl, rfl, rfl, rfl, trivial⟩) (fun w h => h) ?_
          refine D.nil (by kernel_rfl) ?_
          refine N.nx ?_
          refine C.reg ?_
          refine J.p rfl rfl rfl rfl (Y.mv rfl) ?_
          refine J.p rfl rfl rfl rfl (Y.mv rfl) ?_
          refine J.p rfl rfl rfl rfl (Y.mv rfl) ?_
          obtain ⟨p375, H⟩ := gd_some H
          refine J.el rfl rfl rfl Try.underlying52 ti24 Try.underlying24 rfl rfl rfl p375 (ha0.suf [_, _, _, _, _, _, _, _, _, _, _] rfl) ?_
          refine J.bsL (enc := (Value.int .u64)) (xs := [rd a0 i157.2.1]) rfl Try.underlying52 ti24 rfl rfl rfl rfl rfl (fun A376 => ?_)
          obtain ⟨t378, hC379, H⟩ := bind_some H
          refine J.call (us := []) (cap := []) rfl rfl rfl go33 (fun w hw => by have hcc := Size.calls K [rd a0 i157.2.1] A376 1 (RdG.own 0 rfl) (show [rd a0 i157.2.1].length ≤ 1 from Nat.le_refl _) t378 hC379 w hw; exact hcc) (fun e w1 h1 => ?_)
          obtain ⟨rfl, hw380⟩ := h1
          refine ⟨_, _, rfl, hw380, ?_⟩
          refine J.p rfl rfl rfl rfl (Y.bin rfl rfl rfl) ?_
          refine J.p rfl rfl rfl rfl (Y.asg rfl) ?_
          refine J.nil ?_
          refine N.ib ?_
          refine N.nx ?_
          refine C.reg ?_
          refine J.p rfl rfl rfl rfl (Y.mv rfl) ?_
          refine J.p rfl rfl rfl rfl (Y.bin rfl rfl rfl) ?_
          refine J.p rfl rfl rfl rfl (Y.asg rfl) ?_
          refine J.nil ?_
          exact N.againD (k156, (IntKind.wrap .i64 (i157.1 + t378), IntKind.wrap .i64 (i157.2.1 + 1), (i157.2.2.1 ++ [i157.1]), (i157.2.2.2 ++ [rd a0 i157.2.1])), (A167, c168, A325, c326)) ⟨H, trivial⟩ (Nat.lt_succ_self _) (by exact ⟨rfl, rfl, rfl, rfl, rfl, rfl, rfl, rfl, rfl, trivial⟩) (by exact fun w h => (St.pick [5, 6, 7, 4, 3, 2, 1, 8, 9, 10, 11] [_, _, _, _, _, _, _, _, _, _, _, _] h rfl))
        refine D.share (fun (i : (Option Addr) × Nat) => [(0, .slice Aa0 a0.length ca0), (4, .pointer (some ⟨g1, 0, none⟩)), (5, .pointer (some ⟨g8, 0, none⟩)), (7, .pointer (some ⟨g19, 0, none⟩)), (8, .pointer (some ⟨g21, 0, none⟩)), (9, .func (.func 40) #[] #[.pointer (some ⟨g25, 0, none⟩)]), (10, .func (.func 40) #[] #[.pointer (some ⟨g30, 0, none⟩)]), (11, .int .i64 i157.1), (12, .int .i64 i157.2.1), (52, .slice i.1 (i157.2.2.2 ++ [rd a0 i157.2.1]).length i.2)]) (fun (i : (Option Addr) × Nat) => cells g21 52 [.slice j158.2.2.1 i157.2.2.2.length j158.2.2.2] :: own 24 1 i.1 i.2 ((i157.2.2.2 ++ [rd a0 i157.2.1]).map (Value.int .u64)) :: cells g19 59 [.slice A167 (i157.2.2.1 ++ [i157.1]).length c168] :: own 3 1 A167 c168 ((i157.2.2.1 ++ [i157.1]).map (Value.int .i64)) :: dblks ds161 :: cells g1 4 [.bool false] :: cells g8 22 [.slice A5 t3.length c6] :: cells g25 22 [.slice Aa1 a1.length ca1] :: cells g30 22 [.slice A15 ((([] : List Int) ++ t3) ++ a1).length c16] :: own 5 1 A5 c6 (t3.map (Value.int .u8)) :: own 5 1 A15 c16 (((([] : List Int) ++ t3) ++ a1).map (Value.int .u8)) :: G) 1 [true, true, true, true, true, true, true, false] (fun i => ?_) (fun hD381 => ?_)
        · obtain ⟨A325, c326⟩ := i
          refine D.to (s' := [(0, .slice Aa0 a0.length ca0), (4, .pointer (some ⟨g1, 0, none⟩)), (5, .pointer (some ⟨g8, 0, none⟩)), (7, .pointer (some ⟨g19, 0, none⟩)), (8, .pointer (some ⟨g21, 0, none⟩)), (9, .func (.func 40) #[] #[.pointer (some ⟨g25, 0, none⟩)]), (10, .func (.func 40) #[] #[.pointer (some ⟨g30, 0, none⟩)]), (11, .int .i64 i157.1), (12, .int .i64 i157.2.1), (52, .slice A325 (i157.2.2.2 ++ [rd a0 i157.2.1]).length c326)]) (G' := cells g21 52 [.slice j158.2.2.1 i157.2.2.2.length j158.2.2.2] :: own 24 1 A325 c326 ((i157.2.2.2 ++ [rd a0 i157.2.1]).map (Value.int .u64)) :: cells g19 59 [.slice A167 (i157.2.2.1 ++ [i157.1]).length c168] :: own 3 1 A167 c168 ((i157.2.2.1 ++ [i157.1]).map (Value.int .i64)) :: dblks ds161 :: cells g1 4 [.bool false] :: cells g8 22 [.slice A5 t3.length c6] :: cells g25 22 [.slice Aa1 a1.length ca1] :: cells g30 22 [.slice A15 ((([] : List Int) ++ t3) ++ a1).length c16] :: own 5 1 A5 c6 (t3.map (Value.int .u8)) :: own 5 1 A15 c16 (((([] : List Int) ++ t3) ++ a1).map (Value.int .u8)) :: G) (by exact ⟨rfl, rfl, rfl, rfl, rfl, rfl, rfl, rfl, rfl, rfl, trivial⟩) (fun w h => h) ?_
          refine D.any [7] (by kernel_rfl) rfl ⟨?_, trivial⟩
          refine DW.j (ls' := [true, true, true, true, true, true, true, true]) rfl rfl ?_
          refine J.stE (L' := [.slice A325 (i157.2.2.2 ++ [rd a0 i157.2.1]).length c326]) ti52 rfl rfl rfl rfl rfl ?_
          refine J.nil ?_
          refine D.backK 2 rfl ?_
          exact D.to (by exact ⟨rfl, rfl, rfl, rfl, rfl, rfl, rfl, rfl, rfl, trivial⟩) (fun w h => h) (hD374 (A325, c326))
        refine D.share (fun (i : (Option Addr)) => [(0, .slice Aa0 a0.length ca0), (4, .pointer (some ⟨g1, 0, none⟩)), (5, .pointer (some ⟨g8, 0, none⟩)), (7, .pointer (some ⟨g19, 0, none⟩)), (8, .pointer (some ⟨g21, 0, none⟩)), (9, .func (.func 40) #[] #[.pointer (some ⟨g25, 0, none⟩)]), (10, .func (.func 40) #[] #[.pointer (some ⟨g30, 0, none⟩)]), (11, .int .i64 i157.1), (12, .int .i64 i157.2.1), (46, .slice j158.2.2.1 i157.2.2.2.length j158.2.2.2), (51, .slice i [rd a0 i157.2.1].length 1)]) (fun (i : (Option Addr)) => cells g21 52 [.slice j158.2.2.1 i157.2.2.2.length j158.2.2.2] :: own 24 1 j158.2.2.1 j158.2.2.2 (i157.2.2.2.map (Value.int .u64)) :: own 24 1 i 1 ([rd a0 i157.2.1].map (Value.int .u64)) :: cells g19 59 [.slice A167 (i157.2.2.1 ++ [i157.1]).length c168] :: own 3 1 A167 c168 ((i157.2.2.1 ++ [i157.1]).map (Value.int .i64)) :: dblks ds161 :: cells g1 4 [.bool false] :: cells g8 22 [.slice A5 t3.length c6] :: cells g25 22 [.slice Aa1 a1.length ca1] :: cells g30 22 [.slice A15 ((([] : List Int) ++ t3) ++ a1).length c16] :: own 5 1 A5 c6 (t3.map (Value.int .u8)) :: own 5 1 A15 c16 (((([] : List Int) ++ t3) ++ a1).map (Value.int .u8)) :: G) 2 [true, true, true, true, true, true, false, false] (fun A301 => ?_) (fun hD382 => ?_)
        · refine D.to (s' := [(0, .slice Aa0 a0.length ca0), (4, .pointer (some ⟨g1, 0, none⟩)), (5, .pointer (some ⟨g8, 0, none⟩)), (7, .pointer (some ⟨g19, 0, none⟩)), (8, .pointer (some ⟨g21, 0, none⟩)), (9, .func (.func 40) #[] #[.pointer (some ⟨g25, 0, none⟩)]), (10, .func (.func 40) #[] #[.pointer (some ⟨g30, 0, none⟩)]), (11, .int .i64 i157.1), (12, .int .i64 i157.2.1), (46, .slice j158.2.2.1 i157.2.2.2.length j158.2.2.2), (51, .slice A301 [rd a0 i157.2.1].length 1)]) (G' := cells g21 52 [.slice j158.2.2.1 i157.2.2.2.length j158.2.2.2] :: own 24 1 j158.2.2.1 j158.2.2.2 (i157.2.2.2.map (Value.int .u64)) :: own 24 1 A301 1 ([rd a0 i157.2.1].map (Value.int .u64)) :: cells g19 59 [.slice A167 (i157.2.2.1 ++ [i157.1]).length c168] :: own 3 1 A167 c168 ((i157.2.2.1 ++ [i157.1]).map (Value.int .i64)) :: dblks ds161 :: cells g1 4 [.bool false] :: cells g8 22 [.slice A5 t3.length c6] :: cells g25 22 [.slice Aa1 a1.length ca1] :: cells g30 22 [.slice A15 ((([] : List Int) ++ t3) ++ a1).length c16] :: own 5 1 A5 c6 (t3.map (Value.int .u8)) :: own 5 1 A15 c16 (((([] : List Int) ++ t3) ++ a1).map (Value.int .u8)) :: G) (by exact ⟨rfl, rfl, rfl, rfl, rfl, rfl, rfl, rfl, rfl, rfl, rfl, trivial⟩) (fun w h => h) ?_
          refine D.any [6] (by kernel_rfl) rfl ⟨?_, trivial⟩
          refine DW.j (ls' := [true, true, true, true, true, true, true, false]) rfl rfl ?_
          refine J.pull 1 rfl rfl ?_
          refine J.appL (enc := (Value.int .u64)) (xs := i157.2.2.2) (ys := [rd a0 i157.2.1]) rfl Try.underlying52 ti24 rfl (by decide) rfl rfl (fun _ => rfl) (RdG.own 2 rfl) p179 (fun A325 c326 => ?_)
          refine J.pull 2 rfl rfl (J.drop ?_)
          refine J.nil ?_
          refine D.backK 2 rfl ?_
          exact D.to (by exact ⟨rfl, rfl, rfl, rfl, rfl, rfl, rfl, rfl, rfl, rfl, trivial⟩) (fun w h => (St.pick [1, 0, 2, 3, 4, 5, 6, 7, 8, 9, 10] [_, _, _, _, _, _, _, _, _, _, _] h rfl)) (hD381 (A325, c326))
        refine D.share (fun (i : Unit) => [(0, .slice Aa0 a0.length ca0), (4, .pointer (some ⟨g1, 0, none⟩)), (5, .pointer (some ⟨g8, 0, none⟩)), (7, .pointer (some ⟨g19, 0, none⟩)), (8, .pointer (some ⟨g21, 0, none⟩)), (9, .func (.func 40) #[] #[.pointer (some ⟨g25, 0, none⟩)]), (10, .func (.func 40) #[] #[.pointer (some ⟨g30, 0, none⟩)]), (11, .int .i64 i157.1), (12, .int .i64 i157.2.1), (46, .slice j158.2.2.1 i157.2.2.2.length j158.2.2.2), (50, .int .u64 (rd a0 i157.2.1))]) (fun (i : Unit) => cells g21 52 [.slice j158.2.2.1 i157.2.2.2.length j158.2.2.2] :: own 24 1 j158.2.2.1 j158.2.2.2 (i157.2.2.2.map (Value.int .u64)) :: cells g19 59 [.slice A167 (i157.2.2.1 ++ [i157.1]).length c168] :: own 3 1 A167 c168 ((i157.2.2.1 ++ [i157.1]).map (Value.int .i64)) :: dblks ds161 :: cells g1 4 [.bool false] :: cells g8 22 [.slice A5 t3.length c6] :: cells g25 22 [.slice Aa1 a1.length ca1] :: cells g30 22 [.slice A15 ((([] : List Int) ++ t3) ++ a1).length c16] :: own 5 1 A5 c6 (t3.map (Value.int .u8)) :: own 5 1 A15 c16 (((([] : List Int) ++ t3) ++ a1).map (Value.int .u8)) :: G) 3 [true, true, true, true, true, false, false, false] (fun i => ?_) (fun hD383 => ?_)
        · refine D.to (s' := [(0, .slice Aa0 a0.length ca0), (4, .pointer (some ⟨g1, 0, none⟩)), (5, .pointer (some ⟨g8, 0, none⟩)), (7, .pointer (some ⟨g19, 0, none⟩)), (8, .pointer (some ⟨g21, 0, none⟩)), (9, .func (.func 40) #[] #[.pointer (some ⟨g25, 0, none⟩)]), (10, .func (.func 40) #[] #[.pointer (some ⟨g30, 0, none⟩)]), (11, .int .i64 i157.1), (12, .int .i64 i157.2.1), (46, .slice j158.2.2.1 i157.2.2.2.length j158.2.2.2), (50, .int .u64 (rd a0 i157.2.1))]) (G' := cells g21 52 [.slice j158.2.2.1 i157.2.2.2.length j158.2.2.2] :: own 24 1 j158.2.2.1 j158.2.2.2 (i157.2.2.2.map (Value.int .u64)) :: cells g19 59 [.slice A167 (i157.2.2.1 ++ [i157.1]).length c168] :: own 3 1 A167 c168 ((i157.2.2.1 ++ [i157.1]).map (Value.int .i64)) :: dblks ds161 :: cells g1 4 [.bool false] :: cells g8 22 [.slice A5 t3.length c6] :: cells g25 22 [.slice Aa1 a1.length ca1] :: cells g30 22 [.slice A15 ((([] : List Int) ++ t3) ++ a1).length c16] :: own 5 1 A5 c6 (t3.map (Value.int .u8)) :: own 5 1 A15 c16 (((([] : List Int) ++ t3) ++ a1).map (Value.int .u8)) :: G) (by exact ⟨rfl, rfl, rfl, rfl, rfl, rfl, rfl, rfl, rfl, rfl, rfl, trivial⟩) (fun w h => h) ?_
          refine D.any [5] (by kernel_rfl) rfl ⟨?_, trivial⟩
          refine DW.j (ls' := [true, true, true, true, true, true, false, false]) rfl rfl ?_
          refine J.bsL (enc := (Value.int .u64)) (xs := [rd a0 i157.2.1]) rfl Try.underlying52 ti24 rfl rfl rfl rfl rfl (fun A301 => ?_)
          refine J.nil ?_
          refine D.backK 3 rfl ?_
          exact D.to (by exact ⟨rfl, rfl, rfl, rfl, rfl, rfl, rfl, rfl, rfl, rfl, rfl, trivial⟩) (fun w h => (St.pick [1, 2, 0, 3, 4, 5, 6, 7, 8, 9, 10, 11] [_, _, _, _, _, _, _, _, _, _, _, _] h rfl)) (hD382 A301)
        refine D.share (fun (i : (Option Addr)) => [(0, .slice Aa0 a0.length ca0), (4, .pointer (some ⟨g1, 0, none⟩)), (5, .pointer (some ⟨g8, 0, none⟩)), (7, .pointer (some ⟨g19, 0, none⟩)), (8, .pointer (some ⟨g21, 0, none⟩)), (9, .func (.func 40) #[] #[.pointer (some ⟨g25, 0, none⟩)]), (10, .func (.func 40) #[] #[.pointer (some ⟨g30, 0, none⟩)]), (11, .int .i64 i157.1), (12, .int .i64 i157.2.1), (51, .slice i [rd a0 i157.2.1].length 1)]) (fun (i : (Option Addr)) => cells g21 52 [.slice j158.2.2.1 i157.2.2.2.length j158.2.2.2] :: own 24 1 j158.2.2.1 j158.2.2.2 (i157.2.2.2.map (Value.int .u64)) :: own 24 1 i 1 ([rd a0 i157.2.1].map (Value.int .u64)) :: cells g19 59 [.slice A167 (i157.2.2.1 ++ [i157.1]).length c168] :: own 3 1 A167 c168 ((i157.2.2.1 ++ [i157.1]).map (Value.int .i64)) :: dblks ds161 :: cells g1 4 [.bool false] :: cells g8 22 [.slice A5 t3.length c6] :: cells g25 22 [.slice Aa1 a1.length ca1] :: cells g30 22 [.slice A15 ((([] : List Int) ++ t3) ++ a1).length c16] :: own 5 1 A5 c6 (t3.map (Value.int .u8)) :: own 5 1 A15 c16 (((([] : List Int) ++ t3) ++ a1).map (Value.int .u8)) :: G) 3 [false, true, true, true, true, true, false, false] (fun A301 => ?_) (fun hD384 => ?_)
        · refine D.to (s' := [(0, .slice Aa0 a0.length ca0), (4, .pointer (some ⟨g1, 0, none⟩)), (5, .pointer (some ⟨g8, 0, none⟩)), (7, .pointer (some ⟨g19, 0, none⟩)), (8, .pointer (some ⟨g21, 0, none⟩)), (9, .func (.func 40) #[] #[.pointer (some ⟨g25, 0, none⟩)]), (10, .func (.func 40) #[] #[.pointer (some ⟨g30, 0, none⟩)]), (11, .int .i64 i157.1), (12, .int .i64 i157.2.1), (51, .slice A301 [rd a0 i157.2.1].length 1)]) (G' := cells g21 52 [.slice j158.2.2.1 i157.2.2.2.length j158.2.2.2] :: own 24 1 j158.2.2.1 j158.2.2.2 (i157.2.2.2.map (Value.int .u64)) :: own 24 1 A301 1 ([rd a0 i157.2.1].map (Value.int .u64)) :: cells g19 59 [.slice A167 (i157.2.2.1 ++ [i157.1]).length c168] :: own 3 1 A167 c168 ((i157.2.2.1 ++ [i157.1]).map (Value.int .i64)) :: dblks ds161 :: cells g1 4 [.bool false] :: cells g8 22 [.slice A5 t3.length c6] :: cells g25 22 [.slice Aa1 a1.length ca1] :: cells g30 22 [.slice A15 ((([] : List Int) ++ t3) ++ a1).length c16] :: own 5 1 A5 c6 (t3.map (Value.int .u8)) :: own 5 1 A15 c16 (((([] : List Int) ++ t3) ++ a1).map (Value.int .u8)) :: G) (by exact ⟨rfl, rfl, rfl, rfl, rfl, rfl, rfl, rfl, rfl, rfl, trivial⟩) (fun w h => h) ?_
          refine D.any [0] (by kernel_rfl) rfl ⟨?_, trivial⟩
          refine DW.j (ls' := [true, true, true, true, true, true, false, false]) rfl rfl ?_
          refine J.r rfl rfl rfl rfl (Y.ldC 0 Try.underlying52 rfl rfl rfl rfl) ?_
          refine J.nil ?_
          refine D.backK 3 rfl ?_
          exact D.to (by exact ⟨rfl, rfl, rfl, rfl, rfl, rfl, rfl, rfl, rfl, rfl, rfl, trivial⟩) (fun w h => h) (hD382 A301)
        refine D.any [0, 5] (by kernel_rfl) rfl ⟨?_, ?_, trivial⟩
        · refine DW.j (ls' := [true, true, true, true, true, false, false, false]) rfl rfl ?_
          refine J.r rfl rfl rfl rfl (Y.ldC 1 Try.underlying52 rfl rfl rfl rfl) ?_
          refine J.nil ?_
          refine D.backK 2 rfl ?_
          exact D.to (by exact ⟨rfl, rfl, rfl, rfl, rfl, rfl, rfl, rfl, rfl, rfl, rfl, trivial⟩) (fun w h => (St.pick [1, 0, 2, 3, 4, 5, 6, 7, 8, 9, 10] [_, _, _, _, _, _, _, _, _, _, _] h rfl)) (hD383 ())
        · refine DW.j (ls' := [false, true, true, true, true, true, false, false]) rfl rfl ?_
          refine J.bsL (enc := (Value.int .u64)) (xs := [rd a0 i157.2.1]) rfl Try.underlying52 ti24 rfl rfl rfl rfl rfl (fun A301 => ?_)
          refine J.nil ?_
          refine D.backK 3 rfl ?_
          exact D.to (by exact ⟨rfl, rfl, rfl, rfl, rfl, rfl, rfl, rfl, rfl, rfl, trivial⟩) (fun w h => (St.pick [2, 1, 0, 3, 4, 5, 6, 7, 8, 9, 10, 11] [_, _, _, _, _, _, _, _, _, _, _, _] h rfl)) (hD384 A301)
      · refine C.condF (congrArg (fun b => some (Value.bool b)) (decide_eq_false c164)) ?_
        refine C.exit ?_
        refine X.th ?_
        refine X.th ?_
        refine X.hit ?_
        obtain rfl := Option.some.inj H
        exact N.meetD ((i157.2.2.1, i157.2.2.2), (j158.1, j158.2.1, j158.2.2.1, j158.2.2.2)) ⟨HK94, trivial⟩ (by exact ⟨rfl, rfl, rfl, rfl, rfl, rfl, trivial⟩) (by exact fun w h => h)
    · refine N.at (s' := [(4, .pointer (some ⟨g1, 0, none⟩)), (5, .pointer (some ⟨g8, 0, none⟩)), (7, .pointer (some ⟨g19, 0, none⟩)), (8, .pointer (some ⟨g21, 0, none⟩)), (9, .func (.func 40) #[] #[.pointer (some ⟨g25, 0, none⟩)]), (10, .func (.func 40) #[] #[.pointer (some ⟨g30, 0, none⟩)])]) (G' := dblks ds99 :: cells g1 4 [.bool false] :: cells g8 22 [.slice A5 t3.length c6] :: own 3 1 j96.1 j96.2.1 (o95.1.map (Value.int .i64)) :: cells g19 59 [.slice j96.1 o95.1.length j96.2.1] :: own 24 1 j96.2.2.1 j96.2.2.2 (o95.2.map (Value.int .u64)) :: cells g21 52 [.slice j96.2.2.1 o95.2.length j96.2.2.2] :: cells g25 22 [.slice Aa1 a1.length ca1] :: cells g30 22 [.slice A15 ((([] : List Int) ++ t3) ++ a1).length c16] :: own 5 1 A5 c6 (t3.map (Value.int .u8)) :: own 5 1 A15 c16 (((([] : List Int) ++ t3) ++ a1).map (Value.int .u8)) :: G) rfl rfl ?_
      refine N.nx ?_
      refine C.seq ?_
      refine C.rs ?_
      refine J.p rfl rfl rfl rfl (Y.mv rfl) ?_
      refine J.nx ?_
      refine C.blk ?_
      refine C.sub (s' := [(4, .pointer (some ⟨g1, 0, none⟩)), (5, .pointer (some ⟨g8, 0, none⟩)), (7, .pointer (some ⟨g19, 0, none⟩)), (8, .pointer (some ⟨g21, 0, none⟩)), (10, .func (.func 40) #[] #[.pointer (some ⟨g30, 0, none⟩)]), (61, .func (.func 40) #[] #[.pointer (some ⟨g25, 0, none⟩)])]) (by exact ⟨rfl, rfl, rfl, rfl, rfl, rfl, trivial⟩) ?_
      refine C.know (own_leL 10 rfl) (fun hc431 => ?_)
      refine C.know (own_leL 9 rfl) (fun hc435 => ?_)
      have hkey : ∀ Gx, Gx = (cells g1 4 [.bool false] :: cells g25 22 [.slice Aa1 a1.length ca1] :: cells g30 22 [.slice A15 ((([] : List Int) ++ t3) ++ a1).length c16] :: own 5 1 A5 c6 (t3.map (Value.int .u8)) :: own 5 1 A15 c16 (((([] : List Int) ++ t3) ++ a1).map (Value.int .u8)) :: G) → RdG B w0 Gx (some ⟨g1, 0, none⟩) [.bool false] ∧ RdG B w0 Gx (some ⟨g30, 0, none⟩) [.slice A15 ((([] : List Int) ++ t3) ++ a1).length c16] ∧ RdG B w0 Gx A15 (((([] : List Int) ++ t3) ++ a1).map (Value.int .u8)) ∧ RdG B w0 Gx (some ⟨g25, 0, none⟩) [.slice Aa1 a1.length ca1] ∧ RdG B w0 Gx Aa1 (a1.map (Value.int .u8)) ∧ RdG B w0 Gx A5 (t3.map (Value.int .u8)) ∧ True := by rintro _ rfl; exact ⟨(RdG.cells 0 rfl), (RdG.cells 2 rfl), (RdG.own 4 rfl), (RdG.cells 1 rfl), (ha1.suf [_, _, _, _, _] rfl), (RdG.own 3 rfl), trivial⟩
      obtain ⟨hb428, hb429, hb430, hb432, hb433, hb434, _⟩ := hkey _ rfl
      obtain ⟨t423, hC424, H⟩ := bind_some H
      refine C.rangeF' (E := Empty) (Gb := cells g1 4 [.bool false] :: cells g25 22 [.slice Aa1 a1.length ca1] :: cells g30 22 [.slice A15 ((([] : List Int) ++ t3) ++ a1).length c16] :: own 5 1 A5 c6 (t3.map (Value.int .u8)) :: own 5 1 A15 c16 (((([] : List Int) ++ t3) ++ a1).map (Value.int .u8)) :: G) (caps := [.pointer (some ⟨g25, 0, none⟩)]) encY67 (fun (i418 : (List Int) × (List Int)) (j419 : (Option Addr) × Nat × (Option Addr) × Nat) => [cells g8 22 [.slice A5 t3.length c6], own 3 1 j419.1 j419.2.1 (i418.1.map (Value.int .i64)), cells g19 59 [.slice j419.1 i418.1.length j419.2.1], own 24 1 j419.2.2.1 j419.2.2.2 (i418.2.map (Value.int .u64)), cells g21 52 [.slice j419.2.2.1 i418.2.length j419.2.2.2]]) (fun (i418 : (List Int) × (List Int)) (j419 : (Option Addr) × Nat × (Option Addr) × Nat) => True) (fun (e : Empty) (k : Unit) => e.elim) (fun (e : Empty) (k : Unit) => e.elim) (fun (e : Empty) => e.elim) (fun (x425 : Int × Int) (z448 : Unit) => []) (fun (x425 : Int × Int) (z448 : Unit) => [(4, .pointer (some ⟨g1, 0, none⟩)), (5, .pointer (some ⟨g8, 0, none⟩)), (7, .pointer (some ⟨g19, 0, none⟩)), (8, .pointer (some ⟨g21, 0, none⟩)), (10, .func (.func 40) #[] #[.pointer (some ⟨g30, 0, none⟩)]), (13, .int .i64 x425.1), (14, .int .u64 x425.2), (61, .func (.func 40) #[] #[.pointer (some ⟨g25, 0, none⟩)]), (62, .int .i64 x425.1), (63, .int .u64 x425.2)]) _ (o95.1, o95.2) (j96.1, j96.2.1, j96.2.2.1, j96.2.2.2) t423 rfl go40 (fun _ => rfl) (by rfl) (by decide) (pf_of rfl) trivial (fun w h => (St.pick [0, 2, 3, 4, 5, 6, 1, 7, 8, 9, 10] [_, _, _, _, _, _, _, _, _, _, _] h rfl)) (fun Yy yv hy w hw => AllF.calls K _ _ a1 Yy yv g25 Aa1 ca1 hy (ha1.suf [_, _, _, _, _] rfl) ka1 (RdG.cells 1 rfl) _ hC424 w hw) (fun l i418 j419 x425 L426 _ => ?_) (fun l i418 j419 x425 z448 o L426 G hGG H _ hl427 => ?_) (fun ds422 i418 j419 hr _ => ?_) (fun ds422 e k hr hx => ?_)
      · refine C.sub (s' := [(4, .pointer (some ⟨g1, 0, none⟩)), (5, .pointer (some ⟨g8, 0, none⟩)), (7, .pointer (some ⟨g19, 0, none⟩)), (8, .pointer (some ⟨g21, 0, none⟩)), (10, .func (.func 40) #[] #[.pointer (some ⟨g30, 0, none⟩)]), (61, .func (.func 40) #[] #[.pointer (some ⟨g25, 0, none⟩)]), (62, .int .i64 x425.1), (63, .int .u64 x425.2)]) (by exact ⟨rfl, rfl, rfl, rfl, rfl, rfl, rfl, rfl, trivial⟩) ?_
        refine C.rs ?_
        refine J.p rfl rfl rfl rfl (Y.asg rfl) ?_
        refine J.nx ?_
        refine C.reg ?_
        refine J.p rfl rfl rfl rfl (Y.asg rfl) ?_
        refine J.nil ?_
        exact N.asg () (by exact ⟨rfl, rfl, rfl, rfl, rfl, rfl, rfl, rfl, rfl, rfl, trivial⟩) (fun w h => h)
      · replace hb428 := RdG.suf hb428 L426 hGG
        replace hb429 := RdG.suf hb429 L426 hGG
        replace hb430 := RdG.suf hb430 L426 hGG
        replace hb432 := RdG.suf hb432 L426 hGG
        replace hb433 := RdG.suf hb433 L426 hGG
        replace hb434 := RdG.suf hb434 L426 hGG
        refine C.at (s' := [(4, .pointer (some ⟨g1, 0, none⟩)), (5, .pointer (some ⟨g8, 0, none⟩)), (7, .pointer (some ⟨g19, 0, none⟩)), (8, .pointer (some ⟨g21, 0, none⟩)), (10, .func (.func 40) #[] #[.pointer (some ⟨g30, 0, none⟩)]), (13, .int .i64 x425.1), (14, .int .u64 x425.2), (61, .func (.func 40) #[] #[.pointer (some ⟨g25, 0, none⟩)]), (62, .int .i64 x425.1), (63, .int .u64 x425.2)]) (G' := cells g8 22 [.slice A5 t3.length c6] :: own 3 1 j419.1 j419.2.1 (i418.1.map (Value.int .i64)) :: cells g19 59 [.slice j419.1 i418.1.length j419.2.1] :: own 24 1 j419.2.2.1 j419.2.2.2 (i418.2.map (Value.int .u64)) :: cells g21 52 [.slice j419.2.2.1 i418.2.length j419.2.2.2] :: G) rfl rfl ?_
        refine C.blk ?_
        refine C.rs ?_
        refine J.r rfl rfl rfl rfl (Y.ldC 2 Try.underlying59 rfl rfl rfl rfl) ?_
        refine J.r rfl rfl rfl rfl (Y.ldC 0 Try.underlying22 rfl rfl rfl rfl) ?_
        refine J.p rfl rfl rfl rfl (Y.lenS Try.underlying22 rfl) ?_
        refine J.p rfl rfl rfl rfl (Y.mv rfl) ?_
        refine J.p rfl rfl rfl rfl (Y.bin rfl rfl rfl) ?_
        refine J.bsL (enc := (Value.int .i64)) (xs := [IntKind.wrap .i64 ((t3.length : Int) + x425.1)]) rfl Try.underlying59 ti3 rfl rfl rfl rfl rfl (fun A436 => ?_)
        refine J.pull 2 rfl rfl ?_
        obtain ⟨p440, H⟩ := gd_some H
        refine J.appL (enc := (Value.int .i64)) (xs := i418.1) (ys := [IntKind.wrap .i64 ((t3.length : Int) + x425.1)]) rfl Try.underlying59 ti3 rfl (by decide) rfl rfl (fun _ => rfl) (RdG.own 1 rfl) p440 (fun A438 c439 => ?_)
        refine J.pull 1 rfl rfl (J.drop ?_)
        refine J.pull 2 rfl rfl ?_
        refine J.stE (L' := [.slice A438 (i418.1 ++ [IntKind.wrap .i64 ((t3.length : Int) + x425.1)]).length c439]) ti59 rfl rfl rfl rfl rfl ?_
        refine J.nx ?_
        refine C.reg ?_
        refine J.r rfl rfl rfl rfl (Y.ldC 4 Try.underlying52 rfl rfl rfl rfl) ?_
        refine J.p rfl rfl rfl rfl (Y.mv rfl) ?_
        refine J.bsL (enc := (Value.int .u64)) (xs := [x425.2]) rfl Try.underlying52 ti24 rfl rfl rfl rfl rfl (fun A442 => ?_)
        refine J.pull 4 rfl rfl ?_
        obtain ⟨p446, H⟩ := gd_some H
        refine J.appL (enc := (Value.int .u64)) (xs := i418.2) (ys := [x425.2]) rfl Try.underlying52 ti24 rfl (by decide) rfl rfl (fun _ => rfl) (RdG.own 1 rfl) p446 (fun A444 c445 => ?_)
        refine J.pull 1 rfl rfl (J.drop ?_)
        refine J.pull 4 rfl rfl ?_
        refine J.stE (L' := [.slice A444 (i418.2 ++ [x425.2]).length c445]) ti52 rfl rfl rfl rfl rfl ?_
        refine J.nil ?_
        refine N.ib ?_
        obtain rfl := Option.some.inj H
        exact N.round ((i418.1 ++ [IntKind.wrap .i64 ((t3.length : Int) + x425.1)]), (i418.2 ++ [x425.2])) (A438, c439, A444, c445) rfl trivial (by exact fun w h => (St.pick [4, 3, 2, 1, 0] [_, _, _, _, _] h rfl))
      · subst hr
        replace H := ysel_inl H
        refine N.at (s' := [(4, .pointer (some ⟨g1, 0, none⟩)), (5, .pointer (some ⟨g8, 0, none⟩)), (7, .pointer (some ⟨g19, 0, none⟩)), (8, .pointer (some ⟨g21, 0, none⟩)), (10, .func (.func 40) #[] #[.pointer (some ⟨g30, 0, none⟩)]), (61, .func (.func 40) #[] #[.pointer (some ⟨g25, 0, none⟩)])]) (G' := dblks ds422 :: cells g8 22 [.slice A5 t3.length c6] :: own 3 1 j419.1 j419.2.1 (i418.1.map (Value.int .i64)) :: cells g19 59 [.slice j419.1 i418.1.length j419.2.1] :: own 24 1 j419.2.2.1 j419.2.2.2 (i418.2.map (Value.int .u64)) :: cells g21 52 [.slice j419.2.2.1 i418.2.length j419.2.2.2] :: cells g1 4 [.bool false] :: cells g25 22 [.slice Aa1 a1.length ca1] :: cells g30 22 [.slice A15 ((([] : List Int) ++ t3) ++ a1).length c16] :: own 5 1 A5 c6 (t3.map (Value.int .u8)) :: own 5 1 A15 c16 (((([] : List Int) ++ t3) ++ a1).map (Value.int .u8)) :: G) rfl rfl ?_
        refine N.ib ?_
        refine N.nx ?_
        refine C.rs ?_
        refine J.alloc (L := [.int .i64 0]) rfl ti3 rfl (fun g449 => ?_)
        refine J.stE (L' := [.int .i64 0]) ti3 rfl rfl rfl rfl rfl ?_
        refine J.nx ?_
        refine C.seq ?_
        refine C.rs ?_
        refine J.p rfl rfl rfl rfl (Y.mv rfl) ?_
        refine J.nx ?_
        refine C.blk ?_
        refine C.sub (s' := [(4, .pointer (some ⟨g1, 0, none⟩)), (7, .pointer (some ⟨g19, 0, none⟩)), (8, .pointer (some ⟨g21, 0, none⟩)), (15, .pointer (some ⟨g449, 0, none⟩)), (75, .func (.func 40) #[] #[.pointer (some ⟨g30, 0, none⟩)])]) (by exact ⟨rfl, rfl, rfl, rfl, rfl, trivial⟩) ?_
        refine C.know (own_leL 11 rfl) (fun hc488 => ?_)
        refine C.know (own_leL 11 rfl) (fun hc496 => ?_)
        refine C.know (own_leL 10 rfl) (fun hc498 => ?_)
        refine C.know (own_leL 3 rfl) (fun hc500 => ?_)
        refine C.know (own_leL 5 rfl) (fun hc502 => ?_)
        have hkey : ∀ Gx, Gx = (own 3 1 j419.1 j419.2.1 (i418.1.map (Value.int .i64)) :: own 24 1 j419.2.2.1 j419.2.2.2 (i418.2.map (Value.int .u64)) :: cells g25 22 [.slice Aa1 a1.length ca1] :: cells g30 22 [.slice A15 ((([] : List Int) ++ t3) ++ a1).length c16] :: own 5 1 A5 c6 (t3.map (Value.int .u8)) :: own 5 1 A15 c16 (((([] : List Int) ++ t3) ++ a1).map (Value.int .u8)) :: G) → RdG B w0 Gx (some ⟨g30, 0, none⟩) [.slice A15 ((([] : List Int) ++ t3) ++ a1).length c16] ∧ RdG B w0 Gx A15 (((([] : List Int) ++ t3) ++ a1).map (Value.int .u8)) ∧ RdG B w0 Gx A5 (t3.map (Value.int .u8)) ∧ RdG B w0 Gx j419.1 (i418.1.map (Value.int .i64)) ∧ RdG B w0 Gx j419.2.2.1 (i418.2.map (Value.int .u64)) ∧ True := by rintro _ rfl; exact ⟨(RdG.cells 3 rfl), (RdG.own 5 rfl), (RdG.own 4 rfl), (RdG.own 0 rfl), (RdG.own 1 rfl), trivial⟩
        obtain ⟨hb494, hb495, hb497, hb499, hb501, _⟩ := hkey _ rfl
        obtain ⟨t489, hC490, H⟩ := bind_some H
        refine C.rangeF' (E := Int) (Gb := own 3 1 j419.1 j419.2.1 (i418.1.map (Value.int .i64)) :: own 24 1 j419.2.2.1 j419.2.2.2 (i418.2.map (Value.int .u64)) :: cells g25 22 [.slice Aa1 a1.length ca1] :: cells g30 22 [.slice A15 ((([] : List Int) ++ t3) ++ a1).length c16] :: own 5 1 A5 c6 (t3.map (Value.int .u8)) :: own 5 1 A15 c16 (((([] : List Int) ++ t3) ++ a1).map (Value.int .u8)) :: G) (caps := [.pointer (some ⟨g30, 0, none⟩)]) encY67 (fun (i483 : Int) (j484 : Unit) => [cells g449 3 [.int .i64 i483], cells g8 22 [.slice A5 t3.length c6], cells g19 59 [.slice j419.1 i418.1.length j419.2.1], cells g21 52 [.slice j419.2.2.1 i418.2.length j419.2.2.2], cells g1 4 [.bool false]]) (fun (i483 : Int) (j484 : Unit) => True) (fun (e486 : Int) (k487 : Unit) => [cells g1 4 [.bool false], cells g19 59 [.slice j419.1 i418.1.length j419.2.1], cells g21 52 [.slice j419.2.2.1 i418.2.length j419.2.2.2], cells g449 3 [.int .i64 e486], cells g8 22 [.slice A5 t3.length c6]]) (fun (e486 : Int) (k487 : Unit) => True) (fun (_ : Int) => .ret) (fun (x491 : Int × Int) (z528 : Unit) => []) (fun (x491 : Int × Int) (z528 : Unit) => [(4, .pointer (some ⟨g1, 0, none⟩)), (7, .pointer (some ⟨g19, 0, none⟩)), (8, .pointer (some ⟨g21, 0, none⟩)), (15, .pointer (some ⟨g449, 0, none⟩)), (16, .int .i64 x491.1), (17, .int .u64 x491.2), (75, .func (.func 40) #[] #[.pointer (some ⟨g30, 0, none⟩)]), (76, .int .i64 x491.1), (77, .int .u64 x491.2)]) _ 0 () t489 rfl go40 (fun _ => rfl) (by rfl) (by decide) (pf_of rfl) trivial (fun w h => (St.pick [1, 0, 2, 4, 6, 7, 3, 5, 8, 9, 10, 11] [_, _, _, _, _, _, _, _, _, _, _, _] h rfl)) (fun Yy yv hy w hw => AllF.calls K _ _ ((([] : List Int) ++ t3) ++ a1) Yy yv g30 A15 c16 hy (RdG.own 5 rfl) hc488 (RdG.cells 3 rfl) _ hC490 w hw) (fun l i483 j484 x491 L492 _ => ?_) (fun l i483 j484 x491 z528 o L492 G hGG H _ hl493 => ?_) (fun ds485 i483 j484 hr _ => ?_) (fun ds485 e486 k487 hr hx => ?_)
        · refine C.sub (s' := [(4, .pointer (some ⟨g1, 0, none⟩)), (7, .pointer (some ⟨g19, 0, none⟩)), (8, .pointer (some ⟨g21, 0, none⟩)), (15, .pointer (some ⟨g449, 0, none⟩)), (75, .func (.func 40) #[] #[.pointer (some ⟨g30, 0, none⟩)]), (76, .int .i64 x491.1), (77, .int .u64 x491.2)]) (by exact ⟨rfl, rfl, rfl, rfl, rfl, rfl, rfl, trivial⟩) ?_
          refine C.rs ?_
          refine J.p rfl rfl rfl rfl (Y.asg rfl) ?_
          refine J.nx ?_
          refine C.reg ?_
          refine J.p rfl rfl rfl rfl (Y.asg rfl) ?_
          refine J.nil ?_
          exact N.asg () (by exact ⟨rfl, rfl, rfl, rfl, rfl, rfl, rfl, rfl, rfl, trivial⟩) (fun w h => h)
        · replace hb494 := RdG.suf hb494 L492 hGG
          replace hb495 := RdG.suf hb495 L492 hGG
          replace hb497 := RdG.suf hb497 L492 hGG
          replace hb499 := RdG.suf hb499 L492 hGG
          replace hb501 := RdG.suf hb501 L492 hGG
          refine C.at (s' := [(4, .pointer (some ⟨g1, 0, none⟩)), (7, .pointer (some ⟨g19, 0, none⟩)), (8, .pointer (some ⟨g21, 0, none⟩)), (15, .pointer (some ⟨g449, 0, none⟩)), (16, .int .i64 x491.1), (17, .int .u64 x491.2), (75, .func (.func 40) #[] #[.pointer (some ⟨g30, 0, none⟩)]), (76, .int .i64 x491.1), (77, .int .u64 x491.2)]) (G' := cells g449 3 [.int .i64 i483] :: cells g8 22 [.slice A5 t3.length c6] :: cells g19 59 [.slice j419.1 i418.1.length j419.2.1] :: cells g21 52 [.slice j419.2.2.1 i418.2.length j419.2.2.2] :: cells g1 4 [.bool false] :: G) rfl rfl ?_
          refine C.blk ?_
          refine C.seq ?_
          refine C.rs ?_
          refine J.joinB H (fun (o513 : Bool) (j514 : Unit) => [(4, .pointer (some ⟨g1, 0, none⟩)), (7, .pointer (some ⟨g19, 0, none⟩)), (8, .pointer (some ⟨g21, 0, none⟩)), (15, .pointer (some ⟨g449, 0, none⟩)), (75, .func (.func 40) #[] #[.pointer (some ⟨g30, 0, none⟩)]), (97, .bool o513)]) (fun (o513 : Bool) (j514 : Unit) => cells g1 4 [.bool false] :: cells g19 59 [.slice j419.1 i418.1.length j419.2.1] :: cells g21 52 [.slice j419.2.2.1 i418.2.length j419.2.2.2] :: cells g449 3 [.int .i64 i483] :: cells g8 22 [.slice A5 t3.length c6] :: G) (fun (o513 : Bool) (j514 : Unit) => True) (fun o515 H HK516 => ?_) (fun o513 j514 H _ => ?_)
          · refine J.r rfl rfl rfl rfl (Y.ldC 0 Try.underlying3 rfl rfl rfl rfl) ?_
            refine J.r rfl rfl rfl rfl (Y.ldC 2 Try.underlying59 rfl rfl rfl rfl) ?_
            refine J.p rfl rfl rfl rfl (Y.lenS Try.underlying59 rfl) ?_
            refine J.p rfl rfl rfl rfl (Y.bin rfl rfl rfl) ?_
            refine J.p rfl rfl rfl rfl (Y.mv rfl) ?_
            refine split2 H (fun c517 H => ?_) (fun c517 H => ?_)
            · refine J.as (k := 82) rfl (congrArg Value.bool (decide_eq_true c517)) ?_
              refine J.skip rfl rfl ?_
              refine J.skip rfl rfl ?_
              refine J.skip rfl rfl ?_
              refine J.skip rfl rfl ?_
              refine J.skip rfl rfl ?_
              refine J.skip rfl rfl ?_
              refine J.p rfl rfl rfl rfl (Y.pickT rfl rfl) ?_
              refine J.p rfl rfl rfl rfl (Y.mv rfl) ?_
              refine J.skip rfl rfl ?_
              refine J.skip rfl rfl ?_
              refine J.skip rfl rfl ?_
              refine J.skip rfl rfl ?_
              refine J.skip rfl rfl ?_
              refine J.skip rfl rfl ?_
              refine J.p rfl rfl rfl rfl (Y.pickT rfl rfl) ?_
              refine J.nil ?_
              obtain rfl := Option.some.inj H
              exact N.meet (true, ()) ⟨HK516, trivial⟩ (by exact ⟨rfl, rfl, rfl, rfl, rfl, rfl, trivial⟩) (by exact fun w h => (St.pick [4, 2, 3, 0, 1] [_, _, _, _, _] h rfl))
            · refine J.as (k := 82) rfl (congrArg Value.bool (decide_eq_false c517)) ?_
              refine J.r rfl rfl rfl rfl (Y.ldC 2 Try.underlying59 rfl rfl rfl rfl) ?_
              refine J.r rfl rfl rfl rfl (Y.ldC 0 Try.underlying3 rfl rfl rfl rfl) ?_
              obtain ⟨p520, H⟩ := gd_some H
              refine J.know ((hb499.suf [_, _, _, _, _] rfl).some_ (j := Int.toNat i483) (by rw [List.length_map]; exact idx_lt p520)) (fun hh => ?_)
              obtain ⟨a518, ha519⟩ := hh
              refine J.p rfl rfl rfl rfl (Y.ixa Try.underlying59 ti3 rfl rfl p520 ha519) ?_
              obtain ⟨p521, H⟩ := gd_some H
              refine J.r rfl rfl rfl rfl (Y.ldE Try.underlying3 rfl rfl ha519 p521 (hb499.suf [_, _, _, _, _] rfl)) ?_
              refine J.p rfl rfl rfl rfl (Y.mv rfl) ?_
              refine J.p rfl rfl rfl rfl (Y.bin rfl rfl rfl) ?_
              refine J.p rfl rfl rfl rfl (Y.pickF rfl rfl) ?_
              refine J.p rfl rfl rfl rfl (Y.mv rfl) ?_
              refine split2 H (fun c522 H => ?_) (fun c522 H => ?_)
              · refine J.as (k := 90) rfl (congrArg Value.bool (decide_eq_true c522)) ?_
                refine J.skip rfl rfl ?_
                refine J.skip rfl rfl ?_
                refine J.skip rfl rfl ?_
                refine J.skip rfl rfl ?_
                refine J.skip rfl rfl ?_
                refine J.skip rfl rfl ?_
                refine J.p rfl rfl rfl rfl (Y.pickT rfl rfl) ?_
                refine J.nil ?_
                obtain rfl := Option.some.inj H
                exact N.meet (true, ()) ⟨HK516, trivial⟩ (by exact ⟨rfl, rfl, rfl, rfl, rfl, rfl, trivial⟩) (by exact fun w h => (St.pick [4, 2, 3, 0, 1] [_, _, _, _, _] h rfl))
              · refine J.as (k := 90) rfl (congrArg Value.bool (decide_eq_false c522)) ?_
                refine J.r rfl rfl rfl rfl (Y.ldC 3 Try.underlying52 rfl rfl rfl rfl) ?_
                refine J.r rfl rfl rfl rfl (Y.ldC 0 Try.underlying3 rfl rfl rfl rfl) ?_
                obtain ⟨p525, H⟩ := gd_some H
                refine J.know ((hb501.suf [_, _, _, _, _] rfl).some_ (j := Int.toNat i483) (by rw [List.length_map]; exact idx_lt p525)) (fun hh => ?_)
                obtain ⟨a523, ha524⟩ := hh
                refine J.p rfl rfl rfl rfl (Y.ixa Try.underlying52 ti24 rfl rfl p525 ha524) ?_
                obtain ⟨p526, H⟩ := gd_some H
                refine J.r rfl rfl rfl rfl (Y.ldE Try.underlying24 rfl rfl ha524 p526 (hb501.suf [_, _, _, _, _] rfl)) ?_
                refine J.p rfl rfl rfl rfl (Y.mv rfl) ?_
                refine J.p rfl rfl rfl rfl (Y.bin rfl rfl rfl) ?_
                refine J.p rfl rfl rfl rfl (Y.pickF rfl rfl) ?_
                refine J.nil ?_
                obtain rfl := Option.some.inj H
                exact N.meet (decide ((rd i418.2 i483) ≠ x491.2), ()) ⟨HK516, trivial⟩ (by exact ⟨rfl, rfl, rfl, rfl, rfl, rfl, trivial⟩) (by exact fun w h => (St.pick [4, 2, 3, 0, 1] [_, _, _, _, _] h rfl))
          · refine C.at (s' := [(4, .pointer (some ⟨g1, 0, none⟩)), (7, .pointer (some ⟨g19, 0, none⟩)), (8, .pointer (some ⟨g21, 0, none⟩)), (15, .pointer (some ⟨g449, 0, none⟩)), (75, .func (.func 40) #[] #[.pointer (some ⟨g30, 0, none⟩)]), (97, .bool o513)]) (G' := cells g1 4 [.bool false] :: cells g19 59 [.slice j419.1 i418.1.length j419.2.1] :: cells g21 52 [.slice j419.2.2.1 i418.2.length j419.2.2.2] :: cells g449 3 [.int .i64 i483] :: cells g8 22 [.slice A5 t3.length c6] :: G) rfl rfl ?_
            refine split2 H (fun c527 H => ?_) (fun c527 H => ?_)
            · refine C.condT (congrArg (fun b => some (Value.bool b)) (c527)) ?_
              refine C.rs ?_
              refine J.stE (L' := [.bool false]) ti4 rfl rfl rfl rfl rfl ?_
              refine J.nx ?_
              refine C.ret ?_
              obtain rfl := Option.some.inj H
              refine T.th ?_
              refine T.ib ?_
              exact T.round i483 () rfl rfl trivial (by exact fun w h => h)
            · refine C.condF (congrArg (fun b => some (Value.bool b)) (nt c527)) ?_
              refine C.skip ?_
              refine N.nx ?_
              refine C.reg ?_
              refine J.r rfl rfl rfl rfl (Y.ldC 3 Try.underlying3 rfl rfl rfl rfl) ?_
              refine J.p rfl rfl rfl rfl (Y.bin rfl rfl rfl) ?_
              refine J.pull 3 rfl rfl ?_
              refine J.stE (L' := [.int .i64 (IntKind.wrap .i64 (i483 + 1))]) ti3 rfl rfl rfl rfl rfl ?_
              refine J.nil ?_
              refine N.ib ?_
              obtain rfl := Option.some.inj H
              exact N.round (IntKind.wrap .i64 (i483 + 1)) () rfl trivial (by exact fun w h => (St.pick [0, 4, 2, 3, 1] [_, _, _, _, _] h rfl))
        · subst hr
          replace H := ysel_inl H
          refine N.at (s' := [(4, .pointer (some ⟨g1, 0, none⟩)), (7, .pointer (some ⟨g19, 0, none⟩)), (8, .pointer (some ⟨g21, 0, none⟩)), (15, .pointer (some ⟨g449, 0, none⟩)), (75, .func (.func 40) #[] #[.pointer (some ⟨g30, 0, none⟩)])]) (G' := dblks ds485 :: cells g449 3 [.int .i64 i483] :: cells g8 22 [.slice A5 t3.length c6] :: cells g19 59 [.slice j419.1 i418.1.length j419.2.1] :: cells g21 52 [.slice j419.2.2.1 i418.2.length j419.2.2.2] :: cells g1 4 [.bool false] :: own 3 1 j419.1 j419.2.1 (i418.1.map (Value.int .i64)) :: own 24 1 j419.2.2.1 j419.2.2.2 (i418.2.map (Value.int .u64)) :: cells g25 22 [.slice Aa1 a1.length ca1] :: cells g30 22 [.slice A15 ((([] : List Int) ++ t3) ++ a1).length c16] :: own 5 1 A5 c6 (t3.map (Value.int .u8)) :: own 5 1 A15 c16 (((([] : List Int) ++ t3) ++ a1).map (Value.int .u8)) :: G) rfl rfl ?_
          refine N.ib ?_
          refine N.nx ?_
          refine C.rs ?_
          refine J.r rfl rfl rfl rfl (Y.ldC 1 Try.underlying3 rfl rfl rfl rfl) ?_
          refine J.r rfl rfl rfl rfl (Y.ldC 3 Try.underlying59 rfl rfl rfl rfl) ?_
          refine J.p rfl rfl rfl rfl (Y.lenS Try.underlying59 rfl) ?_
          refine J.p rfl rfl rfl rfl (Y.bin rfl rfl rfl) ?_
          refine J.p rfl rfl rfl rfl (Y.mv rfl) ?_
          refine split2 H (fun c529 H => ?_) (fun c529 H => ?_)
          · refine J.as (k := 104) rfl (congrArg Value.bool (decide_eq_true c529)) ?_
            refine J.want rfl ?_
            obtain ⟨t530, hC531, H⟩ := bind_some H
            refine J.call (us := []) (cap := []) rfl rfl rfl go19 (fun w hw => by have hcc := works.calls K t530 hC531 w hw; exact hcc) (fun e w1 h1 => ?_)
            obtain ⟨rfl, hw532⟩ := h1
            refine ⟨_, _, rfl, hw532, ?_⟩
            refine J.p rfl rfl rfl rfl (Y.pickT rfl rfl) ?_
            refine J.pull 5 rfl rfl ?_
            refine J.stE (L' := [.bool t530]) ti4 rfl rfl rfl rfl rfl ?_
            refine J.nx ?_
            refine C.ret ?_
            obtain rfl := Option.some.inj H
            exact ret_okM (cells g1 4 [.bool t530] :: cells g449 3 [.int .i64 i483] :: cells g8 22 [.slice A5 t3.length c6] :: cells g19 59 [.slice j419.1 i418.1.length j419.2.1] :: cells g21 52 [.slice j419.2.2.1 i418.2.length j419.2.2.2] :: own 3 1 j419.1 j419.2.1 (i418.1.map (Value.int .i64)) :: own 24 1 j419.2.2.1 j419.2.2.2 (i418.2.map (Value.int .u64)) :: cells g25 22 [.slice Aa1 a1.length ca1] :: cells g30 22 [.slice A15 ((([] : List Int) ++ t3) ++ a1).length c16] :: own 5 1 A5 c6 (t3.map (Value.int .u8)) :: own 5 1 A15 c16 (((([] : List Int) ++ t3) ++ a1).map (Value.int .u8)) :: G) (rvs := [.cell 4 4]) (vs := [.bool t530]) rfl ⟨RV.cell 0 Try.underlying4 rfl rfl rfl rfl, trivial⟩ (fun w h => (St.pick [1, 0, 2, 3, 4, 5, 6, 7, 8, 9, 10, 11] [_, _, _, _, _, _, _, _, _, _, _, _] h rfl)) (fun w h => ⟨rfl, (St.pick [] [_, _, _, _, _, _, _, _, _, _, _] h rfl)⟩)
          · refine J.as (k := 104) rfl (congrArg Value.bool (decide_eq_false c529)) ?_
            refine J.skip rfl rfl ?_
            refine J.p rfl rfl rfl rfl (Y.pickF rfl rfl) ?_
            refine J.pull 5 rfl rfl ?_
            refine J.stE (L' := [.bool false]) ti4 rfl rfl rfl rfl rfl ?_
            refine J.nx ?_
            refine C.ret ?_
            obtain rfl := Option.some.inj H
            exact ret_okM (cells g1 4 [.bool false] :: cells g449 3 [.int .i64 i483] :: cells g8 22 [.slice A5 t3.length c6] :: cells g19 59 [.slice j419.1 i418.1.length j419.2.1] :: cells g21 52 [.slice j419.2.2.1 i418.2.length j419.2.2.2] :: own 3 1 j419.1 j419.2.1 (i418.1.map (Value.int .i64)) :: own 24 1 j419.2.2.1 j419.2.2.2 (i418.2.map (Value.int .u64)) :: cells g25 22 [.slice Aa1 a1.length ca1] :: cells g30 22 [.slice A15 ((([] : List Int) ++ t3) ++ a1).length c16] :: own 5 1 A5 c6 (t3.map (Value.int .u8)) :: own 5 1 A15 c16 (((([] : List Int) ++ t3) ++ a1).map (Value.int .u8)) :: G) (rvs := [.cell 4 4]) (vs := [.bool false]) rfl ⟨RV.cell 0 Try.underlying4 rfl rfl rfl rfl, trivial⟩ (fun w h => (St.pick [1, 0, 2, 3, 4, 5, 6, 7, 8, 9, 10, 11] [_, _, _, _, _, _, _, _, _, _, _, _] h rfl)) (fun w h => ⟨rfl, (St.pick [] [_, _, _, _, _, _, _, _, _, _, _] h rfl)⟩)
        · subst hr
          replace H := ysel_inr H
          refine C.at (s' := [(4, .pointer (some ⟨g1, 0, none⟩)), (7, .pointer (some ⟨g19, 0, none⟩)), (8, .pointer (some ⟨g21, 0, none⟩)), (15, .pointer (some ⟨g449, 0, none⟩)), (75, .func (.func 40) #[] #[.pointer (some ⟨g30, 0, none⟩)])]) (G' := dblks ds485 :: cells g1 4 [.bool false] :: cells g19 59 [.slice j419.1 i418.1.length j419.2.1] :: cells g21 52 [.slice j419.2.2.1 i418.2.length j419.2.2.2] :: cells g449 3 [.int .i64 e486] :: cells g8 22 [.slice A5 t3.length c6] :: own 3 1 j419.1 j419.2.1 (i418.1.map (Value.int .i64)) :: own 24 1 j419.2.2.1 j419.2.2.2 (i418.2.map (Value.int .u64)) :: cells g25 22 [.slice Aa1 a1.length ca1] :: cells g30 22 [.slice A15 ((([] : List Int) ++ t3) ++ a1).length c16] :: own 5 1 A5 c6 (t3.map (Value.int .u8)) :: own 5 1 A15 c16 (((([] : List Int) ++ t3) ++ a1).map (Value.int .u8)) :: G) rfl rfl ?_
          refine C.ret ?_
          obtain rfl := Option.some.inj H
          refine T.ib ?_
          refine T.th ?_
          exact ret_okM (cells g1 4 [.bool false] :: cells g19 59 [.slice j419.1 i418.1.length j419.2.1] :: cells g21 52 [.slice j419.2.2.1 i418.2.length j419.2.2.2] :: cells g449 3 [.int .i64 e486] :: cells g8 22 [.slice A5 t3.length c6] :: own 3 1 j419.1 j419.2.1 (i418.1.map (Value.int .i64)) :: own 24 1 j419.2.2.1 j419.2.2.2 (i418.2.map (Value.int .u64)) :: cells g25 22 [.slice Aa1 a1.length ca1] :: cells g30 22 [.slice A15 ((([] : List Int) ++ t3) ++ a1).length c16] :: own 5 1 A5 c6 (t3.map (Value.int .u8)) :: own 5 1 A15 c16 (((([] : List Int) ++ t3) ++ a1).map (Value.int .u8)) :: G) (rvs := [.cell 4 4]) (vs := [.bool false]) rfl ⟨RV.cell 0 Try.underlying4 rfl rfl rfl rfl, trivial⟩ (fun w h => h) (fun w h => ⟨rfl, (St.pick [] [_, _, _, _, _, _, _, _, _, _, _] h rfl)⟩)
      · exact e.elim
/-! ### salvor/salvortop.TopNumbers: function 13 -/
def TopNumbers.l1 (t354 : (List Int) × Int) : Nat → (Int) → Option ((Bool) ⊕ (Unit))
  | 0, _ => none
  | k + 1, i411 => if i411 < 5 then (gd ((0 : Int) ≤ i411 ∧ i411 < (t354.1.length : Int)) (if 128 ≤ (rd t354.1 i411) then (some (.inl (false))) else (TopNumbers.l1 t354 k (IntKind.wrap .i64 (i411 + 1))))) else (some (.inr ()))
def TopNumbers.f (K : Nat) (a0 : List Int) : Option (Bool) := (Encode.f K [300]).bind fun t7 => (Encode.f K a0).bind fun t12 => (if (strOfNums t7) ≠ (⟨#[172, 2]⟩ : ByteArray) then (some true) else ((Size.f K a0).bind fun t27 => some (decide ((t12.length : Int) ≠ t27)))).bind fun o21 => if o21 = true then (some false) else ((All.f t12).bind fun t32 => (AllF.f K (fun (i82 : Int × Int) (x90 : Int × Int) => (if (a0.length : Int) ≤ i82.2 then (some true) else (if x90.1 ≠ i82.1 then (some true) else (gd ((0 : Int) ≤ i82.2 ∧ i82.2 < (a0.length : Int)) (gd ((0 : Int) ≤ i82.2 ∧ i82.2 < (a0.length : Int)) (some (decide (x90.2 ≠ (rd a0 i82.2)))))))).bind fun o104 => if o104 = true then (some (.inr (i82.2, i82.1))) else (gd ((0 : Int) ≤ i82.2 ∧ i82.2 < (a0.length : Int)) (gd ((0 : Int) ≤ i82.2 ∧ i82.2 < (a0.length : Int)) ((Size.f K [rd a0 i82.2]).bind fun t121 => some (.inl (IntKind.wrap .i64 (i82.1 + t121), IntKind.wrap .i64 (i82.2 + 1))))))) (0, 0) t12).bind fun t88 => ysel t88 (fun i82 => (Sum.f K [t12]).bind fun t352 => (Digits.f K (IntKind.wrap .u64 t352) 5).bind fun t354 => (if i82.2 ≠ (a0.length : Int) then (some true) else (if i82.1 ≠ (t12.length : Int) then (some true) else (if t354.2 ≠ 0 then (some true) else (some (decide ((t354.1.length : Int) ≠ 5)))))).bind fun o362 => if o362 = true then (some false) else ((joined.f t354.1 t12).bind fun t373 => (Number.f K t373 5).bind fun t379 => thn (TopNumbers.l1 t354 K 0) fun o395 => if t379.2 = 0 then (some (decide (t379.1 = (IntKind.wrap .u64 t352)))) else (some false))) (fun e85 => some false))
theorem TopNumbers.calls {B : Nat} {w0 : World} {G : List HP} (K : Nat) (a0 : List Int) (Aa0 : Option Addr) (ca0 : Nat) (ha0 : RdG B w0 G Aa0 (a0.map (Value.int .u64))) (ka0 : a0.length ≤ ca0) (r : Bool) (H : TopNumbers.f K a0 = some r) (w : World) (hw : St B w0 (G) w) :
    Calls Try.prog 13 [.slice Aa0 a0.length ca0].toArray w (fun e w' => e = .returned (.bool r) ∧ St B w0 (G) w') := by
  unfold TopNumbers.f at H
  refine calls_ofM (n := 115) (s := [(0, .slice Aa0 a0.length ca0)]) Try.func13 rfl rfl rfl rfl ?_ hw
  refine C.rs ?_
  refine J.box (L := [.slice Aa0 a0.length ca0]) rfl rfl rfl (fun g1 => ?_)
  refine J.alloc (L := [.bool false]) rfl ti4 rfl (fun g3 => ?_)
  refine J.nx ?_
  refine C.rs ?_
  refine J.bsL (enc := (Value.int .u64)) (xs := [300]) rfl Try.underlying52 ti24 rfl rfl rfl rfl rfl (fun A5 => ?_)
  obtain ⟨t7, hC8, H⟩ := bind_some H
  refine J.call (us := []) (cap := []) rfl rfl rfl go20 (fun w hw => by have hcc := Encode.calls K [300] A5 1 (RdG.own 0 rfl) (show [300].length ≤ 1 from Nat.le_refl _) t7 hC8 w hw; exact hcc) (fun e w1 h1 => ?_)
  obtain ⟨A9, c10, rfl, hw425⟩ := h1
  refine ⟨_, _, rfl, hw425, ?_⟩
  refine J.p rfl rfl rfl rfl (Y.asg rfl) ?_
  refine J.nx ?_
  refine C.rs ?_
  refine J.r rfl rfl rfl rfl (Y.ldC 3 Try.underlying52 rfl rfl rfl rfl) ?_
  obtain ⟨t12, hC13, H⟩ := bind_some H
  refine J.call (us := []) (cap := []) rfl rfl rfl go20 (fun w hw => by have hcc := Encode.calls K a0 Aa0 ca0 (ha0.suf [_, _, _, _, _] rfl) ka0 t12 hC13 w hw; exact hcc) (fun e w1 h1 => ?_)
  obtain ⟨A14, c15, rfl, hw424⟩ := h1
  refine ⟨_, _, rfl, hw424, ?_⟩
  refine J.p rfl rfl rfl rfl (Y.asg rfl) ?_
  refine J.nx ?_
  refine C.seq ?_
  refine C.rs ?_
  refine J.joinBD H (fun (o21 : Bool) (j22 : Unit) => [(1, .pointer (some ⟨g1, 0, none⟩)), (2, .pointer (some ⟨g3, 0, none⟩)), (4, .slice A14 t12.length c15), (29, .bool o21)]) (fun (o21 : Bool) (j22 : Unit) => cells g1 52 [.slice Aa0 a0.length ca0] :: cells g3 4 [.bool false] :: own 5 1 A14 c15 (t12.map (Value.int .u8)) :: G) (fun (o21 : Bool) (j22 : Unit) => True) (fun o24 H HK25 => ?_) (fun ds23 o21 j22 H _ => ?_)
  · refine J.p rfl rfl rfl rfl (Y.mv rfl) ?_
    refine J.r rfl rfl rfl rfl (Y.b2s Try.underlying22 Try.underlying5 Try.underlying9 rfl (RdG.own 1 rfl)) ?_
    refine J.p rfl rfl rfl rfl (Y.nes rfl rfl) ?_
    refine J.p rfl rfl rfl rfl (Y.mv rfl) ?_
    refine split2 H (fun c26 H => ?_) (fun c26 H => ?_)
    · refine J.as (k := 23) rfl (congrArg Value.bool (decide_eq_true c26)) ?_
      refine J.skip rfl rfl ?_
      refine J.skip rfl rfl ?_
      refine J.skip rfl rfl ?_
      refine J.skip rfl rfl ?_
      refine J.skip rfl rfl ?_
      refine J.p rfl rfl rfl rfl (Y.pickT rfl rfl) ?_
      refine J.nil ?_
      obtain rfl := Option.some.inj H
      exact N.meetD (true, ()) ⟨HK25, trivial⟩ (by exact ⟨rfl, rfl, rfl, rfl, trivial⟩) (by exact fun w h => (St.pick [5, 4, 3, 0] [_, _, _, _, _, _] h rfl))
    · refine J.as (k := 23) rfl (congrArg Value.bool (decide_eq_false c26)) ?_
      refine J.p rfl rfl rfl rfl (Y.mv rfl) ?_
      refine J.p rfl rfl rfl rfl (Y.lenS Try.underlying22 rfl) ?_
      refine J.r rfl rfl rfl rfl (Y.ldC 4 Try.underlying52 rfl rfl rfl rfl) ?_
      refine J.want rfl ?_
      obtain ⟨t27, hC28, H⟩ := bind_some H
      refine J.call (us := []) (cap := []) rfl rfl rfl go33 (fun w hw => by have hcc := Size.calls K a0 Aa0 ca0 (ha0.suf [_, _, _, _, _, _] rfl) ka0 t27 hC28 w hw; exact hcc) (fun e w1 h1 => ?_)
      obtain ⟨rfl, hw29⟩ := h1
      refine ⟨_, _, rfl, hw29, ?_⟩
      refine J.p rfl rfl rfl rfl (Y.bin rfl rfl rfl) ?_
      refine J.p rfl rfl rfl rfl (Y.pickF rfl rfl) ?_
      refine J.nil ?_
      obtain rfl := Option.some.inj H
      exact N.meetD (decide ((t12.length : Int) ≠ t27), ()) ⟨HK25, trivial⟩ (by exact ⟨rfl, rfl, rfl, rfl, trivial⟩) (by exact fun w h => (St.pick [5, 4, 3, 0] [_, _, _, _, _, _] h rfl))
  · refine C.at (s' := [(1, .pointer (some ⟨g1, 0, none⟩)), (2, .pointer (some ⟨g3, 0, none⟩)), (4, .slice A14 t12.length c15), (29, .bool o21)]) (G' := dblks ds23 :: cells g1 52 [.slice Aa0 a0.length ca0] :: cells g3 4 [.bool false] :: own 5 1 A14 c15 (t12.map (Value.int .u8)) :: G) rfl rfl ?_
    refine split2 H (fun c30 H => ?_) (fun c30 H => ?_)
    · refine C.condT (congrArg (fun b => some (Value.bool b)) (c30)) ?_
      refine C.rs ?_
      refine J.pull 2 rfl rfl ?_
      refine J.stE (L' := [.bool false]) ti4 rfl rfl rfl rfl rfl ?_
      refine J.nx ?_
      refine C.ret ?_
      obtain rfl := Option.some.inj H
      refine T.th ?_
      exact ret_okM (cells g3 4 [.bool false] :: cells g1 52 [.slice Aa0 a0.length ca0] :: own 5 1 A14 c15 (t12.map (Value.int .u8)) :: G) (rvs := [.cell 2 4]) (vs := [.bool false]) rfl ⟨RV.cell 0 Try.underlying4 rfl rfl rfl rfl, trivial⟩ (fun w h => (St.pick [1, 0, 2, 3] [_, _, _, _] h rfl)) (fun w h => ⟨rfl, (St.pick [] [_, _, _] h rfl)⟩)
    · refine C.condF (congrArg (fun b => some (Value.bool b)) (nt c30)) ?_
      refine C.skip ?_
      refine N.nx ?_
      refine C.rs ?_
      refine J.p rfl rfl rfl rfl (Y.mv rfl) ?_
      refine J.know (own_leL 3 rfl) (fun hc31 => ?_)
      obtain ⟨t32, hC33, H⟩ := bind_some H
      refine J.call (us := []) (cap := []) rfl rfl rfl go25 (fun w hw => by have hcc := All.calls t12 A14 c15 (RdG.own 3 rfl) hc31 t32 hC33 w hw; exact hcc) (fun e w1 h1 => ?_)
      obtain ⟨g34, rfl, hw423⟩ := h1
      refine ⟨_, _, rfl, hw423, ?_⟩
      refine J.p rfl rfl rfl rfl (Y.asg rfl) ?_
      refine J.nx ?_
      refine C.seq ?_
      refine C.rs ?_
      refine J.p rfl rfl rfl rfl (Y.mv rfl) ?_
      refine J.p rfl rfl rfl rfl (Y.eqfn Try.underlying40 rfl rfl) ?_
      refine J.nx ?_
      refine C.condF rfl ?_
      refine C.skip ?_
      refine N.nx ?_
      refine C.rs ?_
      refine J.alloc (L := [.int .i64 0]) rfl ti3 rfl (fun g36 => ?_)
      refine J.stE (L' := [.int .i64 0]) ti3 rfl rfl rfl rfl rfl ?_
      refine J.nx ?_
      refine C.rs ?_
      refine J.alloc (L := [.int .i64 0]) rfl ti3 rfl (fun g38 => ?_)
      refine J.stE (L' := [.int .i64 0]) ti3 rfl rfl rfl rfl rfl ?_
      refine J.nx ?_
      refine C.seq ?_
      refine C.rs ?_
      refine J.p rfl rfl rfl rfl (Y.mv rfl) ?_
      refine J.nx ?_
      refine C.blk ?_
      refine C.sub (s' := [(1, .pointer (some ⟨g1, 0, none⟩)), (2, .pointer (some ⟨g3, 0, none⟩)), (4, .slice A14 t12.length c15), (6, .pointer (some ⟨g36, 0, none⟩)), (7, .pointer (some ⟨g38, 0, none⟩)), (34, .func (.func 40) #[] #[.pointer (some ⟨g34, 0, none⟩)])]) (by exact ⟨rfl, rfl, rfl, rfl, rfl, rfl, trivial⟩) ?_
      refine C.know (own_leL 6 rfl) (fun hc87 => ?_)
      refine C.know (own_leL 6 rfl) (fun hc96 => ?_)
      have hkey : ∀ Gx, Gx = (cells g34 22 [.slice A14 t12.length c15] :: cells g1 52 [.slice Aa0 a0.length ca0] :: own 5 1 A14 c15 (t12.map (Value.int .u8)) :: G) → RdG B w0 Gx (some ⟨g1, 0, none⟩) [.slice Aa0 a0.length ca0] ∧ RdG B w0 Gx Aa0 (a0.map (Value.int .u64)) ∧ RdG B w0 Gx A14 (t12.map (Value.int .u8)) ∧ RdG B w0 Gx (some ⟨g34, 0, none⟩) [.slice A14 t12.length c15] ∧ True := by rintro _ rfl; exact ⟨(RdG.cells 1 rfl), (ha0.suf [_, _, _] rfl), (RdG.own 2 rfl), (RdG.cells 0 rfl), trivial⟩
      obtain ⟨hb93, hb94, hb95, hb97, _⟩ := hkey _ rfl
      obtain ⟨t88, hC89, H⟩ := bind_some H
      refine C.rangeF' (E := Int × Int) (Gb := cells g34 22 [.slice A14 t12.length c15] :: cells g1 52 [.slice Aa0 a0.length ca0] :: own 5 1 A14 c15 (t12.map (Value.int .u8)) :: G) (caps := [.pointer (some ⟨g34, 0, none⟩)]) encY67 (fun (i82 : Int × Int) (j83 : Unit) => [cells g38 3 [.int .i64 i82.1], cells g36 3 [.int .i64 i82.2], cells g3 4 [.bool false]]) (fun (i82 : Int × Int) (j83 : Unit) => True) (fun (e85 : Int × Int) (k86 : Unit) => [cells g3 4 [.bool false], cells g36 3 [.int .i64 e85.1], cells g38 3 [.int .i64 e85.2]]) (fun (e85 : Int × Int) (k86 : Unit) => True) (fun (_ : Int × Int) => .ret) (fun (x90 : Int × Int) (z347 : Unit) => []) (fun (x90 : Int × Int) (z347 : Unit) => [(1, .pointer (some ⟨g1, 0, none⟩)), (2, .pointer (some ⟨g3, 0, none⟩)), (4, .slice A14 t12.length c15), (6, .pointer (some ⟨g36, 0, none⟩)), (7, .pointer (some ⟨g38, 0, none⟩)), (8, .int .i64 x90.1), (9, .int .u64 x90.2), (34, .func (.func 40) #[] #[.pointer (some ⟨g34, 0, none⟩)]), (35, .int .i64 x90.1), (36, .int .u64 x90.2)]) _ (0, 0) () t88 rfl go40 (fun _ => rfl) (by rfl) (by decide) (pf_of rfl) trivial (fun w h => (St.pick [3, 0, 1, 5, 2, 4, 6] [_, _, _, _, _, _, _] h rfl)) (fun Yy yv hy w hw => AllF.calls K _ _ t12 Yy yv g34 A14 c15 hy (RdG.own 2 rfl) hc87 (RdG.cells 0 rfl) _ hC89 w hw) (fun l i82 j83 x90 L91 _ => ?_) (fun l i82 j83 x90 z347 o L91 G hGG H _ hl92 => ?_) (fun ds84 i82 j83 hr _ => ?_) (fun ds84 e85 k86 hr hx => ?_)
      · refine C.sub (s' := [(1, .pointer (some ⟨g1, 0, none⟩)), (2, .pointer (some ⟨g3, 0, none⟩)), (4, .slice A14 t12.length c15), (6, .pointer (some ⟨g36, 0, none⟩)), (7, .pointer (some ⟨g38, 0, none⟩)), (34, .func (.func 40) #[] #[.pointer (some ⟨g34, 0, none⟩)]), (35, .int .i64 x90.1), (36, .int .u64 x90.2)]) (by exact ⟨rfl, rfl, rfl, rfl, rfl, rfl, rfl, rfl, trivial⟩) ?_
        refine C.rs ?_
        refine J.p rfl rfl rfl rfl (Y.asg rfl) ?_
        refine J.nx ?_
        refine C.reg ?_
        refine J.p rfl rfl rfl rfl (Y.asg rfl) ?_
        refine J.nil ?_
        exact N.asg () (by exact ⟨rfl, rfl, rfl, rfl, rfl, rfl, rfl, rfl, rfl, rfl, trivial⟩) (fun w h => h)
      · replace hb93 := RdG.suf hb93 L91 hGG
        replace hb94 := RdG.suf hb94 L91 hGG
        replace hb95 := RdG.suf hb95 L91 hGG
        replace hb97 := RdG.suf hb97 L91 hGG
        refine C.at (s' := [(1, .pointer (some ⟨g1, 0, none⟩)), (2, .pointer (some ⟨g3, 0, none⟩)), (4, .slice A14 t12.length c15), (6, .pointer (some ⟨g36, 0, none⟩)), (7, .pointer (some ⟨g38, 0, none⟩)), (8, .int .i64 x90.1), (9, .int .u64 x90.2), (34, .func (.func 40) #[] #[.pointer (some ⟨g34, 0, none⟩)]), (35, .int .i64 x90.1), (36, .int .u64 x90.2)]) (G' := cells g38 3 [.int .i64 i82.1] :: cells g36 3 [.int .i64 i82.2] :: cells g3 4 [.bool false] :: G) rfl rfl ?_
        refine C.blk ?_
        refine C.seq ?_
        refine C.rs ?_
        refine J.joinB H (fun (o104 : Bool) (j105 : Unit) => [(1, .pointer (some ⟨g1, 0, none⟩)), (2, .pointer (some ⟨g3, 0, none⟩)), (4, .slice A14 t12.length c15), (6, .pointer (some ⟨g36, 0, none⟩)), (7, .pointer (some ⟨g38, 0, none⟩)), (34, .func (.func 40) #[] #[.pointer (some ⟨g34, 0, none⟩)]), (53, .bool o104)]) (fun (o104 : Bool) (j105 : Unit) => cells g3 4 [.bool false] :: cells g36 3 [.int .i64 i82.2] :: cells g38 3 [.int .i64 i82.1] :: G) (fun (o104 : Bool) (j105 : Unit) => True) (fun o106 H HK107 => ?_) (fun o104 j105 H _ => ?_)
        · refine J.r rfl rfl rfl rfl (Y.ldC 1 Try.underlying3 rfl rfl rfl rfl) ?_
          refine J.r rfl rfl rfl rfl (Y.ldR Try.underlying52 rfl rfl (hb93.suf [_, _, _] rfl) rfl) ?_
          refine J.p rfl rfl rfl rfl (Y.lenS Try.underlying52 rfl) ?_
          refine J.p rfl rfl rfl rfl (Y.bin rfl rfl rfl) ?_
          refine J.p rfl rfl rfl rfl (Y.mv rfl) ?_
          refine split2 H (fun c108 H => ?_) (fun c108 H => ?_)
          · refine J.as (k := 41) rfl (congrArg Value.bool (decide_eq_true c108)) ?_
            refine J.skip rfl rfl ?_
            refine J.skip rfl rfl ?_
            refine J.skip rfl rfl ?_
            refine J.p rfl rfl rfl rfl (Y.pickT rfl rfl) ?_
            refine J.p rfl rfl rfl rfl (Y.mv rfl) ?_
            refine J.skip rfl rfl ?_
            refine J.skip rfl rfl ?_
            refine J.skip rfl rfl ?_
            refine J.skip rfl rfl ?_
            refine J.skip rfl rfl ?_
            refine J.skip rfl rfl ?_
            refine J.p rfl rfl rfl rfl (Y.pickT rfl rfl) ?_
            refine J.nil ?_
            obtain rfl := Option.some.inj H
            exact N.meet (true, ()) ⟨HK107, trivial⟩ (by exact ⟨rfl, rfl, rfl, rfl, rfl, rfl, rfl, trivial⟩) (by exact fun w h => (St.pick [2, 1, 0] [_, _, _] h rfl))
          · refine J.as (k := 41) rfl (congrArg Value.bool (decide_eq_false c108)) ?_
            refine J.p rfl rfl rfl rfl (Y.mv rfl) ?_
            refine J.r rfl rfl rfl rfl (Y.ldC 0 Try.underlying3 rfl rfl rfl rfl) ?_
            refine J.p rfl rfl rfl rfl (Y.bin rfl rfl rfl) ?_
            refine J.p rfl rfl rfl rfl (Y.pickF rfl rfl) ?_
            refine J.p rfl rfl rfl rfl (Y.mv rfl) ?_
            refine split2 H (fun c109 H => ?_) (fun c109 H => ?_)
            · refine J.as (k := 46) rfl (congrArg Value.bool (decide_eq_true c109)) ?_
              refine J.skip rfl rfl ?_
              refine J.skip rfl rfl ?_
              refine J.skip rfl rfl ?_
              refine J.skip rfl rfl ?_
              refine J.skip rfl rfl ?_
              refine J.skip rfl rfl ?_
              refine J.p rfl rfl rfl rfl (Y.pickT rfl rfl) ?_
              refine J.nil ?_
              obtain rfl := Option.some.inj H
              exact N.meet (true, ()) ⟨HK107, trivial⟩ (by exact ⟨rfl, rfl, rfl, rfl, rfl, rfl, rfl, trivial⟩) (by exact fun w h => (St.pick [2, 1, 0] [_, _, _] h rfl))
            · refine J.as (k := 46) rfl (congrArg Value.bool (decide_eq_false c109)) ?_
              refine J.p rfl rfl rfl rfl (Y.mv rfl) ?_
              refine J.r rfl rfl rfl rfl (Y.ldR Try.underlying52 rfl rfl (hb93.suf [_, _, _] rfl) rfl) ?_
              refine J.r rfl rfl rfl rfl (Y.ldC 1 Try.underlying3 rfl rfl rfl rfl) ?_
              obtain ⟨p112, H⟩ := gd_some H
              refine J.know ((hb94.suf [_, _, _] rfl).some_ (j := Int.toNat i82.2) (by rw [List.length_map]; exact idx_lt p112)) (fun hh => ?_)
              obtain ⟨a110, ha111⟩ := hh
              refine J.p rfl rfl rfl rfl (Y.ixa Try.underlying52 ti24 rfl rfl p112 ha111) ?_
              obtain ⟨p113, H⟩ := gd_some H
              refine J.r rfl rfl rfl rfl (Y.ldE Try.underlying24 rfl rfl ha111 p113 (hb94.suf [_, _, _] rfl)) ?_
              refine J.p rfl rfl rfl rfl (Y.bin rfl rfl rfl) ?_
              refine J.p rfl rfl rfl rfl (Y.pickF rfl rfl) ?_
              refine J.nil ?_
              obtain rfl := Option.some.inj H
              exact N.meet (decide (x90.2 ≠ (rd a0 i82.2)), ()) ⟨HK107, trivial⟩ (by exact ⟨rfl, rfl, rfl, rfl, rfl, rfl, rfl, trivial⟩) (by exact fun w h => (St.pick [2, 1, 0] [_, _, _] h rfl))
        · refine C.at (s' := [(1, .pointer (some ⟨g1, 0, none⟩)), (2, .pointer (some ⟨g3, 0, none⟩)), (4, .slice A14 t12.length c15), (6, .pointer (some ⟨g36, 0, none⟩)), (7, .pointer (some ⟨g38, 0, none⟩)), (34, .func (.func 40) #[] #[.pointer (some ⟨g34, 0, none⟩)]), (53, .bool o104)]) (G' := cells g3 4 [.bool false] :: cells g36 3 [.int .i64 i82.2] :: cells g38 3 [.int .i64 i82.1] :: G) rfl rfl ?_
          refine split2 H (fun c114 H => ?_) (fun c114 H => ?_)
          · refine C.condT (congrArg (fun b => some (Value.bool b)) (c114)) ?_
            refine C.rs ?_
            refine J.stE (L' := [.bool false]) ti4 rfl rfl rfl rfl rfl ?_
            refine J.nx ?_
            refine C.ret ?_
            obtain rfl := Option.some.inj H
            refine T.th ?_
            refine T.ib ?_
            exact T.round (i82.2, i82.1) () rfl rfl trivial (by exact fun w h => h)
          · refine C.condF (congrArg (fun b => some (Value.bool b)) (nt c114)) ?_
            refine C.skip ?_
            refine N.nx ?_
            refine C.seq ?_
            refine C.imp (G' := cells g38 3 [.int .i64 i82.1] :: cells g3 4 [.bool false] :: cells g36 3 [.int .i64 i82.2] :: G) (fun w h => (St.pick [2, 0, 1] [_, _, _] h rfl)) ?_
            refine C.drawn (fuel := 9) (ls := [false, false, false, false, false, false, false, false, false]) [] (cells g3 4 [.bool false] :: cells g36 3 [.int .i64 i82.2] :: G) mx rfl rfl ?_
            refine D.r (ls' := [false, true, false, false, false, false, false, false, false]) 1 1 1 rfl rfl rfl rfl (by kernel_rfl) (by kernel_rfl) rfl rfl (Y.ldR Try.underlying52 rfl rfl (hb93.suf [_, _] rfl) rfl) ?_
            refine D.r (ls' := [false, true, true, false, false, false, false, false, false]) 2 1 1 rfl rfl rfl rfl (by kernel_rfl) (by kernel_rfl) rfl rfl (Y.ldC 1 Try.underlying3 rfl rfl rfl rfl) ?_
            obtain ⟨p117, H⟩ := gd_some H
            refine D.know ((hb94.suf [_, _, _] rfl).some_ (j := Int.toNat i82.2) (by rw [List.length_map]; exact idx_lt p117)) (fun hh => ?_)
            obtain ⟨a115, ha116⟩ := hh
            refine D.p (ls' := [false, true, true, true, false, false, false, false, false]) 3 rfl rfl rfl rfl (by kernel_rfl) rfl (Y.ixa Try.underlying52 ti24 rfl rfl p117 ha116) ?_
            obtain ⟨p118, H⟩ := gd_some H
            refine D.r (ls' := [false, true, true, true, true, false, false, false, false]) 4 1 1 rfl rfl rfl rfl (by kernel_rfl) (by kernel_rfl) rfl rfl (Y.ldE Try.underlying24 rfl rfl ha116 p118 (hb94.suf [_, _] rfl)) ?_
            obtain ⟨t121, hC122, H⟩ := bind_some H
            refine D.share (fun (i : (Option Addr)) => [(1, .pointer (some ⟨g1, 0, none⟩)), (2, .pointer (some ⟨g3, 0, none⟩)), (4, .slice A14 t12.length c15), (6, .pointer (some ⟨g36, 0, none⟩)), (7, .pointer (some ⟨g38, 0, none⟩)), (34, .func (.func 40) #[] #[.pointer (some ⟨g34, 0, none⟩)])]) (fun (i : (Option Addr)) => cells g38 3 [.int .i64 (IntKind.wrap .i64 (i82.1 + t121))] :: own 24 1 i 1 ([rd a0 i82.2].map (Value.int .u64)) :: cells g3 4 [.bool false] :: cells g36 3 [.int .i64 i82.2] :: G) 0 [true, true, true, true, true, true, true, true, true] (fun A244 => ?_) (fun hD341 => ?_)
            · refine D.to (s' := [(1, .pointer (some ⟨g1, 0, none⟩)), (2, .pointer (some ⟨g3, 0, none⟩)), (4, .slice A14 t12.length c15), (6, .pointer (some ⟨g36, 0, none⟩)), (7, .pointer (some ⟨g38, 0, none⟩)), (34, .func (.func 40) #[] #[.pointer (some ⟨g34, 0, none⟩)])]) (G' := cells g38 3 [.int .i64 (IntKind.wrap .i64 (i82.1 + t121))] :: own 24 1 A244 1 ([rd a0 i82.2].map (Value.int .u64)) :: cells g3 4 [.bool false] :: cells g36 3 [.int .i64 i82.2] :: G) (by exact ⟨rfl, rfl, rfl, rfl, rfl, rfl, trivial⟩) (fun w h => h) ?_
              refine D.nil (by kernel_rfl) ?_
              refine N.nx ?_
              refine C.reg ?_
              refine J.r rfl rfl rfl rfl (Y.ldC 3 Try.underlying3 rfl rfl rfl rfl) ?_
              refine J.p rfl rfl rfl rfl (Y.bin rfl rfl rfl) ?_
              refine J.pull 3 rfl rfl ?_
              refine J.stE (L' := [.int .i64 (IntKind.wrap .i64 (i82.2 + 1))]) ti3 rfl rfl rfl rfl rfl ?_
              refine J.nil ?_
              refine N.ib ?_
              obtain rfl := Option.some.inj H
              exact N.round (IntKind.wrap .i64 (i82.1 + t121), IntKind.wrap .i64 (i82.2 + 1)) () rfl trivial (by exact fun w h => (St.pick [1, 0, 3] [_, _, _, _] h rfl))
            refine D.share (fun (i : (Option Addr)) => [(1, .pointer (some ⟨g1, 0, none⟩)), (2, .pointer (some ⟨g3, 0, none⟩)), (4, .slice A14 t12.length c15), (6, .pointer (some ⟨g36, 0, none⟩)), (7, .pointer (some ⟨g38, 0, none⟩)), (34, .func (.func 40) #[] #[.pointer (some ⟨g34, 0, none⟩)]), (61, .int .i64 (IntKind.wrap .i64 (i82.1 + t121)))]) (fun (i : (Option Addr)) => cells g38 3 [.int .i64 i82.1] :: own 24 1 i 1 ([rd a0 i82.2].map (Value.int .u64)) :: cells g3 4 [.bool false] :: cells g36 3 [.int .i64 i82.2] :: G) 1 [true, true, true, true, true, true, true, true, false] (fun A244 => ?_) (fun hD342 => ?_)
            · refine D.to (s' := [(1, .pointer (some ⟨g1, 0, none⟩)), (2, .pointer (some ⟨g3, 0, none⟩)), (4, .slice A14 t12.length c15), (6, .pointer (some ⟨g36, 0, none⟩)), (7, .pointer (some ⟨g38, 0, none⟩)), (34, .func (.func 40) #[] #[.pointer (some ⟨g34, 0, none⟩)]), (61, .int .i64 (IntKind.wrap .i64 (i82.1 + t121)))]) (G' := cells g38 3 [.int .i64 i82.1] :: own 24 1 A244 1 ([rd a0 i82.2].map (Value.int .u64)) :: cells g3 4 [.bool false] :: cells g36 3 [.int .i64 i82.2] :: G) (by exact ⟨rfl, rfl, rfl, rfl, rfl, rfl, rfl, trivial⟩) (fun w h => h) ?_
              refine D.any [8] (by kernel_rfl) rfl ⟨?_, trivial⟩
              refine DW.j (ls' := [true, true, true, true, true, true, true, true, true]) rfl rfl ?_
              refine J.stE (L' := [.int .i64 (IntKind.wrap .i64 (i82.1 + t121))]) ti3 rfl rfl rfl rfl rfl ?_
              refine J.nil ?_
              refine D.backK 2 rfl ?_
              exact D.to (by exact ⟨rfl, rfl, rfl, rfl, rfl, rfl, trivial⟩) (fun w h => h) (hD341 A244)
            refine D.share (fun (i : (Option Addr)) => [(1, .pointer (some ⟨g1, 0, none⟩)), (2, .pointer (some ⟨g3, 0, none⟩)), (4, .slice A14 t12.length c15), (6, .pointer (some ⟨g36, 0, none⟩)), (7, .pointer (some ⟨g38, 0, none⟩)), (34, .func (.func 40) #[] #[.pointer (some ⟨g34, 0, none⟩)]), (54, .int .i64 i82.1), (59, .slice i [rd a0 i82.2].length 1)]) (fun (i : (Option Addr)) => cells g38 3 [.int .i64 i82.1] :: own 24 1 i 1 ([rd a0 i82.2].map (Value.int .u64)) :: cells g3 4 [.bool false] :: cells g36 3 [.int .i64 i82.2] :: G) 3 [true, true, true, true, true, true, false, false, false] (fun A244 => ?_) (fun hD343 => ?_)
            · refine D.to (s' := [(1, .pointer (some ⟨g1, 0, none⟩)), (2, .pointer (some ⟨g3, 0, none⟩)), (4, .slice A14 t12.length c15), (6, .pointer (some ⟨g36, 0, none⟩)), (7, .pointer (some ⟨g38, 0, none⟩)), (34, .func (.func 40) #[] #[.pointer (some ⟨g34, 0, none⟩)]), (54, .int .i64 i82.1), (59, .slice A244 [rd a0 i82.2].length 1)]) (G' := cells g38 3 [.int .i64 i82.1] :: own 24 1 A244 1 ([rd a0 i82.2].map (Value.int .u64)) :: cells g3 4 [.bool false] :: cells g36 3 [.int .i64 i82.2] :: G) (by exact ⟨rfl, rfl, rfl, rfl, rfl, rfl, rfl, rfl, trivial⟩) (fun w h => h) ?_
              refine D.any [6] (by kernel_rfl) rfl ⟨?_, trivial⟩
              refine DW.j (ls' := [true, true, true, true, true, true, true, false, false]) rfl rfl ?_
              refine J.know (own_leL 1 rfl) (fun hc268 => ?_)
              refine J.call (us := []) (cap := []) rfl rfl rfl go33 (fun w hw => by have hcc := Size.calls K [rd a0 i82.2] A244 1 (RdG.own 1 rfl) hc268 t121 hC122 w hw; exact hcc) (fun e w1 h1 => ?_)
              obtain ⟨rfl, hw292⟩ := h1
              refine ⟨_, _, rfl, hw292, ?_⟩
              refine J.nil ?_
              refine D.backK 2 rfl ?_
              refine D.p (ls' := [true, true, true, true, true, true, true, true, false]) 7 rfl rfl rfl rfl (by kernel_rfl) rfl (Y.bin rfl rfl rfl) ?_
              exact D.to (by exact ⟨rfl, rfl, rfl, rfl, rfl, rfl, rfl, trivial⟩) (fun w h => h) (hD342 A244)
            refine D.share (fun (i : (Option Addr)) => [(1, .pointer (some ⟨g1, 0, none⟩)), (2, .pointer (some ⟨g3, 0, none⟩)), (4, .slice A14 t12.length c15), (6, .pointer (some ⟨g36, 0, none⟩)), (7, .pointer (some ⟨g38, 0, none⟩)), (34, .func (.func 40) #[] #[.pointer (some ⟨g34, 0, none⟩)]), (60, .int .i64 t121)]) (fun (i : (Option Addr)) => cells g38 3 [.int .i64 i82.1] :: own 24 1 i 1 ([rd a0 i82.2].map (Value.int .u64)) :: cells g3 4 [.bool false] :: cells g36 3 [.int .i64 i82.2] :: G) 3 [false, true, true, true, true, true, true, false, false] (fun A244 => ?_) (fun hD344 => ?_)
            · refine D.to (s' := [(1, .pointer (some ⟨g1, 0, none⟩)), (2, .pointer (some ⟨g3, 0, none⟩)), (4, .slice A14 t12.length c15), (6, .pointer (some ⟨g36, 0, none⟩)), (7, .pointer (some ⟨g38, 0, none⟩)), (34, .func (.func 40) #[] #[.pointer (some ⟨g34, 0, none⟩)]), (60, .int .i64 t121)]) (G' := cells g38 3 [.int .i64 i82.1] :: own 24 1 A244 1 ([rd a0 i82.2].map (Value.int .u64)) :: cells g3 4 [.bool false] :: cells g36 3 [.int .i64 i82.2] :: G) (by exact ⟨rfl, rfl, rfl, rfl, rfl, rfl, rfl, trivial⟩) (fun w h => h) ?_
              refine D.any [0] (by kernel_rfl) rfl ⟨?_, trivial⟩
              refine DW.j (ls' := [true, true, true, true, true, true, true, false, false]) rfl rfl ?_
              refine J.r rfl rfl rfl rfl (Y.ldC 0 Try.underlying3 rfl rfl rfl rfl) ?_
              refine J.nil ?_
              refine D.backK 2 rfl ?_
              refine D.p (ls' := [true, true, true, true, true, true, true, true, false]) 7 rfl rfl rfl rfl (by kernel_rfl) rfl (Y.bin rfl rfl rfl) ?_
              exact D.to (by exact ⟨rfl, rfl, rfl, rfl, rfl, rfl, rfl, trivial⟩) (fun w h => h) (hD342 A244)
            refine D.share (fun (i : Unit) => [(1, .pointer (some ⟨g1, 0, none⟩)), (2, .pointer (some ⟨g3, 0, none⟩)), (4, .slice A14 t12.length c15), (6, .pointer (some ⟨g36, 0, none⟩)), (7, .pointer (some ⟨g38, 0, none⟩)), (34, .func (.func 40) #[] #[.pointer (some ⟨g34, 0, none⟩)]), (54, .int .i64 i82.1), (58, .int .u64 (rd a0 i82.2))]) (fun (i : Unit) => cells g38 3 [.int .i64 i82.1] :: cells g3 4 [.bool false] :: cells g36 3 [.int .i64 i82.2] :: G) 4 [true, true, true, true, true, false, false, false, false] (fun i => ?_) (fun hD345 => ?_)
            · refine D.to (s' := [(1, .pointer (some ⟨g1, 0, none⟩)), (2, .pointer (some ⟨g3, 0, none⟩)), (4, .slice A14 t12.length c15), (6, .pointer (some ⟨g36, 0, none⟩)), (7, .pointer (some ⟨g38, 0, none⟩)), (34, .func (.func 40) #[] #[.pointer (some ⟨g34, 0, none⟩)]), (54, .int .i64 i82.1), (58, .int .u64 (rd a0 i82.2))]) (G' := cells g38 3 [.int .i64 i82.1] :: cells g3 4 [.bool false] :: cells g36 3 [.int .i64 i82.2] :: G) (by exact ⟨rfl, rfl, rfl, rfl, rfl, rfl, rfl, rfl, trivial⟩) (fun w h => h) ?_
              refine D.any [5] (by kernel_rfl) rfl ⟨?_, trivial⟩
              refine DW.j (ls' := [true, true, true, true, true, true, false, false, false]) rfl rfl ?_
              refine J.bsL (enc := (Value.int .u64)) (xs := [rd a0 i82.2]) rfl Try.underlying52 ti24 rfl rfl rfl rfl rfl (fun A244 => ?_)
              refine J.nil ?_
              refine D.backK 2 rfl ?_
              exact D.to (by exact ⟨rfl, rfl, rfl, rfl, rfl, rfl, rfl, rfl, trivial⟩) (fun w h => (St.pick [1, 0, 2, 3] [_, _, _, _] h rfl)) (hD343 A244)
            refine D.share (fun (i : (Option Addr)) => [(1, .pointer (some ⟨g1, 0, none⟩)), (2, .pointer (some ⟨g3, 0, none⟩)), (4, .slice A14 t12.length c15), (6, .pointer (some ⟨g36, 0, none⟩)), (7, .pointer (some ⟨g38, 0, none⟩)), (34, .func (.func 40) #[] #[.pointer (some ⟨g34, 0, none⟩)]), (59, .slice i [rd a0 i82.2].length 1)]) (fun (i : (Option Addr)) => cells g38 3 [.int .i64 i82.1] :: own 24 1 i 1 ([rd a0 i82.2].map (Value.int .u64)) :: cells g3 4 [.bool false] :: cells g36 3 [.int .i64 i82.2] :: G) 4 [false, true, true, true, true, true, false, false, false] (fun A244 => ?_) (fun hD346 => ?_)
            · refine D.to (s' := [(1, .pointer (some ⟨g1, 0, none⟩)), (2, .pointer (some ⟨g3, 0, none⟩)), (4, .slice A14 t12.length c15), (6, .pointer (some ⟨g36, 0, none⟩)), (7, .pointer (some ⟨g38, 0, none⟩)), (34, .func (.func 40) #[] #[.pointer (some ⟨g34, 0, none⟩)]), (59, .slice A244 [rd a0 i82.2].length 1)]) (G' := cells g38 3 [.int .i64 i82.1] :: own 24 1 A244 1 ([rd a0 i82.2].map (Value.int .u64)) :: cells g3 4 [.bool false] :: cells g36 3 [.int .i64 i82.2] :: G) (by exact ⟨rfl, rfl, rfl, rfl, rfl, rfl, rfl, trivial⟩) (fun w h => h) ?_
              refine D.any [0, 6] (by kernel_rfl) rfl ⟨?_, ?_, trivial⟩
              · refine DW.j (ls' := [true, true, true, true, true, true, false, false, false]) rfl rfl ?_
                refine J.r rfl rfl rfl rfl (Y.ldC 0 Try.underlying3 rfl rfl rfl rfl) ?_
                refine J.nil ?_
                refine D.backK 2 rfl ?_
                exact D.to (by exact ⟨rfl, rfl, rfl, rfl, rfl, rfl, rfl, rfl, trivial⟩) (fun w h => h) (hD343 A244)
              · refine DW.j (ls' := [false, true, true, true, true, true, true, false, false]) rfl rfl ?_
                refine J.know (own_leL 1 rfl) (fun hc268 => ?_)
                refine J.call (us := []) (cap := []) rfl rfl rfl go33 (fun w hw => by have hcc := Size.calls K [rd a0 i82.2] A244 1 (RdG.own 1 rfl) hc268 t121 hC122 w hw; exact hcc) (fun e w1 h1 => ?_)
                obtain ⟨rfl, hw269⟩ := h1
                refine ⟨_, _, rfl, hw269, ?_⟩
                refine J.nil ?_
                refine D.backK 2 rfl ?_
                exact D.to (by exact ⟨rfl, rfl, rfl, rfl, rfl, rfl, rfl, trivial⟩) (fun w h => h) (hD344 A244)
            refine D.any [0, 5] (by kernel_rfl) rfl ⟨?_, ?_, trivial⟩
            · refine DW.j (ls' := [true, true, true, true, true, false, false, false, false]) rfl rfl ?_
              refine J.r rfl rfl rfl rfl (Y.ldC 0 Try.underlying3 rfl rfl rfl rfl) ?_
              refine J.nil ?_
              refine D.backK 1 rfl ?_
              exact D.to (by exact ⟨rfl, rfl, rfl, rfl, rfl, rfl, rfl, rfl, trivial⟩) (fun w h => h) (hD345 ())
            · refine DW.j (ls' := [false, true, true, true, true, true, false, false, false]) rfl rfl ?_
              refine J.bsL (enc := (Value.int .u64)) (xs := [rd a0 i82.2]) rfl Try.underlying52 ti24 rfl rfl rfl rfl rfl (fun A244 => ?_)
              refine J.nil ?_
              refine D.backK 2 rfl ?_
              exact D.to (by exact ⟨rfl, rfl, rfl, rfl, rfl, rfl, rfl, trivial⟩) (fun w h => (St.pick [1, 0, 2, 3] [_, _, _, _] h rfl)) (hD346 A244)
      · subst hr
        replace H := ysel_inl H
        refine N.at (s' := [(1, .pointer (some ⟨g1, 0, none⟩)), (2, .pointer (some ⟨g3, 0, none⟩)), (4, .slice A14 t12.length c15), (6, .pointer (some ⟨g36, 0, none⟩)), (7, .pointer (some ⟨g38, 0, none⟩)), (34, .func (.func 40) #[] #[.pointer (some ⟨g34, 0, none⟩)])]) (G' := dblks ds84 :: cells g38 3 [.int .i64 i82.1] :: cells g36 3 [.int .i64 i82.2] :: cells g3 4 [.bool false] :: cells g34 22 [.slice A14 t12.length c15] :: cells g1 52 [.slice Aa0 a0.length ca0] :: own 5 1 A14 c15 (t12.map (Value.int .u8)) :: G) rfl rfl ?_
        refine N.ib ?_
        refine N.nx ?_
        refine C.rs ?_
        refine J.p rfl rfl rfl rfl (Y.mv rfl) ?_
        refine J.know (own_leL 6 rfl) (fun hc349 => ?_)
        refine J.bsV (L := [.slice A14 t12.length c15]) rfl Try.underlying45 ti22 rfl rfl rfl rfl rfl (fun A348 => ?_)
        refine J.know (own_leL 7 rfl) (fun hc351 => ?_)
        obtain ⟨t352, hC353, H⟩ := bind_some H
        refine J.call (us := []) (cap := []) rfl rfl rfl go36 (fun w hw => by have hcc := Sum.calls K [t12] A348 1 [.slice A14 t12.length c15] (RdG.own 0 rfl) (VV.cons (RdG.own 7 rfl) hc351 VV.nil) (Nat.le_refl _) t352 hC353 w hw; exact hcc) (fun e w1 h1 => ?_)
        obtain ⟨rfl, hw422⟩ := h1
        refine ⟨_, _, rfl, hw422, ?_⟩
        refine J.p rfl rfl rfl rfl (Y.conv Try.underlying60 Try.underlying24 rfl) ?_
        refine J.p rfl rfl rfl rfl (Y.asg rfl) ?_
        refine J.nx ?_
        refine C.rs ?_
        refine J.p rfl rfl rfl rfl (Y.mv rfl) ?_
        obtain ⟨t354, hC355, H⟩ := bind_some H
        refine J.call (us := []) (cap := []) rfl rfl rfl go22 (fun w hw => by have hcc := Digits.calls K (IntKind.wrap .u64 t352) 5 t354 hC355 w hw; exact hcc) (fun e w1 h1 => ?_)
        obtain ⟨A356, c357, rfl, hw421⟩ := h1
        refine ⟨_, _, rfl, hw421, ?_⟩
        refine J.p rfl rfl rfl rfl (Y.mv rfl) ?_
        refine J.p rfl rfl rfl rfl (Y.ext rfl rfl) ?_
        refine J.p rfl rfl rfl rfl (Y.ext rfl rfl) ?_
        refine J.p rfl rfl rfl rfl (Y.asg rfl) ?_
        refine J.p rfl rfl rfl rfl (Y.asg rfl) ?_
        refine J.nx ?_
        refine C.seq ?_
        refine C.rs ?_
        refine J.joinBD H (fun (o362 : Bool) (j363 : Unit) => [(2, .pointer (some ⟨g3, 0, none⟩)), (4, .slice A14 t12.length c15), (10, .int .u64 (IntKind.wrap .u64 t352)), (11, .slice A356 t354.1.length c357), (91, .bool o362)]) (fun (o362 : Bool) (j363 : Unit) => cells g3 4 [.bool false] :: own 5 1 A14 c15 (t12.map (Value.int .u8)) :: own 5 1 A356 c357 (t354.1.map (Value.int .u8)) :: G) (fun (o362 : Bool) (j363 : Unit) => True) (fun o365 H HK366 => ?_) (fun ds364 o362 j363 H _ => ?_)
        · refine J.r rfl rfl rfl rfl (Y.ldC 4 Try.underlying3 rfl rfl rfl rfl) ?_
          refine J.r rfl rfl rfl rfl (Y.ldC 7 Try.underlying52 rfl rfl rfl rfl) ?_
          refine J.p rfl rfl rfl rfl (Y.lenS Try.underlying52 rfl) ?_
          refine J.p rfl rfl rfl rfl (Y.bin rfl rfl rfl) ?_
          refine J.p rfl rfl rfl rfl (Y.mv rfl) ?_
          refine split2 H (fun c367 H => ?_) (fun c367 H => ?_)
          · refine J.as (k := 77) rfl (congrArg Value.bool (decide_eq_true c367)) ?_
            refine J.skip rfl rfl ?_
            refine J.skip rfl rfl ?_
            refine J.skip rfl rfl ?_
            refine J.skip rfl rfl ?_
            refine J.p rfl rfl rfl rfl (Y.pickT rfl rfl) ?_
            refine J.p rfl rfl rfl rfl (Y.mv rfl) ?_
            refine J.skip rfl rfl ?_
            refine J.skip rfl rfl ?_
            refine J.p rfl rfl rfl rfl (Y.pickT rfl rfl) ?_
            refine J.p rfl rfl rfl rfl (Y.mv rfl) ?_
            refine J.skip rfl rfl ?_
            refine J.skip rfl rfl ?_
            refine J.skip rfl rfl ?_
            refine J.p rfl rfl rfl rfl (Y.pickT rfl rfl) ?_
            refine J.nil ?_
            obtain rfl := Option.some.inj H
            exact N.meetD (true, ()) ⟨HK366, trivial⟩ (by exact ⟨rfl, rfl, rfl, rfl, rfl, trivial⟩) (by exact fun w h => (St.pick [2, 5, 8, 0] [_, _, _, _, _, _, _, _, _] h rfl))
          · refine J.as (k := 77) rfl (congrArg Value.bool (decide_eq_false c367)) ?_
            refine J.r rfl rfl rfl rfl (Y.ldC 3 Try.underlying3 rfl rfl rfl rfl) ?_
            refine J.p rfl rfl rfl rfl (Y.mv rfl) ?_
            refine J.p rfl rfl rfl rfl (Y.lenS Try.underlying22 rfl) ?_
            refine J.p rfl rfl rfl rfl (Y.bin rfl rfl rfl) ?_
            refine J.p rfl rfl rfl rfl (Y.pickF rfl rfl) ?_
            refine J.p rfl rfl rfl rfl (Y.mv rfl) ?_
            refine split2 H (fun c368 H => ?_) (fun c368 H => ?_)
            · refine J.as (k := 83) rfl (congrArg Value.bool (decide_eq_true c368)) ?_
              refine J.skip rfl rfl ?_
              refine J.skip rfl rfl ?_
              refine J.p rfl rfl rfl rfl (Y.pickT rfl rfl) ?_
              refine J.p rfl rfl rfl rfl (Y.mv rfl) ?_
              refine J.skip rfl rfl ?_
              refine J.skip rfl rfl ?_
              refine J.skip rfl rfl ?_
              refine J.p rfl rfl rfl rfl (Y.pickT rfl rfl) ?_
              refine J.nil ?_
              obtain rfl := Option.some.inj H
              exact N.meetD (true, ()) ⟨HK366, trivial⟩ (by exact ⟨rfl, rfl, rfl, rfl, rfl, trivial⟩) (by exact fun w h => (St.pick [2, 5, 8, 0] [_, _, _, _, _, _, _, _, _] h rfl))
            · refine J.as (k := 83) rfl (congrArg Value.bool (decide_eq_false c368)) ?_
              refine J.p rfl rfl rfl rfl (Y.mv rfl) ?_
              refine J.p rfl rfl rfl rfl (Y.bin rfl rfl rfl) ?_
              refine J.p rfl rfl rfl rfl (Y.pickF rfl rfl) ?_
              refine J.p rfl rfl rfl rfl (Y.mv rfl) ?_
              refine split2 H (fun c369 H => ?_) (fun c369 H => ?_)
              · refine J.as (k := 87) rfl (congrArg Value.bool (decide_eq_true c369)) ?_
                refine J.skip rfl rfl ?_
                refine J.skip rfl rfl ?_
                refine J.skip rfl rfl ?_
                refine J.p rfl rfl rfl rfl (Y.pickT rfl rfl) ?_
                refine J.nil ?_
                obtain rfl := Option.some.inj H
                exact N.meetD (true, ()) ⟨HK366, trivial⟩ (by exact ⟨rfl, rfl, rfl, rfl, rfl, trivial⟩) (by exact fun w h => (St.pick [2, 5, 8, 0] [_, _, _, _, _, _, _, _, _] h rfl))
              · refine J.as (k := 87) rfl (congrArg Value.bool (decide_eq_false c369)) ?_
                refine J.p rfl rfl rfl rfl (Y.mv rfl) ?_
                refine J.p rfl rfl rfl rfl (Y.lenS Try.underlying22 rfl) ?_
                refine J.p rfl rfl rfl rfl (Y.bin rfl rfl rfl) ?_
                refine J.p rfl rfl rfl rfl (Y.pickF rfl rfl) ?_
                refine J.nil ?_
                obtain rfl := Option.some.inj H
                exact N.meetD (decide ((t354.1.length : Int) ≠ 5), ()) ⟨HK366, trivial⟩ (by exact ⟨rfl, rfl, rfl, rfl, rfl, trivial⟩) (by exact fun w h => (St.pick [2, 5, 8, 0] [_, _, _, _, _, _, _, _, _] h rfl))
        · refine C.at (s' := [(2, .pointer (some ⟨g3, 0, none⟩)), (4, .slice A14 t12.length c15), (10, .int .u64 (IntKind.wrap .u64 t352)), (11, .slice A356 t354.1.length c357), (91, .bool o362)]) (G' := dblks ds364 :: cells g3 4 [.bool false] :: own 5 1 A14 c15 (t12.map (Value.int .u8)) :: own 5 1 A356 c357 (t354.1.map (Value.int .u8)) :: G) rfl rfl ?_
          refine split2 H (fun c370 H => ?_) (fun c370 H => ?_)
          · refine C.condT (congrArg (fun b => some (Value.bool b)) (c370)) ?_
            refine C.rs ?_
            refine J.pull 1 rfl rfl ?_
            refine J.stE (L' := [.bool false]) ti4 rfl rfl rfl rfl rfl ?_
            refine J.nx ?_
            refine C.ret ?_
            obtain rfl := Option.some.inj H
            refine T.th ?_
            exact ret_okM (cells g3 4 [.bool false] :: own 5 1 A14 c15 (t12.map (Value.int .u8)) :: own 5 1 A356 c357 (t354.1.map (Value.int .u8)) :: G) (rvs := [.cell 2 4]) (vs := [.bool false]) rfl ⟨RV.cell 0 Try.underlying4 rfl rfl rfl rfl, trivial⟩ (fun w h => (St.pick [1, 0, 2, 3] [_, _, _, _] h rfl)) (fun w h => ⟨rfl, (St.pick [] [_, _, _] h rfl)⟩)
          · refine C.condF (congrArg (fun b => some (Value.bool b)) (nt c370)) ?_
            refine C.skip ?_
            refine N.nx ?_
            refine C.rs ?_
            refine J.p rfl rfl rfl rfl (Y.mv rfl) ?_
            refine J.p rfl rfl rfl rfl (Y.mv rfl) ?_
            refine J.know (own_leL 3 rfl) (fun hc371 => ?_)
            refine J.know (own_leL 2 rfl) (fun hc372 => ?_)
            obtain ⟨t373, hC374, H⟩ := bind_some H
            refine J.call (us := []) (cap := []) rfl rfl rfl go37 (fun w hw => by have hcc := joined.calls t354.1 t12 A356 c357 A14 c15 (RdG.own 3 rfl) hc371 (RdG.own 2 rfl) hc372 t373 hC374 w hw; exact hcc) (fun e w1 h1 => ?_)
            obtain ⟨A375, c376, rfl, hw420⟩ := h1
            refine ⟨_, _, rfl, hw420, ?_⟩
            refine J.know (own_leL 0 rfl) (fun hc378 => ?_)
            obtain ⟨t379, hC380, H⟩ := bind_some H
            refine J.call (us := []) (cap := []) rfl rfl rfl go28 (fun w hw => by have hcc := Number.calls K t373 5 A375 c376 (RdG.own 0 rfl) hc378 t379 hC380 w hw; exact hcc) (fun e w1 h1 => ?_)
            obtain ⟨rfl, hw419⟩ := h1
            refine ⟨_, _, rfl, hw419, ?_⟩
            refine J.p rfl rfl rfl rfl (Y.mv rfl) ?_
            refine J.p rfl rfl rfl rfl (Y.ext rfl rfl) ?_
            refine J.p rfl rfl rfl rfl (Y.ext rfl rfl) ?_
            refine J.p rfl rfl rfl rfl (Y.asg rfl) ?_
            refine J.p rfl rfl rfl rfl (Y.asg rfl) ?_
            refine J.nx ?_
            refine C.seq ?_
            refine C.rs ?_
            refine J.p rfl rfl rfl rfl (Y.asg rfl) ?_
            refine J.nx ?_
            refine C.joinNRD H (fun (o395 : Unit) (j396 : Unit) => [(2, .pointer (some ⟨g3, 0, none⟩)), (10, .int .u64 (IntKind.wrap .u64 t352)), (13, .int .u64 t379.1), (14, .int .i64 t379.2)]) (fun (o395 : Unit) (j396 : Unit) => cells g3 4 [.bool false] :: G) (fun (o395 : Unit) (j396 : Unit) => True) (fun o393 H HK394 => ?_) (fun ds397 o395 j396 H _ => ?_)
            · refine C.blk ?_
              refine C.loopD (fun (i : Nat × (Int) × (Unit)) => [(2, .pointer (some ⟨g3, 0, none⟩)), (10, .int .u64 (IntKind.wrap .u64 t352)), (11, .slice A356 t354.1.length c357), (13, .int .u64 t379.1), (14, .int .i64 t379.2), (15, .int .i64 i.2.1)]) (fun (i : Nat × (Int) × (Unit)) => cells g3 4 [.bool false] :: own 5 1 A356 c357 (t354.1.map (Value.int .u8)) :: G) (fun (i : Nat × (Int) × (Unit)) => TopNumbers.l1 t354 i.1 i.2.1 = some o393 ∧ (True)) (fun i => i.1) (K, 0, ()) ⟨H, trivial⟩ (by exact ⟨rfl, rfl, rfl, rfl, rfl, rfl, trivial⟩) (by exact fun w h => (St.pick [1, 2, 4] [_, _, _, _, _] h rfl)) ?_
              rintro ds413 ⟨k417, i411, j412⟩ ⟨H, _⟩
              replace H : TopNumbers.l1 t354 k417 i411 = some o393 := H
              obtain ⟨k410, rfl⟩ : ∃ m, k417 = m + 1 := by cases k417 with | zero => exact absurd H (by simp [TopNumbers.l1]) | succ m => exact ⟨m, rfl⟩
              rw [TopNumbers.l1] at H
              refine C.at (s' := [(2, .pointer (some ⟨g3, 0, none⟩)), (10, .int .u64 (IntKind.wrap .u64 t352)), (11, .slice A356 t354.1.length c357), (13, .int .u64 t379.1), (14, .int .i64 t379.2), (15, .int .i64 i411)]) (G' := dblks ds413 :: cells g3 4 [.bool false] :: own 5 1 A356 c357 (t354.1.map (Value.int .u8)) :: G) rfl rfl ?_
              refine C.seq ?_
              refine C.rs ?_
              refine J.p rfl rfl rfl rfl (Y.mv rfl) ?_
              refine J.p rfl rfl rfl rfl (Y.bin rfl rfl rfl) ?_
              refine J.nx ?_
              refine split2 H (fun c414 H => ?_) (fun c414 H => ?_)
              · refine C.condT (congrArg (fun b => some (Value.bool b)) (decide_eq_true c414)) ?_
                refine C.skip ?_
                refine N.nx ?_
                refine C.seq ?_
                refine C.blk ?_
                refine C.rs ?_
                refine J.p rfl rfl rfl rfl (Y.mv rfl) ?_
                refine J.p rfl rfl rfl rfl (Y.mv rfl) ?_
                obtain ⟨p415, H⟩ := gd_some H
                refine J.el rfl rfl rfl Try.underlying22 ti5 Try.underlying5 rfl rfl rfl p415 (RdG.own 2 rfl) ?_
                refine J.p rfl rfl rfl rfl (Y.bin rfl rfl rfl) ?_
                refine J.nx ?_
                refine split2 H (fun c416 H => ?_) (fun c416 H => ?_)
                · refine C.condT (congrArg (fun b => some (Value.bool b)) (decide_eq_true c416)) ?_
                  refine C.rs ?_
                  refine J.pull 1 rfl rfl ?_
                  refine J.stE (L' := [.bool false]) ti4 rfl rfl rfl rfl rfl ?_
                  refine J.nx ?_
                  refine C.ret ?_
                  obtain rfl := Option.some.inj H
                  obtain rfl := fin_inl HK394
                  refine T.ib ?_
                  refine T.th ?_
                  refine T.th ?_
                  refine T.ib ?_
                  refine T.th ?_
                  refine T.th ?_
                  exact ret_okM (cells g3 4 [.bool false] :: own 5 1 A356 c357 (t354.1.map (Value.int .u8)) :: G) (rvs := [.cell 2 4]) (vs := [.bool false]) rfl ⟨RV.cell 0 Try.underlying4 rfl rfl rfl rfl, trivial⟩ (fun w h => (St.pick [1, 0, 2] [_, _, _] h rfl)) (fun w h => ⟨rfl, (St.pick [] [_, _] h rfl)⟩)
                · refine C.condF (congrArg (fun b => some (Value.bool b)) (decide_eq_false c416)) ?_
                  refine C.skip ?_
                  refine N.ib ?_
                  refine N.nx ?_
                  refine C.reg ?_
                  refine J.p rfl rfl rfl rfl (Y.mv rfl) ?_
                  refine J.p rfl rfl rfl rfl (Y.bin rfl rfl rfl) ?_
                  refine J.p rfl rfl rfl rfl (Y.asg rfl) ?_
                  refine J.nil ?_
                  exact N.againD (k410, IntKind.wrap .i64 (i411 + 1), ()) ⟨H, trivial⟩ (Nat.lt_succ_self _) (by exact ⟨rfl, rfl, rfl, rfl, rfl, rfl, trivial⟩) (by exact fun w h => h)
              · refine C.condF (congrArg (fun b => some (Value.bool b)) (decide_eq_false c414)) ?_
                refine C.exit ?_
                refine X.th ?_
                refine X.th ?_
                refine X.hit ?_
                obtain rfl := Option.some.inj H
                exact N.meetD ((), ()) ⟨fin_inr HK394, trivial⟩ (by exact ⟨rfl, rfl, rfl, rfl, trivial⟩) (by exact fun w h => (St.pick [0, 1] [_, _, _] h rfl))
            · refine N.at (s' := [(2, .pointer (some ⟨g3, 0, none⟩)), (10, .int .u64 (IntKind.wrap .u64 t352)), (13, .int .u64 t379.1), (14, .int .i64 t379.2)]) (G' := dblks ds397 :: cells g3 4 [.bool false] :: G) rfl rfl ?_
              refine N.nx ?_
              refine C.rs ?_
              refine J.p rfl rfl rfl rfl (Y.mv rfl) ?_
              refine J.p rfl rfl rfl rfl (Y.bin rfl rfl rfl) ?_
              refine J.p rfl rfl rfl rfl (Y.mv rfl) ?_
              refine split2 H (fun c418 H => ?_) (fun c418 H => ?_)
              · refine J.as (k := 110) rfl (congrArg Value.bool (decide_eq_true c418)) ?_
                refine J.p rfl rfl rfl rfl (Y.mv rfl) ?_
                refine J.p rfl rfl rfl rfl (Y.mv rfl) ?_
                refine J.p rfl rfl rfl rfl (Y.bin rfl rfl rfl) ?_
                refine J.p rfl rfl rfl rfl (Y.pickT rfl rfl) ?_
                refine J.pull 1 rfl rfl ?_
                refine J.stE (L' := [.bool (decide (t379.1 = (IntKind.wrap .u64 t352)))]) ti4 rfl rfl rfl rfl rfl ?_
                refine J.nx ?_
                refine C.ret ?_
                obtain rfl := Option.some.inj H
                exact ret_okM (cells g3 4 [.bool (decide (t379.1 = (IntKind.wrap .u64 t352)))] :: G) (rvs := [.cell 2 4]) (vs := [.bool (decide (t379.1 = (IntKind.wrap .u64 t352)))]) rfl ⟨RV.cell 0 Try.underlying4 rfl rfl rfl rfl, trivial⟩ (fun w h => (St.pick [1, 0] [_, _] h rfl)) (fun w h => ⟨rfl, (St.pick [] [_] h rfl)⟩)
              · refine J.as (k := 110) rfl (congrArg Value.bool (decide_eq_false c418)) ?_
                refine J.skip rfl rfl ?_
                refine J.skip rfl rfl ?_
                refine J.skip rfl rfl ?_
                refine J.p rfl rfl rfl rfl (Y.pickF rfl rfl) ?_
                refine J.pull 1 rfl rfl ?_
                refine J.stE (L' := [.bool false]) ti4 rfl rfl rfl rfl rfl ?_
                refine J.nx ?_
                refine C.ret ?_
                obtain rfl := Option.some.inj H
                exact ret_okM (cells g3 4 [.bool false] :: G) (rvs := [.cell 2 4]) (vs := [.bool false]) rfl ⟨RV.cell 0 Try.underlying4 rfl rfl rfl rfl, trivial⟩ (fun w h => (St.pick [1, 0] [_, _] h rfl)) (fun w h => ⟨rfl, (St.pick [] [_] h rfl)⟩)
      · subst hr
        replace H := ysel_inr H
        refine C.at (s' := [(1, .pointer (some ⟨g1, 0, none⟩)), (2, .pointer (some ⟨g3, 0, none⟩)), (4, .slice A14 t12.length c15), (6, .pointer (some ⟨g36, 0, none⟩)), (7, .pointer (some ⟨g38, 0, none⟩)), (34, .func (.func 40) #[] #[.pointer (some ⟨g34, 0, none⟩)])]) (G' := dblks ds84 :: cells g3 4 [.bool false] :: cells g36 3 [.int .i64 e85.1] :: cells g38 3 [.int .i64 e85.2] :: cells g34 22 [.slice A14 t12.length c15] :: cells g1 52 [.slice Aa0 a0.length ca0] :: own 5 1 A14 c15 (t12.map (Value.int .u8)) :: G) rfl rfl ?_
        refine C.ret ?_
        obtain rfl := Option.some.inj H
        refine T.ib ?_
        refine T.th ?_
        exact ret_okM (cells g3 4 [.bool false] :: cells g36 3 [.int .i64 e85.1] :: cells g38 3 [.int .i64 e85.2] :: cells g34 22 [.slice A14 t12.length c15] :: cells g1 52 [.slice Aa0 a0.length ca0] :: own 5 1 A14 c15 (t12.map (Value.int .u8)) :: G) (rvs := [.cell 2 4]) (vs := [.bool false]) rfl ⟨RV.cell 0 Try.underlying4 rfl rfl rfl rfl, trivial⟩ (fun w h => h) (fun w h => ⟨rfl, (St.pick [] [_, _, _, _, _, _] h rfl)⟩)
end Go.Proofs.Ytocfkhpfpepcmaa
