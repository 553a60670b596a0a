/- Own text, printed by the lifting program: each Go function beside a plain function, and the proof that a call of the one comes to the other. Conditions: what came in can be read. -/
import Derived.Test.YtkblnahoidbfkaaLiftC
set_option linter.unusedVariables false
set_option linter.unusedSimpArgs false
set_option maxRecDepth 10000
set_option maxHeartbeats 4000000
namespace Go.Proofs.Ytkblnahoidbfkaa
open Go Go.Sx
theorem ti89 : TI Try.prog 89 1 24 (.slice none 0 0) := TI.of (by kernel_rfl)
theorem ti90 : TI Try.prog 90 1 24 (.slice none 0 0) := TI.of (by kernel_rfl)
theorem go40 : GoF Try.prog 40 := GoF.of Try.func40 (by kernel_rfl) (by kernel_rfl)
theorem go42 : GoF Try.prog 42 := GoF.of Try.func42 (by kernel_rfl) (by kernel_rfl)
/-! ### salvor/salvortop.TopScanned: function 12 -/
def TopScanned.l1 (t148 : (List T40_)) : Nat → (Int × Int × Int) → Option ((Bool) ⊕ (Int × Int))
  | 0, _ => none
  | k + 1, i335 => if i335.2.2 < (t148.length : Int) then (thn ((gd ((0 : Int) ≤ i335.2.2 ∧ i335.2.2 < (t148.length : Int)) (gd ((0 : Int) ≤ i335.2.2 ∧ i335.2.2 < (t148.length : Int)) (if ((rd t148 i335.2.2).2.1) ≠ i335.1 then (some true) else (gd ((0 : Int) ≤ i335.2.2 ∧ i335.2.2 < (t148.length : Int)) (gd ((0 : Int) ≤ i335.2.2 ∧ i335.2.2 < (t148.length : Int)) (if ((rd t148 i335.2.2).2.2) < 1 then (some true) else (if 0 < i335.2.2 then (gd ((0 : Int) ≤ i335.2.2 ∧ i335.2.2 < (t148.length : Int)) (gd ((0 : Int) ≤ i335.2.2 ∧ i335.2.2 < (t148.length : Int)) (if ((rd t148 i335.2.2).1) = true then (gd ((0 : Int) ≤ (IntKind.wrap .i64 (i335.2.2 - 1)) ∧ (IntKind.wrap .i64 (i335.2.2 - 1)) < (t148.length : Int)) (gd ((0 : Int) ≤ (IntKind.wrap .i64 (i335.2.2 - 1)) ∧ (IntKind.wrap .i64 (i335.2.2 - 1)) < (t148.length : Int)) (some ((rd t148 (IntKind.wrap .i64 (i335.2.2 - 1))).1)))) else (some false)))) else (some false)))))))).bind fun o401 => if o401 = true then (some (.inl (.inl (false)))) else (gd ((0 : Int) ≤ i335.2.2 ∧ i335.2.2 < (t148.length : Int)) (gd ((0 : Int) ≤ i335.2.2 ∧ i335.2.2 < (t148.length : Int)) (gd ((0 : Int) ≤ i335.2.2 ∧ i335.2.2 < (t148.length : Int)) (gd ((0 : Int) ≤ i335.2.2 ∧ i335.2.2 < (t148.length : Int)) (if ((rd t148 i335.2.2).1) = true then (gd ((0 : Int) ≤ i335.2.2 ∧ i335.2.2 < (t148.length : Int)) (gd ((0 : Int) ≤ i335.2.2 ∧ i335.2.2 < (t148.length : Int)) (some (.inr (IntKind.wrap .i64 (i335.2.1 + ((rd t148 i335.2.2).2.2))))))) else (some (.inr i335.2.1)))))))) fun o378 => TopScanned.l1 t148 k (IntKind.wrap .i64 (i335.1 + ((rd t148 i335.2.2).2.2)), o378, IntKind.wrap .i64 (i335.2.2 + 1))) else (some (.inr (i335.1, i335.2.1)))
def TopScanned.f (K : Nat) (a0 : List T95_) (a1 : List (List Int)) : Option (Bool) := (if 100 < (a0.length : Int) then (gd ((0 : Int) ≤ 100 ∧ (0 ≤ (Int.toNat 100) ∧ (Int.toNat 100) ≤ a0.length)) (some ((a0.take (Int.toNat 100)).drop 0))) else (some a0)).bind fun o9 => (laid.f K o9 a1).bind fun t15 => (laid.f K o9 ([] : List (List Int))).bind fun t25 => (if t15.2.2.2 = true then (some (!t25.2.2.2)) else (some true)).bind fun o34 => if o34 = true then (some false) else ((sFrames.f t15.1).bind fun t42 => (sFramesF.f K (fun (i92 : Int) (x100 : Int × Int × Int × Int × ByteArray × ByteArray × Int × Int × Int × Int × ByteArray × Int × Int × Int × Int) => (if (o9.length : Int) ≤ i92 then (some true) else (gd ((0 : Int) ≤ i92 ∧ i92 < (t15.2.1.length : Int)) (gd ((0 : Int) ≤ i92 ∧ i92 < (t15.2.1.length : Int)) (if x100.1 ≠ (rd t15.2.1 i92) then (some true) else (gd ((0 : Int) ≤ i92 ∧ i92 < (o9.length : Int)) (gd ((0 : Int) ≤ i92 ∧ i92 < (o9.length : Int)) ((recordOf.f K ((rd o9 i92).1) ((rd o9 i92).2.1) ((rd o9 i92).2.2.1) ((rd o9 i92).2.2.2) (IntKind.wrap .u64 (IntKind.wrap .i64 (i92 + 1)))).bind fun t141 => if x100.2.1 = x100.2.1 ∧ (x100.2.2.1 = t141.1 ∧ x100.2.2.2.1 = t141.2.1 ∧ x100.2.2.2.2.1 = t141.2.2.1 ∧ x100.2.2.2.2.2.1 = t141.2.2.2 ∧ True) ∧ (x100.2.2.2.2.2.2.1 = 0 ∧ x100.2.2.2.2.2.2.2.1 = 0 ∧ x100.2.2.2.2.2.2.2.2.1 = 0 ∧ x100.2.2.2.2.2.2.2.2.2.1 = 0 ∧ x100.2.2.2.2.2.2.2.2.2.2.1 = ByteArray.empty ∧ True) ∧ (x100.2.2.2.2.2.2.2.2.2.2.2.1 = 0 ∧ (x100.2.2.2.2.2.2.2.2.2.2.2.2.1 = 0 ∧ x100.2.2.2.2.2.2.2.2.2.2.2.2.2.1 = 0 ∧ x100.2.2.2.2.2.2.2.2.2.2.2.2.2.2 = 0 ∧ True) ∧ True) ∧ True then (some (decide (x100.2.1 ≠ x100.2.2.2.1))) else (some true)))))))).bind fun o129 => if o129 = true then (some (.inr i92)) else (some (.inl (IntKind.wrap .i64 (i92 + 1))))) 0 t15.1).bind fun t98 => ysel t98 (fun i92 => (sExtents.f K t15.1).bind fun t148 => thn (TopScanned.l1 t148 K (0, 0, 0)) fun o243 => (sClean.f K t15.1).bind fun t442 => (sExtents.f K t442).bind fun t448 => (sNext.f K [167] 0).bind fun t455 => if i92 = (o9.length : Int) then (if o243.1 = (t15.1.length : Int) then (if o243.2 = t15.2.2.1 then ((sameBytes.f t442 t25.1).bind fun t462 => if t462 = true then (if (t448.length : Int) = (o9.length : Int) then (if t455.1 = (-1) then (some (decide (t455.2 = 0))) else (some false)) else (some false)) else (some false)) else (some false)) else (some false)) else (some false)) (fun e95 => some false))
theorem TopScanned.calls {B : Nat} {w0 : World} {G : List HP} (K : Nat) (a0 : List T95_) (a1 : List (List Int)) (Aa0 : Option Addr) (ca0 : Nat) (Aa1 : Option Addr) (ca1 : Nat) (va1 : List Value) (ha0 : RdG B w0 G Aa0 (a0.flatMap encT95_)) (ka0 : a0.length ≤ ca0) (ha1 : RdG B w0 G Aa1 va1) (hva1 : VV B w0 G (Value.int .u8) va1 a1) (ka1 : a1.length ≤ ca1) (r : Bool) (H : TopScanned.f K a0 a1 = some r) (w : World) (hw : St B w0 (G) w) :
    Calls Try.prog 12 [.slice Aa0 a0.length ca0, .slice Aa1 a1.length ca1].toArray w (fun e w' => e = .returned (.bool r) ∧ St B w0 (G) w') := by
  unfold TopScanned.f at H
  refine calls_ofM (n := 200) (s := [(0, .slice Aa0 a0.length ca0), (1, .slice Aa1 a1.length ca1)]) Try.func12 rfl rfl rfl rfl ?_ hw
  refine C.rs ?_
  refine J.box (L := [.slice Aa0 a0.length ca0]) rfl rfl rfl (fun g1 => ?_)
  refine J.alloc (L := [.bool false]) rfl ti4 rfl (fun g3 => ?_)
  refine J.nx ?_
  refine C.seq ?_
  refine C.rs ?_
  refine J.r rfl rfl rfl rfl (Y.ldC 1 Try.underlying89 rfl rfl rfl rfl) ?_
  refine J.p rfl rfl rfl rfl (Y.lenS Try.underlying89 rfl) ?_
  refine J.p rfl rfl rfl rfl (Y.bin rfl rfl rfl) ?_
  refine J.nx ?_
  refine C.joinND H (fun (o9 : (List T95_)) (j10 : (Option Addr) × Nat) => [(1, .slice Aa1 a1.length ca1), (2, .pointer (some ⟨g1, 0, none⟩)), (4, .pointer (some ⟨g3, 0, none⟩))]) (fun (o9 : (List T95_)) (j10 : (Option Addr) × Nat) => cells g1 89 [.slice j10.1 o9.length j10.2] :: cells g3 4 [.bool false] :: G) (fun (o9 : (List T95_)) (j10 : (Option Addr) × Nat) => (RdG B w0 G j10.1 (o9.flatMap encT95_) ∧ o9.length ≤ j10.2)) (fun o7 H HK8 => ?_) (fun ds12 o9 j10 H hx11 => ?_)
  · refine split2 H (fun c13 H => ?_) (fun c13 H => ?_)
    · refine C.condT (congrArg (fun b => some (Value.bool b)) (decide_eq_true c13)) ?_
      refine C.reg ?_
      refine J.r rfl rfl rfl rfl (Y.ldC 1 Try.underlying89 rfl rfl rfl rfl) ?_
      obtain ⟨p14, H⟩ := gd_some H
      refine J.p rfl rfl rfl rfl (Y.slcM Try.underlying89 ti95 rfl bnd.no (bnd.yes rfl p14.1) p14.2 ka0) ?_
      refine J.pull 1 rfl rfl ?_
      refine J.stE (L' := [.slice (subA 4 Aa0 ca0 0) ((a0.take (Int.toNat 100)).drop 0).length (ca0 - 0)]) ti89 rfl rfl rfl rfl rfl ?_
      refine J.nil ?_
      obtain rfl := Option.some.inj H
      exact N.meetD (((a0.take (Int.toNat 100)).drop 0), (subA 4 Aa0 ca0 0, ca0 - 0)) ⟨HK8, ⟨(RdG.subM lenT95_ (l := 0) (h := (Int.toNat 100)) ha0 ka0), (hc_sub ka0)⟩⟩ (by exact ⟨rfl, rfl, rfl, trivial⟩) (by exact fun w h => (St.pick [2, 0, 1] [_, _, _] h rfl))
    · refine C.condF (congrArg (fun b => some (Value.bool b)) (decide_eq_false c13)) ?_
      refine C.skip ?_
      obtain rfl := Option.some.inj H
      exact N.meetD (a0, (Aa0, ca0)) ⟨HK8, ⟨ha0, ka0⟩⟩ (by exact ⟨rfl, rfl, rfl, trivial⟩) (by exact fun w h => (St.pick [2, 1, 0] [_, _, _] h rfl))
  · refine N.at (s' := [(1, .slice Aa1 a1.length ca1), (2, .pointer (some ⟨g1, 0, none⟩)), (4, .pointer (some ⟨g3, 0, none⟩))]) (G' := dblks ds12 :: cells g1 89 [.slice j10.1 o9.length j10.2] :: cells g3 4 [.bool false] :: G) rfl rfl ?_
    refine N.nx ?_
    refine C.rs ?_
    refine J.r rfl rfl rfl rfl (Y.ldC 1 Try.underlying89 rfl rfl rfl rfl) ?_
    refine J.p rfl rfl rfl rfl (Y.mv rfl) ?_
    obtain ⟨t15, hC16, H⟩ := bind_some H
    refine J.call (us := []) (cap := []) rfl rfl rfl go40 (fun w hw => by have hcc := laid.calls K o9 a1 j10.1 j10.2 Aa1 ca1 va1 (hx11.1.suf [_, _, _] rfl) hx11.2 (ha1.suf [_, _, _] rfl) (hva1.suf [_, _, _] rfl) ka1 t15 hC16 w hw; exact hcc) (fun e w1 h1 => ?_)
    obtain ⟨A17, c18, A20, c21, rfl, hw474⟩ := h1
    refine ⟨_, _, rfl, hw474, ?_⟩
    refine J.p rfl rfl rfl rfl (Y.mv rfl) ?_
    refine J.p rfl rfl rfl rfl (Y.ext rfl rfl) ?_
    refine J.p rfl rfl rfl rfl (Y.ext rfl rfl) ?_
    refine J.p rfl rfl rfl rfl (Y.ext rfl rfl) ?_
    refine J.p rfl rfl rfl rfl (Y.ext rfl rfl) ?_
    refine J.alloc (L := [.slice none 0 0]) rfl ti90 rfl (fun g23 => ?_)
    refine J.p rfl rfl rfl rfl (Y.asg rfl) ?_
    refine J.stE (L' := [.slice A20 t15.2.1.length c21]) ti90 rfl rfl rfl rfl rfl ?_
    refine J.p rfl rfl rfl rfl (Y.asg rfl) ?_
    refine J.p rfl rfl rfl rfl (Y.asg rfl) ?_
    refine J.nx ?_
    refine C.rs ?_
    refine J.r rfl rfl rfl rfl (Y.ldC 4 Try.underlying89 rfl rfl rfl rfl) ?_
    obtain ⟨t25, hC26, H⟩ := bind_some H
    refine J.call (us := []) (cap := []) rfl rfl rfl go40 (fun w hw => by have hcc := laid.calls K o9 ([] : List (List Int)) j10.1 j10.2 none 0 ([] : List Value) (hx11.1.suf [_, _, _, _, _, _] rfl) hx11.2 RdG.none_ VV.nil (Nat.le_refl _) t25 hC26 w hw; exact hcc) (fun e w1 h1 => ?_)
    obtain ⟨A27, c28, A30, c31, rfl, hw473⟩ := h1
    refine ⟨_, _, rfl, hw473, ?_⟩
    refine J.p rfl rfl rfl rfl (Y.mv rfl) ?_
    refine J.p rfl rfl rfl rfl (Y.ext rfl rfl) ?_
    refine J.p rfl rfl rfl rfl (Y.ext rfl rfl) ?_
    refine J.p rfl rfl rfl rfl (Y.ext rfl rfl) ?_
    refine J.p rfl rfl rfl rfl (Y.ext rfl rfl) ?_
    refine J.p rfl rfl rfl rfl (Y.asg rfl) ?_
    refine J.p rfl rfl rfl rfl (Y.asg rfl) ?_
    refine J.p rfl rfl rfl rfl (Y.asg rfl) ?_
    refine J.p rfl rfl rfl rfl (Y.asg rfl) ?_
    refine J.nx ?_
    refine C.seq ?_
    refine C.rs ?_
    refine J.joinBD H (fun (o34 : Bool) (j35 : Unit) => [(2, .pointer (some ⟨g1, 0, none⟩)), (4, .pointer (some ⟨g3, 0, none⟩)), (5, .slice A17 t15.1.length c18), (6, .pointer (some ⟨g23, 0, none⟩)), (7, .int .i64 t15.2.2.1), (9, .slice A27 t25.1.length c28), (50, .bool o34)]) (fun (o34 : Bool) (j35 : Unit) => cells g1 89 [.slice j10.1 o9.length j10.2] :: cells g3 4 [.bool false] :: own 5 1 A17 c18 (t15.1.map (Value.int .u8)) :: cells g23 90 [.slice A20 t15.2.1.length c21] :: own 5 1 A27 c28 (t25.1.map (Value.int .u8)) :: own 3 1 A20 c21 (t15.2.1.map (Value.int .i64)) :: G) (fun (o34 : Bool) (j35 : Unit) => True) (fun o37 H HK38 => ?_) (fun ds36 o34 j35 H _ => ?_)
    · refine J.p rfl rfl rfl rfl (Y.mv rfl) ?_
      refine J.p rfl rfl rfl rfl (Y.notb rfl) ?_
      refine J.p rfl rfl rfl rfl (Y.mv rfl) ?_
      refine split2 H (fun c39 H => ?_) (fun c39 H => ?_)
      · refine J.as (k := 47) rfl (congrArg Value.bool (congrArg Bool.not (c39))) ?_
        refine J.p rfl rfl rfl rfl (Y.mv rfl) ?_
        refine J.p rfl rfl rfl rfl (Y.notb rfl) ?_
        refine J.p rfl rfl rfl rfl (Y.pickF rfl rfl) ?_
        refine J.nil ?_
        obtain rfl := Option.some.inj H
        exact N.meetD (!t25.2.2.2, ()) ⟨HK38, trivial⟩ (by exact ⟨rfl, rfl, rfl, rfl, rfl, rfl, rfl, trivial⟩) (by exact fun w h => (St.pick [5, 6, 7, 3, 2, 0, 4] [_, _, _, _, _, _, _, _] h rfl))
      · refine J.as (k := 47) rfl (congrArg Value.bool (congrArg Bool.not (nt c39))) ?_
        refine J.skip rfl rfl ?_
        refine J.skip rfl rfl ?_
        refine J.p rfl rfl rfl rfl (Y.pickT rfl rfl) ?_
        refine J.nil ?_
        obtain rfl := Option.some.inj H
        exact N.meetD (true, ()) ⟨HK38, trivial⟩ (by exact ⟨rfl, rfl, rfl, rfl, rfl, rfl, rfl, trivial⟩) (by exact fun w h => (St.pick [5, 6, 7, 3, 2, 0, 4] [_, _, _, _, _, _, _, _] h rfl))
    · refine C.at (s' := [(2, .pointer (some ⟨g1, 0, none⟩)), (4, .pointer (some ⟨g3, 0, none⟩)), (5, .slice A17 t15.1.length c18), (6, .pointer (some ⟨g23, 0, none⟩)), (7, .int .i64 t15.2.2.1), (9, .slice A27 t25.1.length c28), (50, .bool o34)]) (G' := dblks ds36 :: cells g1 89 [.slice j10.1 o9.length j10.2] :: cells g3 4 [.bool false] :: own 5 1 A17 c18 (t15.1.map (Value.int .u8)) :: cells g23 90 [.slice A20 t15.2.1.length c21] :: own 5 1 A27 c28 (t25.1.map (Value.int .u8)) :: own 3 1 A20 c21 (t15.2.1.map (Value.int .i64)) :: G) rfl rfl ?_
      refine split2 H (fun c40 H => ?_) (fun c40 H => ?_)
      · refine C.condT (congrArg (fun b => some (Value.bool b)) (c40)) ?_
        refine C.rs ?_
        refine J.pull 2 rfl rfl ?_
        refine J.stE (L' := [.bool false]) ti4 rfl rfl rfl rfl rfl ?_
        refine J.nx ?_
        refine C.ret ?_
        obtain rfl := Option.some.inj H
        refine T.th ?_
        exact ret_okM (cells g3 4 [.bool false] :: cells g1 89 [.slice j10.1 o9.length j10.2] :: own 5 1 A17 c18 (t15.1.map (Value.int .u8)) :: cells g23 90 [.slice A20 t15.2.1.length c21] :: own 5 1 A27 c28 (t25.1.map (Value.int .u8)) :: own 3 1 A20 c21 (t15.2.1.map (Value.int .i64)) :: G) (rvs := [.cell 4 4]) (vs := [.bool false]) rfl ⟨RV.cell 0 Try.underlying4 rfl rfl rfl rfl, trivial⟩ (fun w h => (St.pick [1, 0, 2, 3, 4, 5, 6] [_, _, _, _, _, _, _] h rfl)) (fun w h => ⟨rfl, (St.pick [] [_, _, _, _, _, _] h rfl)⟩)
      · refine C.condF (congrArg (fun b => some (Value.bool b)) (nt c40)) ?_
        refine C.skip ?_
        refine N.nx ?_
        refine C.rs ?_
        refine J.p rfl rfl rfl rfl (Y.mv rfl) ?_
        refine J.know (own_leL 3 rfl) (fun hc41 => ?_)
        obtain ⟨t42, hC43, H⟩ := bind_some H
        refine J.call (us := []) (cap := []) rfl rfl rfl go34 (fun w hw => by have hcc := sFrames.calls t15.1 A17 c18 (RdG.own 3 rfl) hc41 t42 hC43 w hw; exact hcc) (fun e w1 h1 => ?_)
        obtain ⟨g44, rfl, hw472⟩ := h1
        refine ⟨_, _, rfl, hw472, ?_⟩
        refine J.p rfl rfl rfl rfl (Y.asg rfl) ?_
        refine J.nx ?_
        refine C.seq ?_
        refine C.rs ?_
        refine J.p rfl rfl rfl rfl (Y.mv rfl) ?_
        refine J.p rfl rfl rfl rfl (Y.eqfn Try.underlying69 rfl rfl) ?_
        refine J.nx ?_
        refine C.condF rfl ?_
        refine C.skip ?_
        refine N.nx ?_
        refine C.rs ?_
        refine J.alloc (L := [.int .i64 0]) rfl ti3 rfl (fun g46 => ?_)
        refine J.stE (L' := [.int .i64 0]) ti3 rfl rfl rfl rfl rfl ?_
        refine J.nx ?_
        refine C.seq ?_
        refine C.rs ?_
        refine J.p rfl rfl rfl rfl (Y.mv rfl) ?_
        refine J.nx ?_
        refine C.blk ?_
        refine C.sub (s' := [(2, .pointer (some ⟨g1, 0, none⟩)), (4, .pointer (some ⟨g3, 0, none⟩)), (5, .slice A17 t15.1.length c18), (6, .pointer (some ⟨g23, 0, none⟩)), (7, .int .i64 t15.2.2.1), (9, .slice A27 t25.1.length c28), (14, .pointer (some ⟨g46, 0, none⟩)), (55, .func (.func 54) #[] #[.pointer (some ⟨g44, 0, none⟩)])]) (by exact ⟨rfl, rfl, rfl, rfl, rfl, rfl, rfl, rfl, trivial⟩) ?_
        refine C.know (own_leL 5 rfl) (fun hc97 => ?_)
        refine C.know (own_leL 5 rfl) (fun hc104 => ?_)
        refine C.know (own_leL 7 rfl) (fun hc106 => ?_)
        refine C.know (own_leL 8 rfl) (fun hc110 => ?_)
        have hkey : ∀ Gx, Gx = (cells g44 22 [.slice A17 t15.1.length c18] :: own 5 1 A17 c18 (t15.1.map (Value.int .u8)) :: own 5 1 A27 c28 (t25.1.map (Value.int .u8)) :: own 3 1 A20 c21 (t15.2.1.map (Value.int .i64)) :: G) → RdG B w0 Gx A17 (t15.1.map (Value.int .u8)) ∧ RdG B w0 Gx A27 (t25.1.map (Value.int .u8)) ∧ RdG B w0 Gx (some ⟨g44, 0, none⟩) [.slice A17 t15.1.length c18] ∧ RdG B w0 Gx j10.1 (o9.flatMap encT95_) ∧ RdG B w0 Gx A20 (t15.2.1.map (Value.int .i64)) ∧ True := by rintro _ rfl; exact ⟨(RdG.own 1 rfl), (RdG.own 2 rfl), (RdG.cells 0 rfl), (hx11.1.suf [_, _, _, _] rfl), (RdG.own 3 rfl), trivial⟩
        obtain ⟨hb103, hb105, hb107, hb108, hb109, _⟩ := hkey _ rfl
        obtain ⟨t98, hC99, H⟩ := bind_some H
        refine C.rangeF' (E := Int) (Gb := cells g44 22 [.slice A17 t15.1.length c18] :: own 5 1 A17 c18 (t15.1.map (Value.int .u8)) :: own 5 1 A27 c28 (t25.1.map (Value.int .u8)) :: own 3 1 A20 c21 (t15.2.1.map (Value.int .i64)) :: G) (caps := [.pointer (some ⟨g44, 0, none⟩)]) encY118 (fun (i92 : Int) (j93 : Unit) => [cells g46 3 [.int .i64 i92], cells g1 89 [.slice j10.1 o9.length j10.2], cells g3 4 [.bool false], cells g23 90 [.slice A20 t15.2.1.length c21]]) (fun (i92 : Int) (j93 : Unit) => True) (fun (e95 : Int) (k96 : Unit) => [cells g3 4 [.bool false], cells g1 89 [.slice j10.1 o9.length j10.2], cells g23 90 [.slice A20 t15.2.1.length c21], cells g46 3 [.int .i64 e95]]) (fun (e95 : Int) (k96 : Unit) => True) (fun (_ : Int) => .ret) (fun (x100 : Int × Int × Int × Int × ByteArray × ByteArray × Int × Int × Int × Int × ByteArray × Int × Int × Int × Int) (z146 : Nat) => [cells z146 53 [.int .i64 x100.2.1, .int .u64 x100.2.2.1, .int .i64 x100.2.2.2.1, .string x100.2.2.2.2.1, .string x100.2.2.2.2.2.1, .int .u64 x100.2.2.2.2.2.2.1, .int .i64 x100.2.2.2.2.2.2.2.1, .int .i64 x100.2.2.2.2.2.2.2.2.1, .int .i64 x100.2.2.2.2.2.2.2.2.2.1, .string x100.2.2.2.2.2.2.2.2.2.2.1, .int .i64 x100.2.2.2.2.2.2.2.2.2.2.2.1, .int .i64 x100.2.2.2.2.2.2.2.2.2.2.2.2.1, .int .i64 x100.2.2.2.2.2.2.2.2.2.2.2.2.2.1, .int .u32 x100.2.2.2.2.2.2.2.2.2.2.2.2.2.2]]) (fun (x100 : Int × Int × Int × Int × ByteArray × ByteArray × Int × Int × Int × Int × ByteArray × Int × Int × Int × Int) (z146 : Nat) => [(2, .pointer (some ⟨g1, 0, none⟩)), (4, .pointer (some ⟨g3, 0, none⟩)), (5, .slice A17 t15.1.length c18), (6, .pointer (some ⟨g23, 0, none⟩)), (7, .int .i64 t15.2.2.1), (9, .slice A27 t25.1.length c28), (14, .pointer (some ⟨g46, 0, none⟩)), (15, .int .i64 x100.1), (16, .pointer (some ⟨z146, 0, none⟩)), (55, .func (.func 54) #[] #[.pointer (some ⟨g44, 0, none⟩)]), (56, .int .i64 x100.1), (57, .agg #[.int .i64 x100.2.1, .int .u64 x100.2.2.1, .int .i64 x100.2.2.2.1, .string x100.2.2.2.2.1, .string x100.2.2.2.2.2.1, .int .u64 x100.2.2.2.2.2.2.1, .int .i64 x100.2.2.2.2.2.2.2.1, .int .i64 x100.2.2.2.2.2.2.2.2.1, .int .i64 x100.2.2.2.2.2.2.2.2.2.1, .string x100.2.2.2.2.2.2.2.2.2.2.1, .int .i64 x100.2.2.2.2.2.2.2.2.2.2.2.1, .int .i64 x100.2.2.2.2.2.2.2.2.2.2.2.2.1, .int .i64 x100.2.2.2.2.2.2.2.2.2.2.2.2.2.1, .int .u32 x100.2.2.2.2.2.2.2.2.2.2.2.2.2.2])]) _ 0 () t98 rfl go54 (fun _ => rfl) (by rfl) (by decide) (pf_of rfl) trivial (fun w h => (St.pick [2, 0, 3, 4, 6, 1, 5, 7, 8] [_, _, _, _, _, _, _, _, _] h rfl)) (fun Yy yv hy w hw => sFramesF.calls K _ _ t15.1 Yy yv g44 A17 c18 hy (RdG.own 1 rfl) hc97 (RdG.cells 0 rfl) _ hC99 w hw) (fun l i92 j93 x100 L101 _ => ?_) (fun l i92 j93 x100 z146 o L101 G hGG H _ hl102 => ?_) (fun ds94 i92 j93 hr _ => ?_) (fun ds94 e95 k96 hr hx => ?_)
        · refine C.sub (s' := [(2, .pointer (some ⟨g1, 0, none⟩)), (4, .pointer (some ⟨g3, 0, none⟩)), (5, .slice A17 t15.1.length c18), (6, .pointer (some ⟨g23, 0, none⟩)), (7, .int .i64 t15.2.2.1), (9, .slice A27 t25.1.length c28), (14, .pointer (some ⟨g46, 0, none⟩)), (55, .func (.func 54) #[] #[.pointer (some ⟨g44, 0, none⟩)]), (56, .int .i64 x100.1), (57, .agg #[.int .i64 x100.2.1, .int .u64 x100.2.2.1, .int .i64 x100.2.2.2.1, .string x100.2.2.2.2.1, .string x100.2.2.2.2.2.1, .int .u64 x100.2.2.2.2.2.2.1, .int .i64 x100.2.2.2.2.2.2.2.1, .int .i64 x100.2.2.2.2.2.2.2.2.1, .int .i64 x100.2.2.2.2.2.2.2.2.2.1, .string x100.2.2.2.2.2.2.2.2.2.2.1, .int .i64 x100.2.2.2.2.2.2.2.2.2.2.2.1, .int .i64 x100.2.2.2.2.2.2.2.2.2.2.2.2.1, .int .i64 x100.2.2.2.2.2.2.2.2.2.2.2.2.2.1, .int .u32 x100.2.2.2.2.2.2.2.2.2.2.2.2.2.2])]) (by exact ⟨rfl, rfl, rfl, rfl, rfl, rfl, rfl, rfl, rfl, rfl, trivial⟩) ?_
          refine C.rs ?_
          refine J.p rfl rfl rfl rfl (Y.asg rfl) ?_
          refine J.nx ?_
          refine C.reg ?_
          refine J.alloc (L := [.int .i64 0, .int .u64 0, .int .i64 0, .string ByteArray.empty, .string ByteArray.empty, .int .u64 0, .int .i64 0, .int .i64 0, .int .i64 0, .string ByteArray.empty, .int .i64 0, .int .i64 0, .int .i64 0, .int .u32 0]) rfl ti53 rfl (fun g111 => ?_)
          refine J.stA (us := [.int .i64 x100.2.1, .int .u64 x100.2.2.1, .int .i64 x100.2.2.2.1, .string x100.2.2.2.2.1, .string x100.2.2.2.2.2.1, .int .u64 x100.2.2.2.2.2.2.1, .int .i64 x100.2.2.2.2.2.2.2.1, .int .i64 x100.2.2.2.2.2.2.2.2.1, .int .i64 x100.2.2.2.2.2.2.2.2.2.1, .string x100.2.2.2.2.2.2.2.2.2.2.1, .int .i64 x100.2.2.2.2.2.2.2.2.2.2.2.1, .int .i64 x100.2.2.2.2.2.2.2.2.2.2.2.2.1, .int .i64 x100.2.2.2.2.2.2.2.2.2.2.2.2.2.1, .int .u32 x100.2.2.2.2.2.2.2.2.2.2.2.2.2.2]) (L' := [.int .i64 x100.2.1, .int .u64 x100.2.2.1, .int .i64 x100.2.2.2.1, .string x100.2.2.2.2.1, .string x100.2.2.2.2.2.1, .int .u64 x100.2.2.2.2.2.2.1, .int .i64 x100.2.2.2.2.2.2.2.1, .int .i64 x100.2.2.2.2.2.2.2.2.1, .int .i64 x100.2.2.2.2.2.2.2.2.2.1, .string x100.2.2.2.2.2.2.2.2.2.2.1, .int .i64 x100.2.2.2.2.2.2.2.2.2.2.2.1, .int .i64 x100.2.2.2.2.2.2.2.2.2.2.2.2.1, .int .i64 x100.2.2.2.2.2.2.2.2.2.2.2.2.2.1, .int .u32 x100.2.2.2.2.2.2.2.2.2.2.2.2.2.2]) ti53 rfl rfl rfl rfl rfl rfl ?_
          refine J.nil ?_
          exact N.asg g111 (by exact ⟨rfl, rfl, rfl, rfl, rfl, rfl, rfl, rfl, rfl, rfl, rfl, rfl, trivial⟩) (fun w h => h)
        · obtain ⟨g111, hz⟩ := (⟨z146, rfl⟩ : ∃ g, g = z146)
          subst hz
          replace hb103 := RdG.suf hb103 L101 hGG
          replace hb105 := RdG.suf hb105 L101 hGG
          replace hb107 := RdG.suf hb107 L101 hGG
          replace hb108 := RdG.suf hb108 L101 hGG
          replace hb109 := RdG.suf hb109 L101 hGG
          refine C.at (s' := [(2, .pointer (some ⟨g1, 0, none⟩)), (4, .pointer (some ⟨g3, 0, none⟩)), (5, .slice A17 t15.1.length c18), (6, .pointer (some ⟨g23, 0, none⟩)), (7, .int .i64 t15.2.2.1), (9, .slice A27 t25.1.length c28), (14, .pointer (some ⟨g46, 0, none⟩)), (15, .int .i64 x100.1), (16, .pointer (some ⟨g111, 0, none⟩)), (55, .func (.func 54) #[] #[.pointer (some ⟨g44, 0, none⟩)]), (56, .int .i64 x100.1), (57, .agg #[.int .i64 x100.2.1, .int .u64 x100.2.2.1, .int .i64 x100.2.2.2.1, .string x100.2.2.2.2.1, .string x100.2.2.2.2.2.1, .int .u64 x100.2.2.2.2.2.2.1, .int .i64 x100.2.2.2.2.2.2.2.1, .int .i64 x100.2.2.2.2.2.2.2.2.1, .int .i64 x100.2.2.2.2.2.2.2.2.2.1, .string x100.2.2.2.2.2.2.2.2.2.2.1, .int .i64 x100.2.2.2.2.2.2.2.2.2.2.2.1, .int .i64 x100.2.2.2.2.2.2.2.2.2.2.2.2.1, .int .i64 x100.2.2.2.2.2.2.2.2.2.2.2.2.2.1, .int .u32 x100.2.2.2.2.2.2.2.2.2.2.2.2.2.2])]) (G' := cells g111 53 [.int .i64 x100.2.1, .int .u64 x100.2.2.1, .int .i64 x100.2.2.2.1, .string x100.2.2.2.2.1, .string x100.2.2.2.2.2.1, .int .u64 x100.2.2.2.2.2.2.1, .int .i64 x100.2.2.2.2.2.2.2.1, .int .i64 x100.2.2.2.2.2.2.2.2.1, .int .i64 x100.2.2.2.2.2.2.2.2.2.1, .string x100.2.2.2.2.2.2.2.2.2.2.1, .int .i64 x100.2.2.2.2.2.2.2.2.2.2.2.1, .int .i64 x100.2.2.2.2.2.2.2.2.2.2.2.2.1, .int .i64 x100.2.2.2.2.2.2.2.2.2.2.2.2.2.1, .int .u32 x100.2.2.2.2.2.2.2.2.2.2.2.2.2.2] :: cells g46 3 [.int .i64 i92] :: cells g1 89 [.slice j10.1 o9.length j10.2] :: cells g3 4 [.bool false] :: cells g23 90 [.slice A20 t15.2.1.length c21] :: G) rfl rfl ?_
          refine C.blk ?_
          refine C.seq ?_
          refine C.joinB H (fun (o129 : Bool) (j130 : Unit) => [(2, .pointer (some ⟨g1, 0, none⟩)), (4, .pointer (some ⟨g3, 0, none⟩)), (5, .slice A17 t15.1.length c18), (6, .pointer (some ⟨g23, 0, none⟩)), (7, .int .i64 t15.2.2.1), (9, .slice A27 t25.1.length c28), (14, .pointer (some ⟨g46, 0, none⟩)), (55, .func (.func 54) #[] #[.pointer (some ⟨g44, 0, none⟩)]), (92, .bool o129)]) (fun (o129 : Bool) (j130 : Unit) => cells g1 89 [.slice j10.1 o9.length j10.2] :: cells g3 4 [.bool false] :: cells g23 90 [.slice A20 t15.2.1.length c21] :: cells g46 3 [.int .i64 i92] :: G) (fun (o129 : Bool) (j130 : Unit) => True) (fun o127 H HK128 => ?_) (fun o129 j130 H _ => ?_)
          · refine C.drawn (fuel := 35) (ls := [false, false, false, false, false, false, false, false, false, false, false, false, false, false, false, false, false, false, false, false, false, false, false, false, false, false, false, false, false, false, false, false, false, false, false]) [] (cells g111 53 [.int .i64 x100.2.1, .int .u64 x100.2.2.1, .int .i64 x100.2.2.2.1, .string x100.2.2.2.2.1, .string x100.2.2.2.2.2.1, .int .u64 x100.2.2.2.2.2.2.1, .int .i64 x100.2.2.2.2.2.2.2.1, .int .i64 x100.2.2.2.2.2.2.2.2.1, .int .i64 x100.2.2.2.2.2.2.2.2.2.1, .string x100.2.2.2.2.2.2.2.2.2.2.1, .int .i64 x100.2.2.2.2.2.2.2.2.2.2.2.1, .int .i64 x100.2.2.2.2.2.2.2.2.2.2.2.2.1, .int .i64 x100.2.2.2.2.2.2.2.2.2.2.2.2.2.1, .int .u32 x100.2.2.2.2.2.2.2.2.2.2.2.2.2.2] :: cells g46 3 [.int .i64 i92] :: cells g1 89 [.slice j10.1 o9.length j10.2] :: cells g3 4 [.bool false] :: cells g23 90 [.slice A20 t15.2.1.length c21] :: G) mx rfl rfl ?_
            refine D.r (ls' := [true, false, false, false, false, false, false, false, false, false, false, false, false, false, false, false, false, false, false, false, false, false, false, false, false, false, false, false, false, false, false, false, false, false, false]) 0 1 0 rfl rfl rfl rfl (by kernel_rfl) (by kernel_rfl) rfl rfl (Y.ldC 1 Try.underlying3 rfl rfl rfl rfl) ?_
            refine D.r (ls' := [true, true, false, false, false, false, false, false, false, false, false, false, false, false, false, false, false, false, false, false, false, false, false, false, false, false, false, false, false, false, false, false, false, false, false]) 1 1 0 rfl rfl rfl rfl (by kernel_rfl) (by kernel_rfl) rfl rfl (Y.ldC 2 Try.underlying89 rfl rfl rfl rfl) ?_
            refine D.p (ls' := [true, true, true, false, false, false, false, false, false, false, false, false, false, false, false, false, false, false, false, false, false, false, false, false, false, false, false, false, false, false, false, false, false, false, false]) 2 rfl rfl rfl rfl (by kernel_rfl) rfl (Y.lenS Try.underlying89 rfl) ?_
            refine D.p (ls' := [true, true, true, true, false, false, false, false, false, false, false, false, false, false, false, false, false, false, false, false, false, false, false, false, false, false, false, false, false, false, false, false, false, false, false]) 3 rfl rfl rfl rfl (by kernel_rfl) rfl (Y.bin rfl rfl rfl) ?_
            refine D.p (ls' := [true, true, true, true, true, false, false, false, false, false, false, false, false, false, false, false, false, false, false, false, false, false, false, false, false, false, false, false, false, false, false, false, false, false, false]) 4 rfl rfl rfl rfl (by kernel_rfl) rfl (Y.mv rfl) ?_
            refine split2 H (fun c131 H => ?_) (fun c131 H => ?_)
            · refine D.as (k := 62) rfl (congrArg Value.bool (decide_eq_true c131)) ?_
              refine D.off (ls' := [true, true, true, true, true, true, false, false, false, false, false, false, false, false, false, false, false, false, false, false, false, false, false, false, false, false, false, false, false, false, false, false, false, false, false]) 5 rfl rfl rfl rfl (by kernel_rfl) rfl ?_
              refine D.off (ls' := [true, true, true, true, true, true, true, false, false, false, false, false, false, false, false, false, false, false, false, false, false, false, false, false, false, false, false, false, false, false, false, false, false, false, false]) 6 rfl rfl rfl rfl (by kernel_rfl) rfl ?_
              refine D.off (ls' := [true, true, true, true, true, true, true, true, false, false, false, false, false, false, false, false, false, false, false, false, false, false, false, false, false, false, false, false, false, false, false, false, false, false, false]) 7 rfl rfl rfl rfl (by kernel_rfl) rfl ?_
              refine D.off (ls' := [true, true, true, true, true, true, true, true, true, false, false, false, false, false, false, false, false, false, false, false, false, false, false, false, false, false, false, false, false, false, false, false, false, false, false]) 8 rfl rfl rfl rfl (by kernel_rfl) rfl ?_
              refine D.off (ls' := [true, true, true, true, true, true, true, true, true, true, false, false, false, false, false, false, false, false, false, false, false, false, false, false, false, false, false, false, false, false, false, false, false, false, false]) 9 rfl rfl rfl rfl (by kernel_rfl) rfl ?_
              refine D.off (ls' := [true, true, true, true, true, true, true, true, true, true, true, false, false, false, false, false, false, false, false, false, false, false, false, false, false, false, false, false, false, false, false, false, false, false, false]) 10 rfl rfl rfl rfl (by kernel_rfl) rfl ?_
              refine D.p (ls' := [true, true, true, true, true, true, true, true, true, true, true, true, false, false, false, false, false, false, false, false, false, false, false, false, false, false, false, false, false, false, false, false, false, false, false]) 11 rfl rfl rfl rfl (by kernel_rfl) rfl (Y.pickT rfl rfl) ?_
              refine D.p (ls' := [true, true, true, true, true, true, true, true, true, true, true, true, true, false, false, false, false, false, false, false, false, false, false, false, false, false, false, false, false, false, false, false, false, false, false]) 12 rfl rfl rfl rfl (by kernel_rfl) rfl (Y.mv rfl) ?_
              refine D.off (ls' := [true, true, true, true, true, true, true, true, true, true, true, true, true, true, false, false, false, false, false, false, false, false, false, false, false, false, false, false, false, false, false, false, false, false, false]) 13 rfl rfl rfl rfl (by kernel_rfl) rfl ?_
              refine D.off (ls' := [true, true, true, true, true, true, true, true, true, true, true, true, true, true, true, false, false, false, false, false, false, false, false, false, false, false, false, false, false, false, false, false, false, false, false]) 14 rfl rfl rfl rfl (by kernel_rfl) rfl ?_
              refine D.off (ls' := [true, true, true, true, true, true, true, true, true, true, true, true, true, true, true, true, false, false, false, false, false, false, false, false, false, false, false, false, false, false, false, false, false, false, false]) 15 rfl rfl rfl rfl (by kernel_rfl) rfl ?_
              refine D.off (ls' := [true, true, true, true, true, true, true, true, true, true, true, true, true, true, true, true, true, false, false, false, false, false, false, false, false, false, false, false, false, false, false, false, false, false, false]) 16 rfl rfl rfl rfl (by kernel_rfl) rfl ?_
              refine D.off (ls' := [true, true, true, true, true, true, true, true, true, true, true, true, true, true, true, true, true, true, false, false, false, false, false, false, false, false, false, false, false, false, false, false, false, false, false]) 17 rfl rfl rfl rfl (by kernel_rfl) rfl ?_
              refine D.off (ls' := [true, true, true, true, true, true, true, true, true, true, true, true, true, true, true, true, true, true, true, false, false, false, false, false, false, false, false, false, false, false, false, false, false, false, false]) 18 rfl rfl rfl rfl (by kernel_rfl) rfl ?_
              refine D.off (ls' := [true, true, true, true, true, true, true, true, true, true, true, true, true, true, true, true, true, true, true, true, false, false, false, false, false, false, false, false, false, false, false, false, false, false, false]) 19 rfl rfl rfl rfl (by kernel_rfl) rfl ?_
              refine D.off (ls' := [true, true, true, true, true, true, true, true, true, true, true, true, true, true, true, true, true, true, true, true, true, false, false, false, false, false, false, false, false, false, false, false, false, false, false]) 20 rfl rfl rfl rfl (by kernel_rfl) rfl ?_
              refine D.off (ls' := [true, true, true, true, true, true, true, true, true, true, true, true, true, true, true, true, true, true, true, true, true, true, false, false, false, false, false, false, false, false, false, false, false, false, false]) 21 rfl rfl rfl rfl (by kernel_rfl) rfl ?_
              refine D.off (ls' := [true, true, true, true, true, true, true, true, true, true, true, true, true, true, true, true, true, true, true, true, true, true, true, false, false, false, false, false, false, false, false, false, false, false, false]) 22 rfl rfl rfl rfl (by kernel_rfl) rfl ?_
              refine D.off (ls' := [true, true, true, true, true, true, true, true, true, true, true, true, true, true, true, true, true, true, true, true, true, true, true, true, false, false, false, false, false, false, false, false, false, false, false]) 23 rfl rfl rfl rfl (by kernel_rfl) rfl ?_
              refine D.off (ls' := [true, true, true, true, true, true, true, true, true, true, true, true, true, true, true, true, true, true, true, true, true, true, true, true, true, false, false, false, false, false, false, false, false, false, false]) 24 rfl rfl rfl rfl (by kernel_rfl) rfl ?_
              refine D.off (ls' := [true, true, true, true, true, true, true, true, true, true, true, true, true, true, true, true, true, true, true, true, true, true, true, true, true, true, false, false, false, false, false, false, false, false, false]) 25 rfl rfl rfl rfl (by kernel_rfl) rfl ?_
              refine D.p (ls' := [true, true, true, true, true, true, true, true, true, true, true, true, true, true, true, true, true, true, true, true, true, true, true, true, true, true, true, false, false, false, false, false, false, false, false]) 26 rfl rfl rfl rfl (by kernel_rfl) rfl (Y.pickT rfl rfl) ?_
              refine D.p (ls' := [true, true, true, true, true, true, true, true, true, true, true, true, true, true, true, true, true, true, true, true, true, true, true, true, true, true, true, true, false, false, false, false, false, false, false]) 27 rfl rfl rfl rfl (by kernel_rfl) rfl (Y.mv rfl) ?_
              refine D.off (ls' := [true, true, true, true, true, true, true, true, true, true, true, true, true, true, true, true, true, true, true, true, true, true, true, true, true, true, true, true, true, false, false, false, false, false, false]) 28 rfl rfl rfl rfl (by kernel_rfl) rfl ?_
              refine D.off (ls' := [true, true, true, true, true, true, true, true, true, true, true, true, true, true, true, true, true, true, true, true, true, true, true, true, true, true, true, true, true, true, false, false, false, false, false]) 29 rfl rfl rfl rfl (by kernel_rfl) rfl ?_
              refine D.off (ls' := [true, true, true, true, true, true, true, true, true, true, true, true, true, true, true, true, true, true, true, true, true, true, true, true, true, true, true, true, true, true, true, false, false, false, false]) 30 rfl rfl rfl rfl (by kernel_rfl) rfl ?_
              refine D.off (ls' := [true, true, true, true, true, true, true, true, true, true, true, true, true, true, true, true, true, true, true, true, true, true, true, true, true, true, true, true, true, true, true, true, false, false, false]) 31 rfl rfl rfl rfl (by kernel_rfl) rfl ?_
              refine D.off (ls' := [true, true, true, true, true, true, true, true, true, true, true, true, true, true, true, true, true, true, true, true, true, true, true, true, true, true, true, true, true, true, true, true, true, false, false]) 32 rfl rfl rfl rfl (by kernel_rfl) rfl ?_
              refine D.off (ls' := [true, true, true, true, true, true, true, true, true, true, true, true, true, true, true, true, true, true, true, true, true, true, true, true, true, true, true, true, true, true, true, true, true, true, false]) 33 rfl rfl rfl rfl (by kernel_rfl) rfl ?_
              refine D.p (ls' := [true, true, true, true, true, true, true, true, true, true, true, true, true, true, true, true, true, true, true, true, true, true, true, true, true, true, true, true, true, true, true, true, true, true, true]) 34 rfl rfl rfl rfl (by kernel_rfl) rfl (Y.pickT rfl rfl) ?_
              refine D.nil (by kernel_rfl) ?_
              obtain rfl := Option.some.inj H
              exact N.meet (true, ()) ⟨HK128, trivial⟩ (by exact ⟨rfl, rfl, rfl, rfl, rfl, rfl, rfl, rfl, rfl, trivial⟩) (by exact fun w h => (St.pick [2, 3, 4, 1] [_, _, _, _, _] h rfl))
            · refine D.as (k := 62) rfl (congrArg Value.bool (decide_eq_false c131)) ?_
              refine D.p (ls' := [true, true, true, true, true, true, false, false, false, false, false, false, false, false, false, false, false, false, false, false, false, false, false, false, false, false, false, false, false, false, false, false, false, false, false]) 5 rfl rfl rfl rfl (by kernel_rfl) rfl (Y.mv rfl) ?_
              refine D.r (ls' := [true, true, true, true, true, true, true, false, false, false, false, false, false, false, false, false, false, false, false, false, false, false, false, false, false, false, false, false, false, false, false, false, false, false, false]) 6 1 0 rfl rfl rfl rfl (by kernel_rfl) (by kernel_rfl) rfl rfl (Y.ldC 4 Try.underlying90 rfl rfl rfl rfl) ?_
              refine D.r (ls' := [true, true, true, true, true, true, true, true, false, false, false, false, false, false, false, false, false, false, false, false, false, false, false, false, false, false, false, false, false, false, false, false, false, false, false]) 7 1 0 rfl rfl rfl rfl (by kernel_rfl) (by kernel_rfl) rfl rfl (Y.ldC 1 Try.underlying3 rfl rfl rfl rfl) ?_
              obtain ⟨p134, H⟩ := gd_some H
              refine D.know ((hb109.suf [_, _, _, _, _] rfl).some_ (j := Int.toNat i92) (by rw [List.length_map]; exact idx_lt p134)) (fun hh => ?_)
              obtain ⟨a132, ha133⟩ := hh
              refine D.p (ls' := [true, true, true, true, true, true, true, true, true, false, false, false, false, false, false, false, false, false, false, false, false, false, false, false, false, false, false, false, false, false, false, false, false, false, false]) 8 rfl rfl rfl rfl (by kernel_rfl) rfl (Y.ixa Try.underlying90 ti3 rfl rfl p134 ha133) ?_
              obtain ⟨p135, H⟩ := gd_some H
              refine D.r (ls' := [true, true, true, true, true, true, true, true, true, true, false, false, false, false, false, false, false, false, false, false, false, false, false, false, false, false, false, false, false, false, false, false, false, false, false]) 9 1 0 rfl rfl rfl rfl (by kernel_rfl) (by kernel_rfl) rfl rfl (Y.ldE Try.underlying3 rfl rfl ha133 p135 (hb109.suf [_, _, _, _, _] rfl)) ?_
              refine D.p (ls' := [true, true, true, true, true, true, true, true, true, true, true, false, false, false, false, false, false, false, false, false, false, false, false, false, false, false, false, false, false, false, false, false, false, false, false]) 10 rfl rfl rfl rfl (by kernel_rfl) rfl (Y.bin rfl rfl rfl) ?_
              refine D.p (ls' := [true, true, true, true, true, true, true, true, true, true, true, true, false, false, false, false, false, false, false, false, false, false, false, false, false, false, false, false, false, false, false, false, false, false, false]) 11 rfl rfl rfl rfl (by kernel_rfl) rfl (Y.pickF rfl rfl) ?_
              refine D.p (ls' := [true, true, true, true, true, true, true, true, true, true, true, true, true, false, false, false, false, false, false, false, false, false, false, false, false, false, false, false, false, false, false, false, false, false, false]) 12 rfl rfl rfl rfl (by kernel_rfl) rfl (Y.mv rfl) ?_
              refine split2 H (fun c136 H => ?_) (fun c136 H => ?_)
              · refine D.as (k := 70) rfl (congrArg Value.bool (decide_eq_true c136)) ?_
                refine D.off (ls' := [true, true, true, true, true, true, true, true, true, true, true, true, true, true, false, false, false, false, false, false, false, false, false, false, false, false, false, false, false, false, false, false, false, false, false]) 13 rfl rfl rfl rfl (by kernel_rfl) rfl ?_
                refine D.off (ls' := [true, true, true, true, true, true, true, true, true, true, true, true, true, true, true, false, false, false, false, false, false, false, false, false, false, false, false, false, false, false, false, false, false, false, false]) 14 rfl rfl rfl rfl (by kernel_rfl) rfl ?_
                refine D.off (ls' := [true, true, true, true, true, true, true, true, true, true, true, true, true, true, true, true, false, false, false, false, false, false, false, false, false, false, false, false, false, false, false, false, false, false, false]) 15 rfl rfl rfl rfl (by kernel_rfl) rfl ?_
                refine D.off (ls' := [true, true, true, true, true, true, true, true, true, true, true, true, true, true, true, true, true, false, false, false, false, false, false, false, false, false, false, false, false, false, false, false, false, false, false]) 16 rfl rfl rfl rfl (by kernel_rfl) rfl ?_
                refine D.off (ls' := [true, true, true, true, true, true, true, true, true, true, true, true, true, true, true, true, true, true, false, false, false, false, false, false, false, false, false, false, false, false, false, false, false, false, false]) 17 rfl rfl rfl rfl (by kernel_rfl) rfl ?_
                refine D.off (ls' := [true, true, true, true, true, true, true, true, true, true, true, true, true, true, true, true, true, true, true, false, false, false, false, false, false, false, false, false, false, false, false, false, false, false, false]) 18 rfl rfl rfl rfl (by kernel_rfl) rfl ?_
                refine D.off (ls' := [true, true, true, true, true, true, true, true, true, true, true, true, true, true, true, true, true, true, true, true, false, false, false, false, false, false, false, false, false, false, false, false, false, false, false]) 19 rfl rfl rfl rfl (by kernel_rfl) rfl ?_
                refine D.off (ls' := [true, true, true, true, true, true, true, true, true, true, true, true, true, true, true, true, true, true, true, true, true, false, false, false, false, false, false, false, false, false, false, false, false, false, false]) 20 rfl rfl rfl rfl (by kernel_rfl) rfl ?_
                refine D.off (ls' := [true, true, true, true, true, true, true, true, true, true, true, true, true, true, true, true, true, true, true, true, true, true, false, false, false, false, false, false, false, false, false, false, false, false, false]) 21 rfl rfl rfl rfl (by kernel_rfl) rfl ?_
                refine D.off (ls' := [true, true, true, true, true, true, true, true, true, true, true, true, true, true, true, true, true, true, true, true, true, true, true, false, false, false, false, false, false, false, false, false, false, false, false]) 22 rfl rfl rfl rfl (by kernel_rfl) rfl ?_
                refine D.off (ls' := [true, true, true, true, true, true, true, true, true, true, true, true, true, true, true, true, true, true, true, true, true, true, true, true, false, false, false, false, false, false, false, false, false, false, false]) 23 rfl rfl rfl rfl (by kernel_rfl) rfl ?_
                refine D.off (ls' := [true, true, true, true, true, true, true, true, true, true, true, true, true, true, true, true, true, true, true, true, true, true, true, true, true, false, false, false, false, false, false, false, false, false, false]) 24 rfl rfl rfl rfl (by kernel_rfl) rfl ?_
                refine D.off (ls' := [true, true, true, true, true, true, true, true, true, true, true, true, true, true, true, true, true, true, true, true, true, true, true, true, true, true, false, false, false, false, false, false, false, false, false]) 25 rfl rfl rfl rfl (by kernel_rfl) rfl ?_
                refine D.p (ls' := [true, true, true, true, true, true, true, true, true, true, true, true, true, true, true, true, true, true, true, true, true, true, true, true, true, true, true, false, false, false, false, false, false, false, false]) 26 rfl rfl rfl rfl (by kernel_rfl) rfl (Y.pickT rfl rfl) ?_
                refine D.p (ls' := [true, true, true, true, true, true, true, true, true, true, true, true, true, true, true, true, true, true, true, true, true, true, true, true, true, true, true, true, false, false, false, false, false, false, false]) 27 rfl rfl rfl rfl (by kernel_rfl) rfl (Y.mv rfl) ?_
                refine D.off (ls' := [true, true, true, true, true, true, true, true, true, true, true, true, true, true, true, true, true, true, true, true, true, true, true, true, true, true, true, true, true, false, false, false, false, false, false]) 28 rfl rfl rfl rfl (by kernel_rfl) rfl ?_
                refine D.off (ls' := [true, true, true, true, true, true, true, true, true, true, true, true, true, true, true, true, true, true, true, true, true, true, true, true, true, true, true, true, true, true, false, false, false, false, false]) 29 rfl rfl rfl rfl (by kernel_rfl) rfl ?_
                refine D.off (ls' := [true, true, true, true, true, true, true, true, true, true, true, true, true, true, true, true, true, true, true, true, true, true, true, true, true, true, true, true, true, true, true, false, false, false, false]) 30 rfl rfl rfl rfl (by kernel_rfl) rfl ?_
                refine D.off (ls' := [true, true, true, true, true, true, true, true, true, true, true, true, true, true, true, true, true, true, true, true, true, true, true, true, true, true, true, true, true, true, true, true, false, false, false]) 31 rfl rfl rfl rfl (by kernel_rfl) rfl ?_
                refine D.off (ls' := [true, true, true, true, true, true, true, true, true, true, true, true, true, true, true, true, true, true, true, true, true, true, true, true, true, true, true, true, true, true, true, true, true, false, false]) 32 rfl rfl rfl rfl (by kernel_rfl) rfl ?_
                refine D.off (ls' := [true, true, true, true, true, true, true, true, true, true, true, true, true, true, true, true, true, true, true, true, true, true, true, true, true, true, true, true, true, true, true, true, true, true, false]) 33 rfl rfl rfl rfl (by kernel_rfl) rfl ?_
                refine D.p (ls' := [true, true, true, true, true, true, true, true, true, true, true, true, true, true, true, true, true, true, true, true, true, true, true, true, true, true, true, true, true, true, true, true, true, true, true]) 34 rfl rfl rfl rfl (by kernel_rfl) rfl (Y.pickT rfl rfl) ?_
                refine D.nil (by kernel_rfl) ?_
                obtain rfl := Option.some.inj H
                exact N.meet (true, ()) ⟨HK128, trivial⟩ (by exact ⟨rfl, rfl, rfl, rfl, rfl, rfl, rfl, rfl, rfl, trivial⟩) (by exact fun w h => (St.pick [2, 3, 4, 1] [_, _, _, _, _] h rfl))
              · refine D.as (k := 70) rfl (congrArg Value.bool (decide_eq_false c136)) ?_
                refine D.r (ls' := [true, true, true, true, true, true, true, true, true, true, true, true, true, true, false, false, false, false, false, false, false, false, false, false, false, false, false, false, false, false, false, false, false, false, false]) 13 1 0 rfl rfl rfl rfl (by kernel_rfl) (by kernel_rfl) rfl rfl (Y.ldCA (us := [.int .i64 x100.2.1, .int .u64 x100.2.2.1, .int .i64 x100.2.2.2.1, .string x100.2.2.2.2.1, .string x100.2.2.2.2.2.1, .int .u64 x100.2.2.2.2.2.2.1, .int .i64 x100.2.2.2.2.2.2.2.1, .int .i64 x100.2.2.2.2.2.2.2.2.1, .int .i64 x100.2.2.2.2.2.2.2.2.2.1, .string x100.2.2.2.2.2.2.2.2.2.2.1, .int .i64 x100.2.2.2.2.2.2.2.2.2.2.2.1, .int .i64 x100.2.2.2.2.2.2.2.2.2.2.2.2.1, .int .i64 x100.2.2.2.2.2.2.2.2.2.2.2.2.2.1, .int .u32 x100.2.2.2.2.2.2.2.2.2.2.2.2.2.2]) 0 Try.underlying53 rfl ti53 rfl rfl rfl rfl) ?_
                refine D.p (ls' := [true, true, true, true, true, true, true, true, true, true, true, true, true, true, true, false, false, false, false, false, false, false, false, false, false, false, false, false, false, false, false, false, false, false, false]) 14 rfl rfl rfl rfl (by kernel_rfl) rfl (Y.fa0 fa53_0 rfl rfl) ?_
                refine D.r (ls' := [true, true, true, true, true, true, true, true, true, true, true, true, true, true, true, true, false, false, false, false, false, false, false, false, false, false, false, false, false, false, false, false, false, false, false]) 15 1 0 rfl rfl rfl rfl (by kernel_rfl) (by kernel_rfl) rfl rfl (Y.ldC 0 Try.underlying41 rfl rfl rfl rfl) ?_
                refine D.r (ls' := [true, true, true, true, true, true, true, true, true, true, true, true, true, true, true, true, true, false, false, false, false, false, false, false, false, false, false, false, false, false, false, false, false, false, false]) 16 1 0 rfl rfl rfl rfl (by kernel_rfl) (by kernel_rfl) rfl rfl (Y.ldC 2 Try.underlying89 rfl rfl rfl rfl) ?_
                refine D.r (ls' := [true, true, true, true, true, true, true, true, true, true, true, true, true, true, true, true, true, true, false, false, false, false, false, false, false, false, false, false, false, false, false, false, false, false, false]) 17 1 0 rfl rfl rfl rfl (by kernel_rfl) (by kernel_rfl) rfl rfl (Y.ldC 1 Try.underlying3 rfl rfl rfl rfl) ?_
                obtain ⟨p139, H⟩ := gd_some H
                refine D.know (RdG.someM lenT95_ (by decide) (hb108.suf [_, _, _, _, _] rfl) p139) (fun hh => ?_)
                obtain ⟨a137, ha138⟩ := hh
                refine D.p (ls' := [true, true, true, true, true, true, true, true, true, true, true, true, true, true, true, true, true, true, true, false, false, false, false, false, false, false, false, false, false, false, false, false, false, false, false]) 18 rfl rfl rfl rfl (by kernel_rfl) rfl (Y.ixa Try.underlying89 ti95 rfl rfl p139 ha138) ?_
                obtain ⟨p140, H⟩ := gd_some H
                refine D.r (ls' := [true, true, true, true, true, true, true, true, true, true, true, true, true, true, true, true, true, true, true, true, false, false, false, false, false, false, false, false, false, false, false, false, false, false, false]) 19 1 0 rfl rfl rfl rfl (by kernel_rfl) (by kernel_rfl) rfl rfl (Y.ldM (us := [.int .i64 ((rd o9 i92).1), .int .i64 ((rd o9 i92).2.1), .int .i64 ((rd o9 i92).2.2.1), .int .i64 ((rd o9 i92).2.2.2)]) lenT95_ Try.underlying95 rfl ti95 rfl ha138 p140 (hb108.suf [_, _, _, _, _] rfl) rfl) ?_
                refine D.r (ls' := [true, true, true, true, true, true, true, true, true, true, true, true, true, true, true, true, true, true, true, true, true, false, false, false, false, false, false, false, false, false, false, false, false, false, false]) 20 1 0 rfl rfl rfl rfl (by kernel_rfl) (by kernel_rfl) rfl rfl (Y.ldC 1 Try.underlying3 rfl rfl rfl rfl) ?_
                refine D.p (ls' := [true, true, true, true, true, true, true, true, true, true, true, true, true, true, true, true, true, true, true, true, true, true, false, false, false, false, false, false, false, false, false, false, false, false, false]) 21 rfl rfl rfl rfl (by kernel_rfl) rfl (Y.bin rfl rfl rfl) ?_
                refine D.p (ls' := [true, true, true, true, true, true, true, true, true, true, true, true, true, true, true, true, true, true, true, true, true, true, true, false, false, false, false, false, false, false, false, false, false, false, false]) 22 rfl rfl rfl rfl (by kernel_rfl) rfl (Y.conv Try.underlying3 Try.underlying42 rfl) ?_
                refine D.any [23] (by kernel_rfl) rfl ⟨?_, trivial⟩
                refine DW.j (ls' := [true, true, true, true, true, true, true, true, true, true, true, true, true, true, true, true, true, true, true, true, true, true, true, true, false, false, false, false, false, false, false, false, false, false, false]) rfl rfl ?_
                refine J.want rfl ?_
                obtain ⟨t141, hC142, H⟩ := bind_some H
                refine J.call (us := []) (cap := []) rfl rfl rfl go41 (fun w hw => by have hcc := recordOf.calls K ((rd o9 i92).1) ((rd o9 i92).2.1) ((rd o9 i92).2.2.1) ((rd o9 i92).2.2.2) (IntKind.wrap .u64 (IntKind.wrap .i64 (i92 + 1))) t141 hC142 w hw; exact hcc) (fun e w1 h1 => ?_)
                obtain ⟨rfl, hw144⟩ := h1
                refine ⟨_, _, rfl, hw144, ?_⟩
                refine J.nil ?_
                refine D.backK 0 rfl ?_
                refine D.p (ls' := [true, true, true, true, true, true, true, true, true, true, true, true, true, true, true, true, true, true, true, true, true, true, true, true, true, false, false, false, false, false, false, false, false, false, false]) 24 rfl rfl rfl rfl (by kernel_rfl) rfl (Y.bld (cs := [.int .i64 x100.2.1, .int .u64 t141.1, .int .i64 t141.2.1, .string t141.2.2.1, .string t141.2.2.2, .int .u64 0, .int .i64 0, .int .i64 0, .int .i64 0, .string ByteArray.empty, .int .i64 0, .int .i64 0, .int .i64 0, .int .u32 0]) rfl pl53 ti53 rfl (by kernel_rfl)) ?_
                refine D.p (ls' := [true, true, true, true, true, true, true, true, true, true, true, true, true, true, true, true, true, true, true, true, true, true, true, true, true, true, false, false, false, false, false, false, false, false, false]) 25 rfl rfl rfl rfl (by kernel_rfl) rfl (Y.nest Try.eqGuardType53 rfl (EqV.struct Try.underlying53 Try.stoodInHeld53 (EqFs.cons rfl (part_one (v := .int .i64 x100.2.1) Try.underlying41 rfl (by kernel_rfl)) (part_one (v := .int .i64 x100.2.1) Try.underlying41 rfl (by kernel_rfl)) (EqV.int 2 Try.underlying41) (EqFs.cons rfl (part_agg (us := #[.int .u64 x100.2.2.1, .int .i64 x100.2.2.2.1, .string x100.2.2.2.2.1, .string x100.2.2.2.2.2.1]) Try.underlying44 rfl ti44 (by kernel_rfl)) (part_agg (us := #[.int .u64 t141.1, .int .i64 t141.2.1, .string t141.2.2.1, .string t141.2.2.2]) Try.underlying44 rfl ti44 (by kernel_rfl)) (EqV.struct Try.underlying44 Try.stoodInHeld44 (EqFs.cons rfl (part_one (v := .int .u64 x100.2.2.1) Try.underlying42 rfl (by kernel_rfl)) (part_one (v := .int .u64 t141.1) Try.underlying42 rfl (by kernel_rfl)) (EqV.int 1 Try.underlying42) (EqFs.cons rfl (part_one (v := .int .i64 x100.2.2.2.1) Try.underlying41 rfl (by kernel_rfl)) (part_one (v := .int .i64 t141.2.1) Try.underlying41 rfl (by kernel_rfl)) (EqV.int 1 Try.underlying41) (EqFs.cons rfl (part_one (v := .string x100.2.2.2.2.1) Try.underlying9 rfl (by kernel_rfl)) (part_one (v := .string t141.2.2.1) Try.underlying9 rfl (by kernel_rfl)) (EqV.str 1 Try.underlying9) (EqFs.cons rfl (part_one (v := .string x100.2.2.2.2.2.1) Try.underlying9 rfl (by kernel_rfl)) (part_one (v := .string t141.2.2.2) Try.underlying9 rfl (by kernel_rfl)) (EqV.str 1 Try.underlying9) EqFs.nil))))) (EqFs.cons rfl (part_agg (us := #[.int .u64 x100.2.2.2.2.2.2.1, .int .i64 x100.2.2.2.2.2.2.2.1, .int .i64 x100.2.2.2.2.2.2.2.2.1, .int .i64 x100.2.2.2.2.2.2.2.2.2.1, .string x100.2.2.2.2.2.2.2.2.2.2.1]) Try.underlying46 rfl ti46 (by kernel_rfl)) (part_agg (us := #[.int .u64 0, .int .i64 0, .int .i64 0, .int .i64 0, .string ByteArray.empty]) Try.underlying46 rfl ti46 (by kernel_rfl)) (EqV.struct Try.underlying46 Try.stoodInHeld46 (EqFs.cons rfl (part_one (v := .int .u64 x100.2.2.2.2.2.2.1) Try.underlying42 rfl (by kernel_rfl)) (part_one (v := .int .u64 0) Try.underlying42 rfl (by kernel_rfl)) (EqV.int 1 Try.underlying42) (EqFs.cons rfl (part_one (v := .int .i64 x100.2.2.2.2.2.2.2.1) Try.underlying41 rfl (by kernel_rfl)) (part_one (v := .int .i64 0) Try.underlying41 rfl (by kernel_rfl)) (EqV.int 1 Try.underlying41) (EqFs.cons rfl (part_one (v := .int .i64 x100.2.2.2.2.2.2.2.2.1) Try.underlying3 rfl (by kernel_rfl)) (part_one (v := .int .i64 0) Try.underlying3 rfl (by kernel_rfl)) (EqV.int 1 Try.underlying3) (EqFs.cons rfl (part_one (v := .int .i64 x100.2.2.2.2.2.2.2.2.2.1) Try.underlying3 rfl (by kernel_rfl)) (part_one (v := .int .i64 0) Try.underlying3 rfl (by kernel_rfl)) (EqV.int 1 Try.underlying3) (EqFs.cons rfl (part_one (v := .string x100.2.2.2.2.2.2.2.2.2.2.1) Try.underlying9 rfl (by kernel_rfl)) (part_one (v := .string ByteArray.empty) Try.underlying9 rfl (by kernel_rfl)) (EqV.str 1 Try.underlying9) EqFs.nil)))))) (EqFs.cons rfl (part_agg (us := #[.int .i64 x100.2.2.2.2.2.2.2.2.2.2.2.1, .int .i64 x100.2.2.2.2.2.2.2.2.2.2.2.2.1, .int .i64 x100.2.2.2.2.2.2.2.2.2.2.2.2.2.1, .int .u32 x100.2.2.2.2.2.2.2.2.2.2.2.2.2.2]) Try.underlying51 rfl ti51 (by kernel_rfl)) (part_agg (us := #[.int .i64 0, .int .i64 0, .int .i64 0, .int .u32 0]) Try.underlying51 rfl ti51 (by kernel_rfl)) (EqV.struct Try.underlying51 Try.stoodInHeld51 (EqFs.cons rfl (part_one (v := .int .i64 x100.2.2.2.2.2.2.2.2.2.2.2.1) Try.underlying3 rfl (by kernel_rfl)) (part_one (v := .int .i64 0) Try.underlying3 rfl (by kernel_rfl)) (EqV.int 1 Try.underlying3) (EqFs.cons rfl (part_agg (us := #[.int .i64 x100.2.2.2.2.2.2.2.2.2.2.2.2.1, .int .i64 x100.2.2.2.2.2.2.2.2.2.2.2.2.2.1, .int .u32 x100.2.2.2.2.2.2.2.2.2.2.2.2.2.2]) Try.underlying49 rfl ti49 (by kernel_rfl)) (part_agg (us := #[.int .i64 0, .int .i64 0, .int .u32 0]) Try.underlying49 rfl ti49 (by kernel_rfl)) (EqV.struct Try.underlying49 Try.stoodInHeld49 (EqFs.cons rfl (part_one (v := .int .i64 x100.2.2.2.2.2.2.2.2.2.2.2.2.1) Try.underlying3 rfl (by kernel_rfl)) (part_one (v := .int .i64 0) Try.underlying3 rfl (by kernel_rfl)) (EqV.int 0 Try.underlying3) (EqFs.cons rfl (part_one (v := .int .i64 x100.2.2.2.2.2.2.2.2.2.2.2.2.2.1) Try.underlying3 rfl (by kernel_rfl)) (part_one (v := .int .i64 0) Try.underlying3 rfl (by kernel_rfl)) (EqV.int 0 Try.underlying3) (EqFs.cons rfl (part_one (v := .int .u32 x100.2.2.2.2.2.2.2.2.2.2.2.2.2.2) Try.underlying47 rfl (by kernel_rfl)) (part_one (v := .int .u32 0) Try.underlying47 rfl (by kernel_rfl)) (EqV.int 0 Try.underlying47) EqFs.nil)))) EqFs.nil))) EqFs.nil))))) rfl rfl) ?_
                refine D.p (ls' := [true, true, true, true, true, true, true, true, true, true, true, true, true, true, true, true, true, true, true, true, true, true, true, true, true, true, true, false, false, false, false, false, false, false, false]) 26 rfl rfl rfl rfl (by kernel_rfl) rfl (Y.pickF rfl rfl) ?_
                refine D.p (ls' := [true, true, true, true, true, true, true, true, true, true, true, true, true, true, true, true, true, true, true, true, true, true, true, true, true, true, true, true, false, false, false, false, false, false, false]) 27 rfl rfl rfl rfl (by kernel_rfl) rfl (Y.mv rfl) ?_
                refine split2 H (fun c143 H => ?_) (fun c143 H => ?_)
                · refine D.as (k := 85) rfl (congrArg Value.bool (congrArg Bool.not (decide_eq_true c143))) ?_
                  refine D.p (ls' := [true, true, true, true, true, true, true, true, true, true, true, true, true, true, true, true, true, true, true, true, true, true, true, true, true, true, true, true, true, false, false, false, false, false, false]) 28 rfl rfl rfl rfl (by kernel_rfl) rfl (Y.fa0 fa53_0 rfl rfl) ?_
                  refine D.r (ls' := [true, true, true, true, true, true, true, true, true, true, true, true, true, true, true, true, true, true, true, true, true, true, true, true, true, true, true, true, true, true, false, false, false, false, false]) 29 1 0 rfl rfl rfl rfl (by kernel_rfl) (by kernel_rfl) rfl rfl (Y.ldC 0 Try.underlying41 rfl rfl rfl rfl) ?_
                  refine D.p (ls' := [true, true, true, true, true, true, true, true, true, true, true, true, true, true, true, true, true, true, true, true, true, true, true, true, true, true, true, true, true, true, true, false, false, false, false]) 30 rfl rfl rfl rfl (by kernel_rfl) rfl (Y.fa0 fa53_1 rfl rfl) ?_
                  refine D.p (ls' := [true, true, true, true, true, true, true, true, true, true, true, true, true, true, true, true, true, true, true, true, true, true, true, true, true, true, true, true, true, true, true, true, false, false, false]) 31 rfl rfl rfl rfl (by kernel_rfl) rfl (Y.fa0 fa44_1 rfl rfl) ?_
                  refine D.r (ls' := [true, true, true, true, true, true, true, true, true, true, true, true, true, true, true, true, true, true, true, true, true, true, true, true, true, true, true, true, true, true, true, true, true, false, false]) 32 1 0 rfl rfl rfl rfl (by kernel_rfl) (by kernel_rfl) rfl rfl (Y.ldC 0 Try.underlying41 rfl rfl rfl rfl) ?_
                  refine D.p (ls' := [true, true, true, true, true, true, true, true, true, true, true, true, true, true, true, true, true, true, true, true, true, true, true, true, true, true, true, true, true, true, true, true, true, true, false]) 33 rfl rfl rfl rfl (by kernel_rfl) rfl (Y.bin rfl rfl rfl) ?_
                  refine D.p (ls' := [true, true, true, true, true, true, true, true, true, true, true, true, true, true, true, true, true, true, true, true, true, true, true, true, true, true, true, true, true, true, true, true, true, true, true]) 34 rfl rfl rfl rfl (by kernel_rfl) rfl (Y.pickF rfl rfl) ?_
                  refine D.nil (by kernel_rfl) ?_
                  obtain rfl := Option.some.inj H
                  exact N.meet (decide (x100.2.1 ≠ x100.2.2.2.1), ()) ⟨HK128, trivial⟩ (by exact ⟨rfl, rfl, rfl, rfl, rfl, rfl, rfl, rfl, rfl, trivial⟩) (by exact fun w h => (St.pick [2, 3, 4, 1] [_, _, _, _, _] h rfl))
                · refine D.as (k := 85) rfl (congrArg Value.bool (congrArg Bool.not (decide_eq_false c143))) ?_
                  refine D.off (ls' := [true, true, true, true, true, true, true, true, true, true, true, true, true, true, true, true, true, true, true, true, true, true, true, true, true, true, true, true, true, false, false, false, false, false, false]) 28 rfl rfl rfl rfl (by kernel_rfl) rfl ?_
                  refine D.off (ls' := [true, true, true, true, true, true, true, true, true, true, true, true, true, true, true, true, true, true, true, true, true, true, true, true, true, true, true, true, true, true, false, false, false, false, false]) 29 rfl rfl rfl rfl (by kernel_rfl) rfl ?_
                  refine D.off (ls' := [true, true, true, true, true, true, true, true, true, true, true, true, true, true, true, true, true, true, true, true, true, true, true, true, true, true, true, true, true, true, true, false, false, false, false]) 30 rfl rfl rfl rfl (by kernel_rfl) rfl ?_
                  refine D.off (ls' := [true, true, true, true, true, true, true, true, true, true, true, true, true, true, true, true, true, true, true, true, true, true, true, true, true, true, true, true, true, true, true, true, false, false, false]) 31 rfl rfl rfl rfl (by kernel_rfl) rfl ?_
                  refine D.off (ls' := [true, true, true, true, true, true, true, true, true, true, true, true, true, true, true, true, true, true, true, true, true, true, true, true, true, true, true, true, true, true, true, true, true, false, false]) 32 rfl rfl rfl rfl (by kernel_rfl) rfl ?_
                  refine D.off (ls' := [true, true, true, true, true, true, true, true, true, true, true, true, true, true, true, true, true, true, true, true, true, true, true, true, true, true, true, true, true, true, true, true, true, true, false]) 33 rfl rfl rfl rfl (by kernel_rfl) rfl ?_
                  refine D.p (ls' := [true, true, true, true, true, true, true, true, true, true, true, true, true, true, true, true, true, true, true, true, true, true, true, true, true, true, true, true, true, true, true, true, true, true, true]) 34 rfl rfl rfl rfl (by kernel_rfl) rfl (Y.pickT rfl rfl) ?_
                  refine D.nil (by kernel_rfl) ?_
                  obtain rfl := Option.some.inj H
                  exact N.meet (true, ()) ⟨HK128, trivial⟩ (by exact ⟨rfl, rfl, rfl, rfl, rfl, rfl, rfl, rfl, rfl, trivial⟩) (by exact fun w h => (St.pick [2, 3, 4, 1] [_, _, _, _, _] h rfl))
          · refine C.at (s' := [(2, .pointer (some ⟨g1, 0, none⟩)), (4, .pointer (some ⟨g3, 0, none⟩)), (5, .slice A17 t15.1.length c18), (6, .pointer (some ⟨g23, 0, none⟩)), (7, .int .i64 t15.2.2.1), (9, .slice A27 t25.1.length c28), (14, .pointer (some ⟨g46, 0, none⟩)), (55, .func (.func 54) #[] #[.pointer (some ⟨g44, 0, none⟩)]), (92, .bool o129)]) (G' := cells g1 89 [.slice j10.1 o9.length j10.2] :: cells g3 4 [.bool false] :: cells g23 90 [.slice A20 t15.2.1.length c21] :: cells g46 3 [.int .i64 i92] :: G) rfl rfl ?_
            refine split2 H (fun c145 H => ?_) (fun c145 H => ?_)
            · refine C.condT (congrArg (fun b => some (Value.bool b)) (c145)) ?_
              refine C.rs ?_
              refine J.pull 1 rfl rfl ?_
              refine J.stE (L' := [.bool false]) ti4 rfl rfl rfl rfl rfl ?_
              refine J.nx ?_
              refine C.ret ?_
              obtain rfl := Option.some.inj H
              refine T.th ?_
              refine T.ib ?_
              exact T.round i92 () rfl rfl trivial (by exact fun w h => h)
            · refine C.condF (congrArg (fun b => some (Value.bool b)) (nt c145)) ?_
              refine C.skip ?_
              refine N.nx ?_
              refine C.reg ?_
              refine J.r rfl rfl rfl rfl (Y.ldC 3 Try.underlying3 rfl rfl rfl rfl) ?_
              refine J.p rfl rfl rfl rfl (Y.bin rfl rfl rfl) ?_
              refine J.pull 3 rfl rfl ?_
              refine J.stE (L' := [.int .i64 (IntKind.wrap .i64 (i92 + 1))]) ti3 rfl rfl rfl rfl rfl ?_
              refine J.nil ?_
              refine N.ib ?_
              obtain rfl := Option.some.inj H
              exact N.round (IntKind.wrap .i64 (i92 + 1)) () rfl trivial (by exact fun w h => h)
        · subst hr
          replace H := ysel_inl H
          refine N.at (s' := [(2, .pointer (some ⟨g1, 0, none⟩)), (4, .pointer (some ⟨g3, 0, none⟩)), (5, .slice A17 t15.1.length c18), (6, .pointer (some ⟨g23, 0, none⟩)), (7, .int .i64 t15.2.2.1), (9, .slice A27 t25.1.length c28), (14, .pointer (some ⟨g46, 0, none⟩)), (55, .func (.func 54) #[] #[.pointer (some ⟨g44, 0, none⟩)])]) (G' := dblks ds94 :: cells g46 3 [.int .i64 i92] :: cells g1 89 [.slice j10.1 o9.length j10.2] :: cells g3 4 [.bool false] :: cells g23 90 [.slice A20 t15.2.1.length c21] :: cells g44 22 [.slice A17 t15.1.length c18] :: own 5 1 A17 c18 (t15.1.map (Value.int .u8)) :: own 5 1 A27 c28 (t25.1.map (Value.int .u8)) :: own 3 1 A20 c21 (t15.2.1.map (Value.int .i64)) :: G) rfl rfl ?_
          refine N.ib ?_
          refine N.nx ?_
          refine C.rs ?_
          refine J.p rfl rfl rfl rfl (Y.mv rfl) ?_
          refine J.know (own_leL 6 rfl) (fun hc147 => ?_)
          obtain ⟨t148, hC149, H⟩ := bind_some H
          refine J.call (us := []) (cap := []) rfl rfl rfl go14 (fun w hw => by have hcc := sExtents.calls K t15.1 A17 c18 (RdG.own 6 rfl) hc147 t148 hC149 w hw; exact hcc) (fun e w1 h1 => ?_)
          obtain ⟨A150, c151, rfl, hw471⟩ := h1
          refine ⟨_, _, rfl, hw471, ?_⟩
          refine J.p rfl rfl rfl rfl (Y.asg rfl) ?_
          refine J.nx ?_
          refine C.rs ?_
          refine J.p rfl rfl rfl rfl (Y.asg rfl) ?_
          refine J.nx ?_
          refine C.rs ?_
          refine J.p rfl rfl rfl rfl (Y.asg rfl) ?_
          refine J.nx ?_
          refine C.seq ?_
          refine C.rs ?_
          refine J.p rfl rfl rfl rfl (Y.asg rfl) ?_
          refine J.nx ?_
          refine C.joinNRD H (fun (o243 : Int × Int) (j244 : Unit) => [(2, .pointer (some ⟨g1, 0, none⟩)), (4, .pointer (some ⟨g3, 0, none⟩)), (5, .slice A17 t15.1.length c18), (7, .int .i64 t15.2.2.1), (9, .slice A27 t25.1.length c28), (14, .pointer (some ⟨g46, 0, none⟩)), (18, .int .i64 o243.1), (19, .int .i64 o243.2)]) (fun (o243 : Int × Int) (j244 : Unit) => cells g1 89 [.slice j10.1 o9.length j10.2] :: cells g3 4 [.bool false] :: own 5 1 A17 c18 (t15.1.map (Value.int .u8)) :: own 5 1 A27 c28 (t25.1.map (Value.int .u8)) :: cells g46 3 [.int .i64 i92] :: G) (fun (o243 : Int × Int) (j244 : Unit) => True) (fun o241 H HK242 => ?_) (fun ds245 o243 j244 H _ => ?_)
          · refine C.blk ?_
            refine C.loopD (fun (i : Nat × (Int × Int × Int) × (Unit)) => [(2, .pointer (some ⟨g1, 0, none⟩)), (4, .pointer (some ⟨g3, 0, none⟩)), (5, .slice A17 t15.1.length c18), (7, .int .i64 t15.2.2.1), (9, .slice A27 t25.1.length c28), (14, .pointer (some ⟨g46, 0, none⟩)), (17, .slice A150 t148.length c151), (18, .int .i64 i.2.1.1), (19, .int .i64 i.2.1.2.1), (20, .int .i64 i.2.1.2.2)]) (fun (i : Nat × (Int × Int × Int) × (Unit)) => cells g1 89 [.slice j10.1 o9.length j10.2] :: cells g3 4 [.bool false] :: own 5 1 A17 c18 (t15.1.map (Value.int .u8)) :: own 5 1 A27 c28 (t25.1.map (Value.int .u8)) :: cells g46 3 [.int .i64 i92] :: own 40 3 A150 c151 (t148.flatMap encT40_) :: G) (fun (i : Nat × (Int × Int × Int) × (Unit)) => TopScanned.l1 t148 i.1 i.2.1 = some o241 ∧ (True)) (fun i => i.1) (K, (0, 0, 0), ()) ⟨H, trivial⟩ (by exact ⟨rfl, rfl, rfl, rfl, rfl, rfl, rfl, rfl, rfl, rfl, trivial⟩) (by exact fun w h => (St.pick [1, 3, 4, 7, 8, 2, 0] [_, _, _, _, _, _, _, _, _, _] h rfl)) ?_
            rintro ds337 ⟨k440, i335, j336⟩ ⟨H, _⟩
            replace H : TopScanned.l1 t148 k440 i335 = some o241 := H
            obtain ⟨k334, rfl⟩ : ∃ m, k440 = m + 1 := by cases k440 with | zero => exact absurd H (by simp [TopScanned.l1]) | succ m => exact ⟨m, rfl⟩
            rw [TopScanned.l1] at H
            refine C.at (s' := [(2, .pointer (some ⟨g1, 0, none⟩)), (4, .pointer (some ⟨g3, 0, none⟩)), (5, .slice A17 t15.1.length c18), (7, .int .i64 t15.2.2.1), (9, .slice A27 t25.1.length c28), (14, .pointer (some ⟨g46, 0, none⟩)), (17, .slice A150 t148.length c151), (18, .int .i64 i335.1), (19, .int .i64 i335.2.1), (20, .int .i64 i335.2.2)]) (G' := dblks ds337 :: cells g1 89 [.slice j10.1 o9.length j10.2] :: cells g3 4 [.bool false] :: own 5 1 A17 c18 (t15.1.map (Value.int .u8)) :: own 5 1 A27 c28 (t25.1.map (Value.int .u8)) :: cells g46 3 [.int .i64 i92] :: own 40 3 A150 c151 (t148.flatMap encT40_) :: G) rfl rfl ?_
            refine C.seq ?_
            refine C.rs ?_
            refine J.p rfl rfl rfl rfl (Y.mv rfl) ?_
            refine J.p rfl rfl rfl rfl (Y.mv rfl) ?_
            refine J.p rfl rfl rfl rfl (Y.lenS Try.underlying28 rfl) ?_
            refine J.p rfl rfl rfl rfl (Y.bin rfl rfl rfl) ?_
            refine J.nx ?_
            refine split2 H (fun c338 H => ?_) (fun c338 H => ?_)
            · refine C.condT (congrArg (fun b => some (Value.bool b)) (decide_eq_true c338)) ?_
              refine C.skip ?_
              refine N.nx ?_
              refine C.joinRD H (fun (o378 : Int) (j379 : Unit) => [(2, .pointer (some ⟨g1, 0, none⟩)), (4, .pointer (some ⟨g3, 0, none⟩)), (5, .slice A17 t15.1.length c18), (7, .int .i64 t15.2.2.1), (9, .slice A27 t25.1.length c28), (14, .pointer (some ⟨g46, 0, none⟩)), (17, .slice A150 t148.length c151), (18, .int .i64 (IntKind.wrap .i64 (i335.1 + ((rd t148 i335.2.2).2.2)))), (19, .int .i64 o378), (20, .int .i64 i335.2.2)]) (fun (o378 : Int) (j379 : Unit) => cells g1 89 [.slice j10.1 o9.length j10.2] :: cells g3 4 [.bool false] :: own 5 1 A17 c18 (t15.1.map (Value.int .u8)) :: own 5 1 A27 c28 (t25.1.map (Value.int .u8)) :: cells g46 3 [.int .i64 i92] :: own 40 3 A150 c151 (t148.flatMap encT40_) :: G) (fun (o378 : Int) (j379 : Unit) => True) (fun o376 H HK377 => ?_) (fun ds380 o378 j379 H _ => ?_)
              · refine C.blk ?_
                refine C.seq ?_
                refine C.rs ?_
                refine J.joinBD H (fun (o401 : Bool) (j402 : Unit) => [(2, .pointer (some ⟨g1, 0, none⟩)), (4, .pointer (some ⟨g3, 0, none⟩)), (5, .slice A17 t15.1.length c18), (7, .int .i64 t15.2.2.1), (9, .slice A27 t25.1.length c28), (14, .pointer (some ⟨g46, 0, none⟩)), (17, .slice A150 t148.length c151), (18, .int .i64 i335.1), (19, .int .i64 i335.2.1), (20, .int .i64 i335.2.2), (136, .bool o401)]) (fun (o401 : Bool) (j402 : Unit) => cells g1 89 [.slice j10.1 o9.length j10.2] :: cells g3 4 [.bool false] :: own 5 1 A17 c18 (t15.1.map (Value.int .u8)) :: own 5 1 A27 c28 (t25.1.map (Value.int .u8)) :: cells g46 3 [.int .i64 i92] :: own 40 3 A150 c151 (t148.flatMap encT40_) :: G) (fun (o401 : Bool) (j402 : Unit) => True) (fun o404 H HK405 => ?_) (fun ds403 o401 j402 H _ => ?_)
                · refine J.p rfl rfl rfl rfl (Y.mv rfl) ?_
                  refine J.p rfl rfl rfl rfl (Y.mv rfl) ?_
                  obtain ⟨p408, H⟩ := gd_some H
                  refine J.know (RdG.someM lenT40_ (by decide) (RdG.own 6 rfl) p408) (fun hh => ?_)
                  obtain ⟨a406, ha407⟩ := hh
                  refine J.p rfl rfl rfl rfl (Y.ixa Try.underlying28 ti40 rfl rfl p408 ha407) ?_
                  refine J.p rfl rfl rfl rfl (Y.faA fa40_1 rfl) ?_
                  obtain ⟨p409, H⟩ := gd_some H
                  refine J.r rfl rfl rfl rfl (Y.ldF lenT40_ Try.underlying3 rfl rfl ha407 p409 (by decide) (RdG.own 6 rfl) rfl) ?_
                  refine J.p rfl rfl rfl rfl (Y.mv rfl) ?_
                  refine J.p rfl rfl rfl rfl (Y.bin rfl rfl rfl) ?_
                  refine J.p rfl rfl rfl rfl (Y.mv rfl) ?_
                  refine split2 H (fun c410 H => ?_) (fun c410 H => ?_)
                  · refine J.as (k := 110) rfl (congrArg Value.bool (decide_eq_true c410)) ?_
                    refine J.skip rfl rfl ?_
                    refine J.skip rfl rfl ?_
                    refine J.skip rfl rfl ?_
                    refine J.skip rfl rfl ?_
                    refine J.skip rfl rfl ?_
                    refine J.skip rfl rfl ?_
                    refine J.p rfl rfl rfl rfl (Y.pickT rfl rfl) ?_
                    refine J.p rfl rfl rfl rfl (Y.mv rfl) ?_
                    refine J.skip rfl rfl ?_
                    refine J.skip rfl rfl ?_
                    refine J.skip rfl rfl ?_
                    refine J.skip rfl rfl ?_
                    refine J.skip rfl rfl ?_
                    refine J.skip rfl rfl ?_
                    refine J.skip rfl rfl ?_
                    refine J.skip rfl rfl ?_
                    refine J.skip rfl rfl ?_
                    refine J.skip rfl rfl ?_
                    refine J.skip rfl rfl ?_
                    refine J.skip rfl rfl ?_
                    refine J.skip rfl rfl ?_
                    refine J.skip rfl rfl ?_
                    refine J.skip rfl rfl ?_
                    refine J.skip rfl rfl ?_
                    refine J.skip rfl rfl ?_
                    refine J.p rfl rfl rfl rfl (Y.pickT rfl rfl) ?_
                    refine J.nil ?_
                    obtain rfl := Option.some.inj H
                    exact N.meetD (true, ()) ⟨HK405, trivial⟩ (by exact ⟨rfl, rfl, rfl, rfl, rfl, rfl, rfl, rfl, rfl, rfl, rfl, trivial⟩) (by exact fun w h => h)
                  · refine J.as (k := 110) rfl (congrArg Value.bool (decide_eq_false c410)) ?_
                    refine J.p rfl rfl rfl rfl (Y.mv rfl) ?_
                    refine J.p rfl rfl rfl rfl (Y.mv rfl) ?_
                    obtain ⟨p413, H⟩ := gd_some H
                    refine J.know (RdG.someM lenT40_ (by decide) (RdG.own 6 rfl) p413) (fun hh => ?_)
                    obtain ⟨a411, ha412⟩ := hh
                    refine J.p rfl rfl rfl rfl (Y.ixa Try.underlying28 ti40 rfl rfl p413 ha412) ?_
                    refine J.p rfl rfl rfl rfl (Y.faA fa40_2 rfl) ?_
                    obtain ⟨p414, H⟩ := gd_some H
                    refine J.r rfl rfl rfl rfl (Y.ldF lenT40_ Try.underlying3 rfl rfl ha412 p414 (by decide) (RdG.own 6 rfl) rfl) ?_
                    refine J.p rfl rfl rfl rfl (Y.bin rfl rfl rfl) ?_
                    refine J.p rfl rfl rfl rfl (Y.pickF rfl rfl) ?_
                    refine J.p rfl rfl rfl rfl (Y.mv rfl) ?_
                    refine split2 H (fun c415 H => ?_) (fun c415 H => ?_)
                    · refine J.as (k := 118) rfl (congrArg Value.bool (decide_eq_true c415)) ?_
                      refine J.skip rfl rfl ?_
                      refine J.skip rfl rfl ?_
                      refine J.skip rfl rfl ?_
                      refine J.skip rfl rfl ?_
                      refine J.skip rfl rfl ?_
                      refine J.skip rfl rfl ?_
                      refine J.skip rfl rfl ?_
                      refine J.skip rfl rfl ?_
                      refine J.skip rfl rfl ?_
                      refine J.skip rfl rfl ?_
                      refine J.skip rfl rfl ?_
                      refine J.skip rfl rfl ?_
                      refine J.skip rfl rfl ?_
                      refine J.skip rfl rfl ?_
                      refine J.skip rfl rfl ?_
                      refine J.skip rfl rfl ?_
                      refine J.skip rfl rfl ?_
                      refine J.p rfl rfl rfl rfl (Y.pickT rfl rfl) ?_
                      refine J.nil ?_
                      obtain rfl := Option.some.inj H
                      exact N.meetD (true, ()) ⟨HK405, trivial⟩ (by exact ⟨rfl, rfl, rfl, rfl, rfl, rfl, rfl, rfl, rfl, rfl, rfl, trivial⟩) (by exact fun w h => h)
                    · refine J.as (k := 118) rfl (congrArg Value.bool (decide_eq_false c415)) ?_
                      refine J.p rfl rfl rfl rfl (Y.mv rfl) ?_
                      refine J.p rfl rfl rfl rfl (Y.bin rfl rfl rfl) ?_
                      refine J.p rfl rfl rfl rfl (Y.mv rfl) ?_
                      refine split2 H (fun c416 H => ?_) (fun c416 H => ?_)
                      · refine J.as (k := 121) rfl (congrArg Value.bool (decide_eq_true c416)) ?_
                        refine J.p rfl rfl rfl rfl (Y.mv rfl) ?_
                        refine J.p rfl rfl rfl rfl (Y.mv rfl) ?_
                        obtain ⟨p419, H⟩ := gd_some H
                        refine J.know (RdG.someM lenT40_ (by decide) (RdG.own 6 rfl) p419) (fun hh => ?_)
                        obtain ⟨a417, ha418⟩ := hh
                        refine J.p rfl rfl rfl rfl (Y.ixa Try.underlying28 ti40 rfl rfl p419 ha418) ?_
                        refine J.p rfl rfl rfl rfl (Y.faA fa40_0 rfl) ?_
                        obtain ⟨p420, H⟩ := gd_some H
                        refine J.r rfl rfl rfl rfl (Y.ldF lenT40_ Try.underlying4 rfl rfl ha418 p420 (by decide) (RdG.own 6 rfl) rfl) ?_
                        refine J.p rfl rfl rfl rfl (Y.pickT rfl rfl) ?_
                        refine J.p rfl rfl rfl rfl (Y.mv rfl) ?_
                        refine split2 H (fun c421 H => ?_) (fun c421 H => ?_)
                        · refine J.as (k := 128) rfl (congrArg Value.bool (c421)) ?_
                          refine J.p rfl rfl rfl rfl (Y.mv rfl) ?_
                          refine J.p rfl rfl rfl rfl (Y.mv rfl) ?_
                          refine J.p rfl rfl rfl rfl (Y.bin rfl rfl rfl) ?_
                          obtain ⟨p424, H⟩ := gd_some H
                          refine J.know (RdG.someM lenT40_ (by decide) (RdG.own 6 rfl) p424) (fun hh => ?_)
                          obtain ⟨a422, ha423⟩ := hh
                          refine J.p rfl rfl rfl rfl (Y.ixa Try.underlying28 ti40 rfl rfl p424 ha423) ?_
                          refine J.p rfl rfl rfl rfl (Y.faA fa40_0 rfl) ?_
                          obtain ⟨p425, H⟩ := gd_some H
                          refine J.r rfl rfl rfl rfl (Y.ldF lenT40_ Try.underlying4 rfl rfl ha423 p425 (by decide) (RdG.own 6 rfl) rfl) ?_
                          refine J.p rfl rfl rfl rfl (Y.pickT rfl rfl) ?_
                          refine J.p rfl rfl rfl rfl (Y.pickF rfl rfl) ?_
                          refine J.nil ?_
                          obtain rfl := Option.some.inj H
                          exact N.meetD ((rd t148 (IntKind.wrap .i64 (i335.2.2 - 1))).1, ()) ⟨HK405, trivial⟩ (by exact ⟨rfl, rfl, rfl, rfl, rfl, rfl, rfl, rfl, rfl, rfl, rfl, trivial⟩) (by exact fun w h => h)
                        · refine J.as (k := 128) rfl (congrArg Value.bool (nt c421)) ?_
                          refine J.skip rfl rfl ?_
                          refine J.skip rfl rfl ?_
                          refine J.skip rfl rfl ?_
                          refine J.skip rfl rfl ?_
                          refine J.skip rfl rfl ?_
                          refine J.skip rfl rfl ?_
                          refine J.p rfl rfl rfl rfl (Y.pickF rfl rfl) ?_
                          refine J.p rfl rfl rfl rfl (Y.pickF rfl rfl) ?_
                          refine J.nil ?_
                          obtain rfl := Option.some.inj H
                          exact N.meetD (false, ()) ⟨HK405, trivial⟩ (by exact ⟨rfl, rfl, rfl, rfl, rfl, rfl, rfl, rfl, rfl, rfl, rfl, trivial⟩) (by exact fun w h => h)
                      · refine J.as (k := 121) rfl (congrArg Value.bool (decide_eq_false c416)) ?_
                        refine J.skip rfl rfl ?_
                        refine J.skip rfl rfl ?_
                        refine J.skip rfl rfl ?_
                        refine J.skip rfl rfl ?_
                        refine J.skip rfl rfl ?_
                        refine J.p rfl rfl rfl rfl (Y.pickF rfl rfl) ?_
                        refine J.p rfl rfl rfl rfl (Y.mv rfl) ?_
                        refine J.skip rfl rfl ?_
                        refine J.skip rfl rfl ?_
                        refine J.skip rfl rfl ?_
                        refine J.skip rfl rfl ?_
                        refine J.skip rfl rfl ?_
                        refine J.skip rfl rfl ?_
                        refine J.p rfl rfl rfl rfl (Y.pickF rfl rfl) ?_
                        refine J.p rfl rfl rfl rfl (Y.pickF rfl rfl) ?_
                        refine J.nil ?_
                        obtain rfl := Option.some.inj H
                        exact N.meetD (false, ()) ⟨HK405, trivial⟩ (by exact ⟨rfl, rfl, rfl, rfl, rfl, rfl, rfl, rfl, rfl, rfl, rfl, trivial⟩) (by exact fun w h => h)
                · refine C.at (s' := [(2, .pointer (some ⟨g1, 0, none⟩)), (4, .pointer (some ⟨g3, 0, none⟩)), (5, .slice A17 t15.1.length c18), (7, .int .i64 t15.2.2.1), (9, .slice A27 t25.1.length c28), (14, .pointer (some ⟨g46, 0, none⟩)), (17, .slice A150 t148.length c151), (18, .int .i64 i335.1), (19, .int .i64 i335.2.1), (20, .int .i64 i335.2.2), (136, .bool o401)]) (G' := dblks ds403 :: cells g1 89 [.slice j10.1 o9.length j10.2] :: cells g3 4 [.bool false] :: own 5 1 A17 c18 (t15.1.map (Value.int .u8)) :: own 5 1 A27 c28 (t25.1.map (Value.int .u8)) :: cells g46 3 [.int .i64 i92] :: own 40 3 A150 c151 (t148.flatMap encT40_) :: G) rfl rfl ?_
                  refine split2 H (fun c426 H => ?_) (fun c426 H => ?_)
                  · refine C.condT (congrArg (fun b => some (Value.bool b)) (c426)) ?_
                    refine C.rs ?_
                    refine J.pull 2 rfl rfl ?_
                    refine J.stE (L' := [.bool false]) ti4 rfl rfl rfl rfl rfl ?_
                    refine J.nx ?_
                    refine C.ret ?_
                    obtain rfl := Option.some.inj H
                    obtain rfl := fin_inl HK377
                    obtain rfl := fin_inl HK242
                    refine T.th ?_
                    refine T.ib ?_
                    refine T.th ?_
                    refine T.th ?_
                    refine T.ib ?_
                    refine T.th ?_
                    refine T.th ?_
                    exact ret_okM (cells g3 4 [.bool false] :: cells g1 89 [.slice j10.1 o9.length j10.2] :: own 5 1 A17 c18 (t15.1.map (Value.int .u8)) :: own 5 1 A27 c28 (t25.1.map (Value.int .u8)) :: cells g46 3 [.int .i64 i92] :: own 40 3 A150 c151 (t148.flatMap encT40_) :: G) (rvs := [.cell 4 4]) (vs := [.bool false]) rfl ⟨RV.cell 0 Try.underlying4 rfl rfl rfl rfl, trivial⟩ (fun w h => (St.pick [1, 0, 2, 3, 4, 5, 6] [_, _, _, _, _, _, _] h rfl)) (fun w h => ⟨rfl, (St.pick [] [_, _, _, _, _, _] h rfl)⟩)
                  · refine C.condF (congrArg (fun b => some (Value.bool b)) (nt c426)) ?_
                    refine C.skip ?_
                    refine N.nx ?_
                    refine C.rs ?_
                    refine J.p rfl rfl rfl rfl (Y.mv rfl) ?_
                    refine J.p rfl rfl rfl rfl (Y.mv rfl) ?_
                    refine J.p rfl rfl rfl rfl (Y.mv rfl) ?_
                    obtain ⟨p429, H⟩ := gd_some H
                    refine J.know (RdG.someM lenT40_ (by decide) (RdG.own 6 rfl) p429) (fun hh => ?_)
                    obtain ⟨a427, ha428⟩ := hh
                    refine J.p rfl rfl rfl rfl (Y.ixa Try.underlying28 ti40 rfl rfl p429 ha428) ?_
                    refine J.p rfl rfl rfl rfl (Y.faA fa40_2 rfl) ?_
                    obtain ⟨p430, H⟩ := gd_some H
                    refine J.r rfl rfl rfl rfl (Y.ldF lenT40_ Try.underlying3 rfl rfl ha428 p430 (by decide) (RdG.own 6 rfl) rfl) ?_
                    refine J.p rfl rfl rfl rfl (Y.bin rfl rfl rfl) ?_
                    refine J.p rfl rfl rfl rfl (Y.asg rfl) ?_
                    refine J.nx ?_
                    refine C.rs ?_
                    refine J.p rfl rfl rfl rfl (Y.mv rfl) ?_
                    refine J.p rfl rfl rfl rfl (Y.mv rfl) ?_
                    obtain ⟨p433, H⟩ := gd_some H
                    refine J.know (RdG.someM lenT40_ (by decide) (RdG.own 6 rfl) p433) (fun hh => ?_)
                    obtain ⟨a431, ha432⟩ := hh
                    refine J.p rfl rfl rfl rfl (Y.ixa Try.underlying28 ti40 rfl rfl p433 ha432) ?_
                    refine J.p rfl rfl rfl rfl (Y.faA fa40_0 rfl) ?_
                    obtain ⟨p434, H⟩ := gd_some H
                    refine J.r rfl rfl rfl rfl (Y.ldF lenT40_ Try.underlying4 rfl rfl ha432 p434 (by decide) (RdG.own 6 rfl) rfl) ?_
                    refine J.nx ?_
                    refine split2 H (fun c435 H => ?_) (fun c435 H => ?_)
                    · refine C.condT (congrArg (fun b => some (Value.bool b)) (c435)) ?_
                      refine C.reg ?_
                      refine J.p rfl rfl rfl rfl (Y.mv rfl) ?_
                      refine J.p rfl rfl rfl rfl (Y.mv rfl) ?_
                      refine J.p rfl rfl rfl rfl (Y.mv rfl) ?_
                      obtain ⟨p438, H⟩ := gd_some H
                      refine J.know (RdG.someM lenT40_ (by decide) (RdG.own 6 rfl) p438) (fun hh => ?_)
                      obtain ⟨a436, ha437⟩ := hh
                      refine J.p rfl rfl rfl rfl (Y.ixa Try.underlying28 ti40 rfl rfl p438 ha437) ?_
                      refine J.p rfl rfl rfl rfl (Y.faA fa40_2 rfl) ?_
                      obtain ⟨p439, H⟩ := gd_some H
                      refine J.r rfl rfl rfl rfl (Y.ldF lenT40_ Try.underlying3 rfl rfl ha437 p439 (by decide) (RdG.own 6 rfl) rfl) ?_
                      refine J.p rfl rfl rfl rfl (Y.bin rfl rfl rfl) ?_
                      refine J.p rfl rfl rfl rfl (Y.asg rfl) ?_
                      refine J.nil ?_
                      refine N.ib ?_
                      obtain rfl := Option.some.inj H
                      exact N.meetD (IntKind.wrap .i64 (i335.2.1 + ((rd t148 i335.2.2).2.2)), ()) ⟨fin_inr HK377, trivial⟩ (by exact ⟨rfl, rfl, rfl, rfl, rfl, rfl, rfl, rfl, rfl, rfl, trivial⟩) (by exact fun w h => h)
                    · refine C.condF (congrArg (fun b => some (Value.bool b)) (nt c435)) ?_
                      refine C.skip ?_
                      refine N.ib ?_
                      obtain rfl := Option.some.inj H
                      exact N.meetD (i335.2.1, ()) ⟨fin_inr HK377, trivial⟩ (by exact ⟨rfl, rfl, rfl, rfl, rfl, rfl, rfl, rfl, rfl, rfl, trivial⟩) (by exact fun w h => h)
              · refine C.at (s' := [(2, .pointer (some ⟨g1, 0, none⟩)), (4, .pointer (some ⟨g3, 0, none⟩)), (5, .slice A17 t15.1.length c18), (7, .int .i64 t15.2.2.1), (9, .slice A27 t25.1.length c28), (14, .pointer (some ⟨g46, 0, none⟩)), (17, .slice A150 t148.length c151), (18, .int .i64 (IntKind.wrap .i64 (i335.1 + ((rd t148 i335.2.2).2.2)))), (19, .int .i64 o378), (20, .int .i64 i335.2.2)]) (G' := dblks ds380 :: cells g1 89 [.slice j10.1 o9.length j10.2] :: cells g3 4 [.bool false] :: own 5 1 A17 c18 (t15.1.map (Value.int .u8)) :: own 5 1 A27 c28 (t25.1.map (Value.int .u8)) :: cells g46 3 [.int .i64 i92] :: own 40 3 A150 c151 (t148.flatMap encT40_) :: G) rfl rfl ?_
                refine C.reg ?_
                refine J.p rfl rfl rfl rfl (Y.mv rfl) ?_
                refine J.p rfl rfl rfl rfl (Y.bin rfl rfl rfl) ?_
                refine J.p rfl rfl rfl rfl (Y.asg rfl) ?_
                refine J.nil ?_
                exact N.againD (k334, (IntKind.wrap .i64 (i335.1 + ((rd t148 i335.2.2).2.2)), o378, IntKind.wrap .i64 (i335.2.2 + 1)), ()) ⟨H, trivial⟩ (Nat.lt_succ_self _) (by exact ⟨rfl, rfl, rfl, rfl, rfl, rfl, rfl, rfl, rfl, rfl, trivial⟩) (by exact fun w h => h)
            · refine C.condF (congrArg (fun b => some (Value.bool b)) (decide_eq_false c338)) ?_
              refine C.exit ?_
              refine X.th ?_
              refine X.th ?_
              refine X.hit ?_
              obtain rfl := Option.some.inj H
              exact N.meetD ((i335.1, i335.2.1), ()) ⟨fin_inr HK242, trivial⟩ (by exact ⟨rfl, rfl, rfl, rfl, rfl, rfl, rfl, rfl, trivial⟩) (by exact fun w h => (St.pick [0, 1, 2, 3, 4, 5] [_, _, _, _, _, _, _] h rfl))
          · refine N.at (s' := [(2, .pointer (some ⟨g1, 0, none⟩)), (4, .pointer (some ⟨g3, 0, none⟩)), (5, .slice A17 t15.1.length c18), (7, .int .i64 t15.2.2.1), (9, .slice A27 t25.1.length c28), (14, .pointer (some ⟨g46, 0, none⟩)), (18, .int .i64 o243.1), (19, .int .i64 o243.2)]) (G' := dblks ds245 :: cells g1 89 [.slice j10.1 o9.length j10.2] :: cells g3 4 [.bool false] :: own 5 1 A17 c18 (t15.1.map (Value.int .u8)) :: own 5 1 A27 c28 (t25.1.map (Value.int .u8)) :: cells g46 3 [.int .i64 i92] :: G) rfl rfl ?_
            refine N.nx ?_
            refine C.rs ?_
            refine J.p rfl rfl rfl rfl (Y.mv rfl) ?_
            refine J.know (own_leL 3 rfl) (fun hc441 => ?_)
            obtain ⟨t442, hC443, H⟩ := bind_some H
            refine J.call (us := []) (cap := []) rfl rfl rfl go19 (fun w hw => by have hcc := sClean.calls K t15.1 A17 c18 (RdG.own 3 rfl) hc441 t442 hC443 w hw; exact hcc) (fun e w1 h1 => ?_)
            obtain ⟨A444, c445, rfl, hw470⟩ := h1
            refine ⟨_, _, rfl, hw470, ?_⟩
            refine J.p rfl rfl rfl rfl (Y.asg rfl) ?_
            refine J.nx ?_
            refine C.rs ?_
            refine J.p rfl rfl rfl rfl (Y.mv rfl) ?_
            refine J.know (own_leL 0 rfl) (fun hc447 => ?_)
            obtain ⟨t448, hC449, H⟩ := bind_some H
            refine J.call (us := []) (cap := []) rfl rfl rfl go14 (fun w hw => by have hcc := sExtents.calls K t442 A444 c445 (RdG.own 0 rfl) hc447 t448 hC449 w hw; exact hcc) (fun e w1 h1 => ?_)
            obtain ⟨A450, c451, rfl, hw469⟩ := h1
            refine ⟨_, _, rfl, hw469, ?_⟩
            refine J.p rfl rfl rfl rfl (Y.asg rfl) ?_
            refine J.nx ?_
            refine C.rs ?_
            refine J.bsL (enc := (Value.int .u8)) (xs := [167]) rfl Try.underlying22 ti5 rfl rfl rfl rfl rfl (fun A453 => ?_)
            obtain ⟨t455, hC456, H⟩ := bind_some H
            refine J.call (us := []) (cap := []) rfl rfl rfl go17 (fun w hw => by have hcc := sNext.calls K [167] 0 A453 1 (RdG.own 0 rfl) (show [167].length ≤ 1 from Nat.le_refl _) t455 hC456 w hw; exact hcc) (fun e w1 h1 => ?_)
            obtain ⟨rfl, hw468⟩ := h1
            refine ⟨_, _, rfl, hw468, ?_⟩
            refine J.p rfl rfl rfl rfl (Y.mv rfl) ?_
            refine J.p rfl rfl rfl rfl (Y.ext rfl rfl) ?_
            refine J.p rfl rfl rfl rfl (Y.ext rfl rfl) ?_
            refine J.p rfl rfl rfl rfl (Y.asg rfl) ?_
            refine J.p rfl rfl rfl rfl (Y.asg rfl) ?_
            refine J.nx ?_
            refine C.rs ?_
            refine J.r rfl rfl rfl rfl (Y.ldC 8 Try.underlying3 rfl rfl rfl rfl) ?_
            refine J.r rfl rfl rfl rfl (Y.ldC 4 Try.underlying89 rfl rfl rfl rfl) ?_
            refine J.p rfl rfl rfl rfl (Y.lenS Try.underlying89 rfl) ?_
            refine J.p rfl rfl rfl rfl (Y.bin rfl rfl rfl) ?_
            refine J.p rfl rfl rfl rfl (Y.mv rfl) ?_
            refine split2 H (fun c457 H => ?_) (fun c457 H => ?_)
            · refine J.as (k := 169) rfl (congrArg Value.bool (decide_eq_true c457)) ?_
              refine J.p rfl rfl rfl rfl (Y.mv rfl) ?_
              refine J.p rfl rfl rfl rfl (Y.mv rfl) ?_
              refine J.p rfl rfl rfl rfl (Y.lenS Try.underlying22 rfl) ?_
              refine J.p rfl rfl rfl rfl (Y.bin rfl rfl rfl) ?_
              refine J.p rfl rfl rfl rfl (Y.pickT rfl rfl) ?_
              refine J.p rfl rfl rfl rfl (Y.mv rfl) ?_
              refine split2 H (fun c458 H => ?_) (fun c458 H => ?_)
              · refine J.as (k := 175) rfl (congrArg Value.bool (decide_eq_true c458)) ?_
                refine J.p rfl rfl rfl rfl (Y.mv rfl) ?_
                refine J.p rfl rfl rfl rfl (Y.mv rfl) ?_
                refine J.p rfl rfl rfl rfl (Y.bin rfl rfl rfl) ?_
                refine J.p rfl rfl rfl rfl (Y.pickT rfl rfl) ?_
                refine J.p rfl rfl rfl rfl (Y.mv rfl) ?_
                refine split2 H (fun c459 H => ?_) (fun c459 H => ?_)
                · refine J.as (k := 180) rfl (congrArg Value.bool (decide_eq_true c459)) ?_
                  refine J.p rfl rfl rfl rfl (Y.mv rfl) ?_
                  refine J.p rfl rfl rfl rfl (Y.mv rfl) ?_
                  refine J.want rfl ?_
                  refine J.know (own_leL 2 rfl) (fun hc460 => ?_)
                  refine J.know (own_leL 7 rfl) (fun hc461 => ?_)
                  obtain ⟨t462, hC463, H⟩ := bind_some H
                  refine J.call (us := []) (cap := []) rfl rfl rfl go42 (fun w hw => by have hcc := sameBytes.calls t442 t25.1 A444 c445 A27 c28 (RdG.own 2 rfl) hc460 (RdG.own 7 rfl) hc461 t462 hC463 w hw; exact hcc) (fun e w1 h1 => ?_)
                  obtain ⟨rfl, hw467⟩ := h1
                  refine ⟨_, _, rfl, hw467, ?_⟩
                  refine J.p rfl rfl rfl rfl (Y.pickT rfl rfl) ?_
                  refine J.p rfl rfl rfl rfl (Y.mv rfl) ?_
                  refine split2 H (fun c464 H => ?_) (fun c464 H => ?_)
                  · refine J.as (k := 185) rfl (congrArg Value.bool (c464)) ?_
                    refine J.p rfl rfl rfl rfl (Y.mv rfl) ?_
                    refine J.p rfl rfl rfl rfl (Y.lenS Try.underlying28 rfl) ?_
                    refine J.r rfl rfl rfl rfl (Y.ldC 4 Try.underlying89 rfl rfl rfl rfl) ?_
                    refine J.p rfl rfl rfl rfl (Y.lenS Try.underlying89 rfl) ?_
                    refine J.p rfl rfl rfl rfl (Y.bin rfl rfl rfl) ?_
                    refine J.p rfl rfl rfl rfl (Y.pickT rfl rfl) ?_
                    refine J.p rfl rfl rfl rfl (Y.mv rfl) ?_
                    refine split2 H (fun c465 H => ?_) (fun c465 H => ?_)
                    · refine J.as (k := 192) rfl (congrArg Value.bool (decide_eq_true c465)) ?_
                      refine J.p rfl rfl rfl rfl (Y.mv rfl) ?_
                      refine J.p rfl rfl rfl rfl (Y.bin rfl rfl rfl) ?_
                      refine J.p rfl rfl rfl rfl (Y.pickT rfl rfl) ?_
                      refine J.p rfl rfl rfl rfl (Y.mv rfl) ?_
                      refine split2 H (fun c466 H => ?_) (fun c466 H => ?_)
                      · refine J.as (k := 196) rfl (congrArg Value.bool (decide_eq_true c466)) ?_
                        refine J.p rfl rfl rfl rfl (Y.mv rfl) ?_
                        refine J.p rfl rfl rfl rfl (Y.bin rfl rfl rfl) ?_
                        refine J.p rfl rfl rfl rfl (Y.pickT rfl rfl) ?_
                        refine J.pull 5 rfl rfl ?_
                        refine J.stE (L' := [.bool (decide (t455.2 = 0))]) ti4 rfl rfl rfl rfl rfl ?_
                        refine J.nx ?_
                        refine C.ret ?_
                        obtain rfl := Option.some.inj H
                        exact ret_okM (cells g3 4 [.bool (decide (t455.2 = 0))] :: own 5 1 A453 1 ([167].map (Value.int .u8)) :: own 40 3 A450 c451 (t448.flatMap encT40_) :: own 5 1 A444 c445 (t442.map (Value.int .u8)) :: cells g1 89 [.slice j10.1 o9.length j10.2] :: own 5 1 A17 c18 (t15.1.map (Value.int .u8)) :: own 5 1 A27 c28 (t25.1.map (Value.int .u8)) :: cells g46 3 [.int .i64 i92] :: G) (rvs := [.cell 4 4]) (vs := [.bool (decide (t455.2 = 0))]) rfl ⟨RV.cell 0 Try.underlying4 rfl rfl rfl rfl, trivial⟩ (fun w h => (St.pick [4, 0, 1, 2, 3, 5, 6, 7, 8] [_, _, _, _, _, _, _, _, _] h rfl)) (fun w h => ⟨rfl, (St.pick [] [_, _, _, _, _, _, _, _] h rfl)⟩)
                      · refine J.as (k := 196) rfl (congrArg Value.bool (decide_eq_false c466)) ?_
                        refine J.skip rfl rfl ?_
                        refine J.skip rfl rfl ?_
                        refine J.p rfl rfl rfl rfl (Y.pickF rfl rfl) ?_
                        refine J.pull 5 rfl rfl ?_
                        refine J.stE (L' := [.bool false]) ti4 rfl rfl rfl rfl rfl ?_
                        refine J.nx ?_
                        refine C.ret ?_
                        obtain rfl := Option.some.inj H
                        exact ret_okM (cells g3 4 [.bool false] :: own 5 1 A453 1 ([167].map (Value.int .u8)) :: own 40 3 A450 c451 (t448.flatMap encT40_) :: own 5 1 A444 c445 (t442.map (Value.int .u8)) :: cells g1 89 [.slice j10.1 o9.length j10.2] :: own 5 1 A17 c18 (t15.1.map (Value.int .u8)) :: own 5 1 A27 c28 (t25.1.map (Value.int .u8)) :: cells g46 3 [.int .i64 i92] :: G) (rvs := [.cell 4 4]) (vs := [.bool false]) rfl ⟨RV.cell 0 Try.underlying4 rfl rfl rfl rfl, trivial⟩ (fun w h => (St.pick [4, 0, 1, 2, 3, 5, 6, 7, 8] [_, _, _, _, _, _, _, _, _] h rfl)) (fun w h => ⟨rfl, (St.pick [] [_, _, _, _, _, _, _, _] h rfl)⟩)
                    · refine J.as (k := 192) rfl (congrArg Value.bool (decide_eq_false c465)) ?_
                      refine J.skip rfl rfl ?_
                      refine J.skip rfl rfl ?_
                      refine J.p rfl rfl rfl rfl (Y.pickF rfl rfl) ?_
                      refine J.p rfl rfl rfl rfl (Y.mv rfl) ?_
                      refine J.skip rfl rfl ?_
                      refine J.skip rfl rfl ?_
                      refine J.p rfl rfl rfl rfl (Y.pickF rfl rfl) ?_
                      refine J.pull 5 rfl rfl ?_
                      refine J.stE (L' := [.bool false]) ti4 rfl rfl rfl rfl rfl ?_
                      refine J.nx ?_
                      refine C.ret ?_
                      obtain rfl := Option.some.inj H
                      exact ret_okM (cells g3 4 [.bool false] :: own 5 1 A453 1 ([167].map (Value.int .u8)) :: own 40 3 A450 c451 (t448.flatMap encT40_) :: own 5 1 A444 c445 (t442.map (Value.int .u8)) :: cells g1 89 [.slice j10.1 o9.length j10.2] :: own 5 1 A17 c18 (t15.1.map (Value.int .u8)) :: own 5 1 A27 c28 (t25.1.map (Value.int .u8)) :: cells g46 3 [.int .i64 i92] :: G) (rvs := [.cell 4 4]) (vs := [.bool false]) rfl ⟨RV.cell 0 Try.underlying4 rfl rfl rfl rfl, trivial⟩ (fun w h => (St.pick [4, 0, 1, 2, 3, 5, 6, 7, 8] [_, _, _, _, _, _, _, _, _] h rfl)) (fun w h => ⟨rfl, (St.pick [] [_, _, _, _, _, _, _, _] h rfl)⟩)
                  · refine J.as (k := 185) rfl (congrArg Value.bool (nt c464)) ?_
                    refine J.skip rfl rfl ?_
                    refine J.skip rfl rfl ?_
                    refine J.skip rfl rfl ?_
                    refine J.skip rfl rfl ?_
                    refine J.skip rfl rfl ?_
                    refine J.p rfl rfl rfl rfl (Y.pickF rfl rfl) ?_
                    refine J.p rfl rfl rfl rfl (Y.mv rfl) ?_
                    refine J.skip rfl rfl ?_
                    refine J.skip rfl rfl ?_
                    refine J.p rfl rfl rfl rfl (Y.pickF rfl rfl) ?_
                    refine J.p rfl rfl rfl rfl (Y.mv rfl) ?_
                    refine J.skip rfl rfl ?_
                    refine J.skip rfl rfl ?_
                    refine J.p rfl rfl rfl rfl (Y.pickF rfl rfl) ?_
                    refine J.pull 5 rfl rfl ?_
                    refine J.stE (L' := [.bool false]) ti4 rfl rfl rfl rfl rfl ?_
                    refine J.nx ?_
                    refine C.ret ?_
                    obtain rfl := Option.some.inj H
                    exact ret_okM (cells g3 4 [.bool false] :: own 5 1 A453 1 ([167].map (Value.int .u8)) :: own 40 3 A450 c451 (t448.flatMap encT40_) :: own 5 1 A444 c445 (t442.map (Value.int .u8)) :: cells g1 89 [.slice j10.1 o9.length j10.2] :: own 5 1 A17 c18 (t15.1.map (Value.int .u8)) :: own 5 1 A27 c28 (t25.1.map (Value.int .u8)) :: cells g46 3 [.int .i64 i92] :: G) (rvs := [.cell 4 4]) (vs := [.bool false]) rfl ⟨RV.cell 0 Try.underlying4 rfl rfl rfl rfl, trivial⟩ (fun w h => (St.pick [4, 0, 1, 2, 3, 5, 6, 7, 8] [_, _, _, _, _, _, _, _, _] h rfl)) (fun w h => ⟨rfl, (St.pick [] [_, _, _, _, _, _, _, _] h rfl)⟩)
                · refine J.as (k := 180) rfl (congrArg Value.bool (decide_eq_false c459)) ?_
                  refine J.skip rfl rfl ?_
                  refine J.skip rfl rfl ?_
                  refine J.skip rfl rfl ?_
                  refine J.p rfl rfl rfl rfl (Y.pickF rfl rfl) ?_
                  refine J.p rfl rfl rfl rfl (Y.mv rfl) ?_
                  refine J.skip rfl rfl ?_
                  refine J.skip rfl rfl ?_
                  refine J.skip rfl rfl ?_
                  refine J.skip rfl rfl ?_
                  refine J.skip rfl rfl ?_
                  refine J.p rfl rfl rfl rfl (Y.pickF rfl rfl) ?_
                  refine J.p rfl rfl rfl rfl (Y.mv rfl) ?_
                  refine J.skip rfl rfl ?_
                  refine J.skip rfl rfl ?_
                  refine J.p rfl rfl rfl rfl (Y.pickF rfl rfl) ?_
                  refine J.p rfl rfl rfl rfl (Y.mv rfl) ?_
                  refine J.skip rfl rfl ?_
                  refine J.skip rfl rfl ?_
                  refine J.p rfl rfl rfl rfl (Y.pickF rfl rfl) ?_
                  refine J.pull 5 rfl rfl ?_
                  refine J.stE (L' := [.bool false]) ti4 rfl rfl rfl rfl rfl ?_
                  refine J.nx ?_
                  refine C.ret ?_
                  obtain rfl := Option.some.inj H
                  exact ret_okM (cells g3 4 [.bool false] :: own 5 1 A453 1 ([167].map (Value.int .u8)) :: own 40 3 A450 c451 (t448.flatMap encT40_) :: own 5 1 A444 c445 (t442.map (Value.int .u8)) :: cells g1 89 [.slice j10.1 o9.length j10.2] :: own 5 1 A17 c18 (t15.1.map (Value.int .u8)) :: own 5 1 A27 c28 (t25.1.map (Value.int .u8)) :: cells g46 3 [.int .i64 i92] :: G) (rvs := [.cell 4 4]) (vs := [.bool false]) rfl ⟨RV.cell 0 Try.underlying4 rfl rfl rfl rfl, trivial⟩ (fun w h => (St.pick [4, 0, 1, 2, 3, 5, 6, 7, 8] [_, _, _, _, _, _, _, _, _] h rfl)) (fun w h => ⟨rfl, (St.pick [] [_, _, _, _, _, _, _, _] h rfl)⟩)
              · refine J.as (k := 175) rfl (congrArg Value.bool (decide_eq_false c458)) ?_
                refine J.skip rfl rfl ?_
                refine J.skip rfl rfl ?_
                refine J.skip rfl rfl ?_
                refine J.p rfl rfl rfl rfl (Y.pickF rfl rfl) ?_
                refine J.p rfl rfl rfl rfl (Y.mv rfl) ?_
                refine J.skip rfl rfl ?_
                refine J.skip rfl rfl ?_
                refine J.skip rfl rfl ?_
                refine J.p rfl rfl rfl rfl (Y.pickF rfl rfl) ?_
                refine J.p rfl rfl rfl rfl (Y.mv rfl) ?_
                refine J.skip rfl rfl ?_
                refine J.skip rfl rfl ?_
                refine J.skip rfl rfl ?_
                refine J.skip rfl rfl ?_
                refine J.skip rfl rfl ?_
                refine J.p rfl rfl rfl rfl (Y.pickF rfl rfl) ?_
                refine J.p rfl rfl rfl rfl (Y.mv rfl) ?_
                refine J.skip rfl rfl ?_
                refine J.skip rfl rfl ?_
                refine J.p rfl rfl rfl rfl (Y.pickF rfl rfl) ?_
                refine J.p rfl rfl rfl rfl (Y.mv rfl) ?_
                refine J.skip rfl rfl ?_
                refine J.skip rfl rfl ?_
                refine J.p rfl rfl rfl rfl (Y.pickF rfl rfl) ?_
                refine J.pull 5 rfl rfl ?_
                refine J.stE (L' := [.bool false]) ti4 rfl rfl rfl rfl rfl ?_
                refine J.nx ?_
                refine C.ret ?_
                obtain rfl := Option.some.inj H
                exact ret_okM (cells g3 4 [.bool false] :: own 5 1 A453 1 ([167].map (Value.int .u8)) :: own 40 3 A450 c451 (t448.flatMap encT40_) :: own 5 1 A444 c445 (t442.map (Value.int .u8)) :: cells g1 89 [.slice j10.1 o9.length j10.2] :: own 5 1 A17 c18 (t15.1.map (Value.int .u8)) :: own 5 1 A27 c28 (t25.1.map (Value.int .u8)) :: cells g46 3 [.int .i64 i92] :: G) (rvs := [.cell 4 4]) (vs := [.bool false]) rfl ⟨RV.cell 0 Try.underlying4 rfl rfl rfl rfl, trivial⟩ (fun w h => (St.pick [4, 0, 1, 2, 3, 5, 6, 7, 8] [_, _, _, _, _, _, _, _, _] h rfl)) (fun w h => ⟨rfl, (St.pick [] [_, _, _, _, _, _, _, _] h rfl)⟩)
            · refine J.as (k := 169) rfl (congrArg Value.bool (decide_eq_false c457)) ?_
              refine J.skip rfl rfl ?_
              refine J.skip rfl rfl ?_
              refine J.skip rfl rfl ?_
              refine J.skip rfl rfl ?_
              refine J.p rfl rfl rfl rfl (Y.pickF rfl rfl) ?_
              refine J.p rfl rfl rfl rfl (Y.mv rfl) ?_
              refine J.skip rfl rfl ?_
              refine J.skip rfl rfl ?_
              refine J.skip rfl rfl ?_
              refine J.p rfl rfl rfl rfl (Y.pickF rfl rfl) ?_
              refine J.p rfl rfl rfl rfl (Y.mv rfl) ?_
              refine J.skip rfl rfl ?_
              refine J.skip rfl rfl ?_
              refine J.skip rfl rfl ?_
              refine J.p rfl rfl rfl rfl (Y.pickF rfl rfl) ?_
              refine J.p rfl rfl rfl rfl (Y.mv rfl) ?_
              refine J.skip rfl rfl ?_
              refine J.skip rfl rfl ?_
              refine J.skip rfl rfl ?_
              refine J.skip rfl rfl ?_
              refine J.skip rfl rfl ?_
              refine J.p rfl rfl rfl rfl (Y.pickF rfl rfl) ?_
              refine J.p rfl rfl rfl rfl (Y.mv rfl) ?_
              refine J.skip rfl rfl ?_
              refine J.skip rfl rfl ?_
              refine J.p rfl rfl rfl rfl (Y.pickF rfl rfl) ?_
              refine J.p rfl rfl rfl rfl (Y.mv rfl) ?_
              refine J.skip rfl rfl ?_
              refine J.skip rfl rfl ?_
              refine J.p rfl rfl rfl rfl (Y.pickF rfl rfl) ?_
              refine J.pull 5 rfl rfl ?_
              refine J.stE (L' := [.bool false]) ti4 rfl rfl rfl rfl rfl ?_
              refine J.nx ?_
              refine C.ret ?_
              obtain rfl := Option.some.inj H
              exact ret_okM (cells g3 4 [.bool false] :: own 5 1 A453 1 ([167].map (Value.int .u8)) :: own 40 3 A450 c451 (t448.flatMap encT40_) :: own 5 1 A444 c445 (t442.map (Value.int .u8)) :: cells g1 89 [.slice j10.1 o9.length j10.2] :: own 5 1 A17 c18 (t15.1.map (Value.int .u8)) :: own 5 1 A27 c28 (t25.1.map (Value.int .u8)) :: cells g46 3 [.int .i64 i92] :: G) (rvs := [.cell 4 4]) (vs := [.bool false]) rfl ⟨RV.cell 0 Try.underlying4 rfl rfl rfl rfl, trivial⟩ (fun w h => (St.pick [4, 0, 1, 2, 3, 5, 6, 7, 8] [_, _, _, _, _, _, _, _, _] h rfl)) (fun w h => ⟨rfl, (St.pick [] [_, _, _, _, _, _, _, _] h rfl)⟩)
        · subst hr
          replace H := ysel_inr H
          refine C.at (s' := [(2, .pointer (some ⟨g1, 0, none⟩)), (4, .pointer (some ⟨g3, 0, none⟩)), (5, .slice A17 t15.1.length c18), (6, .pointer (some ⟨g23, 0, none⟩)), (7, .int .i64 t15.2.2.1), (9, .slice A27 t25.1.length c28), (14, .pointer (some ⟨g46, 0, none⟩)), (55, .func (.func 54) #[] #[.pointer (some ⟨g44, 0, none⟩)])]) (G' := dblks ds94 :: cells g3 4 [.bool false] :: cells g1 89 [.slice j10.1 o9.length j10.2] :: cells g23 90 [.slice A20 t15.2.1.length c21] :: cells g46 3 [.int .i64 e95] :: cells g44 22 [.slice A17 t15.1.length c18] :: own 5 1 A17 c18 (t15.1.map (Value.int .u8)) :: own 5 1 A27 c28 (t25.1.map (Value.int .u8)) :: own 3 1 A20 c21 (t15.2.1.map (Value.int .i64)) :: G) rfl rfl ?_
          refine C.ret ?_
          obtain rfl := Option.some.inj H
          refine T.ib ?_
          refine T.th ?_
          exact ret_okM (cells g3 4 [.bool false] :: cells g1 89 [.slice j10.1 o9.length j10.2] :: cells g23 90 [.slice A20 t15.2.1.length c21] :: cells g46 3 [.int .i64 e95] :: cells g44 22 [.slice A17 t15.1.length c18] :: own 5 1 A17 c18 (t15.1.map (Value.int .u8)) :: own 5 1 A27 c28 (t25.1.map (Value.int .u8)) :: own 3 1 A20 c21 (t15.2.1.map (Value.int .i64)) :: G) (rvs := [.cell 4 4]) (vs := [.bool false]) rfl ⟨RV.cell 0 Try.underlying4 rfl rfl rfl rfl, trivial⟩ (fun w h => h) (fun w h => ⟨rfl, (St.pick [] [_, _, _, _, _, _, _, _] h rfl)⟩)
end Go.Proofs.Ytkblnahoidbfkaa
