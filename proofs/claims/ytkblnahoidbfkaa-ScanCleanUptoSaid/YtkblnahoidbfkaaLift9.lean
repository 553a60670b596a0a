/- Own text, printed by the lifting program: each Go function beside a plain function, and the proof that a call of the one comes to the other. Conditions: what came in can be read. -/
import Derived.Test.YtkblnahoidbfkaaLiftF
set_option linter.unusedVariables false
set_option linter.unusedSimpArgs false
set_option maxRecDepth 10000
set_option maxHeartbeats 4000000
namespace Go.Proofs.Ytkblnahoidbfkaa
open Go Go.Sx
abbrev T53_ := Int × Int × Int × ByteArray × ByteArray × Int × Int × Int × Int × ByteArray × Int × Int × Int × Int
abbrev encT53_ (x : T53_) : List Value := [.int .i64 x.1, .int .u64 x.2.1, .int .i64 x.2.2.1, .string x.2.2.2.1, .string x.2.2.2.2.1, .int .u64 x.2.2.2.2.2.1, .int .i64 x.2.2.2.2.2.2.1, .int .i64 x.2.2.2.2.2.2.2.1, .int .i64 x.2.2.2.2.2.2.2.2.1, .string x.2.2.2.2.2.2.2.2.2.1, .int .i64 x.2.2.2.2.2.2.2.2.2.2.1, .int .i64 x.2.2.2.2.2.2.2.2.2.2.2.1, .int .i64 x.2.2.2.2.2.2.2.2.2.2.2.2.1, .int .u32 x.2.2.2.2.2.2.2.2.2.2.2.2.2]
theorem lenT53_ : ∀ x : T53_, (encT53_ x).length = 14 := fun _ => rfl
theorem oneT53_ : ∀ (x : T53_), ∀ u ∈ encT53_ x, u.oneCell' = true := by intro x u hu; simp only [List.mem_cons, List.not_mem_nil, or_false] at hu; rcases hu with rfl | rfl | rfl | rfl | rfl | rfl | rfl | rfl | rfl | rfl | rfl | rfl | rfl | rfl <;> rfl
theorem ti74 : TI Try.prog 74 1 24 (.slice none 0 0) := TI.of (by kernel_rfl)
theorem fa62_0 : FA Try.prog 62 0 0 := FA.of Try.underlying62 rfl ti3 (by decide) rfl
theorem fa62_1 : FA Try.prog 62 1 1 := FA.of Try.underlying62 rfl ti3 (by decide) rfl
theorem go13 : GoF Try.prog 13 := GoF.of Try.func13 (by kernel_rfl) (by kernel_rfl)
theorem go15 : GoF Try.prog 15 := GoF.of Try.func15 (by kernel_rfl) (by kernel_rfl)
theorem go20 : GoF Try.prog 20 := GoF.of Try.func20 (by kernel_rfl) (by kernel_rfl)
theorem go28 : GoF Try.prog 28 := GoF.of Try.func28 (by kernel_rfl) (by kernel_rfl)
theorem go30 : GoF Try.prog 30 := GoF.of Try.func30 (by kernel_rfl) (by kernel_rfl)
theorem go31 : GoF Try.prog 31 := GoF.of Try.func31 (by kernel_rfl) (by kernel_rfl)
theorem go32 : GoF Try.prog 32 := GoF.of Try.func32 (by kernel_rfl) (by kernel_rfl)
theorem go34 : GoF Try.prog 34 := GoF.of Try.func34 (by kernel_rfl) (by kernel_rfl)
theorem go54 : GoF Try.prog 54 := GoF.of Try.func54 (by kernel_rfl) (by kernel_rfl)
/-! ### salvor/salvorlaw5.ScanClean: function 9 -/
def ScanClean.l1 (t15 : (List T40_)) : Nat → (Int) → Option ((Bool) ⊕ (Unit))
  | 0, _ => none
  | k + 1, i62 => if i62 < (t15.length : Int) then (gd ((0 : Int) ≤ i62 ∧ i62 < (t15.length : Int)) (gd ((0 : Int) ≤ i62 ∧ i62 < (t15.length : Int)) (if ((rd t15 i62).1) = true then (some (.inl (false))) else (ScanClean.l1 t15 k (IntKind.wrap .i64 (i62 + 1)))))) else (some (.inr ()))
def ScanClean.f (K : Nat) (a0 : List Int) : Option (Bool) := (sClean.f K a0).bind fun t3 => (sClean.f K t3).bind fun t9 => (sExtents.f K t3).bind fun t15 => thn (ScanClean.l1 t15 K 0) fun o40 => (sFrames.f a0).bind fun t74 => (sFrames.f t3).bind fun t79 => (some ()).bind fun o83 => (sFramesF.f K (fun (i112 : (List T53_)) (x119 : Int × Int × Int × Int × ByteArray × ByteArray × Int × Int × Int × Int × ByteArray × Int × Int × Int × Int) => gd ((i112.length + [(x119.2.1, x119.2.2.1, x119.2.2.2.1, x119.2.2.2.2.1, x119.2.2.2.2.2.1, x119.2.2.2.2.2.2.1, x119.2.2.2.2.2.2.2.1, x119.2.2.2.2.2.2.2.2.1, x119.2.2.2.2.2.2.2.2.2.1, x119.2.2.2.2.2.2.2.2.2.2.1, x119.2.2.2.2.2.2.2.2.2.2.2.1, x119.2.2.2.2.2.2.2.2.2.2.2.2.1, x119.2.2.2.2.2.2.2.2.2.2.2.2.2.1, x119.2.2.2.2.2.2.2.2.2.2.2.2.2.2)].length) * 136 ≤ 140737488355328) (some (.inl (i112 ++ [(x119.2.1, x119.2.2.1, x119.2.2.2.1, x119.2.2.2.2.1, x119.2.2.2.2.2.1, x119.2.2.2.2.2.2.1, x119.2.2.2.2.2.2.2.1, x119.2.2.2.2.2.2.2.2.1, x119.2.2.2.2.2.2.2.2.2.1, x119.2.2.2.2.2.2.2.2.2.2.1, x119.2.2.2.2.2.2.2.2.2.2.2.1, x119.2.2.2.2.2.2.2.2.2.2.2.2.1, x119.2.2.2.2.2.2.2.2.2.2.2.2.2.1, x119.2.2.2.2.2.2.2.2.2.2.2.2.2.2)])))) ([] : List T53_) a0).bind fun t117 => ysel t117 (fun i112 => (sFramesF.f K (fun (i166 : Int) (x174 : Int × Int × Int × Int × ByteArray × ByteArray × Int × Int × Int × Int × ByteArray × Int × Int × Int × Int) => (if (i112.length : Int) ≤ i166 then (some true) else (gd ((0 : Int) ≤ i166 ∧ i166 < (i112.length : Int)) (gd ((0 : Int) ≤ i166 ∧ i166 < (i112.length : Int)) (some (!(decide (((rd i112 i166).1) = x174.2.1 ∧ (((rd i112 i166).2.1) = x174.2.2.1 ∧ ((rd i112 i166).2.2.1) = x174.2.2.2.1 ∧ ((rd i112 i166).2.2.2.1) = x174.2.2.2.2.1 ∧ ((rd i112 i166).2.2.2.2.1) = x174.2.2.2.2.2.1 ∧ True) ∧ (((rd i112 i166).2.2.2.2.2.1) = x174.2.2.2.2.2.2.1 ∧ ((rd i112 i166).2.2.2.2.2.2.1) = x174.2.2.2.2.2.2.2.1 ∧ ((rd i112 i166).2.2.2.2.2.2.2.1) = x174.2.2.2.2.2.2.2.2.1 ∧ ((rd i112 i166).2.2.2.2.2.2.2.2.1) = x174.2.2.2.2.2.2.2.2.2.1 ∧ ((rd i112 i166).2.2.2.2.2.2.2.2.2.1) = x174.2.2.2.2.2.2.2.2.2.2.1 ∧ True) ∧ (((rd i112 i166).2.2.2.2.2.2.2.2.2.2.1) = x174.2.2.2.2.2.2.2.2.2.2.2.1 ∧ (((rd i112 i166).2.2.2.2.2.2.2.2.2.2.2.1) = x174.2.2.2.2.2.2.2.2.2.2.2.2.1 ∧ ((rd i112 i166).2.2.2.2.2.2.2.2.2.2.2.2.1) = x174.2.2.2.2.2.2.2.2.2.2.2.2.2.1 ∧ ((rd i112 i166).2.2.2.2.2.2.2.2.2.2.2.2.2) = x174.2.2.2.2.2.2.2.2.2.2.2.2.2.2 ∧ True) ∧ True) ∧ True))))))).bind fun o193 => if o193 = true then (some (.inr i166)) else (some (.inl (IntKind.wrap .i64 (i166 + 1))))) 0 t3).bind fun t172 => ysel t172 (fun i166 => (same.f K t3 t9).bind fun t204 => if t204 = true then (if i166 = (i112.length : Int) then ((works.f K).bind fun t208 => some t208) else (some false)) else (some false)) (fun e169 => some false)) ((fun (e : Empty) => none))
theorem ScanClean.calls {B : Nat} {w0 : World} {G : List HP} (K : Nat) (a0 : List Int) (Aa0 : Option Addr) (ca0 : Nat) (ha0 : RdG B w0 G Aa0 (a0.map (Value.int .u8))) (ka0 : a0.length ≤ ca0) (r : Bool) (H : ScanClean.f K a0 = some r) (w : World) (hw : St B w0 (G) w) :
    Calls Try.prog 9 [.slice Aa0 a0.length ca0].toArray w (fun e w' => e = .returned (.bool r) ∧ St B w0 (G) w') := by
  unfold ScanClean.f at H
  refine calls_ofM (n := 78) (s := [(0, .slice Aa0 a0.length ca0)]) Try.func9 rfl rfl rfl rfl ?_ hw
  refine C.rs ?_
  refine J.alloc (L := [.bool false]) rfl ti4 rfl (fun g1 => ?_)
  refine J.nx ?_
  refine C.rs ?_
  refine J.p rfl rfl rfl rfl (Y.mv rfl) ?_
  obtain ⟨t3, hC4, H⟩ := bind_some H
  refine J.call (us := []) (cap := []) rfl rfl rfl go19 (fun w hw => by have hcc := sClean.calls K a0 Aa0 ca0 (ha0.suf [_, _] rfl) ka0 t3 hC4 w hw; exact hcc) (fun e w1 h1 => ?_)
  obtain ⟨A5, c6, rfl, hw216⟩ := h1
  refine ⟨_, _, rfl, hw216, ?_⟩
  refine J.p rfl rfl rfl rfl (Y.asg rfl) ?_
  refine J.nx ?_
  refine C.rs ?_
  refine J.p rfl rfl rfl rfl (Y.mv rfl) ?_
  refine J.know (own_leL 0 rfl) (fun hc8 => ?_)
  obtain ⟨t9, hC10, H⟩ := bind_some H
  refine J.call (us := []) (cap := []) rfl rfl rfl go19 (fun w hw => by have hcc := sClean.calls K t3 A5 c6 (RdG.own 0 rfl) hc8 t9 hC10 w hw; exact hcc) (fun e w1 h1 => ?_)
  obtain ⟨A11, c12, rfl, hw215⟩ := h1
  refine ⟨_, _, rfl, hw215, ?_⟩
  refine J.p rfl rfl rfl rfl (Y.asg rfl) ?_
  refine J.nx ?_
  refine C.rs ?_
  refine J.p rfl rfl rfl rfl (Y.mv rfl) ?_
  refine J.know (own_leL 1 rfl) (fun hc14 => ?_)
  obtain ⟨t15, hC16, H⟩ := bind_some H
  refine J.call (us := []) (cap := []) rfl rfl rfl go14 (fun w hw => by have hcc := sExtents.calls K t3 A5 c6 (RdG.own 1 rfl) hc14 t15 hC16 w hw; exact hcc) (fun e w1 h1 => ?_)
  obtain ⟨A17, c18, rfl, hw214⟩ := h1
  refine ⟨_, _, rfl, hw214, ?_⟩
  refine J.p rfl rfl rfl rfl (Y.asg rfl) ?_
  refine J.nx ?_
  refine C.seq ?_
  refine C.rs ?_
  refine J.p rfl rfl rfl rfl (Y.asg rfl) ?_
  refine J.nx ?_
  refine C.joinNRD H (fun (o40 : Unit) (j41 : Unit) => [(0, .slice Aa0 a0.length ca0), (2, .pointer (some ⟨g1, 0, none⟩)), (3, .slice A5 t3.length c6), (4, .slice A11 t9.length c12)]) (fun (o40 : Unit) (j41 : Unit) => cells g1 4 [.bool false] :: own 5 1 A5 c6 (t3.map (Value.int .u8)) :: own 5 1 A11 c12 (t9.map (Value.int .u8)) :: G) (fun (o40 : Unit) (j41 : Unit) => True) (fun o38 H HK39 => ?_) (fun ds42 o40 j41 H _ => ?_)
  · refine C.blk ?_
    refine C.loopD (fun (i : Nat × (Int) × (Unit)) => [(0, .slice Aa0 a0.length ca0), (2, .pointer (some ⟨g1, 0, none⟩)), (3, .slice A5 t3.length c6), (4, .slice A11 t9.length c12), (5, .slice A17 t15.length c18), (6, .int .i64 i.2.1)]) (fun (i : Nat × (Int) × (Unit)) => cells g1 4 [.bool false] :: own 5 1 A5 c6 (t3.map (Value.int .u8)) :: own 5 1 A11 c12 (t9.map (Value.int .u8)) :: own 40 3 A17 c18 (t15.flatMap encT40_) :: G) (fun (i : Nat × (Int) × (Unit)) => ScanClean.l1 t15 i.1 i.2.1 = some o38 ∧ (True)) (fun i => i.1) (K, 0, ()) ⟨H, trivial⟩ (by exact ⟨rfl, rfl, rfl, rfl, rfl, rfl, trivial⟩) (by exact fun w h => (St.pick [4, 3, 2, 1, 0] [_, _, _, _, _] h rfl)) ?_
    rintro ds64 ⟨k71, i62, j63⟩ ⟨H, _⟩
    replace H : ScanClean.l1 t15 k71 i62 = some o38 := H
    obtain ⟨k61, rfl⟩ : ∃ m, k71 = m + 1 := by cases k71 with | zero => exact absurd H (by simp [ScanClean.l1]) | succ m => exact ⟨m, rfl⟩
    rw [ScanClean.l1] at H
    refine C.at (s' := [(0, .slice Aa0 a0.length ca0), (2, .pointer (some ⟨g1, 0, none⟩)), (3, .slice A5 t3.length c6), (4, .slice A11 t9.length c12), (5, .slice A17 t15.length c18), (6, .int .i64 i62)]) (G' := dblks ds64 :: cells g1 4 [.bool false] :: own 5 1 A5 c6 (t3.map (Value.int .u8)) :: own 5 1 A11 c12 (t9.map (Value.int .u8)) :: own 40 3 A17 c18 (t15.flatMap encT40_) :: G) rfl rfl ?_
    refine C.seq ?_
    refine C.rs ?_
    refine J.p rfl rfl rfl rfl (Y.mv rfl) ?_
    refine J.p rfl rfl rfl rfl (Y.mv rfl) ?_
    refine J.p rfl rfl rfl rfl (Y.lenS Try.underlying28 rfl) ?_
    refine J.p rfl rfl rfl rfl (Y.bin rfl rfl rfl) ?_
    refine J.nx ?_
    refine split2 H (fun c65 H => ?_) (fun c65 H => ?_)
    · refine C.condT (congrArg (fun b => some (Value.bool b)) (decide_eq_true c65)) ?_
      refine C.skip ?_
      refine N.nx ?_
      refine C.seq ?_
      refine C.blk ?_
      refine C.rs ?_
      refine J.p rfl rfl rfl rfl (Y.mv rfl) ?_
      refine J.p rfl rfl rfl rfl (Y.mv rfl) ?_
      obtain ⟨p68, H⟩ := gd_some H
      refine J.know (RdG.someM lenT40_ (by decide) (RdG.own 4 rfl) p68) (fun hh => ?_)
      obtain ⟨a66, ha67⟩ := hh
      refine J.p rfl rfl rfl rfl (Y.ixa Try.underlying28 ti40 rfl rfl p68 ha67) ?_
      refine J.p rfl rfl rfl rfl (Y.faA fa40_0 rfl) ?_
      obtain ⟨p69, H⟩ := gd_some H
      refine J.r rfl rfl rfl rfl (Y.ldF lenT40_ Try.underlying4 rfl rfl ha67 p69 (by decide) (RdG.own 4 rfl) rfl) ?_
      refine J.nx ?_
      refine split2 H (fun c70 H => ?_) (fun c70 H => ?_)
      · refine C.condT (congrArg (fun b => some (Value.bool b)) (c70)) ?_
        refine C.rs ?_
        refine J.pull 1 rfl rfl ?_
        refine J.stE (L' := [.bool false]) ti4 rfl rfl rfl rfl rfl ?_
        refine J.nx ?_
        refine C.ret ?_
        obtain rfl := Option.some.inj H
        obtain rfl := fin_inl HK39
        refine T.ib ?_
        refine T.th ?_
        refine T.th ?_
        refine T.ib ?_
        refine T.th ?_
        refine T.th ?_
        exact ret_okM (cells g1 4 [.bool false] :: own 5 1 A5 c6 (t3.map (Value.int .u8)) :: own 5 1 A11 c12 (t9.map (Value.int .u8)) :: own 40 3 A17 c18 (t15.flatMap encT40_) :: G) (rvs := [.cell 2 4]) (vs := [.bool false]) rfl ⟨RV.cell 0 Try.underlying4 rfl rfl rfl rfl, trivial⟩ (fun w h => (St.pick [1, 0, 2, 3, 4] [_, _, _, _, _] h rfl)) (fun w h => ⟨rfl, (St.pick [] [_, _, _, _] h rfl)⟩)
      · refine C.condF (congrArg (fun b => some (Value.bool b)) (nt c70)) ?_
        refine C.skip ?_
        refine N.ib ?_
        refine N.nx ?_
        refine C.reg ?_
        refine J.p rfl rfl rfl rfl (Y.mv rfl) ?_
        refine J.p rfl rfl rfl rfl (Y.bin rfl rfl rfl) ?_
        refine J.p rfl rfl rfl rfl (Y.asg rfl) ?_
        refine J.nil ?_
        exact N.againD (k61, IntKind.wrap .i64 (i62 + 1), ()) ⟨H, trivial⟩ (Nat.lt_succ_self _) (by exact ⟨rfl, rfl, rfl, rfl, rfl, rfl, trivial⟩) (by exact fun w h => h)
    · refine C.condF (congrArg (fun b => some (Value.bool b)) (decide_eq_false c65)) ?_
      refine C.exit ?_
      refine X.th ?_
      refine X.th ?_
      refine X.hit ?_
      obtain rfl := Option.some.inj H
      exact N.meetD ((), ()) ⟨fin_inr HK39, trivial⟩ (by exact ⟨rfl, rfl, rfl, rfl, trivial⟩) (by exact fun w h => (St.pick [0, 1, 2, 3] [_, _, _, _, _] h rfl))
  · refine N.at (s' := [(0, .slice Aa0 a0.length ca0), (2, .pointer (some ⟨g1, 0, none⟩)), (3, .slice A5 t3.length c6), (4, .slice A11 t9.length c12)]) (G' := dblks ds42 :: cells g1 4 [.bool false] :: own 5 1 A5 c6 (t3.map (Value.int .u8)) :: own 5 1 A11 c12 (t9.map (Value.int .u8)) :: G) rfl rfl ?_
    refine N.nx ?_
    refine C.rs ?_
    refine J.alloc (L := [.slice none 0 0]) rfl ti74 rfl (fun g72 => ?_)
    refine J.nx ?_
    refine C.rs ?_
    refine J.p rfl rfl rfl rfl (Y.mv rfl) ?_
    obtain ⟨t74, hC75, H⟩ := bind_some H
    refine J.call (us := []) (cap := []) rfl rfl rfl go34 (fun w hw => by have hcc := sFrames.calls a0 Aa0 ca0 (ha0.suf [_, _, _, _, _] rfl) ka0 t74 hC75 w hw; exact hcc) (fun e w1 h1 => ?_)
    obtain ⟨g76, rfl, hw213⟩ := h1
    refine ⟨_, _, rfl, hw213, ?_⟩
    refine J.p rfl rfl rfl rfl (Y.asg rfl) ?_
    refine J.nx ?_
    refine C.rs ?_
    refine J.p rfl rfl rfl rfl (Y.mv rfl) ?_
    refine J.know (own_leL 4 rfl) (fun hc78 => ?_)
    obtain ⟨t79, hC80, H⟩ := bind_some H
    refine J.call (us := []) (cap := []) rfl rfl rfl go34 (fun w hw => by have hcc := sFrames.calls t3 A5 c6 (RdG.own 4 rfl) hc78 t79 hC80 w hw; exact hcc) (fun e w1 h1 => ?_)
    obtain ⟨g81, rfl, hw212⟩ := h1
    refine ⟨_, _, rfl, hw212, ?_⟩
    refine J.p rfl rfl rfl rfl (Y.asg rfl) ?_
    refine J.nx ?_
    refine C.seq ?_
    refine C.rs ?_
    refine J.joinBD H (fun (o83 : Unit) (j84 : Unit) => [(2, .pointer (some ⟨g1, 0, none⟩)), (3, .slice A5 t3.length c6), (4, .slice A11 t9.length c12), (7, .pointer (some ⟨g72, 0, none⟩)), (8, .func (.func 54) #[] #[.pointer (some ⟨g76, 0, none⟩)]), (9, .func (.func 54) #[] #[.pointer (some ⟨g81, 0, none⟩)]), (41, .bool false)]) (fun (o83 : Unit) (j84 : Unit) => cells g1 4 [.bool false] :: own 5 1 A5 c6 (t3.map (Value.int .u8)) :: own 5 1 A11 c12 (t9.map (Value.int .u8)) :: cells g72 74 [.slice none 0 0] :: cells g76 22 [.slice Aa0 a0.length ca0] :: cells g81 22 [.slice A5 t3.length c6] :: G) (fun (o83 : Unit) (j84 : Unit) => True) (fun o86 H HK87 => ?_) (fun ds85 o83 j84 H _ => ?_)
    · refine J.p rfl rfl rfl rfl (Y.mv rfl) ?_
      refine J.p rfl rfl rfl rfl (Y.eqfn Try.underlying69 rfl rfl) ?_
      refine J.p rfl rfl rfl rfl (Y.mv rfl) ?_
      refine J.p rfl rfl rfl rfl (Y.mv rfl) ?_
      refine J.p rfl rfl rfl rfl (Y.eqfn Try.underlying69 rfl rfl) ?_
      refine J.p rfl rfl rfl rfl (Y.pickF rfl rfl) ?_
      refine J.nil ?_
      obtain rfl := Option.some.inj H
      exact N.meetD ((), ()) ⟨HK87, trivial⟩ (by exact ⟨rfl, rfl, rfl, rfl, rfl, rfl, rfl, trivial⟩) (by exact fun w h => (St.pick [3, 4, 5, 6, 2, 1, 0] [_, _, _, _, _, _, _] h rfl))
    · refine C.at (s' := [(2, .pointer (some ⟨g1, 0, none⟩)), (3, .slice A5 t3.length c6), (4, .slice A11 t9.length c12), (7, .pointer (some ⟨g72, 0, none⟩)), (8, .func (.func 54) #[] #[.pointer (some ⟨g76, 0, none⟩)]), (9, .func (.func 54) #[] #[.pointer (some ⟨g81, 0, none⟩)]), (41, .bool false)]) (G' := dblks ds85 :: cells g1 4 [.bool false] :: own 5 1 A5 c6 (t3.map (Value.int .u8)) :: own 5 1 A11 c12 (t9.map (Value.int .u8)) :: cells g72 74 [.slice none 0 0] :: cells g76 22 [.slice Aa0 a0.length ca0] :: cells g81 22 [.slice A5 t3.length c6] :: G) rfl rfl ?_
      refine C.condF rfl ?_
      refine C.skip ?_
      refine N.nx ?_
      refine C.seq ?_
      refine C.rs ?_
      refine J.p rfl rfl rfl rfl (Y.mv rfl) ?_
      refine J.nx ?_
      refine C.blk ?_
      refine C.sub (s' := [(2, .pointer (some ⟨g1, 0, none⟩)), (3, .slice A5 t3.length c6), (4, .slice A11 t9.length c12), (7, .pointer (some ⟨g72, 0, none⟩)), (9, .func (.func 54) #[] #[.pointer (some ⟨g81, 0, none⟩)]), (42, .func (.func 54) #[] #[.pointer (some ⟨g76, 0, none⟩)])]) (by exact ⟨rfl, rfl, rfl, rfl, rfl, rfl, trivial⟩) ?_
      refine C.know (own_leL 2 rfl) (fun hc123 => ?_)
      refine C.know (own_leL 3 rfl) (fun hc125 => ?_)
      have hkey : ∀ Gx, Gx = (own 5 1 A5 c6 (t3.map (Value.int .u8)) :: own 5 1 A11 c12 (t9.map (Value.int .u8)) :: cells g76 22 [.slice Aa0 a0.length ca0] :: cells g81 22 [.slice A5 t3.length c6] :: G) → RdG B w0 Gx A5 (t3.map (Value.int .u8)) ∧ RdG B w0 Gx A11 (t9.map (Value.int .u8)) ∧ RdG B w0 Gx (some ⟨g81, 0, none⟩) [.slice A5 t3.length c6] ∧ RdG B w0 Gx (some ⟨g76, 0, none⟩) [.slice Aa0 a0.length ca0] ∧ RdG B w0 Gx Aa0 (a0.map (Value.int .u8)) ∧ True := by rintro _ rfl; exact ⟨(RdG.own 0 rfl), (RdG.own 1 rfl), (RdG.cells 3 rfl), (RdG.cells 2 rfl), (ha0.suf [_, _, _, _] rfl), trivial⟩
      obtain ⟨hb122, hb124, hb126, hb127, hb128, _⟩ := hkey _ rfl
      obtain ⟨t117, hC118, H⟩ := bind_some H
      refine C.rangeF' (E := Empty) (Gb := own 5 1 A5 c6 (t3.map (Value.int .u8)) :: own 5 1 A11 c12 (t9.map (Value.int .u8)) :: cells g76 22 [.slice Aa0 a0.length ca0] :: cells g81 22 [.slice A5 t3.length c6] :: G) (caps := [.pointer (some ⟨g76, 0, none⟩)]) encY118 (fun (i112 : (List T53_)) (j113 : (Option Addr) × Nat) => [cells g1 4 [.bool false], own 53 14 j113.1 j113.2 (i112.flatMap encT53_), cells g72 74 [.slice j113.1 i112.length j113.2]]) (fun (i112 : (List T53_)) (j113 : (Option Addr) × Nat) => True) (fun (e : Empty) (k : Unit) => e.elim) (fun (e : Empty) (k : Unit) => e.elim) (fun (e : Empty) => e.elim) (fun (x119 : Int × Int × Int × Int × ByteArray × ByteArray × Int × Int × Int × Int × ByteArray × Int × Int × Int × Int) (z137 : Nat) => [cells z137 53 [.int .i64 x119.2.1, .int .u64 x119.2.2.1, .int .i64 x119.2.2.2.1, .string x119.2.2.2.2.1, .string x119.2.2.2.2.2.1, .int .u64 x119.2.2.2.2.2.2.1, .int .i64 x119.2.2.2.2.2.2.2.1, .int .i64 x119.2.2.2.2.2.2.2.2.1, .int .i64 x119.2.2.2.2.2.2.2.2.2.1, .string x119.2.2.2.2.2.2.2.2.2.2.1, .int .i64 x119.2.2.2.2.2.2.2.2.2.2.2.1, .int .i64 x119.2.2.2.2.2.2.2.2.2.2.2.2.1, .int .i64 x119.2.2.2.2.2.2.2.2.2.2.2.2.2.1, .int .u32 x119.2.2.2.2.2.2.2.2.2.2.2.2.2.2]]) (fun (x119 : Int × Int × Int × Int × ByteArray × ByteArray × Int × Int × Int × Int × ByteArray × Int × Int × Int × Int) (z137 : Nat) => [(2, .pointer (some ⟨g1, 0, none⟩)), (3, .slice A5 t3.length c6), (4, .slice A11 t9.length c12), (7, .pointer (some ⟨g72, 0, none⟩)), (9, .func (.func 54) #[] #[.pointer (some ⟨g81, 0, none⟩)]), (11, .pointer (some ⟨z137, 0, none⟩)), (42, .func (.func 54) #[] #[.pointer (some ⟨g76, 0, none⟩)]), (43, .int .i64 x119.1), (44, .agg #[.int .i64 x119.2.1, .int .u64 x119.2.2.1, .int .i64 x119.2.2.2.1, .string x119.2.2.2.2.1, .string x119.2.2.2.2.2.1, .int .u64 x119.2.2.2.2.2.2.1, .int .i64 x119.2.2.2.2.2.2.2.1, .int .i64 x119.2.2.2.2.2.2.2.2.1, .int .i64 x119.2.2.2.2.2.2.2.2.2.1, .string x119.2.2.2.2.2.2.2.2.2.2.1, .int .i64 x119.2.2.2.2.2.2.2.2.2.2.2.1, .int .i64 x119.2.2.2.2.2.2.2.2.2.2.2.2.1, .int .i64 x119.2.2.2.2.2.2.2.2.2.2.2.2.2.1, .int .u32 x119.2.2.2.2.2.2.2.2.2.2.2.2.2.2])]) _ ([] : List T53_) (none, 0) t117 rfl go54 (fun _ => rfl) (by rfl) (by decide) (pf_of rfl) trivial (fun w h => (St.pick [1, 2, 0, 5, 3, 4, 6, 7] [_, _, _, _, _, _, _, _] (h.nilOwn 53 14) rfl)) (fun Yy yv hy w hw => sFramesF.calls K _ _ a0 Yy yv g76 Aa0 ca0 hy (ha0.suf [_, _, _, _] rfl) ka0 (RdG.cells 2 rfl) _ hC118 w hw) (fun l i112 j113 x119 L120 _ => ?_) (fun l i112 j113 x119 z137 o L120 G hGG H _ hl121 => ?_) (fun ds115 i112 j113 hr _ => ?_) (fun ds115 e k hr hx => ?_)
      · refine C.sub (s' := [(2, .pointer (some ⟨g1, 0, none⟩)), (3, .slice A5 t3.length c6), (4, .slice A11 t9.length c12), (7, .pointer (some ⟨g72, 0, none⟩)), (9, .func (.func 54) #[] #[.pointer (some ⟨g81, 0, none⟩)]), (42, .func (.func 54) #[] #[.pointer (some ⟨g76, 0, none⟩)]), (43, .int .i64 x119.1), (44, .agg #[.int .i64 x119.2.1, .int .u64 x119.2.2.1, .int .i64 x119.2.2.2.1, .string x119.2.2.2.2.1, .string x119.2.2.2.2.2.1, .int .u64 x119.2.2.2.2.2.2.1, .int .i64 x119.2.2.2.2.2.2.2.1, .int .i64 x119.2.2.2.2.2.2.2.2.1, .int .i64 x119.2.2.2.2.2.2.2.2.2.1, .string x119.2.2.2.2.2.2.2.2.2.2.1, .int .i64 x119.2.2.2.2.2.2.2.2.2.2.2.1, .int .i64 x119.2.2.2.2.2.2.2.2.2.2.2.2.1, .int .i64 x119.2.2.2.2.2.2.2.2.2.2.2.2.2.1, .int .u32 x119.2.2.2.2.2.2.2.2.2.2.2.2.2.2])]) (by exact ⟨rfl, rfl, rfl, rfl, rfl, rfl, rfl, rfl, trivial⟩) ?_
        refine C.reg ?_
        refine J.alloc (L := [.int .i64 0, .int .u64 0, .int .i64 0, .string ByteArray.empty, .string ByteArray.empty, .int .u64 0, .int .i64 0, .int .i64 0, .int .i64 0, .string ByteArray.empty, .int .i64 0, .int .i64 0, .int .i64 0, .int .u32 0]) rfl ti53 rfl (fun g129 => ?_)
        refine J.stA (us := [.int .i64 x119.2.1, .int .u64 x119.2.2.1, .int .i64 x119.2.2.2.1, .string x119.2.2.2.2.1, .string x119.2.2.2.2.2.1, .int .u64 x119.2.2.2.2.2.2.1, .int .i64 x119.2.2.2.2.2.2.2.1, .int .i64 x119.2.2.2.2.2.2.2.2.1, .int .i64 x119.2.2.2.2.2.2.2.2.2.1, .string x119.2.2.2.2.2.2.2.2.2.2.1, .int .i64 x119.2.2.2.2.2.2.2.2.2.2.2.1, .int .i64 x119.2.2.2.2.2.2.2.2.2.2.2.2.1, .int .i64 x119.2.2.2.2.2.2.2.2.2.2.2.2.2.1, .int .u32 x119.2.2.2.2.2.2.2.2.2.2.2.2.2.2]) (L' := [.int .i64 x119.2.1, .int .u64 x119.2.2.1, .int .i64 x119.2.2.2.1, .string x119.2.2.2.2.1, .string x119.2.2.2.2.2.1, .int .u64 x119.2.2.2.2.2.2.1, .int .i64 x119.2.2.2.2.2.2.2.1, .int .i64 x119.2.2.2.2.2.2.2.2.1, .int .i64 x119.2.2.2.2.2.2.2.2.2.1, .string x119.2.2.2.2.2.2.2.2.2.2.1, .int .i64 x119.2.2.2.2.2.2.2.2.2.2.2.1, .int .i64 x119.2.2.2.2.2.2.2.2.2.2.2.2.1, .int .i64 x119.2.2.2.2.2.2.2.2.2.2.2.2.2.1, .int .u32 x119.2.2.2.2.2.2.2.2.2.2.2.2.2.2]) ti53 rfl rfl rfl rfl rfl rfl ?_
        refine J.nil ?_
        exact N.asg g129 (by exact ⟨rfl, rfl, rfl, rfl, rfl, rfl, rfl, rfl, rfl, trivial⟩) (fun w h => h)
      · obtain ⟨g129, hz⟩ := (⟨z137, rfl⟩ : ∃ g, g = z137)
        subst hz
        replace hb122 := RdG.suf hb122 L120 hGG
        replace hb124 := RdG.suf hb124 L120 hGG
        replace hb126 := RdG.suf hb126 L120 hGG
        replace hb127 := RdG.suf hb127 L120 hGG
        replace hb128 := RdG.suf hb128 L120 hGG
        refine C.at (s' := [(2, .pointer (some ⟨g1, 0, none⟩)), (3, .slice A5 t3.length c6), (4, .slice A11 t9.length c12), (7, .pointer (some ⟨g72, 0, none⟩)), (9, .func (.func 54) #[] #[.pointer (some ⟨g81, 0, none⟩)]), (11, .pointer (some ⟨g129, 0, none⟩)), (42, .func (.func 54) #[] #[.pointer (some ⟨g76, 0, none⟩)]), (43, .int .i64 x119.1), (44, .agg #[.int .i64 x119.2.1, .int .u64 x119.2.2.1, .int .i64 x119.2.2.2.1, .string x119.2.2.2.2.1, .string x119.2.2.2.2.2.1, .int .u64 x119.2.2.2.2.2.2.1, .int .i64 x119.2.2.2.2.2.2.2.1, .int .i64 x119.2.2.2.2.2.2.2.2.1, .int .i64 x119.2.2.2.2.2.2.2.2.2.1, .string x119.2.2.2.2.2.2.2.2.2.2.1, .int .i64 x119.2.2.2.2.2.2.2.2.2.2.2.1, .int .i64 x119.2.2.2.2.2.2.2.2.2.2.2.2.1, .int .i64 x119.2.2.2.2.2.2.2.2.2.2.2.2.2.1, .int .u32 x119.2.2.2.2.2.2.2.2.2.2.2.2.2.2])]) (G' := cells g129 53 [.int .i64 x119.2.1, .int .u64 x119.2.2.1, .int .i64 x119.2.2.2.1, .string x119.2.2.2.2.1, .string x119.2.2.2.2.2.1, .int .u64 x119.2.2.2.2.2.2.1, .int .i64 x119.2.2.2.2.2.2.2.1, .int .i64 x119.2.2.2.2.2.2.2.2.1, .int .i64 x119.2.2.2.2.2.2.2.2.2.1, .string x119.2.2.2.2.2.2.2.2.2.2.1, .int .i64 x119.2.2.2.2.2.2.2.2.2.2.2.1, .int .i64 x119.2.2.2.2.2.2.2.2.2.2.2.2.1, .int .i64 x119.2.2.2.2.2.2.2.2.2.2.2.2.2.1, .int .u32 x119.2.2.2.2.2.2.2.2.2.2.2.2.2.2] :: cells g1 4 [.bool false] :: own 53 14 j113.1 j113.2 (i112.flatMap encT53_) :: cells g72 74 [.slice j113.1 i112.length j113.2] :: G) rfl rfl ?_
        refine C.blk ?_
        refine C.reg ?_
        refine J.r rfl rfl rfl rfl (Y.ldC 3 Try.underlying74 rfl rfl rfl rfl) ?_
        refine J.r rfl rfl rfl rfl (Y.ldCA (us := [.int .i64 x119.2.1, .int .u64 x119.2.2.1, .int .i64 x119.2.2.2.1, .string x119.2.2.2.2.1, .string x119.2.2.2.2.2.1, .int .u64 x119.2.2.2.2.2.2.1, .int .i64 x119.2.2.2.2.2.2.2.1, .int .i64 x119.2.2.2.2.2.2.2.2.1, .int .i64 x119.2.2.2.2.2.2.2.2.2.1, .string x119.2.2.2.2.2.2.2.2.2.2.1, .int .i64 x119.2.2.2.2.2.2.2.2.2.2.2.1, .int .i64 x119.2.2.2.2.2.2.2.2.2.2.2.2.1, .int .i64 x119.2.2.2.2.2.2.2.2.2.2.2.2.2.1, .int .u32 x119.2.2.2.2.2.2.2.2.2.2.2.2.2.2]) 0 Try.underlying53 rfl ti53 rfl rfl rfl rfl) ?_
        refine J.bsM (enc := encT53_) (xs := [(x119.2.1, x119.2.2.1, x119.2.2.2.1, x119.2.2.2.2.1, x119.2.2.2.2.2.1, x119.2.2.2.2.2.2.1, x119.2.2.2.2.2.2.2.1, x119.2.2.2.2.2.2.2.2.1, x119.2.2.2.2.2.2.2.2.2.1, x119.2.2.2.2.2.2.2.2.2.2.1, x119.2.2.2.2.2.2.2.2.2.2.2.1, x119.2.2.2.2.2.2.2.2.2.2.2.2.1, x119.2.2.2.2.2.2.2.2.2.2.2.2.2.1, x119.2.2.2.2.2.2.2.2.2.2.2.2.2.2)]) (zs := [.int .i64 0, .int .u64 0, .int .i64 0, .string ByteArray.empty, .string ByteArray.empty, .int .u64 0, .int .i64 0, .int .i64 0, .int .i64 0, .string ByteArray.empty, .int .i64 0, .int .i64 0, .int .i64 0, .int .u32 0]) lenT53_ rfl Try.underlying74 ti53 (by kernel_rfl) rfl (by kernel_rfl) rfl rfl rfl (fun A131 => ?_)
        refine J.pull 3 rfl rfl ?_
        obtain ⟨p135, H⟩ := gd_some H
        refine J.appM (enc := encT53_) (xs := i112) (ys := [(x119.2.1, x119.2.2.1, x119.2.2.2.1, x119.2.2.2.2.1, x119.2.2.2.2.2.1, x119.2.2.2.2.2.2.1, x119.2.2.2.2.2.2.2.1, x119.2.2.2.2.2.2.2.2.1, x119.2.2.2.2.2.2.2.2.2.1, x119.2.2.2.2.2.2.2.2.2.2.1, x119.2.2.2.2.2.2.2.2.2.2.2.1, x119.2.2.2.2.2.2.2.2.2.2.2.2.1, x119.2.2.2.2.2.2.2.2.2.2.2.2.2.1, x119.2.2.2.2.2.2.2.2.2.2.2.2.2.2)]) lenT53_ oneT53_ rfl Try.underlying74 ti53 rfl (by decide) (by decide) rfl rfl (RdG.own 1 rfl) p135 (fun A133 c134 => ?_)
        refine J.pull 1 rfl rfl (J.drop ?_)
        refine J.pull 3 rfl rfl ?_
        refine J.stE (L' := [.slice A133 (i112 ++ [(x119.2.1, x119.2.2.1, x119.2.2.2.1, x119.2.2.2.2.1, x119.2.2.2.2.2.1, x119.2.2.2.2.2.2.1, x119.2.2.2.2.2.2.2.1, x119.2.2.2.2.2.2.2.2.1, x119.2.2.2.2.2.2.2.2.2.1, x119.2.2.2.2.2.2.2.2.2.2.1, x119.2.2.2.2.2.2.2.2.2.2.2.1, x119.2.2.2.2.2.2.2.2.2.2.2.2.1, x119.2.2.2.2.2.2.2.2.2.2.2.2.2.1, x119.2.2.2.2.2.2.2.2.2.2.2.2.2.2)]).length c134]) ti74 rfl rfl rfl rfl rfl ?_
        refine J.nil ?_
        refine N.ib ?_
        obtain rfl := Option.some.inj H
        exact N.round (i112 ++ [(x119.2.1, x119.2.2.1, x119.2.2.2.1, x119.2.2.2.2.1, x119.2.2.2.2.2.1, x119.2.2.2.2.2.2.1, x119.2.2.2.2.2.2.2.1, x119.2.2.2.2.2.2.2.2.1, x119.2.2.2.2.2.2.2.2.2.1, x119.2.2.2.2.2.2.2.2.2.2.1, x119.2.2.2.2.2.2.2.2.2.2.2.1, x119.2.2.2.2.2.2.2.2.2.2.2.2.1, x119.2.2.2.2.2.2.2.2.2.2.2.2.2.1, x119.2.2.2.2.2.2.2.2.2.2.2.2.2.2)]) (A133, c134) rfl trivial (by exact fun w h => (St.pick [3, 1, 0] [_, _, _, _] h rfl))
      · subst hr
        replace H := ysel_inl H
        refine N.at (s' := [(2, .pointer (some ⟨g1, 0, none⟩)), (3, .slice A5 t3.length c6), (4, .slice A11 t9.length c12), (7, .pointer (some ⟨g72, 0, none⟩)), (9, .func (.func 54) #[] #[.pointer (some ⟨g81, 0, none⟩)]), (42, .func (.func 54) #[] #[.pointer (some ⟨g76, 0, none⟩)])]) (G' := dblks ds115 :: cells g1 4 [.bool false] :: own 53 14 j113.1 j113.2 (i112.flatMap encT53_) :: cells g72 74 [.slice j113.1 i112.length j113.2] :: own 5 1 A5 c6 (t3.map (Value.int .u8)) :: own 5 1 A11 c12 (t9.map (Value.int .u8)) :: cells g76 22 [.slice Aa0 a0.length ca0] :: cells g81 22 [.slice A5 t3.length c6] :: G) rfl rfl ?_
        refine N.ib ?_
        refine N.nx ?_
        refine C.rs ?_
        refine J.alloc (L := [.int .i64 0]) rfl ti3 rfl (fun g138 => ?_)
        refine J.stE (L' := [.int .i64 0]) ti3 rfl rfl rfl rfl rfl ?_
        refine J.nx ?_
        refine C.seq ?_
        refine C.rs ?_
        refine J.p rfl rfl rfl rfl (Y.mv rfl) ?_
        refine J.nx ?_
        refine C.blk ?_
        refine C.sub (s' := [(2, .pointer (some ⟨g1, 0, none⟩)), (3, .slice A5 t3.length c6), (4, .slice A11 t9.length c12), (7, .pointer (some ⟨g72, 0, none⟩)), (12, .pointer (some ⟨g138, 0, none⟩)), (49, .func (.func 54) #[] #[.pointer (some ⟨g81, 0, none⟩)])]) (by exact ⟨rfl, rfl, rfl, rfl, rfl, rfl, trivial⟩) ?_
        refine C.know (own_leL 5 rfl) (fun hc171 => ?_)
        refine C.know (own_leL 5 rfl) (fun hc178 => ?_)
        refine C.know (own_leL 6 rfl) (fun hc180 => ?_)
        refine C.know (own_leM lenT53_ (by decide) 3 rfl) (fun hc183 => ?_)
        have hkey : ∀ Gx, Gx = (own 53 14 j113.1 j113.2 (i112.flatMap encT53_) :: own 5 1 A5 c6 (t3.map (Value.int .u8)) :: own 5 1 A11 c12 (t9.map (Value.int .u8)) :: cells g76 22 [.slice Aa0 a0.length ca0] :: cells g81 22 [.slice A5 t3.length c6] :: G) → RdG B w0 Gx A5 (t3.map (Value.int .u8)) ∧ RdG B w0 Gx A11 (t9.map (Value.int .u8)) ∧ RdG B w0 Gx (some ⟨g81, 0, none⟩) [.slice A5 t3.length c6] ∧ RdG B w0 Gx j113.1 (i112.flatMap encT53_) ∧ True := by rintro _ rfl; exact ⟨(RdG.own 1 rfl), (RdG.own 2 rfl), (RdG.cells 4 rfl), (RdG.own 0 rfl), trivial⟩
        obtain ⟨hb177, hb179, hb181, hb182, _⟩ := hkey _ rfl
        obtain ⟨t172, hC173, H⟩ := bind_some H
        refine C.rangeF' (E := Int) (Gb := own 53 14 j113.1 j113.2 (i112.flatMap encT53_) :: own 5 1 A5 c6 (t3.map (Value.int .u8)) :: own 5 1 A11 c12 (t9.map (Value.int .u8)) :: cells g76 22 [.slice Aa0 a0.length ca0] :: cells g81 22 [.slice A5 t3.length c6] :: G) (caps := [.pointer (some ⟨g81, 0, none⟩)]) encY118 (fun (i166 : Int) (j167 : Unit) => [cells g138 3 [.int .i64 i166], cells g1 4 [.bool false], cells g72 74 [.slice j113.1 i112.length j113.2]]) (fun (i166 : Int) (j167 : Unit) => True) (fun (e169 : Int) (k170 : Unit) => [cells g1 4 [.bool false], cells g72 74 [.slice j113.1 i112.length j113.2], cells g138 3 [.int .i64 e169]]) (fun (e169 : Int) (k170 : Unit) => True) (fun (_ : Int) => .ret) (fun (x174 : Int × Int × Int × Int × ByteArray × ByteArray × Int × Int × Int × Int × ByteArray × Int × Int × Int × Int) (z201 : Nat) => [cells z201 53 [.int .i64 x174.2.1, .int .u64 x174.2.2.1, .int .i64 x174.2.2.2.1, .string x174.2.2.2.2.1, .string x174.2.2.2.2.2.1, .int .u64 x174.2.2.2.2.2.2.1, .int .i64 x174.2.2.2.2.2.2.2.1, .int .i64 x174.2.2.2.2.2.2.2.2.1, .int .i64 x174.2.2.2.2.2.2.2.2.2.1, .string x174.2.2.2.2.2.2.2.2.2.2.1, .int .i64 x174.2.2.2.2.2.2.2.2.2.2.2.1, .int .i64 x174.2.2.2.2.2.2.2.2.2.2.2.2.1, .int .i64 x174.2.2.2.2.2.2.2.2.2.2.2.2.2.1, .int .u32 x174.2.2.2.2.2.2.2.2.2.2.2.2.2.2]]) (fun (x174 : Int × Int × Int × Int × ByteArray × ByteArray × Int × Int × Int × Int × ByteArray × Int × Int × Int × Int) (z201 : Nat) => [(2, .pointer (some ⟨g1, 0, none⟩)), (3, .slice A5 t3.length c6), (4, .slice A11 t9.length c12), (7, .pointer (some ⟨g72, 0, none⟩)), (12, .pointer (some ⟨g138, 0, none⟩)), (14, .pointer (some ⟨z201, 0, none⟩)), (49, .func (.func 54) #[] #[.pointer (some ⟨g81, 0, none⟩)]), (50, .int .i64 x174.1), (51, .agg #[.int .i64 x174.2.1, .int .u64 x174.2.2.1, .int .i64 x174.2.2.2.1, .string x174.2.2.2.2.1, .string x174.2.2.2.2.2.1, .int .u64 x174.2.2.2.2.2.2.1, .int .i64 x174.2.2.2.2.2.2.2.1, .int .i64 x174.2.2.2.2.2.2.2.2.1, .int .i64 x174.2.2.2.2.2.2.2.2.2.1, .string x174.2.2.2.2.2.2.2.2.2.2.1, .int .i64 x174.2.2.2.2.2.2.2.2.2.2.2.1, .int .i64 x174.2.2.2.2.2.2.2.2.2.2.2.2.1, .int .i64 x174.2.2.2.2.2.2.2.2.2.2.2.2.2.1, .int .u32 x174.2.2.2.2.2.2.2.2.2.2.2.2.2.2])]) _ 0 () t172 rfl go54 (fun _ => rfl) (by rfl) (by decide) (pf_of rfl) trivial (fun w h => (St.pick [1, 0, 2, 4, 3, 5, 6, 7, 8] [_, _, _, _, _, _, _, _, _] h rfl)) (fun Yy yv hy w hw => sFramesF.calls K _ _ t3 Yy yv g81 A5 c6 hy (RdG.own 1 rfl) hc171 (RdG.cells 4 rfl) _ hC173 w hw) (fun l i166 j167 x174 L175 _ => ?_) (fun l i166 j167 x174 z201 o L175 G hGG H _ hl176 => ?_) (fun ds168 i166 j167 hr _ => ?_) (fun ds168 e169 k170 hr hx => ?_)
        · refine C.sub (s' := [(2, .pointer (some ⟨g1, 0, none⟩)), (3, .slice A5 t3.length c6), (4, .slice A11 t9.length c12), (7, .pointer (some ⟨g72, 0, none⟩)), (12, .pointer (some ⟨g138, 0, none⟩)), (49, .func (.func 54) #[] #[.pointer (some ⟨g81, 0, none⟩)]), (50, .int .i64 x174.1), (51, .agg #[.int .i64 x174.2.1, .int .u64 x174.2.2.1, .int .i64 x174.2.2.2.1, .string x174.2.2.2.2.1, .string x174.2.2.2.2.2.1, .int .u64 x174.2.2.2.2.2.2.1, .int .i64 x174.2.2.2.2.2.2.2.1, .int .i64 x174.2.2.2.2.2.2.2.2.1, .int .i64 x174.2.2.2.2.2.2.2.2.2.1, .string x174.2.2.2.2.2.2.2.2.2.2.1, .int .i64 x174.2.2.2.2.2.2.2.2.2.2.2.1, .int .i64 x174.2.2.2.2.2.2.2.2.2.2.2.2.1, .int .i64 x174.2.2.2.2.2.2.2.2.2.2.2.2.2.1, .int .u32 x174.2.2.2.2.2.2.2.2.2.2.2.2.2.2])]) (by exact ⟨rfl, rfl, rfl, rfl, rfl, rfl, rfl, rfl, trivial⟩) ?_
          refine C.reg ?_
          refine J.alloc (L := [.int .i64 0, .int .u64 0, .int .i64 0, .string ByteArray.empty, .string ByteArray.empty, .int .u64 0, .int .i64 0, .int .i64 0, .int .i64 0, .string ByteArray.empty, .int .i64 0, .int .i64 0, .int .i64 0, .int .u32 0]) rfl ti53 rfl (fun g184 => ?_)
          refine J.stA (us := [.int .i64 x174.2.1, .int .u64 x174.2.2.1, .int .i64 x174.2.2.2.1, .string x174.2.2.2.2.1, .string x174.2.2.2.2.2.1, .int .u64 x174.2.2.2.2.2.2.1, .int .i64 x174.2.2.2.2.2.2.2.1, .int .i64 x174.2.2.2.2.2.2.2.2.1, .int .i64 x174.2.2.2.2.2.2.2.2.2.1, .string x174.2.2.2.2.2.2.2.2.2.2.1, .int .i64 x174.2.2.2.2.2.2.2.2.2.2.2.1, .int .i64 x174.2.2.2.2.2.2.2.2.2.2.2.2.1, .int .i64 x174.2.2.2.2.2.2.2.2.2.2.2.2.2.1, .int .u32 x174.2.2.2.2.2.2.2.2.2.2.2.2.2.2]) (L' := [.int .i64 x174.2.1, .int .u64 x174.2.2.1, .int .i64 x174.2.2.2.1, .string x174.2.2.2.2.1, .string x174.2.2.2.2.2.1, .int .u64 x174.2.2.2.2.2.2.1, .int .i64 x174.2.2.2.2.2.2.2.1, .int .i64 x174.2.2.2.2.2.2.2.2.1, .int .i64 x174.2.2.2.2.2.2.2.2.2.1, .string x174.2.2.2.2.2.2.2.2.2.2.1, .int .i64 x174.2.2.2.2.2.2.2.2.2.2.2.1, .int .i64 x174.2.2.2.2.2.2.2.2.2.2.2.2.1, .int .i64 x174.2.2.2.2.2.2.2.2.2.2.2.2.2.1, .int .u32 x174.2.2.2.2.2.2.2.2.2.2.2.2.2.2]) ti53 rfl rfl rfl rfl rfl rfl ?_
          refine J.nil ?_
          exact N.asg g184 (by exact ⟨rfl, rfl, rfl, rfl, rfl, rfl, rfl, rfl, rfl, trivial⟩) (fun w h => h)
        · obtain ⟨g184, hz⟩ := (⟨z201, rfl⟩ : ∃ g, g = z201)
          subst hz
          replace hb177 := RdG.suf hb177 L175 hGG
          replace hb179 := RdG.suf hb179 L175 hGG
          replace hb181 := RdG.suf hb181 L175 hGG
          replace hb182 := RdG.suf hb182 L175 hGG
          refine C.at (s' := [(2, .pointer (some ⟨g1, 0, none⟩)), (3, .slice A5 t3.length c6), (4, .slice A11 t9.length c12), (7, .pointer (some ⟨g72, 0, none⟩)), (12, .pointer (some ⟨g138, 0, none⟩)), (14, .pointer (some ⟨g184, 0, none⟩)), (49, .func (.func 54) #[] #[.pointer (some ⟨g81, 0, none⟩)]), (50, .int .i64 x174.1), (51, .agg #[.int .i64 x174.2.1, .int .u64 x174.2.2.1, .int .i64 x174.2.2.2.1, .string x174.2.2.2.2.1, .string x174.2.2.2.2.2.1, .int .u64 x174.2.2.2.2.2.2.1, .int .i64 x174.2.2.2.2.2.2.2.1, .int .i64 x174.2.2.2.2.2.2.2.2.1, .int .i64 x174.2.2.2.2.2.2.2.2.2.1, .string x174.2.2.2.2.2.2.2.2.2.2.1, .int .i64 x174.2.2.2.2.2.2.2.2.2.2.2.1, .int .i64 x174.2.2.2.2.2.2.2.2.2.2.2.2.1, .int .i64 x174.2.2.2.2.2.2.2.2.2.2.2.2.2.1, .int .u32 x174.2.2.2.2.2.2.2.2.2.2.2.2.2.2])]) (G' := cells g184 53 [.int .i64 x174.2.1, .int .u64 x174.2.2.1, .int .i64 x174.2.2.2.1, .string x174.2.2.2.2.1, .string x174.2.2.2.2.2.1, .int .u64 x174.2.2.2.2.2.2.1, .int .i64 x174.2.2.2.2.2.2.2.1, .int .i64 x174.2.2.2.2.2.2.2.2.1, .int .i64 x174.2.2.2.2.2.2.2.2.2.1, .string x174.2.2.2.2.2.2.2.2.2.2.1, .int .i64 x174.2.2.2.2.2.2.2.2.2.2.2.1, .int .i64 x174.2.2.2.2.2.2.2.2.2.2.2.2.1, .int .i64 x174.2.2.2.2.2.2.2.2.2.2.2.2.2.1, .int .u32 x174.2.2.2.2.2.2.2.2.2.2.2.2.2.2] :: cells g138 3 [.int .i64 i166] :: cells g1 4 [.bool false] :: cells g72 74 [.slice j113.1 i112.length j113.2] :: G) rfl rfl ?_
          refine C.blk ?_
          refine C.seq ?_
          refine C.joinB H (fun (o193 : Bool) (j194 : Unit) => [(2, .pointer (some ⟨g1, 0, none⟩)), (3, .slice A5 t3.length c6), (4, .slice A11 t9.length c12), (7, .pointer (some ⟨g72, 0, none⟩)), (12, .pointer (some ⟨g138, 0, none⟩)), (49, .func (.func 54) #[] #[.pointer (some ⟨g81, 0, none⟩)]), (63, .bool o193)]) (fun (o193 : Bool) (j194 : Unit) => cells g1 4 [.bool false] :: cells g72 74 [.slice j113.1 i112.length j113.2] :: cells g138 3 [.int .i64 i166] :: G) (fun (o193 : Bool) (j194 : Unit) => True) (fun o191 H HK192 => ?_) (fun o193 j194 H _ => ?_)
          · refine C.drawn (fuel := 12) (ls := [false, false, false, false, false, false, false, false, false, false, false, false]) [] (cells g184 53 [.int .i64 x174.2.1, .int .u64 x174.2.2.1, .int .i64 x174.2.2.2.1, .string x174.2.2.2.2.1, .string x174.2.2.2.2.2.1, .int .u64 x174.2.2.2.2.2.2.1, .int .i64 x174.2.2.2.2.2.2.2.1, .int .i64 x174.2.2.2.2.2.2.2.2.1, .int .i64 x174.2.2.2.2.2.2.2.2.2.1, .string x174.2.2.2.2.2.2.2.2.2.2.1, .int .i64 x174.2.2.2.2.2.2.2.2.2.2.2.1, .int .i64 x174.2.2.2.2.2.2.2.2.2.2.2.2.1, .int .i64 x174.2.2.2.2.2.2.2.2.2.2.2.2.2.1, .int .u32 x174.2.2.2.2.2.2.2.2.2.2.2.2.2.2] :: cells g138 3 [.int .i64 i166] :: cells g1 4 [.bool false] :: cells g72 74 [.slice j113.1 i112.length j113.2] :: G) mx rfl rfl ?_
            refine D.r (ls' := [true, false, false, false, false, false, false, false, false, false, false, false]) 0 1 0 rfl rfl rfl rfl (by kernel_rfl) (by kernel_rfl) rfl rfl (Y.ldC 1 Try.underlying3 rfl rfl rfl rfl) ?_
            refine D.r (ls' := [true, true, false, false, false, false, false, false, false, false, false, false]) 1 1 0 rfl rfl rfl rfl (by kernel_rfl) (by kernel_rfl) rfl rfl (Y.ldC 3 Try.underlying74 rfl rfl rfl rfl) ?_
            refine D.p (ls' := [true, true, true, false, false, false, false, false, false, false, false, false]) 2 rfl rfl rfl rfl (by kernel_rfl) rfl (Y.lenS Try.underlying74 rfl) ?_
            refine D.p (ls' := [true, true, true, true, false, false, false, false, false, false, false, false]) 3 rfl rfl rfl rfl (by kernel_rfl) rfl (Y.bin rfl rfl rfl) ?_
            refine D.p (ls' := [true, true, true, true, true, false, false, false, false, false, false, false]) 4 rfl rfl rfl rfl (by kernel_rfl) rfl (Y.mv rfl) ?_
            refine split2 H (fun c195 H => ?_) (fun c195 H => ?_)
            · refine D.as (k := 56) rfl (congrArg Value.bool (decide_eq_true c195)) ?_
              refine D.off (ls' := [true, true, true, true, true, true, false, false, false, false, false, false]) 5 rfl rfl rfl rfl (by kernel_rfl) rfl ?_
              refine D.off (ls' := [true, true, true, true, true, true, true, false, false, false, false, false]) 6 rfl rfl rfl rfl (by kernel_rfl) rfl ?_
              refine D.off (ls' := [true, true, true, true, true, true, true, true, false, false, false, false]) 7 rfl rfl rfl rfl (by kernel_rfl) rfl ?_
              refine D.off (ls' := [true, true, true, true, true, true, true, true, true, false, false, false]) 8 rfl rfl rfl rfl (by kernel_rfl) rfl ?_
              refine D.off (ls' := [true, true, true, true, true, true, true, true, true, true, false, false]) 9 rfl rfl rfl rfl (by kernel_rfl) rfl ?_
              refine D.off (ls' := [true, true, true, true, true, true, true, true, true, true, true, false]) 10 rfl rfl rfl rfl (by kernel_rfl) rfl ?_
              refine D.p (ls' := [true, true, true, true, true, true, true, true, true, true, true, true]) 11 rfl rfl rfl rfl (by kernel_rfl) rfl (Y.pickT rfl rfl) ?_
              refine D.nil (by kernel_rfl) ?_
              obtain rfl := Option.some.inj H
              exact N.meet (true, ()) ⟨HK192, trivial⟩ (by exact ⟨rfl, rfl, rfl, rfl, rfl, rfl, rfl, trivial⟩) (by exact fun w h => (St.pick [2, 3, 1] [_, _, _, _] h rfl))
            · refine D.as (k := 56) rfl (congrArg Value.bool (decide_eq_false c195)) ?_
              refine D.r (ls' := [true, true, true, true, true, true, false, false, false, false, false, false]) 5 1 0 rfl rfl rfl rfl (by kernel_rfl) (by kernel_rfl) rfl rfl (Y.ldC 3 Try.underlying74 rfl rfl rfl rfl) ?_
              refine D.r (ls' := [true, true, true, true, true, true, true, false, false, false, false, false]) 6 1 0 rfl rfl rfl rfl (by kernel_rfl) (by kernel_rfl) rfl rfl (Y.ldC 1 Try.underlying3 rfl rfl rfl rfl) ?_
              obtain ⟨p198, H⟩ := gd_some H
              refine D.know (RdG.someM lenT53_ (by decide) (hb182.suf [_, _, _, _] rfl) p198) (fun hh => ?_)
              obtain ⟨a196, ha197⟩ := hh
              refine D.p (ls' := [true, true, true, true, true, true, true, true, false, false, false, false]) 7 rfl rfl rfl rfl (by kernel_rfl) rfl (Y.ixa Try.underlying74 ti53 rfl rfl p198 ha197) ?_
              obtain ⟨p199, H⟩ := gd_some H
              refine D.r (ls' := [true, true, true, true, true, true, true, true, true, false, false, false]) 8 1 0 rfl rfl rfl rfl (by kernel_rfl) (by kernel_rfl) rfl rfl (Y.ldM (us := [.int .i64 ((rd i112 i166).1), .int .u64 ((rd i112 i166).2.1), .int .i64 ((rd i112 i166).2.2.1), .string ((rd i112 i166).2.2.2.1), .string ((rd i112 i166).2.2.2.2.1), .int .u64 ((rd i112 i166).2.2.2.2.2.1), .int .i64 ((rd i112 i166).2.2.2.2.2.2.1), .int .i64 ((rd i112 i166).2.2.2.2.2.2.2.1), .int .i64 ((rd i112 i166).2.2.2.2.2.2.2.2.1), .string ((rd i112 i166).2.2.2.2.2.2.2.2.2.1), .int .i64 ((rd i112 i166).2.2.2.2.2.2.2.2.2.2.1), .int .i64 ((rd i112 i166).2.2.2.2.2.2.2.2.2.2.2.1), .int .i64 ((rd i112 i166).2.2.2.2.2.2.2.2.2.2.2.2.1), .int .u32 ((rd i112 i166).2.2.2.2.2.2.2.2.2.2.2.2.2)]) lenT53_ Try.underlying53 rfl ti53 rfl ha197 p199 (hb182.suf [_, _, _, _] rfl) rfl) ?_
              refine D.r (ls' := [true, true, true, true, true, true, true, true, true, true, false, false]) 9 1 0 rfl rfl rfl rfl (by kernel_rfl) (by kernel_rfl) rfl rfl (Y.ldCA (us := [.int .i64 x174.2.1, .int .u64 x174.2.2.1, .int .i64 x174.2.2.2.1, .string x174.2.2.2.2.1, .string x174.2.2.2.2.2.1, .int .u64 x174.2.2.2.2.2.2.1, .int .i64 x174.2.2.2.2.2.2.2.1, .int .i64 x174.2.2.2.2.2.2.2.2.1, .int .i64 x174.2.2.2.2.2.2.2.2.2.1, .string x174.2.2.2.2.2.2.2.2.2.2.1, .int .i64 x174.2.2.2.2.2.2.2.2.2.2.2.1, .int .i64 x174.2.2.2.2.2.2.2.2.2.2.2.2.1, .int .i64 x174.2.2.2.2.2.2.2.2.2.2.2.2.2.1, .int .u32 x174.2.2.2.2.2.2.2.2.2.2.2.2.2.2]) 0 Try.underlying53 rfl ti53 rfl rfl rfl rfl) ?_
              refine D.p (ls' := [true, true, true, true, true, true, true, true, true, true, true, false]) 10 rfl rfl rfl rfl (by kernel_rfl) rfl (Y.nest Try.eqGuardType53 rfl (EqV.struct Try.underlying53 Try.stoodInHeld53 (EqFs.cons rfl (part_one Try.underlying41 rfl rfl) (part_one Try.underlying41 rfl rfl) (EqV.int 2 Try.underlying41) (EqFs.cons rfl (part_agg Try.underlying44 rfl ti44 rfl) (part_agg Try.underlying44 rfl ti44 rfl) (EqV.struct Try.underlying44 Try.stoodInHeld44 (EqFs.cons rfl (part_one Try.underlying42 rfl rfl) (part_one Try.underlying42 rfl rfl) (EqV.int 1 Try.underlying42) (EqFs.cons rfl (part_one Try.underlying41 rfl rfl) (part_one Try.underlying41 rfl rfl) (EqV.int 1 Try.underlying41) (EqFs.cons rfl (part_one Try.underlying9 rfl rfl) (part_one Try.underlying9 rfl rfl) (EqV.str 1 Try.underlying9) (EqFs.cons rfl (part_one Try.underlying9 rfl rfl) (part_one Try.underlying9 rfl rfl) (EqV.str 1 Try.underlying9) EqFs.nil))))) (EqFs.cons rfl (part_agg Try.underlying46 rfl ti46 rfl) (part_agg Try.underlying46 rfl ti46 rfl) (EqV.struct Try.underlying46 Try.stoodInHeld46 (EqFs.cons rfl (part_one Try.underlying42 rfl rfl) (part_one Try.underlying42 rfl rfl) (EqV.int 1 Try.underlying42) (EqFs.cons rfl (part_one Try.underlying41 rfl rfl) (part_one Try.underlying41 rfl rfl) (EqV.int 1 Try.underlying41) (EqFs.cons rfl (part_one Try.underlying3 rfl rfl) (part_one Try.underlying3 rfl rfl) (EqV.int 1 Try.underlying3) (EqFs.cons rfl (part_one Try.underlying3 rfl rfl) (part_one Try.underlying3 rfl rfl) (EqV.int 1 Try.underlying3) (EqFs.cons rfl (part_one Try.underlying9 rfl rfl) (part_one Try.underlying9 rfl rfl) (EqV.str 1 Try.underlying9) EqFs.nil)))))) (EqFs.cons rfl (part_agg Try.underlying51 rfl ti51 rfl) (part_agg Try.underlying51 rfl ti51 rfl) (EqV.struct Try.underlying51 Try.stoodInHeld51 (EqFs.cons rfl (part_one Try.underlying3 rfl rfl) (part_one Try.underlying3 rfl rfl) (EqV.int 1 Try.underlying3) (EqFs.cons rfl (part_agg Try.underlying49 rfl ti49 rfl) (part_agg Try.underlying49 rfl ti49 rfl) (EqV.struct Try.underlying49 Try.stoodInHeld49 (EqFs.cons rfl (part_one Try.underlying3 rfl rfl) (part_one Try.underlying3 rfl rfl) (EqV.int 0 Try.underlying3) (EqFs.cons rfl (part_one Try.underlying3 rfl rfl) (part_one Try.underlying3 rfl rfl) (EqV.int 0 Try.underlying3) (EqFs.cons rfl (part_one Try.underlying47 rfl rfl) (part_one Try.underlying47 rfl rfl) (EqV.int 0 Try.underlying47) EqFs.nil)))) EqFs.nil))) EqFs.nil))))) rfl rfl) ?_
              refine D.p (ls' := [true, true, true, true, true, true, true, true, true, true, true, true]) 11 rfl rfl rfl rfl (by kernel_rfl) rfl (Y.pickF rfl rfl) ?_
              refine D.nil (by kernel_rfl) ?_
              obtain rfl := Option.some.inj H
              exact N.meet (!(decide (((rd i112 i166).1) = x174.2.1 ∧ (((rd i112 i166).2.1) = x174.2.2.1 ∧ ((rd i112 i166).2.2.1) = x174.2.2.2.1 ∧ ((rd i112 i166).2.2.2.1) = x174.2.2.2.2.1 ∧ ((rd i112 i166).2.2.2.2.1) = x174.2.2.2.2.2.1 ∧ True) ∧ (((rd i112 i166).2.2.2.2.2.1) = x174.2.2.2.2.2.2.1 ∧ ((rd i112 i166).2.2.2.2.2.2.1) = x174.2.2.2.2.2.2.2.1 ∧ ((rd i112 i166).2.2.2.2.2.2.2.1) = x174.2.2.2.2.2.2.2.2.1 ∧ ((rd i112 i166).2.2.2.2.2.2.2.2.1) = x174.2.2.2.2.2.2.2.2.2.1 ∧ ((rd i112 i166).2.2.2.2.2.2.2.2.2.1) = x174.2.2.2.2.2.2.2.2.2.2.1 ∧ True) ∧ (((rd i112 i166).2.2.2.2.2.2.2.2.2.2.1) = x174.2.2.2.2.2.2.2.2.2.2.2.1 ∧ (((rd i112 i166).2.2.2.2.2.2.2.2.2.2.2.1) = x174.2.2.2.2.2.2.2.2.2.2.2.2.1 ∧ ((rd i112 i166).2.2.2.2.2.2.2.2.2.2.2.2.1) = x174.2.2.2.2.2.2.2.2.2.2.2.2.2.1 ∧ ((rd i112 i166).2.2.2.2.2.2.2.2.2.2.2.2.2) = x174.2.2.2.2.2.2.2.2.2.2.2.2.2.2 ∧ True) ∧ True) ∧ True)), ()) ⟨HK192, trivial⟩ (by exact ⟨rfl, rfl, rfl, rfl, rfl, rfl, rfl, trivial⟩) (by exact fun w h => (St.pick [2, 3, 1] [_, _, _, _] h rfl))
          · refine C.at (s' := [(2, .pointer (some ⟨g1, 0, none⟩)), (3, .slice A5 t3.length c6), (4, .slice A11 t9.length c12), (7, .pointer (some ⟨g72, 0, none⟩)), (12, .pointer (some ⟨g138, 0, none⟩)), (49, .func (.func 54) #[] #[.pointer (some ⟨g81, 0, none⟩)]), (63, .bool o193)]) (G' := cells g1 4 [.bool false] :: cells g72 74 [.slice j113.1 i112.length j113.2] :: cells g138 3 [.int .i64 i166] :: G) rfl rfl ?_
            refine split2 H (fun c200 H => ?_) (fun c200 H => ?_)
            · refine C.condT (congrArg (fun b => some (Value.bool b)) (c200)) ?_
              refine C.rs ?_
              refine J.stE (L' := [.bool false]) ti4 rfl rfl rfl rfl rfl ?_
              refine J.nx ?_
              refine C.ret ?_
              obtain rfl := Option.some.inj H
              refine T.th ?_
              refine T.ib ?_
              exact T.round i166 () rfl rfl trivial (by exact fun w h => h)
            · refine C.condF (congrArg (fun b => some (Value.bool b)) (nt c200)) ?_
              refine C.skip ?_
              refine N.nx ?_
              refine C.reg ?_
              refine J.r rfl rfl rfl rfl (Y.ldC 2 Try.underlying3 rfl rfl rfl rfl) ?_
              refine J.p rfl rfl rfl rfl (Y.bin rfl rfl rfl) ?_
              refine J.pull 2 rfl rfl ?_
              refine J.stE (L' := [.int .i64 (IntKind.wrap .i64 (i166 + 1))]) ti3 rfl rfl rfl rfl rfl ?_
              refine J.nil ?_
              refine N.ib ?_
              obtain rfl := Option.some.inj H
              exact N.round (IntKind.wrap .i64 (i166 + 1)) () rfl trivial (by exact fun w h => h)
        · subst hr
          replace H := ysel_inl H
          refine N.at (s' := [(2, .pointer (some ⟨g1, 0, none⟩)), (3, .slice A5 t3.length c6), (4, .slice A11 t9.length c12), (7, .pointer (some ⟨g72, 0, none⟩)), (12, .pointer (some ⟨g138, 0, none⟩)), (49, .func (.func 54) #[] #[.pointer (some ⟨g81, 0, none⟩)])]) (G' := dblks ds168 :: cells g138 3 [.int .i64 i166] :: cells g1 4 [.bool false] :: cells g72 74 [.slice j113.1 i112.length j113.2] :: own 53 14 j113.1 j113.2 (i112.flatMap encT53_) :: own 5 1 A5 c6 (t3.map (Value.int .u8)) :: own 5 1 A11 c12 (t9.map (Value.int .u8)) :: cells g76 22 [.slice Aa0 a0.length ca0] :: cells g81 22 [.slice A5 t3.length c6] :: G) rfl rfl ?_
          refine N.ib ?_
          refine N.nx ?_
          refine C.rs ?_
          refine J.p rfl rfl rfl rfl (Y.mv rfl) ?_
          refine J.p rfl rfl rfl rfl (Y.mv rfl) ?_
          refine J.know (own_leL 5 rfl) (fun hc202 => ?_)
          refine J.know (own_leL 6 rfl) (fun hc203 => ?_)
          obtain ⟨t204, hC205, H⟩ := bind_some H
          refine J.call (us := []) (cap := []) rfl rfl rfl go20 (fun w hw => by have hcc := same.calls K t3 t9 A5 c6 A11 c12 (RdG.own 5 rfl) hc202 (RdG.own 6 rfl) hc203 t204 hC205 w hw; exact hcc) (fun e w1 h1 => ?_)
          obtain ⟨rfl, hw211⟩ := h1
          refine ⟨_, _, rfl, hw211, ?_⟩
          refine J.p rfl rfl rfl rfl (Y.mv rfl) ?_
          refine split2 H (fun c206 H => ?_) (fun c206 H => ?_)
          · refine J.as (k := 69) rfl (congrArg Value.bool (c206)) ?_
            refine J.r rfl rfl rfl rfl (Y.ldC 1 Try.underlying3 rfl rfl rfl rfl) ?_
            refine J.r rfl rfl rfl rfl (Y.ldC 3 Try.underlying74 rfl rfl rfl rfl) ?_
            refine J.p rfl rfl rfl rfl (Y.lenS Try.underlying74 rfl) ?_
            refine J.p rfl rfl rfl rfl (Y.bin rfl rfl rfl) ?_
            refine J.p rfl rfl rfl rfl (Y.pickT rfl rfl) ?_
            refine J.p rfl rfl rfl rfl (Y.mv rfl) ?_
            refine split2 H (fun c207 H => ?_) (fun c207 H => ?_)
            · refine J.as (k := 75) rfl (congrArg Value.bool (decide_eq_true c207)) ?_
              refine J.want rfl ?_
              obtain ⟨t208, hC209, H⟩ := bind_some H
              refine J.call (us := []) (cap := []) rfl rfl rfl go28 (fun w hw => by have hcc := works.calls K t208 hC209 w hw; exact hcc) (fun e w1 h1 => ?_)
              obtain ⟨rfl, hw210⟩ := h1
              refine ⟨_, _, rfl, hw210, ?_⟩
              refine J.p rfl rfl rfl rfl (Y.pickT rfl rfl) ?_
              refine J.pull 2 rfl rfl ?_
              refine J.stE (L' := [.bool t208]) ti4 rfl rfl rfl rfl rfl ?_
              refine J.nx ?_
              refine C.ret ?_
              obtain rfl := Option.some.inj H
              exact ret_okM (cells g1 4 [.bool t208] :: cells g138 3 [.int .i64 i166] :: cells g72 74 [.slice j113.1 i112.length j113.2] :: own 53 14 j113.1 j113.2 (i112.flatMap encT53_) :: own 5 1 A5 c6 (t3.map (Value.int .u8)) :: own 5 1 A11 c12 (t9.map (Value.int .u8)) :: cells g76 22 [.slice Aa0 a0.length ca0] :: cells g81 22 [.slice A5 t3.length c6] :: G) (rvs := [.cell 2 4]) (vs := [.bool t208]) rfl ⟨RV.cell 0 Try.underlying4 rfl rfl rfl rfl, trivial⟩ (fun w h => (St.pick [1, 0, 2, 3, 4, 5, 6, 7, 8] [_, _, _, _, _, _, _, _, _] h rfl)) (fun w h => ⟨rfl, (St.pick [] [_, _, _, _, _, _, _, _] h rfl)⟩)
            · refine J.as (k := 75) rfl (congrArg Value.bool (decide_eq_false c207)) ?_
              refine J.skip rfl rfl ?_
              refine J.p rfl rfl rfl rfl (Y.pickF rfl rfl) ?_
              refine J.pull 2 rfl rfl ?_
              refine J.stE (L' := [.bool false]) ti4 rfl rfl rfl rfl rfl ?_
              refine J.nx ?_
              refine C.ret ?_
              obtain rfl := Option.some.inj H
              exact ret_okM (cells g1 4 [.bool false] :: cells g138 3 [.int .i64 i166] :: cells g72 74 [.slice j113.1 i112.length j113.2] :: own 53 14 j113.1 j113.2 (i112.flatMap encT53_) :: own 5 1 A5 c6 (t3.map (Value.int .u8)) :: own 5 1 A11 c12 (t9.map (Value.int .u8)) :: cells g76 22 [.slice Aa0 a0.length ca0] :: cells g81 22 [.slice A5 t3.length c6] :: G) (rvs := [.cell 2 4]) (vs := [.bool false]) rfl ⟨RV.cell 0 Try.underlying4 rfl rfl rfl rfl, trivial⟩ (fun w h => (St.pick [1, 0, 2, 3, 4, 5, 6, 7, 8] [_, _, _, _, _, _, _, _, _] h rfl)) (fun w h => ⟨rfl, (St.pick [] [_, _, _, _, _, _, _, _] h rfl)⟩)
          · refine J.as (k := 69) rfl (congrArg Value.bool (nt c206)) ?_
            refine J.skip rfl rfl ?_
            refine J.skip rfl rfl ?_
            refine J.skip rfl rfl ?_
            refine J.skip rfl rfl ?_
            refine J.p rfl rfl rfl rfl (Y.pickF rfl rfl) ?_
            refine J.p rfl rfl rfl rfl (Y.mv rfl) ?_
            refine J.skip rfl rfl ?_
            refine J.p rfl rfl rfl rfl (Y.pickF rfl rfl) ?_
            refine J.pull 2 rfl rfl ?_
            refine J.stE (L' := [.bool false]) ti4 rfl rfl rfl rfl rfl ?_
            refine J.nx ?_
            refine C.ret ?_
            obtain rfl := Option.some.inj H
            exact ret_okM (cells g1 4 [.bool false] :: cells g138 3 [.int .i64 i166] :: cells g72 74 [.slice j113.1 i112.length j113.2] :: own 53 14 j113.1 j113.2 (i112.flatMap encT53_) :: own 5 1 A5 c6 (t3.map (Value.int .u8)) :: own 5 1 A11 c12 (t9.map (Value.int .u8)) :: cells g76 22 [.slice Aa0 a0.length ca0] :: cells g81 22 [.slice A5 t3.length c6] :: G) (rvs := [.cell 2 4]) (vs := [.bool false]) rfl ⟨RV.cell 0 Try.underlying4 rfl rfl rfl rfl, trivial⟩ (fun w h => (St.pick [1, 0, 2, 3, 4, 5, 6, 7, 8] [_, _, _, _, _, _, _, _, _] h rfl)) (fun w h => ⟨rfl, (St.pick [] [_, _, _, _, _, _, _, _] h rfl)⟩)
        · subst hr
          replace H := ysel_inr H
          refine C.at (s' := [(2, .pointer (some ⟨g1, 0, none⟩)), (3, .slice A5 t3.length c6), (4, .slice A11 t9.length c12), (7, .pointer (some ⟨g72, 0, none⟩)), (12, .pointer (some ⟨g138, 0, none⟩)), (49, .func (.func 54) #[] #[.pointer (some ⟨g81, 0, none⟩)])]) (G' := dblks ds168 :: cells g1 4 [.bool false] :: cells g72 74 [.slice j113.1 i112.length j113.2] :: cells g138 3 [.int .i64 e169] :: own 53 14 j113.1 j113.2 (i112.flatMap encT53_) :: own 5 1 A5 c6 (t3.map (Value.int .u8)) :: own 5 1 A11 c12 (t9.map (Value.int .u8)) :: cells g76 22 [.slice Aa0 a0.length ca0] :: cells g81 22 [.slice A5 t3.length c6] :: G) rfl rfl ?_
          refine C.ret ?_
          obtain rfl := Option.some.inj H
          refine T.ib ?_
          refine T.th ?_
          exact ret_okM (cells g1 4 [.bool false] :: cells g72 74 [.slice j113.1 i112.length j113.2] :: cells g138 3 [.int .i64 e169] :: own 53 14 j113.1 j113.2 (i112.flatMap encT53_) :: own 5 1 A5 c6 (t3.map (Value.int .u8)) :: own 5 1 A11 c12 (t9.map (Value.int .u8)) :: cells g76 22 [.slice Aa0 a0.length ca0] :: cells g81 22 [.slice A5 t3.length c6] :: G) (rvs := [.cell 2 4]) (vs := [.bool false]) rfl ⟨RV.cell 0 Try.underlying4 rfl rfl rfl rfl, trivial⟩ (fun w h => h) (fun w h => ⟨rfl, (St.pick [] [_, _, _, _, _, _, _, _] h rfl)⟩)
      · exact e.elim
end Go.Proofs.Ytkblnahoidbfkaa
