/- Own text, printed by the lifting program: each Go function beside a plain function, and the proof that a call of the one comes to the other. Conditions: what came in can be read. -/
import Derived.Test.YtkblnahoidbfkaaLiftE
set_option linter.unusedVariables false
set_option linter.unusedSimpArgs false
set_option maxRecDepth 10000
set_option maxHeartbeats 4000000
namespace Go.Proofs.Ytkblnahoidbfkaa
open Go Go.Sx
abbrev T62_ := Int × Int
abbrev encT62_ (x : T62_) : List Value := [.int .i64 x.1, .int .i64 x.2]
theorem lenT62_ : ∀ x : T62_, (encT62_ x).length = 2 := fun _ => rfl
theorem oneT62_ : ∀ (x : T62_), ∀ u ∈ encT62_ x, u.oneCell' = true := by intro x u hu; simp only [List.mem_cons, List.not_mem_nil, or_false] at hu; rcases hu with rfl | rfl <;> rfl
theorem ti62 : TI Try.prog 62 2 16 (.agg #[.int .i64 0, .int .i64 0]) := TI.of (by kernel_rfl)
theorem fa40_0 : FA Try.prog 40 0 0 := FA.of Try.underlying40 rfl ti4 (by decide) rfl
theorem fa40_1 : FA Try.prog 40 1 1 := FA.of Try.underlying40 rfl ti3 (by decide) rfl
theorem fa40_2 : FA Try.prog 40 2 2 := FA.of Try.underlying40 rfl ti3 (by decide) rfl
theorem pl62 : PL Try.prog 62 [(0, 1), (1, 1)] := PL.of Try.underlying62 (by kernel_rfl)
/-! ### salvor/salvorlaw5.has: function 32 -/
def has.l1 (a0 : List T62_) (a1_0 : Int) (a1_1 : Int) : Nat → (Int) → Option ((Bool) ⊕ (Unit))
  | 0, _ => none
  | k + 1, i40 => if i40 < (a0.length : Int) then (gd ((0 : Int) ≤ i40 ∧ i40 < (a0.length : Int)) (gd ((0 : Int) ≤ i40 ∧ i40 < (a0.length : Int)) (if ((rd a0 i40).1) = a1_0 ∧ ((rd a0 i40).2) = a1_1 ∧ True then (some (.inl (true))) else (has.l1 a0 a1_0 a1_1 k (IntKind.wrap .i64 (i40 + 1)))))) else (some (.inr ()))
def has.f (K : Nat) (a0 : List T62_) (a1_0 : Int) (a1_1 : Int) : Option (Bool) := thn (has.l1 a0 a1_0 a1_1 K 0) fun o21 => some false
theorem has.calls {B : Nat} {w0 : World} {G : List HP} (K : Nat) (a0 : List T62_) (a1_0 : Int) (a1_1 : Int) (Aa0 : Option Addr) (ca0 : Nat) (ha0 : RdG B w0 G Aa0 (a0.flatMap encT62_)) (ka0 : a0.length ≤ ca0) (r : Bool) (H : has.f K a0 a1_0 a1_1 = some r) (w : World) (hw : St B w0 (G) w) :
    Calls Try.prog 32 [.slice Aa0 a0.length ca0, .agg #[.int .i64 a1_0, .int .i64 a1_1]].toArray w (fun e w' => e = .returned (.bool r) ∧ St B w0 (G) w') := by
  unfold has.f at H
  refine calls_of (n := 18) (s := [(0, .slice Aa0 a0.length ca0), (1, .agg #[.int .i64 a1_0, .int .i64 a1_1])]) Try.func32 rfl rfl rfl rfl ?_ hw
  refine C.rs ?_
  refine J.box (L := [.int .i64 a1_0, .int .i64 a1_1]) rfl rfl rfl (fun g1 => ?_)
  refine J.p rfl rfl rfl rfl (Y.asg rfl) ?_
  refine J.nx ?_
  refine C.seq ?_
  refine C.rs ?_
  refine J.p rfl rfl rfl rfl (Y.asg rfl) ?_
  refine J.nx ?_
  refine C.joinNR H (fun (o21 : Unit) (j22 : Unit) => []) (fun (o21 : Unit) (j22 : Unit) => G) (fun (o21 : Unit) (j22 : Unit) => True) (fun o19 H HK20 => ?_) (fun o21 j22 H _ => ?_)
  · refine C.blk ?_
    refine C.loop (fun (i : Nat × (Int) × (Unit)) => [(0, .slice Aa0 a0.length ca0), (3, .pointer (some ⟨g1, 0, none⟩)), (5, .int .i64 i.2.1)]) (fun (i : Nat × (Int) × (Unit)) => cells g1 62 [.int .i64 a1_0, .int .i64 a1_1] :: G) (fun (i : Nat × (Int) × (Unit)) => has.l1 a0 a1_0 a1_1 i.1 i.2.1 = some o19 ∧ (True)) (fun i => i.1) (K, 0, ()) ⟨H, trivial⟩ (by exact ⟨rfl, rfl, rfl, trivial⟩) (by exact fun w h => h) ?_
    rintro ⟨k48, i40, j41⟩ ⟨H, _⟩
    replace H : has.l1 a0 a1_0 a1_1 k48 i40 = some o19 := H
    obtain ⟨k39, rfl⟩ : ∃ m, k48 = m + 1 := by cases k48 with | zero => exact absurd H (by simp [has.l1]) | succ m => exact ⟨m, rfl⟩
    rw [has.l1] at H
    refine C.at (s' := [(0, .slice Aa0 a0.length ca0), (3, .pointer (some ⟨g1, 0, none⟩)), (5, .int .i64 i40)]) (G' := cells g1 62 [.int .i64 a1_0, .int .i64 a1_1] :: G) rfl rfl ?_
    refine C.seq ?_
    refine C.rs ?_
    refine J.p rfl rfl rfl rfl (Y.mv rfl) ?_
    refine J.p rfl rfl rfl rfl (Y.mv rfl) ?_
    refine J.p rfl rfl rfl rfl (Y.lenS Try.underlying59 rfl) ?_
    refine J.p rfl rfl rfl rfl (Y.bin rfl rfl rfl) ?_
    refine J.nx ?_
    refine split2 H (fun c42 H => ?_) (fun c42 H => ?_)
    · refine C.condT (congrArg (fun b => some (Value.bool b)) (decide_eq_true c42)) ?_
      refine C.skip ?_
      refine N.nx ?_
      refine C.seq ?_
      refine C.blk ?_
      refine C.seq ?_
      refine C.drawn (fuel := 6) (ls := [false, false, false, false, false, false]) [] (cells g1 62 [.int .i64 a1_0, .int .i64 a1_1] :: G) mx rfl rfl ?_
      refine D.p (ls' := [true, false, false, false, false, false]) 0 rfl rfl rfl rfl (by kernel_rfl) rfl (Y.mv rfl) ?_
      refine D.p (ls' := [true, true, false, false, false, false]) 1 rfl rfl rfl rfl (by kernel_rfl) rfl (Y.mv rfl) ?_
      obtain ⟨p45, H⟩ := gd_some H
      refine D.know (RdG.someM lenT62_ (by decide) (ha0.suf [_] rfl) p45) (fun hh => ?_)
      obtain ⟨a43, ha44⟩ := hh
      refine D.p (ls' := [true, true, true, false, false, false]) 2 rfl rfl rfl rfl (by kernel_rfl) rfl (Y.ixa Try.underlying59 ti62 rfl rfl p45 ha44) ?_
      obtain ⟨p46, H⟩ := gd_some H
      refine D.r (ls' := [true, true, true, true, false, false]) 3 1 0 rfl rfl rfl rfl (by kernel_rfl) (by kernel_rfl) rfl rfl (Y.ldM (us := [.int .i64 ((rd a0 i40).1), .int .i64 ((rd a0 i40).2)]) lenT62_ Try.underlying62 rfl ti62 rfl ha44 p46 (ha0.suf [_] rfl) rfl) ?_
      refine D.r (ls' := [true, true, true, true, true, false]) 4 1 0 rfl rfl rfl rfl (by kernel_rfl) (by kernel_rfl) rfl rfl (Y.ldCA (us := [.int .i64 a1_0, .int .i64 a1_1]) 0 Try.underlying62 rfl ti62 rfl rfl rfl rfl) ?_
      refine D.p (ls' := [true, true, true, true, true, true]) 5 rfl rfl rfl rfl (by kernel_rfl) rfl (Y.eqst Try.eqGuardType62 rfl (EqV.struct Try.underlying62 Try.stoodInHeld62 (EqFs.cons rfl (part_one (v := .int .i64 ((rd a0 i40).1)) Try.underlying3 rfl (by kernel_rfl)) (part_one (v := .int .i64 a1_0) Try.underlying3 rfl (by kernel_rfl)) (EqV.int 0 Try.underlying3) (EqFs.cons rfl (part_one (v := .int .i64 ((rd a0 i40).2)) Try.underlying3 rfl (by kernel_rfl)) (part_one (v := .int .i64 a1_1) Try.underlying3 rfl (by kernel_rfl)) (EqV.int 0 Try.underlying3) EqFs.nil))) rfl rfl) ?_
      refine D.nil (by kernel_rfl) ?_
      refine N.nx ?_
      refine split2 H (fun c47 H => ?_) (fun c47 H => ?_)
      · refine C.condT (congrArg (fun b => some (Value.bool b)) (decide_eq_true c47)) ?_
        refine C.rs ?_
        refine J.p rfl rfl rfl rfl (Y.asg rfl) ?_
        refine J.nx ?_
        refine C.ret ?_
        obtain rfl := Option.some.inj H
        obtain rfl := fin_inl HK20
        refine T.ib ?_
        refine T.th ?_
        refine T.th ?_
        refine T.ib ?_
        refine T.th ?_
        refine T.th ?_
        exact ret_ok (ks := [4]) rfl rfl (fun w h => ⟨rfl, (St.pick [] [_] h rfl)⟩)
      · refine C.condF (congrArg (fun b => some (Value.bool b)) (decide_eq_false c47)) ?_
        refine C.skip ?_
        refine N.ib ?_
        refine N.nx ?_
        refine C.reg ?_
        refine J.p rfl rfl rfl rfl (Y.mv rfl) ?_
        refine J.p rfl rfl rfl rfl (Y.bin rfl rfl rfl) ?_
        refine J.p rfl rfl rfl rfl (Y.asg rfl) ?_
        refine J.nil ?_
        exact N.again (k39, IntKind.wrap .i64 (i40 + 1), ()) ⟨H, trivial⟩ (Nat.lt_succ_self _) (by exact ⟨rfl, rfl, rfl, trivial⟩) (by exact fun w h => h)
    · refine C.condF (congrArg (fun b => some (Value.bool b)) (decide_eq_false c42)) ?_
      refine C.exit ?_
      refine X.th ?_
      refine X.th ?_
      refine X.hit ?_
      obtain rfl := Option.some.inj H
      exact N.meet ((), ()) ⟨fin_inr HK20, trivial⟩ (by exact trivial) (by exact fun w h => (St.pick [] [_] h rfl))
  · refine N.at (s' := []) (G' := G) rfl rfl ?_
    refine N.nx ?_
    refine C.rs ?_
    refine J.p rfl rfl rfl rfl (Y.asg rfl) ?_
    refine J.nx ?_
    refine C.ret ?_
    obtain rfl := Option.some.inj H
    exact ret_ok (ks := [4]) rfl rfl (fun w h => ⟨rfl, h⟩)
/-! ### salvor/salvorlaw5.spots: function 31 -/
def spots.l1 (t1 : (List T40_)) : Nat → ((List T62_) × Int) → Option ((List T62_))
  | 0, _ => none
  | k + 1, i118 => if i118.2 < (t1.length : Int) then ((gd ((0 : Int) ≤ i118.2 ∧ i118.2 < (t1.length : Int)) (gd ((0 : Int) ≤ i118.2 ∧ i118.2 < (t1.length : Int)) (if ((rd t1 i118.2).1) = true then (some i118.1) else (gd ((0 : Int) ≤ i118.2 ∧ i118.2 < (t1.length : Int)) (gd ((0 : Int) ≤ i118.2 ∧ i118.2 < (t1.length : Int)) (gd ((0 : Int) ≤ i118.2 ∧ i118.2 < (t1.length : Int)) (gd ((0 : Int) ≤ i118.2 ∧ i118.2 < (t1.length : Int)) (gd ((i118.1.length + [((rd t1 i118.2).2.1, (rd t1 i118.2).2.2)].length) * 16 ≤ 140737488355328) (some (i118.1 ++ [((rd t1 i118.2).2.1, (rd t1 i118.2).2.2)])))))))))).bind fun o144 => spots.l1 t1 k (o144, IntKind.wrap .i64 (i118.2 + 1))) else (some i118.1)
def spots.f (K : Nat) (a0 : List Int) : Option ((List T62_)) := (sExtents.f K a0).bind fun t1 => (spots.l1 t1 K (([] : List T62_), 0)).bind fun o61 => some o61
theorem spots.calls {B : Nat} {w0 : World} {G : List HP} (K : Nat) (a0 : List Int) (Aa0 : Option Addr) (ca0 : Nat) (ha0 : RdG B w0 G Aa0 (a0.map (Value.int .u8))) (ka0 : a0.length ≤ ca0) (r : (List T62_)) (H : spots.f K a0 = some r) (w : World) (hw : St B w0 (G) w) :
    Calls Try.prog 31 [.slice Aa0 a0.length ca0].toArray w (fun e w' => ∃ A0 c0, e = .returned (.slice A0 r.length c0) ∧ St B w0 (own 62 2 A0 c0 (r.flatMap encT62_) :: G) w') := by
  unfold spots.f at H
  refine calls_of (n := 35) (s := [(0, .slice Aa0 a0.length ca0)]) Try.func31 rfl rfl rfl rfl ?_ hw
  refine C.rs ?_
  refine J.p rfl rfl rfl rfl (Y.asg rfl) ?_
  refine J.nx ?_
  refine C.rs ?_
  refine J.p rfl rfl rfl rfl (Y.asg rfl) ?_
  refine J.nx ?_
  refine C.rs ?_
  refine J.p rfl rfl rfl rfl (Y.mv rfl) ?_
  obtain ⟨t1, hC2, H⟩ := bind_some H
  refine J.call (us := []) (cap := []) rfl rfl rfl go14 (fun w hw => by have hcc := sExtents.calls K a0 Aa0 ca0 ha0 ka0 t1 hC2 w hw; exact hcc) (fun e w1 h1 => ?_)
  obtain ⟨A3, c4, rfl, hw167⟩ := h1
  refine ⟨_, _, rfl, hw167, ?_⟩
  refine J.p rfl rfl rfl rfl (Y.asg rfl) ?_
  refine J.nx ?_
  refine C.seq ?_
  refine C.rs ?_
  refine J.p rfl rfl rfl rfl (Y.asg rfl) ?_
  refine J.nx ?_
  refine C.joinN H (fun (o61 : (List T62_)) (j62 : (Option Addr) × Nat) => [(3, .slice j62.1 o61.length j62.2)]) (fun (o61 : (List T62_)) (j62 : (Option Addr) × Nat) => own 62 2 j62.1 j62.2 (o61.flatMap encT62_) :: G) (fun (o61 : (List T62_)) (j62 : (Option Addr) × Nat) => True) (fun o59 H HK60 => ?_) (fun o61 j62 H _ => ?_)
  · refine C.blk ?_
    refine C.loop (fun (i : Nat × ((List T62_) × Int) × ((Option Addr) × Nat)) => [(3, .slice i.2.2.1 i.2.1.1.length i.2.2.2), (4, .slice A3 t1.length c4), (5, .int .i64 i.2.1.2)]) (fun (i : Nat × ((List T62_) × Int) × ((Option Addr) × Nat)) => own 62 2 i.2.2.1 i.2.2.2 (i.2.1.1.flatMap encT62_) :: own 40 3 A3 c4 (t1.flatMap encT40_) :: G) (fun (i : Nat × ((List T62_) × Int) × ((Option Addr) × Nat)) => spots.l1 t1 i.1 i.2.1 = some o59 ∧ (True)) (fun i => i.1) (K, (([] : List T62_), 0), (none, 0)) ⟨H, trivial⟩ (by exact ⟨rfl, rfl, rfl, trivial⟩) (by exact fun w h => (h.nilOwn 62 2)) ?_
    rintro ⟨k166, i118, j119⟩ ⟨H, _⟩
    replace H : spots.l1 t1 k166 i118 = some o59 := H
    obtain ⟨k117, rfl⟩ : ∃ m, k166 = m + 1 := by cases k166 with | zero => exact absurd H (by simp [spots.l1]) | succ m => exact ⟨m, rfl⟩
    rw [spots.l1] at H
    refine C.at (s' := [(3, .slice j119.1 i118.1.length j119.2), (4, .slice A3 t1.length c4), (5, .int .i64 i118.2)]) (G' := own 62 2 j119.1 j119.2 (i118.1.flatMap encT62_) :: own 40 3 A3 c4 (t1.flatMap encT40_) :: G) rfl rfl ?_
    refine C.seq ?_
    refine C.rs ?_
    refine J.p rfl rfl rfl rfl (Y.mv rfl) ?_
    refine J.p rfl rfl rfl rfl (Y.mv rfl) ?_
    refine J.p rfl rfl rfl rfl (Y.lenS Try.underlying28 rfl) ?_
    refine J.p rfl rfl rfl rfl (Y.bin rfl rfl rfl) ?_
    refine J.nx ?_
    refine split2 H (fun c122 H => ?_) (fun c122 H => ?_)
    · refine C.condT (congrArg (fun b => some (Value.bool b)) (decide_eq_true c122)) ?_
      refine C.skip ?_
      refine N.nx ?_
      refine C.joinB H (fun (o144 : (List T62_)) (j145 : (Option Addr) × Nat) => [(3, .slice j145.1 o144.length j145.2), (4, .slice A3 t1.length c4), (5, .int .i64 i118.2)]) (fun (o144 : (List T62_)) (j145 : (Option Addr) × Nat) => own 62 2 j145.1 j145.2 (o144.flatMap encT62_) :: own 40 3 A3 c4 (t1.flatMap encT40_) :: G) (fun (o144 : (List T62_)) (j145 : (Option Addr) × Nat) => True) (fun o142 H HK143 => ?_) (fun o144 j145 H _ => ?_)
      · refine C.blk ?_
        refine C.rs ?_
        refine J.p rfl rfl rfl rfl (Y.mv rfl) ?_
        refine J.p rfl rfl rfl rfl (Y.mv rfl) ?_
        obtain ⟨p149, H⟩ := gd_some H
        refine J.know (RdG.someM lenT40_ (by decide) (RdG.own 1 rfl) p149) (fun hh => ?_)
        obtain ⟨a147, ha148⟩ := hh
        refine J.p rfl rfl rfl rfl (Y.ixa Try.underlying28 ti40 rfl rfl p149 ha148) ?_
        refine J.p rfl rfl rfl rfl (Y.faA fa40_0 rfl) ?_
        obtain ⟨p150, H⟩ := gd_some H
        refine J.r rfl rfl rfl rfl (Y.ldF lenT40_ Try.underlying4 rfl rfl ha148 p150 (by decide) (RdG.own 1 rfl) rfl) ?_
        refine J.p rfl rfl rfl rfl (Y.notb rfl) ?_
        refine J.nx ?_
        refine split2 H (fun c151 H => ?_) (fun c151 H => ?_)
        · refine C.condF (congrArg (fun b => some (Value.bool b)) (congrArg Bool.not (c151))) ?_
          refine C.skip ?_
          refine N.ib ?_
          obtain rfl := Option.some.inj H
          exact N.meet (i118.1, (j119.1, j119.2)) ⟨HK143, trivial⟩ (by exact ⟨rfl, rfl, rfl, trivial⟩) (by exact fun w h => h)
        · refine C.condT (congrArg (fun b => some (Value.bool b)) (congrArg Bool.not (nt c151))) ?_
          refine C.drawn (fuel := 15) (ls := [false, false, false, false, false, false, false, false, false, false, false, false, false, false, false]) [] (own 40 3 A3 c4 (t1.flatMap encT40_) :: G) mx rfl rfl ?_
          refine D.p (ls' := [true, false, false, false, false, false, false, false, false, false, false, false, false, false, false]) 0 rfl rfl rfl rfl (by kernel_rfl) rfl (Y.mv rfl) ?_
          refine D.p (ls' := [true, true, false, false, false, false, false, false, false, false, false, false, false, false, false]) 1 rfl rfl rfl rfl (by kernel_rfl) rfl (Y.mv rfl) ?_
          refine D.p (ls' := [true, true, true, false, false, false, false, false, false, false, false, false, false, false, false]) 2 rfl rfl rfl rfl (by kernel_rfl) rfl (Y.mv rfl) ?_
          obtain ⟨p154, H⟩ := gd_some H
          refine D.know (RdG.someM lenT40_ (by decide) (RdG.own 1 rfl) p154) (fun hh => ?_)
          obtain ⟨a152, ha153⟩ := hh
          refine D.p (ls' := [true, true, true, true, false, false, false, false, false, false, false, false, false, false, false]) 3 rfl rfl rfl rfl (by kernel_rfl) rfl (Y.ixa Try.underlying28 ti40 rfl rfl p154 ha153) ?_
          refine D.p (ls' := [true, true, true, true, true, false, false, false, false, false, false, false, false, false, false]) 4 rfl rfl rfl rfl (by kernel_rfl) rfl (Y.faA fa40_1 rfl) ?_
          obtain ⟨p155, H⟩ := gd_some H
          refine D.r (ls' := [true, true, true, true, true, true, false, false, false, false, false, false, false, false, false]) 5 1 1 rfl rfl rfl rfl (by kernel_rfl) (by kernel_rfl) rfl rfl (Y.ldF lenT40_ Try.underlying3 rfl rfl ha153 p155 (by decide) (RdG.own 0 rfl) rfl) ?_
          refine D.p (ls' := [true, true, true, true, true, true, true, false, false, false, false, false, false, false, false]) 6 rfl rfl rfl rfl (by kernel_rfl) rfl (Y.mv rfl) ?_
          refine D.p (ls' := [true, true, true, true, true, true, true, true, false, false, false, false, false, false, false]) 7 rfl rfl rfl rfl (by kernel_rfl) rfl (Y.mv rfl) ?_
          obtain ⟨p158, H⟩ := gd_some H
          refine D.know (RdG.someM lenT40_ (by decide) (RdG.own 1 rfl) p158) (fun hh => ?_)
          obtain ⟨a156, ha157⟩ := hh
          refine D.p (ls' := [true, true, true, true, true, true, true, true, true, false, false, false, false, false, false]) 8 rfl rfl rfl rfl (by kernel_rfl) rfl (Y.ixa Try.underlying28 ti40 rfl rfl p158 ha157) ?_
          refine D.p (ls' := [true, true, true, true, true, true, true, true, true, true, false, false, false, false, false]) 9 rfl rfl rfl rfl (by kernel_rfl) rfl (Y.faA fa40_2 rfl) ?_
          obtain ⟨p159, H⟩ := gd_some H
          refine D.r (ls' := [true, true, true, true, true, true, true, true, true, true, true, false, false, false, false]) 10 1 1 rfl rfl rfl rfl (by kernel_rfl) (by kernel_rfl) rfl rfl (Y.ldF lenT40_ Try.underlying3 rfl rfl ha157 p159 (by decide) (RdG.own 0 rfl) rfl) ?_
          refine D.p (ls' := [true, true, true, true, true, true, true, true, true, true, true, true, false, false, false]) 11 rfl rfl rfl rfl (by kernel_rfl) rfl (Y.bld (cs := [.int .i64 ((rd t1 i118.2).2.1), .int .i64 ((rd t1 i118.2).2.2)]) rfl pl62 ti62 rfl (by kernel_rfl)) ?_
          refine D.any [12] (by kernel_rfl) rfl ⟨?_, trivial⟩
          refine DW.j (ls' := [true, true, true, true, true, true, true, true, true, true, true, true, true, false, false]) rfl rfl ?_
          refine J.bsM (enc := encT62_) (xs := [((rd t1 i118.2).2.1, (rd t1 i118.2).2.2)]) (zs := [.int .i64 0, .int .i64 0]) lenT62_ rfl Try.underlying59 ti62 (by kernel_rfl) rfl (by kernel_rfl) rfl rfl rfl (fun A160 => ?_)
          refine J.nil ?_
          refine D.backK 2 rfl ?_
          refine D.any [13] (by kernel_rfl) rfl ⟨?_, trivial⟩
          refine DW.j (ls' := [true, true, true, true, true, true, true, true, true, true, true, true, true, true, false]) rfl rfl ?_
          refine J.pull 1 rfl rfl ?_
          obtain ⟨p164, H⟩ := gd_some H
          refine J.appM (enc := encT62_) (xs := i118.1) (ys := [((rd t1 i118.2).2.1, (rd t1 i118.2).2.2)]) lenT62_ oneT62_ rfl Try.underlying59 ti62 rfl (by decide) (by decide) rfl rfl (RdG.own 1 rfl) p164 (fun A162 c163 => ?_)
          refine J.pull 1 rfl rfl (J.drop ?_)
          refine J.nil ?_
          refine D.backK 1 rfl ?_
          refine D.p (ls' := [true, true, true, true, true, true, true, true, true, true, true, true, true, true, true]) 14 rfl rfl rfl rfl (by kernel_rfl) rfl (Y.asg rfl) ?_
          refine D.nil (by kernel_rfl) ?_
          refine N.ib ?_
          obtain rfl := Option.some.inj H
          exact N.meet ((i118.1 ++ [((rd t1 i118.2).2.1, (rd t1 i118.2).2.2)]), (A162, c163)) ⟨HK143, trivial⟩ (by exact ⟨rfl, rfl, rfl, trivial⟩) (by exact fun w h => h)
      · refine C.at (s' := [(3, .slice j145.1 o144.length j145.2), (4, .slice A3 t1.length c4), (5, .int .i64 i118.2)]) (G' := own 62 2 j145.1 j145.2 (o144.flatMap encT62_) :: own 40 3 A3 c4 (t1.flatMap encT40_) :: G) rfl rfl ?_
        refine C.reg ?_
        refine J.p rfl rfl rfl rfl (Y.mv rfl) ?_
        refine J.p rfl rfl rfl rfl (Y.bin rfl rfl rfl) ?_
        refine J.p rfl rfl rfl rfl (Y.asg rfl) ?_
        refine J.nil ?_
        exact N.again (k117, (o144, IntKind.wrap .i64 (i118.2 + 1)), (j145.1, j145.2)) ⟨H, trivial⟩ (Nat.lt_succ_self _) (by exact ⟨rfl, rfl, rfl, trivial⟩) (by exact fun w h => h)
    · refine C.condF (congrArg (fun b => some (Value.bool b)) (decide_eq_false c122)) ?_
      refine C.exit ?_
      refine X.th ?_
      refine X.th ?_
      refine X.hit ?_
      obtain rfl := Option.some.inj H
      exact N.meet (i118.1, (j119.1, j119.2)) ⟨HK60, trivial⟩ (by exact ⟨rfl, trivial⟩) (by exact fun w h => (St.pick [0] [_, _] h rfl))
  · refine N.at (s' := [(3, .slice j62.1 o61.length j62.2)]) (G' := own 62 2 j62.1 j62.2 (o61.flatMap encT62_) :: G) rfl rfl ?_
    refine N.nx ?_
    refine C.rs ?_
    refine J.p rfl rfl rfl rfl (Y.mv rfl) ?_
    refine J.p rfl rfl rfl rfl (Y.asg rfl) ?_
    refine J.nx ?_
    refine C.ret ?_
    obtain rfl := Option.some.inj H
    exact ret_ok (ks := [2]) rfl rfl (fun w h => ⟨j62.1, j62.2, rfl, h⟩)
/-! ### salvor/salvorlaw5.sameExtents: function 15 -/
def sameExtents.l1 (a0 : List T40_) (a1 : List T40_) : Nat → (Int) → Option ((Bool) ⊕ (Unit))
  | 0, _ => none
  | k + 1, i55 => if i55 < (a0.length : Int) then (gd ((0 : Int) ≤ i55 ∧ i55 < (a0.length : Int)) (gd ((0 : Int) ≤ i55 ∧ i55 < (a0.length : Int)) (gd ((0 : Int) ≤ i55 ∧ i55 < (a1.length : Int)) (gd ((0 : Int) ≤ i55 ∧ i55 < (a1.length : Int)) (if ((rd a0 i55).1) = ((rd a1 i55).1) ∧ ((rd a0 i55).2.1) = ((rd a1 i55).2.1) ∧ ((rd a0 i55).2.2) = ((rd a1 i55).2.2) ∧ True then (sameExtents.l1 a0 a1 k (IntKind.wrap .i64 (i55 + 1))) else (some (.inl (false)))))))) else (some (.inr ()))
def sameExtents.f (K : Nat) (a0 : List T40_) (a1 : List T40_) : Option (Bool) := if (a0.length : Int) ≠ (a1.length : Int) then (some false) else (thn (sameExtents.l1 a0 a1 K 0) fun o28 => some true)
theorem sameExtents.calls {B : Nat} {w0 : World} {G : List HP} (K : Nat) (a0 : List T40_) (a1 : List T40_) (Aa0 : Option Addr) (ca0 : Nat) (Aa1 : Option Addr) (ca1 : Nat) (ha0 : RdG B w0 G Aa0 (a0.flatMap encT40_)) (ka0 : a0.length ≤ ca0) (ha1 : RdG B w0 G Aa1 (a1.flatMap encT40_)) (ka1 : a1.length ≤ ca1) (r : Bool) (H : sameExtents.f K a0 a1 = some r) (w : World) (hw : St B w0 (G) w) :
    Calls Try.prog 15 [.slice Aa0 a0.length ca0, .slice Aa1 a1.length ca1].toArray w (fun e w' => e = .returned (.bool r) ∧ St B w0 (G) w') := by
  unfold sameExtents.f at H
  refine calls_of (n := 26) (s := [(0, .slice Aa0 a0.length ca0), (1, .slice Aa1 a1.length ca1)]) Try.func15 rfl rfl rfl rfl ?_ hw
  refine C.rs ?_
  refine J.p rfl rfl rfl rfl (Y.asg rfl) ?_
  refine J.nx ?_
  refine C.seq ?_
  refine C.rs ?_
  refine J.p rfl rfl rfl rfl (Y.mv rfl) ?_
  refine J.p rfl rfl rfl rfl (Y.lenS Try.underlying28 rfl) ?_
  refine J.p rfl rfl rfl rfl (Y.mv rfl) ?_
  refine J.p rfl rfl rfl rfl (Y.lenS Try.underlying28 rfl) ?_
  refine J.p rfl rfl rfl rfl (Y.bin rfl rfl rfl) ?_
  refine J.nx ?_
  refine split2 H (fun c1 H => ?_) (fun c1 H => ?_)
  · refine C.condT (congrArg (fun b => some (Value.bool b)) (decide_eq_true c1)) ?_
    refine C.rs ?_
    refine J.p rfl rfl rfl rfl (Y.asg rfl) ?_
    refine J.nx ?_
    refine C.ret ?_
    obtain rfl := Option.some.inj H
    refine T.th ?_
    exact ret_ok (ks := [4]) rfl rfl (fun w h => ⟨rfl, h⟩)
  · refine C.condF (congrArg (fun b => some (Value.bool b)) (decide_eq_false c1)) ?_
    refine C.skip ?_
    refine N.nx ?_
    refine C.seq ?_
    refine C.rs ?_
    refine J.p rfl rfl rfl rfl (Y.asg rfl) ?_
    refine J.nx ?_
    refine C.joinNR H (fun (o28 : Unit) (j29 : Unit) => []) (fun (o28 : Unit) (j29 : Unit) => G) (fun (o28 : Unit) (j29 : Unit) => True) (fun o26 H HK27 => ?_) (fun o28 j29 H _ => ?_)
    · refine C.blk ?_
      refine C.loop (fun (i : Nat × (Int) × (Unit)) => [(0, .slice Aa0 a0.length ca0), (1, .slice Aa1 a1.length ca1), (5, .int .i64 i.2.1)]) (fun (i : Nat × (Int) × (Unit)) => G) (fun (i : Nat × (Int) × (Unit)) => sameExtents.l1 a0 a1 i.1 i.2.1 = some o26 ∧ (True)) (fun i => i.1) (K, 0, ()) ⟨H, trivial⟩ (by exact ⟨rfl, rfl, rfl, trivial⟩) (by exact fun w h => h) ?_
      rintro ⟨k67, i55, j56⟩ ⟨H, _⟩
      replace H : sameExtents.l1 a0 a1 k67 i55 = some o26 := H
      obtain ⟨k54, rfl⟩ : ∃ m, k67 = m + 1 := by cases k67 with | zero => exact absurd H (by simp [sameExtents.l1]) | succ m => exact ⟨m, rfl⟩
      rw [sameExtents.l1] at H
      refine C.at (s' := [(0, .slice Aa0 a0.length ca0), (1, .slice Aa1 a1.length ca1), (5, .int .i64 i55)]) (G' := G) rfl rfl ?_
      refine C.seq ?_
      refine C.rs ?_
      refine J.p rfl rfl rfl rfl (Y.mv rfl) ?_
      refine J.p rfl rfl rfl rfl (Y.mv rfl) ?_
      refine J.p rfl rfl rfl rfl (Y.lenS Try.underlying28 rfl) ?_
      refine J.p rfl rfl rfl rfl (Y.bin rfl rfl rfl) ?_
      refine J.nx ?_
      refine split2 H (fun c57 H => ?_) (fun c57 H => ?_)
      · refine C.condT (congrArg (fun b => some (Value.bool b)) (decide_eq_true c57)) ?_
        refine C.skip ?_
        refine N.nx ?_
        refine C.seq ?_
        refine C.blk ?_
        refine C.seq ?_
        refine C.drawn (fuel := 9) (ls := [false, false, false, false, false, false, false, false, false]) [] (G) mx rfl rfl ?_
        refine D.p (ls' := [true, false, false, false, false, false, false, false, false]) 0 rfl rfl rfl rfl (by kernel_rfl) rfl (Y.mv rfl) ?_
        refine D.p (ls' := [true, true, false, false, false, false, false, false, false]) 1 rfl rfl rfl rfl (by kernel_rfl) rfl (Y.mv rfl) ?_
        obtain ⟨p60, H⟩ := gd_some H
        refine D.know (RdG.someM lenT40_ (by decide) ha0 p60) (fun hh => ?_)
        obtain ⟨a58, ha59⟩ := hh
        refine D.p (ls' := [true, true, true, false, false, false, false, false, false]) 2 rfl rfl rfl rfl (by kernel_rfl) rfl (Y.ixa Try.underlying28 ti40 rfl rfl p60 ha59) ?_
        obtain ⟨p61, H⟩ := gd_some H
        refine D.r (ls' := [true, true, true, true, false, false, false, false, false]) 3 1 0 rfl rfl rfl rfl (by kernel_rfl) (by kernel_rfl) rfl rfl (Y.ldM (us := [.bool ((rd a0 i55).1), .int .i64 ((rd a0 i55).2.1), .int .i64 ((rd a0 i55).2.2)]) lenT40_ Try.underlying40 rfl ti40 rfl ha59 p61 ha0 rfl) ?_
        refine D.p (ls' := [true, true, true, true, true, false, false, false, false]) 4 rfl rfl rfl rfl (by kernel_rfl) rfl (Y.mv rfl) ?_
        refine D.p (ls' := [true, true, true, true, true, true, false, false, false]) 5 rfl rfl rfl rfl (by kernel_rfl) rfl (Y.mv rfl) ?_
        obtain ⟨p64, H⟩ := gd_some H
        refine D.know (RdG.someM lenT40_ (by decide) ha1 p64) (fun hh => ?_)
        obtain ⟨a62, ha63⟩ := hh
        refine D.p (ls' := [true, true, true, true, true, true, true, false, false]) 6 rfl rfl rfl rfl (by kernel_rfl) rfl (Y.ixa Try.underlying28 ti40 rfl rfl p64 ha63) ?_
        obtain ⟨p65, H⟩ := gd_some H
        refine D.r (ls' := [true, true, true, true, true, true, true, true, false]) 7 1 0 rfl rfl rfl rfl (by kernel_rfl) (by kernel_rfl) rfl rfl (Y.ldM (us := [.bool ((rd a1 i55).1), .int .i64 ((rd a1 i55).2.1), .int .i64 ((rd a1 i55).2.2)]) lenT40_ Try.underlying40 rfl ti40 rfl ha63 p65 ha1 rfl) ?_
        refine D.p (ls' := [true, true, true, true, true, true, true, true, true]) 8 rfl rfl rfl rfl (by kernel_rfl) rfl (Y.nest Try.eqGuardType40 rfl (EqV.struct Try.underlying40 Try.stoodInHeld40 (EqFs.cons rfl (part_one (v := .bool ((rd a0 i55).1)) Try.underlying4 rfl (by kernel_rfl)) (part_one (v := .bool ((rd a1 i55).1)) Try.underlying4 rfl (by kernel_rfl)) (EqV.bool 0 Try.underlying4) (EqFs.cons rfl (part_one (v := .int .i64 ((rd a0 i55).2.1)) Try.underlying3 rfl (by kernel_rfl)) (part_one (v := .int .i64 ((rd a1 i55).2.1)) Try.underlying3 rfl (by kernel_rfl)) (EqV.int 0 Try.underlying3) (EqFs.cons rfl (part_one (v := .int .i64 ((rd a0 i55).2.2)) Try.underlying3 rfl (by kernel_rfl)) (part_one (v := .int .i64 ((rd a1 i55).2.2)) Try.underlying3 rfl (by kernel_rfl)) (EqV.int 0 Try.underlying3) EqFs.nil)))) rfl rfl) ?_
        refine D.nil (by kernel_rfl) ?_
        refine N.nx ?_
        refine split2 H (fun c66 H => ?_) (fun c66 H => ?_)
        · refine C.condF (congrArg (fun b => some (Value.bool b)) (congrArg Bool.not (decide_eq_true c66))) ?_
          refine C.skip ?_
          refine N.ib ?_
          refine N.nx ?_
          refine C.reg ?_
          refine J.p rfl rfl rfl rfl (Y.mv rfl) ?_
          refine J.p rfl rfl rfl rfl (Y.bin rfl rfl rfl) ?_
          refine J.p rfl rfl rfl rfl (Y.asg rfl) ?_
          refine J.nil ?_
          exact N.again (k54, IntKind.wrap .i64 (i55 + 1), ()) ⟨H, trivial⟩ (Nat.lt_succ_self _) (by exact ⟨rfl, rfl, rfl, trivial⟩) (by exact fun w h => h)
        · refine C.condT (congrArg (fun b => some (Value.bool b)) (congrArg Bool.not (decide_eq_false c66))) ?_
          refine C.rs ?_
          refine J.p rfl rfl rfl rfl (Y.asg rfl) ?_
          refine J.nx ?_
          refine C.ret ?_
          obtain rfl := Option.some.inj H
          obtain rfl := fin_inl HK27
          refine T.ib ?_
          refine T.th ?_
          refine T.th ?_
          refine T.ib ?_
          refine T.th ?_
          refine T.th ?_
          exact ret_ok (ks := [4]) rfl rfl (fun w h => ⟨rfl, h⟩)
      · refine C.condF (congrArg (fun b => some (Value.bool b)) (decide_eq_false c57)) ?_
        refine C.exit ?_
        refine X.th ?_
        refine X.th ?_
        refine X.hit ?_
        obtain rfl := Option.some.inj H
        exact N.meet ((), ()) ⟨fin_inr HK27, trivial⟩ (by exact trivial) (by exact fun w h => h)
    · refine N.at (s' := []) (G' := G) rfl rfl ?_
      refine N.nx ?_
      refine C.rs ?_
      refine J.p rfl rfl rfl rfl (Y.asg rfl) ?_
      refine J.nx ?_
      refine C.ret ?_
      obtain rfl := Option.some.inj H
      exact ret_ok (ks := [4]) rfl rfl (fun w h => ⟨rfl, h⟩)
end Go.Proofs.Ytkblnahoidbfkaa
