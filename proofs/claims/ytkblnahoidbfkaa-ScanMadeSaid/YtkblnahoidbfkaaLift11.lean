/- Own text, printed by the lifting program: each Go function beside a plain function, and the proof that a call of the one comes to the other. Conditions: what came in can be read. -/
import Derived.Test.YtkblnahoidbfkaaLiftM
set_option linter.unusedVariables false
set_option linter.unusedSimpArgs false
set_option maxRecDepth 10000
set_option maxHeartbeats 4000000
namespace Go.Proofs.Ytkblnahoidbfkaa
open Go Go.Sx
abbrev T44_ := Int × Int × ByteArray × ByteArray
abbrev encT44_ (x : T44_) : List Value := [.int .u64 x.1, .int .i64 x.2.1, .string x.2.2.1, .string x.2.2.2]
theorem lenT44_ : ∀ x : T44_, (encT44_ x).length = 4 := fun _ => rfl
theorem oneT44_ : ∀ (x : T44_), ∀ u ∈ encT44_ x, u.oneCell' = true := by intro x u hu; simp only [List.mem_cons, List.not_mem_nil, or_false] at hu; rcases hu with rfl | rfl | rfl | rfl <;> rfl
theorem go35 : GoF Try.prog 35 := GoF.of Try.func35 (by kernel_rfl) (by kernel_rfl)
theorem go38 : GoF Try.prog 38 := GoF.of Try.func38 (by kernel_rfl) (by kernel_rfl)
/-! ### salvor/salvorlaw5.ScanMade: function 11 -/
def ScanMade.l2 (i530 : (List Int) × (List T80_) × Int) (a1 : List (List Int)) : Nat → ((List Int) × Int) → Option ((List Int))
  | 0, _ => none
  | k + 1, i939 => (gd ((0 : Int) ≤ i530.2.2 ∧ i530.2.2 < (a1.length : Int)) (if i939.2 < ((rd a1 i530.2.2).length : Int) then (some (decide ((i939.1.length : Int) < 1000000))) else (some false))).bind fun o951 => if o951 = true then ((gd ((0 : Int) ≤ i530.2.2 ∧ i530.2.2 < (a1.length : Int)) (gd ((0 : Int) ≤ i939.2 ∧ i939.2 < ((rd a1 i530.2.2).length : Int)) (if (rd (rd a1 i530.2.2) i939.2) ≠ 167 then (gd ((0 : Int) ≤ i530.2.2 ∧ i530.2.2 < (a1.length : Int)) (gd ((0 : Int) ≤ i939.2 ∧ i939.2 < ((rd a1 i530.2.2).length : Int)) (gd ((i939.1.length + [rd (rd a1 i530.2.2) i939.2].length) * 1 ≤ 140737488355328) (some (i939.1 ++ [rd (rd a1 i530.2.2) i939.2]))))) else (some i939.1)))).bind fun o993 => ScanMade.l2 i530 a1 k (o993, IntKind.wrap .i64 (i939.2 + 1))) else (some i939.1)
def ScanMade.l1 (K : Nat) (a0 : List T44_) (a1 : List (List Int)) : Nat → ((List Int) × (List T80_) × Int) → Option ((List Int) × (List T80_))
  | 0, _ => none
  | k + 1, i530 => (if i530.2.2 < (a0.length : Int) then (some (decide ((i530.1.length : Int) < 1000000))) else (some false)).bind fun o537 => if o537 = true then (((if i530.2.2 < (a1.length : Int) then ((ScanMade.l2 i530 a1 K (i530.1, 0)).bind fun o850 => some o850) else (some i530.1)).bind fun o759 => gd ((0 : Int) ≤ i530.2.2 ∧ i530.2.2 < (a0.length : Int)) (gd ((0 : Int) ≤ i530.2.2 ∧ i530.2.2 < (a0.length : Int)) ((fOf.f ((rd a0 i530.2.2).1) ((rd a0 i530.2.2).2.1) ((rd a0 i530.2.2).2.2.1) ((rd a0 i530.2.2).2.2.2)).bind fun t1026 => (fEncode.f K t1026.1 t1026.2.1 t1026.2.2.1 t1026.2.2.2.1 t1026.2.2.2.2.1 t1026.2.2.2.2.2.1 t1026.2.2.2.2.2.2.1 t1026.2.2.2.2.2.2.2.1 t1026.2.2.2.2.2.2.2.2.1 t1026.2.2.2.2.2.2.2.2.2.1 t1026.2.2.2.2.2.2.2.2.2.2.1 t1026.2.2.2.2.2.2.2.2.2.2.2.1 t1026.2.2.2.2.2.2.2.2.2.2.2.2.1 t1026.2.2.2.2.2.2.2.2.2.2.2.2.2).bind fun t1030 => if t1030.2 ≠ 0 then (some (o759, i530.2.1)) else (gd ((i530.2.1.length + [(t1026.1, t1026.2.1, t1026.2.2.1, t1026.2.2.2.1, t1026.2.2.2.2.1, t1026.2.2.2.2.2.1, t1026.2.2.2.2.2.2.1, t1026.2.2.2.2.2.2.2.1, t1026.2.2.2.2.2.2.2.2.1, t1026.2.2.2.2.2.2.2.2.2.1, t1026.2.2.2.2.2.2.2.2.2.2.1, t1026.2.2.2.2.2.2.2.2.2.2.2.1, t1026.2.2.2.2.2.2.2.2.2.2.2.2.1, t1026.2.2.2.2.2.2.2.2.2.2.2.2.2, (o759.length : Int), (t1030.1.length : Int))].length) * 152 ≤ 140737488355328) (gd ((o759.length + t1030.1.length) * 1 ≤ 140737488355328) (some ((o759 ++ t1030.1), (i530.2.1 ++ [(t1026.1, t1026.2.1, t1026.2.2.1, t1026.2.2.2.1, t1026.2.2.2.2.1, t1026.2.2.2.2.2.1, t1026.2.2.2.2.2.2.1, t1026.2.2.2.2.2.2.2.1, t1026.2.2.2.2.2.2.2.2.1, t1026.2.2.2.2.2.2.2.2.2.1, t1026.2.2.2.2.2.2.2.2.2.2.1, t1026.2.2.2.2.2.2.2.2.2.2.2.1, t1026.2.2.2.2.2.2.2.2.2.2.2.2.1, t1026.2.2.2.2.2.2.2.2.2.2.2.2.2, (o759.length : Int), (t1030.1.length : Int))])))))))).bind fun o664 => ScanMade.l1 K a0 a1 k (o664.1, o664.2, IntKind.wrap .i64 (i530.2.2 + 1))) else (some (i530.1, i530.2.1))
def ScanMade.l3 (t1050 : (List T80_)) (o265 : (List Int) × (List T80_)) : Nat → (Int) → Option ((Bool) ⊕ (Unit))
  | 0, _ => none
  | k + 1, i1109 => if i1109 < (t1050.length : Int) then (gd ((0 : Int) ≤ i1109 ∧ i1109 < (t1050.length : Int)) (gd ((0 : Int) ≤ i1109 ∧ i1109 < (t1050.length : Int)) (gd ((0 : Int) ≤ i1109 ∧ i1109 < (o265.2.length : Int)) (gd ((0 : Int) ≤ i1109 ∧ i1109 < (o265.2.length : Int)) (if (((rd t1050 i1109).1) = ((rd o265.2 i1109).1) ∧ (((rd t1050 i1109).2.1) = ((rd o265.2 i1109).2.1) ∧ ((rd t1050 i1109).2.2.1) = ((rd o265.2 i1109).2.2.1) ∧ ((rd t1050 i1109).2.2.2.1) = ((rd o265.2 i1109).2.2.2.1) ∧ ((rd t1050 i1109).2.2.2.2.1) = ((rd o265.2 i1109).2.2.2.2.1) ∧ True) ∧ (((rd t1050 i1109).2.2.2.2.2.1) = ((rd o265.2 i1109).2.2.2.2.2.1) ∧ ((rd t1050 i1109).2.2.2.2.2.2.1) = ((rd o265.2 i1109).2.2.2.2.2.2.1) ∧ ((rd t1050 i1109).2.2.2.2.2.2.2.1) = ((rd o265.2 i1109).2.2.2.2.2.2.2.1) ∧ ((rd t1050 i1109).2.2.2.2.2.2.2.2.1) = ((rd o265.2 i1109).2.2.2.2.2.2.2.2.1) ∧ ((rd t1050 i1109).2.2.2.2.2.2.2.2.2.1) = ((rd o265.2 i1109).2.2.2.2.2.2.2.2.2.1) ∧ True) ∧ (((rd t1050 i1109).2.2.2.2.2.2.2.2.2.2.1) = ((rd o265.2 i1109).2.2.2.2.2.2.2.2.2.2.1) ∧ (((rd t1050 i1109).2.2.2.2.2.2.2.2.2.2.2.1) = ((rd o265.2 i1109).2.2.2.2.2.2.2.2.2.2.2.1) ∧ ((rd t1050 i1109).2.2.2.2.2.2.2.2.2.2.2.2.1) = ((rd o265.2 i1109).2.2.2.2.2.2.2.2.2.2.2.2.1) ∧ ((rd t1050 i1109).2.2.2.2.2.2.2.2.2.2.2.2.2.1) = ((rd o265.2 i1109).2.2.2.2.2.2.2.2.2.2.2.2.2.1) ∧ True) ∧ True) ∧ True) ∧ ((rd t1050 i1109).2.2.2.2.2.2.2.2.2.2.2.2.2.2.1) = ((rd o265.2 i1109).2.2.2.2.2.2.2.2.2.2.2.2.2.2.1) ∧ ((rd t1050 i1109).2.2.2.2.2.2.2.2.2.2.2.2.2.2.2) = ((rd o265.2 i1109).2.2.2.2.2.2.2.2.2.2.2.2.2.2.2) ∧ True then (ScanMade.l3 t1050 o265 k (IntKind.wrap .i64 (i1109 + 1))) else (some (.inl (false)))))))) else (some (.inr ()))
def ScanMade.f (K : Nat) (a0 : List T44_) (a1 : List (List Int)) : Option (Bool) := (works.f K).bind fun t1 => (ScanMade.l1 K a0 a1 K (([] : List Int), ([] : List T80_), 0)).bind fun o265 => (sRecords.f K o265.1 ([] : List Int)).bind fun t1050 => if (t1050.length : Int) ≠ (o265.2.length : Int) then (some false) else (thn (ScanMade.l3 t1050 o265 K 0) fun o1082 => some t1)
theorem ScanMade.calls {B : Nat} {w0 : World} {G : List HP} (K : Nat) (a0 : List T44_) (a1 : List (List Int)) (Aa0 : Option Addr) (ca0 : Nat) (Aa1 : Option Addr) (ca1 : Nat) (va1 : List Value) (ha0 : RdG B w0 G Aa0 (a0.flatMap encT44_)) (ka0 : a0.length ≤ ca0) (ha1 : RdG B w0 G Aa1 va1) (hva1 : VV B w0 G (Value.int .u8) va1 a1) (ka1 : a1.length ≤ ca1) (r : Bool) (H : ScanMade.f K a0 a1 = some r) (w : World) (hw : St B w0 (G) w) :
    Calls Try.prog 11 [.slice Aa0 a0.length ca0, .slice Aa1 a1.length ca1].toArray w (fun e w' => e = .returned (.bool r) ∧ St B w0 (G) w') := by
  unfold ScanMade.f at H
  refine calls_of (n := 110) (s := [(0, .slice Aa0 a0.length ca0), (1, .slice Aa1 a1.length ca1)]) Try.func11 rfl rfl rfl rfl ?_ hw
  refine C.rs ?_
  refine J.p rfl rfl rfl rfl (Y.asg rfl) ?_
  refine J.nx ?_
  refine C.rs ?_
  obtain ⟨t1, hC2, H⟩ := bind_some H
  refine J.call (us := []) (cap := []) rfl rfl rfl go28 (fun w hw => by have hcc := works.calls K t1 hC2 w hw; exact hcc) (fun e w1 h1 => ?_)
  obtain ⟨rfl, hw1123⟩ := h1
  refine ⟨_, _, rfl, hw1123, ?_⟩
  refine J.p rfl rfl rfl rfl (Y.asg rfl) ?_
  refine J.nx ?_
  refine C.rs ?_
  refine J.p rfl rfl rfl rfl (Y.asg rfl) ?_
  refine J.nx ?_
  refine C.rs ?_
  refine J.p rfl rfl rfl rfl (Y.asg rfl) ?_
  refine J.nx ?_
  refine C.seq ?_
  refine C.rs ?_
  refine J.p rfl rfl rfl rfl (Y.asg rfl) ?_
  refine J.nx ?_
  refine C.joinN H (fun (o265 : (List Int) × (List T80_)) (j266 : (Option Addr) × Nat × (Option Addr) × Nat) => [(5, .bool t1), (6, .slice j266.1 o265.1.length j266.2.1), (7, .slice j266.2.2.1 o265.2.length j266.2.2.2)]) (fun (o265 : (List Int) × (List T80_)) (j266 : (Option Addr) × Nat × (Option Addr) × Nat) => own 5 1 j266.1 j266.2.1 (o265.1.map (Value.int .u8)) :: own 80 16 j266.2.2.1 j266.2.2.2 (o265.2.flatMap encT80_) :: G) (fun (o265 : (List Int) × (List T80_)) (j266 : (Option Addr) × Nat × (Option Addr) × Nat) => True) (fun o263 H HK264 => ?_) (fun o265 j266 H _ => ?_)
  · refine C.blk ?_
    refine C.loop (fun (i : Nat × ((List Int) × (List T80_) × Int) × ((Option Addr) × Nat × (Option Addr) × Nat)) => [(0, .slice Aa0 a0.length ca0), (1, .slice Aa1 a1.length ca1), (5, .bool t1), (6, .slice i.2.2.1 i.2.1.1.length i.2.2.2.1), (7, .slice i.2.2.2.2.1 i.2.1.2.1.length i.2.2.2.2.2), (8, .int .i64 i.2.1.2.2)]) (fun (i : Nat × ((List Int) × (List T80_) × Int) × ((Option Addr) × Nat × (Option Addr) × Nat)) => own 5 1 i.2.2.1 i.2.2.2.1 (i.2.1.1.map (Value.int .u8)) :: own 80 16 i.2.2.2.2.1 i.2.2.2.2.2 (i.2.1.2.1.flatMap encT80_) :: G) (fun (i : Nat × ((List Int) × (List T80_) × Int) × ((Option Addr) × Nat × (Option Addr) × Nat)) => ScanMade.l1 K a0 a1 i.1 i.2.1 = some o263 ∧ (True)) (fun i => i.1) (K, (([] : List Int), ([] : List T80_), 0), (none, 0, none, 0)) ⟨H, trivial⟩ (by exact ⟨rfl, rfl, rfl, rfl, rfl, rfl, trivial⟩) (by exact fun w h => (St.pick [1, 0] [_, _] ((h.nilOwn 5 1).nilOwn 80 16) rfl)) ?_
    rintro ⟨k1048, i530, j531⟩ ⟨H, _⟩
    replace H : ScanMade.l1 K a0 a1 k1048 i530 = some o263 := H
    obtain ⟨k529, rfl⟩ : ∃ m, k1048 = m + 1 := by cases k1048 with | zero => exact absurd H (by simp [ScanMade.l1]) | succ m => exact ⟨m, rfl⟩
    rw [ScanMade.l1] at H
    refine C.at (s' := [(0, .slice Aa0 a0.length ca0), (1, .slice Aa1 a1.length ca1), (5, .bool t1), (6, .slice j531.1 i530.1.length j531.2.1), (7, .slice j531.2.2.1 i530.2.1.length j531.2.2.2), (8, .int .i64 i530.2.2)]) (G' := own 5 1 j531.1 j531.2.1 (i530.1.map (Value.int .u8)) :: own 80 16 j531.2.2.1 j531.2.2.2 (i530.2.1.flatMap encT80_) :: G) rfl rfl ?_
    refine C.seq ?_
    refine C.rs ?_
    refine J.joinB H (fun (o537 : Bool) (j538 : Unit) => [(0, .slice Aa0 a0.length ca0), (1, .slice Aa1 a1.length ca1), (5, .bool t1), (6, .slice j531.1 i530.1.length j531.2.1), (7, .slice j531.2.2.1 i530.2.1.length j531.2.2.2), (8, .int .i64 i530.2.2), (24, .bool o537)]) (fun (o537 : Bool) (j538 : Unit) => own 5 1 j531.1 j531.2.1 (i530.1.map (Value.int .u8)) :: own 80 16 j531.2.2.1 j531.2.2.2 (i530.2.1.flatMap encT80_) :: G) (fun (o537 : Bool) (j538 : Unit) => True) (fun o539 H HK540 => ?_) (fun o537 j538 H _ => ?_)
    · refine J.p rfl rfl rfl rfl (Y.mv rfl) ?_
      refine J.p rfl rfl rfl rfl (Y.mv rfl) ?_
      refine J.p rfl rfl rfl rfl (Y.lenS Try.underlying83 rfl) ?_
      refine J.p rfl rfl rfl rfl (Y.bin rfl rfl rfl) ?_
      refine J.p rfl rfl rfl rfl (Y.mv rfl) ?_
      refine split2 H (fun c541 H => ?_) (fun c541 H => ?_)
      · refine J.as (k := 20) rfl (congrArg Value.bool (decide_eq_true c541)) ?_
        refine J.p rfl rfl rfl rfl (Y.mv rfl) ?_
        refine J.p rfl rfl rfl rfl (Y.lenS Try.underlying22 rfl) ?_
        refine J.p rfl rfl rfl rfl (Y.bin rfl rfl rfl) ?_
        refine J.p rfl rfl rfl rfl (Y.pickT rfl rfl) ?_
        refine J.nil ?_
        obtain rfl := Option.some.inj H
        generalize decide ((i530.1.length : Int) < 1000000) = dd542 at HK540 ⊢
        exact N.meet (dd542, ()) ⟨HK540, trivial⟩ (by exact ⟨rfl, rfl, rfl, rfl, rfl, rfl, rfl, trivial⟩) (by exact fun w h => h)
      · refine J.as (k := 20) rfl (congrArg Value.bool (decide_eq_false c541)) ?_
        refine J.skip rfl rfl ?_
        refine J.skip rfl rfl ?_
        refine J.skip rfl rfl ?_
        refine J.p rfl rfl rfl rfl (Y.pickF rfl rfl) ?_
        refine J.nil ?_
        obtain rfl := Option.some.inj H
        exact N.meet (false, ()) ⟨HK540, trivial⟩ (by exact ⟨rfl, rfl, rfl, rfl, rfl, rfl, rfl, trivial⟩) (by exact fun w h => h)
    · refine C.at (s' := [(0, .slice Aa0 a0.length ca0), (1, .slice Aa1 a1.length ca1), (5, .bool t1), (6, .slice j531.1 i530.1.length j531.2.1), (7, .slice j531.2.2.1 i530.2.1.length j531.2.2.2), (8, .int .i64 i530.2.2), (24, .bool o537)]) (G' := own 5 1 j531.1 j531.2.1 (i530.1.map (Value.int .u8)) :: own 80 16 j531.2.2.1 j531.2.2.2 (i530.2.1.flatMap encT80_) :: G) rfl rfl ?_
      refine split2 H (fun c543 H => ?_) (fun c543 H => ?_)
      · refine C.condT (congrArg (fun b => some (Value.bool b)) (c543)) ?_
        refine C.skip ?_
        refine N.nx ?_
        refine C.joinB H (fun (o664 : (List Int) × (List T80_)) (j665 : (Option Addr) × Nat × (Option Addr) × Nat) => [(0, .slice Aa0 a0.length ca0), (1, .slice Aa1 a1.length ca1), (5, .bool t1), (6, .slice j665.1 o664.1.length j665.2.1), (7, .slice j665.2.2.1 o664.2.length j665.2.2.2), (8, .int .i64 i530.2.2)]) (fun (o664 : (List Int) × (List T80_)) (j665 : (Option Addr) × Nat × (Option Addr) × Nat) => own 5 1 j665.1 j665.2.1 (o664.1.map (Value.int .u8)) :: own 80 16 j665.2.2.1 j665.2.2.2 (o664.2.flatMap encT80_) :: G) (fun (o664 : (List Int) × (List T80_)) (j665 : (Option Addr) × Nat × (Option Addr) × Nat) => True) (fun o662 H HK663 => ?_) (fun o664 j665 H _ => ?_)
        · refine C.blk ?_
          refine C.seq ?_
          refine C.rs ?_
          refine J.p rfl rfl rfl rfl (Y.mv rfl) ?_
          refine J.p rfl rfl rfl rfl (Y.mv rfl) ?_
          refine J.p rfl rfl rfl rfl (Y.lenS Try.underlying84 rfl) ?_
          refine J.p rfl rfl rfl rfl (Y.bin rfl rfl rfl) ?_
          refine J.nx ?_
          refine C.joinN H (fun (o759 : (List Int)) (j760 : (Option Addr) × Nat) => [(0, .slice Aa0 a0.length ca0), (1, .slice Aa1 a1.length ca1), (5, .bool t1), (6, .slice j760.1 o759.length j760.2), (7, .slice j531.2.2.1 i530.2.1.length j531.2.2.2), (8, .int .i64 i530.2.2)]) (fun (o759 : (List Int)) (j760 : (Option Addr) × Nat) => own 5 1 j760.1 j760.2 (o759.map (Value.int .u8)) :: own 80 16 j531.2.2.1 j531.2.2.2 (i530.2.1.flatMap encT80_) :: G) (fun (o759 : (List Int)) (j760 : (Option Addr) × Nat) => True) (fun o757 H HK758 => ?_) (fun o759 j760 H _ => ?_)
          · refine split2 H (fun c762 H => ?_) (fun c762 H => ?_)
            · refine C.condT (congrArg (fun b => some (Value.bool b)) (decide_eq_true c762)) ?_
              refine C.rs ?_
              refine J.p rfl rfl rfl rfl (Y.asg rfl) ?_
              refine J.nx ?_
              refine C.joinN H (fun (o850 : (List Int)) (j851 : (Option Addr) × Nat) => [(0, .slice Aa0 a0.length ca0), (1, .slice Aa1 a1.length ca1), (5, .bool t1), (6, .slice j851.1 o850.length j851.2), (7, .slice j531.2.2.1 i530.2.1.length j531.2.2.2), (8, .int .i64 i530.2.2)]) (fun (o850 : (List Int)) (j851 : (Option Addr) × Nat) => own 5 1 j851.1 j851.2 (o850.map (Value.int .u8)) :: own 80 16 j531.2.2.1 j531.2.2.2 (i530.2.1.flatMap encT80_) :: G) (fun (o850 : (List Int)) (j851 : (Option Addr) × Nat) => True) (fun o848 H HK849 => ?_) (fun o850 j851 H _ => ?_)
              · refine C.blk ?_
                refine C.loop (fun (i : Nat × ((List Int) × Int) × ((Option Addr) × Nat)) => [(0, .slice Aa0 a0.length ca0), (1, .slice Aa1 a1.length ca1), (5, .bool t1), (6, .slice i.2.2.1 i.2.1.1.length i.2.2.2), (7, .slice j531.2.2.1 i530.2.1.length j531.2.2.2), (8, .int .i64 i530.2.2), (9, .int .i64 i.2.1.2)]) (fun (i : Nat × ((List Int) × Int) × ((Option Addr) × Nat)) => own 5 1 i.2.2.1 i.2.2.2 (i.2.1.1.map (Value.int .u8)) :: own 80 16 j531.2.2.1 j531.2.2.2 (i530.2.1.flatMap encT80_) :: G) (fun (i : Nat × ((List Int) × Int) × ((Option Addr) × Nat)) => ScanMade.l2 i530 a1 i.1 i.2.1 = some o848 ∧ (True)) (fun i => i.1) (K, (i530.1, 0), (j531.1, j531.2.1)) ⟨H, trivial⟩ (by exact ⟨rfl, rfl, rfl, rfl, rfl, rfl, rfl, trivial⟩) (by exact fun w h => h) ?_
                rintro ⟨k1021, i939, j940⟩ ⟨H, _⟩
                replace H : ScanMade.l2 i530 a1 k1021 i939 = some o848 := H
                obtain ⟨k938, rfl⟩ : ∃ m, k1021 = m + 1 := by cases k1021 with | zero => exact absurd H (by simp [ScanMade.l2]) | succ m => exact ⟨m, rfl⟩
                rw [ScanMade.l2] at H
                refine C.at (s' := [(0, .slice Aa0 a0.length ca0), (1, .slice Aa1 a1.length ca1), (5, .bool t1), (6, .slice j940.1 i939.1.length j940.2), (7, .slice j531.2.2.1 i530.2.1.length j531.2.2.2), (8, .int .i64 i530.2.2), (9, .int .i64 i939.2)]) (G' := own 5 1 j940.1 j940.2 (i939.1.map (Value.int .u8)) :: own 80 16 j531.2.2.1 j531.2.2.2 (i530.2.1.flatMap encT80_) :: G) rfl rfl ?_
                refine C.seq ?_
                refine C.rs ?_
                refine J.joinB H (fun (o951 : Bool) (j952 : Unit) => [(0, .slice Aa0 a0.length ca0), (1, .slice Aa1 a1.length ca1), (5, .bool t1), (6, .slice j940.1 i939.1.length j940.2), (7, .slice j531.2.2.1 i530.2.1.length j531.2.2.2), (8, .int .i64 i530.2.2), (9, .int .i64 i939.2), (42, .bool o951)]) (fun (o951 : Bool) (j952 : Unit) => own 5 1 j940.1 j940.2 (i939.1.map (Value.int .u8)) :: own 80 16 j531.2.2.1 j531.2.2.2 (i530.2.1.flatMap encT80_) :: G) (fun (o951 : Bool) (j952 : Unit) => True) (fun o953 H HK954 => ?_) (fun o951 j952 H _ => ?_)
                · refine J.p rfl rfl rfl rfl (Y.mv rfl) ?_
                  refine J.p rfl rfl rfl rfl (Y.mv rfl) ?_
                  refine J.p rfl rfl rfl rfl (Y.mv rfl) ?_
                  obtain ⟨p957, H⟩ := gd_some H
                  refine J.know (VV.some_ (ha1.suf [_, _] rfl) (hva1.suf [_, _] rfl) (idx_lt p957)) (fun hh => ?_)
                  obtain ⟨a955, ha956⟩ := hh
                  refine J.p rfl rfl rfl rfl (Y.ixa Try.underlying84 ti22 rfl rfl p957 ha956) ?_
                  obtain ⟨A958, c959, hv960, hr961, hc962⟩ := VV.get hva1 p957
                  refine J.r rfl rfl rfl rfl (Y.ld Try.underlying22 rfl rfl (ha1.suf [_, _] rfl) ha956 hv960) ?_
                  refine J.p rfl rfl rfl rfl (Y.lenS Try.underlying22 rfl) ?_
                  refine J.p rfl rfl rfl rfl (Y.bin rfl rfl rfl) ?_
                  refine J.p rfl rfl rfl rfl (Y.mv rfl) ?_
                  refine split2 H (fun c963 H => ?_) (fun c963 H => ?_)
                  · refine J.as (k := 38) rfl (congrArg Value.bool (decide_eq_true c963)) ?_
                    refine J.p rfl rfl rfl rfl (Y.mv rfl) ?_
                    refine J.p rfl rfl rfl rfl (Y.lenS Try.underlying22 rfl) ?_
                    refine J.p rfl rfl rfl rfl (Y.bin rfl rfl rfl) ?_
                    refine J.p rfl rfl rfl rfl (Y.pickT rfl rfl) ?_
                    refine J.nil ?_
                    obtain rfl := Option.some.inj H
                    generalize decide ((i939.1.length : Int) < 1000000) = dd964 at HK954 ⊢
                    exact N.meet (dd964, ()) ⟨HK954, trivial⟩ (by exact ⟨rfl, rfl, rfl, rfl, rfl, rfl, rfl, rfl, trivial⟩) (by exact fun w h => h)
                  · refine J.as (k := 38) rfl (congrArg Value.bool (decide_eq_false c963)) ?_
                    refine J.skip rfl rfl ?_
                    refine J.skip rfl rfl ?_
                    refine J.skip rfl rfl ?_
                    refine J.p rfl rfl rfl rfl (Y.pickF rfl rfl) ?_
                    refine J.nil ?_
                    obtain rfl := Option.some.inj H
                    exact N.meet (false, ()) ⟨HK954, trivial⟩ (by exact ⟨rfl, rfl, rfl, rfl, rfl, rfl, rfl, rfl, trivial⟩) (by exact fun w h => h)
                · refine C.at (s' := [(0, .slice Aa0 a0.length ca0), (1, .slice Aa1 a1.length ca1), (5, .bool t1), (6, .slice j940.1 i939.1.length j940.2), (7, .slice j531.2.2.1 i530.2.1.length j531.2.2.2), (8, .int .i64 i530.2.2), (9, .int .i64 i939.2), (42, .bool o951)]) (G' := own 5 1 j940.1 j940.2 (i939.1.map (Value.int .u8)) :: own 80 16 j531.2.2.1 j531.2.2.2 (i530.2.1.flatMap encT80_) :: G) rfl rfl ?_
                  refine split2 H (fun c965 H => ?_) (fun c965 H => ?_)
                  · refine C.condT (congrArg (fun b => some (Value.bool b)) (c965)) ?_
                    refine C.skip ?_
                    refine N.nx ?_
                    refine C.joinB H (fun (o993 : (List Int)) (j994 : (Option Addr) × Nat) => [(0, .slice Aa0 a0.length ca0), (1, .slice Aa1 a1.length ca1), (5, .bool t1), (6, .slice j994.1 o993.length j994.2), (7, .slice j531.2.2.1 i530.2.1.length j531.2.2.2), (8, .int .i64 i530.2.2), (9, .int .i64 i939.2)]) (fun (o993 : (List Int)) (j994 : (Option Addr) × Nat) => own 5 1 j994.1 j994.2 (o993.map (Value.int .u8)) :: own 80 16 j531.2.2.1 j531.2.2.2 (i530.2.1.flatMap encT80_) :: G) (fun (o993 : (List Int)) (j994 : (Option Addr) × Nat) => True) (fun o991 H HK992 => ?_) (fun o993 j994 H _ => ?_)
                    · refine C.blk ?_
                      refine C.rs ?_
                      refine J.p rfl rfl rfl rfl (Y.mv rfl) ?_
                      refine J.p rfl rfl rfl rfl (Y.mv rfl) ?_
                      obtain ⟨p998, H⟩ := gd_some H
                      refine J.know (VV.some_ (ha1.suf [_, _] rfl) (hva1.suf [_, _] rfl) (idx_lt p998)) (fun hh => ?_)
                      obtain ⟨a996, ha997⟩ := hh
                      refine J.p rfl rfl rfl rfl (Y.ixa Try.underlying84 ti22 rfl rfl p998 ha997) ?_
                      obtain ⟨A999, c1000, hv1001, hr1002, hc1003⟩ := VV.get hva1 p998
                      refine J.r rfl rfl rfl rfl (Y.ld Try.underlying22 rfl rfl (ha1.suf [_, _] rfl) ha997 hv1001) ?_
                      refine J.p rfl rfl rfl rfl (Y.mv rfl) ?_
                      obtain ⟨p1004, H⟩ := gd_some H
                      refine J.el rfl rfl rfl Try.underlying22 ti5 Try.underlying5 rfl rfl rfl p1004 (hr1002.suf [_, _] rfl) ?_
                      refine J.p rfl rfl rfl rfl (Y.bin rfl rfl rfl) ?_
                      refine J.nx ?_
                      refine split2 H (fun c1005 H => ?_) (fun c1005 H => ?_)
                      · refine C.condT (congrArg (fun b => some (Value.bool b)) (decide_eq_true c1005)) ?_
                        refine C.reg ?_
                        refine J.p rfl rfl rfl rfl (Y.mv rfl) ?_
                        refine J.p rfl rfl rfl rfl (Y.mv rfl) ?_
                        refine J.p rfl rfl rfl rfl (Y.mv rfl) ?_
                        obtain ⟨p1008, H⟩ := gd_some H
                        refine J.know (VV.some_ (ha1.suf [_, _] rfl) (hva1.suf [_, _] rfl) (idx_lt p1008)) (fun hh => ?_)
                        obtain ⟨a1006, ha1007⟩ := hh
                        refine J.p rfl rfl rfl rfl (Y.ixa Try.underlying84 ti22 rfl rfl p1008 ha1007) ?_
                        obtain ⟨A1009, c1010, hv1011, hr1012, hc1013⟩ := VV.get hva1 p1008
                        refine J.r rfl rfl rfl rfl (Y.ld Try.underlying22 rfl rfl (ha1.suf [_, _] rfl) ha1007 hv1011) ?_
                        refine J.p rfl rfl rfl rfl (Y.mv rfl) ?_
                        obtain ⟨p1014, H⟩ := gd_some H
                        refine J.el rfl rfl rfl Try.underlying22 ti5 Try.underlying5 rfl rfl rfl p1014 (hr1012.suf [_, _] rfl) ?_
                        refine J.bsL (enc := (Value.int .u8)) (xs := [rd (rd a1 i530.2.2) i939.2]) rfl Try.underlying22 ti5 rfl rfl rfl rfl rfl (fun A1015 => ?_)
                        refine J.pull 1 rfl rfl ?_
                        obtain ⟨p1019, H⟩ := gd_some H
                        refine J.appL (enc := (Value.int .u8)) (xs := i939.1) (ys := [rd (rd a1 i530.2.2) i939.2]) rfl Try.underlying22 ti5 rfl (by decide) rfl rfl (fun _ => rfl) (RdG.own 1 rfl) p1019 (fun A1017 c1018 => ?_)
                        refine J.pull 1 rfl rfl (J.drop ?_)
                        refine J.p rfl rfl rfl rfl (Y.asg rfl) ?_
                        refine J.nil ?_
                        refine N.ib ?_
                        obtain rfl := Option.some.inj H
                        exact N.meet ((i939.1 ++ [rd (rd a1 i530.2.2) i939.2]), (A1017, c1018)) ⟨HK992, trivial⟩ (by exact ⟨rfl, rfl, rfl, rfl, rfl, rfl, rfl, trivial⟩) (by exact fun w h => h)
                      · refine C.condF (congrArg (fun b => some (Value.bool b)) (decide_eq_false c1005)) ?_
                        refine C.skip ?_
                        refine N.ib ?_
                        obtain rfl := Option.some.inj H
                        exact N.meet (i939.1, (j940.1, j940.2)) ⟨HK992, trivial⟩ (by exact ⟨rfl, rfl, rfl, rfl, rfl, rfl, rfl, trivial⟩) (by exact fun w h => h)
                    · refine C.at (s' := [(0, .slice Aa0 a0.length ca0), (1, .slice Aa1 a1.length ca1), (5, .bool t1), (6, .slice j994.1 o993.length j994.2), (7, .slice j531.2.2.1 i530.2.1.length j531.2.2.2), (8, .int .i64 i530.2.2), (9, .int .i64 i939.2)]) (G' := own 5 1 j994.1 j994.2 (o993.map (Value.int .u8)) :: own 80 16 j531.2.2.1 j531.2.2.2 (i530.2.1.flatMap encT80_) :: G) rfl rfl ?_
                      refine C.reg ?_
                      refine J.p rfl rfl rfl rfl (Y.mv rfl) ?_
                      refine J.p rfl rfl rfl rfl (Y.bin rfl rfl rfl) ?_
                      refine J.p rfl rfl rfl rfl (Y.asg rfl) ?_
                      refine J.nil ?_
                      exact N.again (k938, (o993, IntKind.wrap .i64 (i939.2 + 1)), (j994.1, j994.2)) ⟨H, trivial⟩ (Nat.lt_succ_self _) (by exact ⟨rfl, rfl, rfl, rfl, rfl, rfl, rfl, trivial⟩) (by exact fun w h => h)
                  · refine C.condF (congrArg (fun b => some (Value.bool b)) (nt c965)) ?_
                    refine C.exit ?_
                    refine X.th ?_
                    refine X.th ?_
                    refine X.hit ?_
                    obtain rfl := Option.some.inj H
                    exact N.meet (i939.1, (j940.1, j940.2)) ⟨HK849, trivial⟩ (by exact ⟨rfl, rfl, rfl, rfl, rfl, rfl, trivial⟩) (by exact fun w h => h)
              · refine N.at (s' := [(0, .slice Aa0 a0.length ca0), (1, .slice Aa1 a1.length ca1), (5, .bool t1), (6, .slice j851.1 o850.length j851.2), (7, .slice j531.2.2.1 i530.2.1.length j531.2.2.2), (8, .int .i64 i530.2.2)]) (G' := own 5 1 j851.1 j851.2 (o850.map (Value.int .u8)) :: own 80 16 j531.2.2.1 j531.2.2.2 (i530.2.1.flatMap encT80_) :: G) rfl rfl ?_
                obtain rfl := Option.some.inj H
                exact N.meet (o850, (j851.1, j851.2)) ⟨HK758, trivial⟩ (by exact ⟨rfl, rfl, rfl, rfl, rfl, rfl, trivial⟩) (by exact fun w h => h)
            · refine C.condF (congrArg (fun b => some (Value.bool b)) (decide_eq_false c762)) ?_
              refine C.skip ?_
              obtain rfl := Option.some.inj H
              exact N.meet (i530.1, (j531.1, j531.2.1)) ⟨HK758, trivial⟩ (by exact ⟨rfl, rfl, rfl, rfl, rfl, rfl, trivial⟩) (by exact fun w h => h)
          · refine N.at (s' := [(0, .slice Aa0 a0.length ca0), (1, .slice Aa1 a1.length ca1), (5, .bool t1), (6, .slice j760.1 o759.length j760.2), (7, .slice j531.2.2.1 i530.2.1.length j531.2.2.2), (8, .int .i64 i530.2.2)]) (G' := own 5 1 j760.1 j760.2 (o759.map (Value.int .u8)) :: own 80 16 j531.2.2.1 j531.2.2.2 (i530.2.1.flatMap encT80_) :: G) rfl rfl ?_
            refine N.nx ?_
            refine C.rs ?_
            refine J.p rfl rfl rfl rfl (Y.mv rfl) ?_
            refine J.p rfl rfl rfl rfl (Y.mv rfl) ?_
            obtain ⟨p1024, H⟩ := gd_some H
            refine J.know (RdG.someM lenT44_ (by decide) (ha0.suf [_, _] rfl) p1024) (fun hh => ?_)
            obtain ⟨a1022, ha1023⟩ := hh
            refine J.p rfl rfl rfl rfl (Y.ixa Try.underlying83 ti44 rfl rfl p1024 ha1023) ?_
            obtain ⟨p1025, H⟩ := gd_some H
            refine J.r rfl rfl rfl rfl (Y.ldM (us := [.int .u64 ((rd a0 i530.2.2).1), .int .i64 ((rd a0 i530.2.2).2.1), .string ((rd a0 i530.2.2).2.2.1), .string ((rd a0 i530.2.2).2.2.2)]) lenT44_ Try.underlying44 rfl ti44 rfl ha1023 p1025 (ha0.suf [_, _] rfl) rfl) ?_
            obtain ⟨t1026, hC1027, H⟩ := bind_some H
            refine J.call (us := []) (cap := []) rfl rfl rfl go38 (fun w hw => by have hcc := fOf.calls ((rd a0 i530.2.2).1) ((rd a0 i530.2.2).2.1) ((rd a0 i530.2.2).2.2.1) ((rd a0 i530.2.2).2.2.2) t1026 hC1027 w hw; exact hcc) (fun e w1 h1 => ?_)
            obtain ⟨rfl, hw1047⟩ := h1
            refine ⟨_, _, rfl, hw1047, ?_⟩
            refine J.alloc (L := [.int .i64 0, .int .u64 0, .int .i64 0, .string ByteArray.empty, .string ByteArray.empty, .int .u64 0, .int .i64 0, .int .i64 0, .int .i64 0, .string ByteArray.empty, .int .i64 0, .int .i64 0, .int .i64 0, .int .u32 0]) rfl ti53 rfl (fun g1028 => ?_)
            refine J.stA (us := [.int .i64 t1026.1, .int .u64 t1026.2.1, .int .i64 t1026.2.2.1, .string t1026.2.2.2.1, .string t1026.2.2.2.2.1, .int .u64 t1026.2.2.2.2.2.1, .int .i64 t1026.2.2.2.2.2.2.1, .int .i64 t1026.2.2.2.2.2.2.2.1, .int .i64 t1026.2.2.2.2.2.2.2.2.1, .string t1026.2.2.2.2.2.2.2.2.2.1, .int .i64 t1026.2.2.2.2.2.2.2.2.2.2.1, .int .i64 t1026.2.2.2.2.2.2.2.2.2.2.2.1, .int .i64 t1026.2.2.2.2.2.2.2.2.2.2.2.2.1, .int .u32 t1026.2.2.2.2.2.2.2.2.2.2.2.2.2]) (L' := [.int .i64 t1026.1, .int .u64 t1026.2.1, .int .i64 t1026.2.2.1, .string t1026.2.2.2.1, .string t1026.2.2.2.2.1, .int .u64 t1026.2.2.2.2.2.1, .int .i64 t1026.2.2.2.2.2.2.1, .int .i64 t1026.2.2.2.2.2.2.2.1, .int .i64 t1026.2.2.2.2.2.2.2.2.1, .string t1026.2.2.2.2.2.2.2.2.2.1, .int .i64 t1026.2.2.2.2.2.2.2.2.2.2.1, .int .i64 t1026.2.2.2.2.2.2.2.2.2.2.2.1, .int .i64 t1026.2.2.2.2.2.2.2.2.2.2.2.2.1, .int .u32 t1026.2.2.2.2.2.2.2.2.2.2.2.2.2]) ti53 rfl rfl rfl rfl rfl rfl ?_
            refine J.nx ?_
            refine C.rs ?_
            refine J.r rfl rfl rfl rfl (Y.ldCA (us := [.int .i64 t1026.1, .int .u64 t1026.2.1, .int .i64 t1026.2.2.1, .string t1026.2.2.2.1, .string t1026.2.2.2.2.1, .int .u64 t1026.2.2.2.2.2.1, .int .i64 t1026.2.2.2.2.2.2.1, .int .i64 t1026.2.2.2.2.2.2.2.1, .int .i64 t1026.2.2.2.2.2.2.2.2.1, .string t1026.2.2.2.2.2.2.2.2.2.1, .int .i64 t1026.2.2.2.2.2.2.2.2.2.2.1, .int .i64 t1026.2.2.2.2.2.2.2.2.2.2.2.1, .int .i64 t1026.2.2.2.2.2.2.2.2.2.2.2.2.1, .int .u32 t1026.2.2.2.2.2.2.2.2.2.2.2.2.2]) 0 Try.underlying53 rfl ti53 rfl rfl rfl rfl) ?_
            obtain ⟨t1030, hC1031, H⟩ := bind_some H
            refine J.call (us := []) (cap := []) rfl rfl rfl go39 (fun w hw => by have hcc := fEncode.calls K t1026.1 t1026.2.1 t1026.2.2.1 t1026.2.2.2.1 t1026.2.2.2.2.1 t1026.2.2.2.2.2.1 t1026.2.2.2.2.2.2.1 t1026.2.2.2.2.2.2.2.1 t1026.2.2.2.2.2.2.2.2.1 t1026.2.2.2.2.2.2.2.2.2.1 t1026.2.2.2.2.2.2.2.2.2.2.1 t1026.2.2.2.2.2.2.2.2.2.2.2.1 t1026.2.2.2.2.2.2.2.2.2.2.2.2.1 t1026.2.2.2.2.2.2.2.2.2.2.2.2.2 t1030 hC1031 w hw; exact hcc) (fun e w1 h1 => ?_)
            obtain ⟨A1032, c1033, rfl, hw1046⟩ := h1
            refine ⟨_, _, rfl, hw1046, ?_⟩
            refine J.p rfl rfl rfl rfl (Y.mv rfl) ?_
            refine J.p rfl rfl rfl rfl (Y.ext rfl rfl) ?_
            refine J.p rfl rfl rfl rfl (Y.ext rfl rfl) ?_
            refine J.p rfl rfl rfl rfl (Y.asg rfl) ?_
            refine J.p rfl rfl rfl rfl (Y.asg rfl) ?_
            refine J.nx ?_
            refine C.seq ?_
            refine C.rs ?_
            refine J.p rfl rfl rfl rfl (Y.mv rfl) ?_
            refine J.p rfl rfl rfl rfl (Y.bin rfl rfl rfl) ?_
            refine J.nx ?_
            refine split2 H (fun c1035 H => ?_) (fun c1035 H => ?_)
            · refine C.condT (congrArg (fun b => some (Value.bool b)) (decide_eq_true c1035)) ?_
              refine C.exit ?_
              refine X.th ?_
              refine X.hit ?_
              obtain rfl := Option.some.inj H
              exact N.meet ((o759, i530.2.1), (j760.1, j760.2, j531.2.2.1, j531.2.2.2)) ⟨HK663, trivial⟩ (by exact ⟨rfl, rfl, rfl, rfl, rfl, rfl, trivial⟩) (by exact fun w h => (St.pick [2, 3] [_, _, _, _] h rfl))
            · refine C.condF (congrArg (fun b => some (Value.bool b)) (decide_eq_false c1035)) ?_
              refine C.skip ?_
              refine N.nx ?_
              refine C.rs ?_
              refine J.p rfl rfl rfl rfl (Y.mv rfl) ?_
              refine J.r rfl rfl rfl rfl (Y.ldCA (us := [.int .i64 t1026.1, .int .u64 t1026.2.1, .int .i64 t1026.2.2.1, .string t1026.2.2.2.1, .string t1026.2.2.2.2.1, .int .u64 t1026.2.2.2.2.2.1, .int .i64 t1026.2.2.2.2.2.2.1, .int .i64 t1026.2.2.2.2.2.2.2.1, .int .i64 t1026.2.2.2.2.2.2.2.2.1, .string t1026.2.2.2.2.2.2.2.2.2.1, .int .i64 t1026.2.2.2.2.2.2.2.2.2.2.1, .int .i64 t1026.2.2.2.2.2.2.2.2.2.2.2.1, .int .i64 t1026.2.2.2.2.2.2.2.2.2.2.2.2.1, .int .u32 t1026.2.2.2.2.2.2.2.2.2.2.2.2.2]) 1 Try.underlying53 rfl ti53 rfl rfl rfl rfl) ?_
              refine J.p rfl rfl rfl rfl (Y.mv rfl) ?_
              refine J.p rfl rfl rfl rfl (Y.lenS Try.underlying22 rfl) ?_
              refine J.p rfl rfl rfl rfl (Y.mv rfl) ?_
              refine J.p rfl rfl rfl rfl (Y.lenS Try.underlying22 rfl) ?_
              refine J.p rfl rfl rfl rfl (Y.bld (cs := [.int .i64 t1026.1, .int .u64 t1026.2.1, .int .i64 t1026.2.2.1, .string t1026.2.2.2.1, .string t1026.2.2.2.2.1, .int .u64 t1026.2.2.2.2.2.1, .int .i64 t1026.2.2.2.2.2.2.1, .int .i64 t1026.2.2.2.2.2.2.2.1, .int .i64 t1026.2.2.2.2.2.2.2.2.1, .string t1026.2.2.2.2.2.2.2.2.2.1, .int .i64 t1026.2.2.2.2.2.2.2.2.2.2.1, .int .i64 t1026.2.2.2.2.2.2.2.2.2.2.2.1, .int .i64 t1026.2.2.2.2.2.2.2.2.2.2.2.2.1, .int .u32 t1026.2.2.2.2.2.2.2.2.2.2.2.2.2, .int .i64 (o759.length : Int), .int .i64 (t1030.1.length : Int)]) rfl pl80 ti80 rfl (by kernel_rfl)) ?_
              refine J.bsM (enc := encT80_) (xs := [(t1026.1, t1026.2.1, t1026.2.2.1, t1026.2.2.2.1, t1026.2.2.2.2.1, t1026.2.2.2.2.2.1, t1026.2.2.2.2.2.2.1, t1026.2.2.2.2.2.2.2.1, t1026.2.2.2.2.2.2.2.2.1, t1026.2.2.2.2.2.2.2.2.2.1, t1026.2.2.2.2.2.2.2.2.2.2.1, t1026.2.2.2.2.2.2.2.2.2.2.2.1, t1026.2.2.2.2.2.2.2.2.2.2.2.2.1, t1026.2.2.2.2.2.2.2.2.2.2.2.2.2, (o759.length : Int), (t1030.1.length : Int))]) (zs := [.int .i64 0, .int .u64 0, .int .i64 0, .string ByteArray.empty, .string ByteArray.empty, .int .u64 0, .int .i64 0, .int .i64 0, .int .i64 0, .string ByteArray.empty, .int .i64 0, .int .i64 0, .int .i64 0, .int .u32 0, .int .i64 0, .int .i64 0]) lenT80_ rfl Try.underlying76 ti80 (by kernel_rfl) rfl (by kernel_rfl) rfl rfl rfl (fun A1036 => ?_)
              refine J.pull 4 rfl rfl ?_
              obtain ⟨p1040, H⟩ := gd_some H
              refine J.appM (enc := encT80_) (xs := i530.2.1) (ys := [(t1026.1, t1026.2.1, t1026.2.2.1, t1026.2.2.2.1, t1026.2.2.2.2.1, t1026.2.2.2.2.2.1, t1026.2.2.2.2.2.2.1, t1026.2.2.2.2.2.2.2.1, t1026.2.2.2.2.2.2.2.2.1, t1026.2.2.2.2.2.2.2.2.2.1, t1026.2.2.2.2.2.2.2.2.2.2.1, t1026.2.2.2.2.2.2.2.2.2.2.2.1, t1026.2.2.2.2.2.2.2.2.2.2.2.2.1, t1026.2.2.2.2.2.2.2.2.2.2.2.2.2, (o759.length : Int), (t1030.1.length : Int))]) lenT80_ oneT80_ rfl Try.underlying76 ti80 rfl (by decide) (by decide) rfl rfl (RdG.own 1 rfl) p1040 (fun A1038 c1039 => ?_)
              refine J.pull 1 rfl rfl (J.drop ?_)
              refine J.p rfl rfl rfl rfl (Y.asg rfl) ?_
              refine J.nx ?_
              refine C.reg ?_
              refine J.p rfl rfl rfl rfl (Y.mv rfl) ?_
              refine J.p rfl rfl rfl rfl (Y.mv rfl) ?_
              refine J.pull 3 rfl rfl ?_
              obtain ⟨p1044, H⟩ := gd_some H
              refine J.appL (enc := (Value.int .u8)) (xs := o759) (ys := t1030.1) rfl Try.underlying22 ti5 rfl (by decide) rfl rfl (fun _ => rfl) (RdG.own 2 rfl) p1044 (fun A1042 c1043 => ?_)
              refine J.pull 2 rfl rfl (J.drop ?_)
              refine J.p rfl rfl rfl rfl (Y.asg rfl) ?_
              refine J.nil ?_
              refine N.ib ?_
              obtain rfl := Option.some.inj H
              exact N.meet (((o759 ++ t1030.1), (i530.2.1 ++ [(t1026.1, t1026.2.1, t1026.2.2.1, t1026.2.2.2.1, t1026.2.2.2.2.1, t1026.2.2.2.2.2.1, t1026.2.2.2.2.2.2.1, t1026.2.2.2.2.2.2.2.1, t1026.2.2.2.2.2.2.2.2.1, t1026.2.2.2.2.2.2.2.2.2.1, t1026.2.2.2.2.2.2.2.2.2.2.1, t1026.2.2.2.2.2.2.2.2.2.2.2.1, t1026.2.2.2.2.2.2.2.2.2.2.2.2.1, t1026.2.2.2.2.2.2.2.2.2.2.2.2.2, (o759.length : Int), (t1030.1.length : Int))])), (A1042, c1043, A1038, c1039)) ⟨HK663, trivial⟩ (by exact ⟨rfl, rfl, rfl, rfl, rfl, rfl, trivial⟩) (by exact fun w h => (St.pick [0, 1] [_, _, _] h rfl))
        · refine C.at (s' := [(0, .slice Aa0 a0.length ca0), (1, .slice Aa1 a1.length ca1), (5, .bool t1), (6, .slice j665.1 o664.1.length j665.2.1), (7, .slice j665.2.2.1 o664.2.length j665.2.2.2), (8, .int .i64 i530.2.2)]) (G' := own 5 1 j665.1 j665.2.1 (o664.1.map (Value.int .u8)) :: own 80 16 j665.2.2.1 j665.2.2.2 (o664.2.flatMap encT80_) :: G) rfl rfl ?_
          refine C.reg ?_
          refine J.p rfl rfl rfl rfl (Y.mv rfl) ?_
          refine J.p rfl rfl rfl rfl (Y.bin rfl rfl rfl) ?_
          refine J.p rfl rfl rfl rfl (Y.asg rfl) ?_
          refine J.nil ?_
          exact N.again (k529, (o664.1, o664.2, IntKind.wrap .i64 (i530.2.2 + 1)), (j665.1, j665.2.1, j665.2.2.1, j665.2.2.2)) ⟨H, trivial⟩ (Nat.lt_succ_self _) (by exact ⟨rfl, rfl, rfl, rfl, rfl, rfl, trivial⟩) (by exact fun w h => h)
      · refine C.condF (congrArg (fun b => some (Value.bool b)) (nt c543)) ?_
        refine C.exit ?_
        refine X.th ?_
        refine X.th ?_
        refine X.hit ?_
        obtain rfl := Option.some.inj H
        exact N.meet ((i530.1, i530.2.1), (j531.1, j531.2.1, j531.2.2.1, j531.2.2.2)) ⟨HK264, trivial⟩ (by exact ⟨rfl, rfl, rfl, trivial⟩) (by exact fun w h => h)
  · refine N.at (s' := [(5, .bool t1), (6, .slice j266.1 o265.1.length j266.2.1), (7, .slice j266.2.2.1 o265.2.length j266.2.2.2)]) (G' := own 5 1 j266.1 j266.2.1 (o265.1.map (Value.int .u8)) :: own 80 16 j266.2.2.1 j266.2.2.2 (o265.2.flatMap encT80_) :: G) rfl rfl ?_
    refine N.nx ?_
    refine C.rs ?_
    refine J.p rfl rfl rfl rfl (Y.mv rfl) ?_
    refine J.know (own_leL 0 rfl) (fun hc1049 => ?_)
    obtain ⟨t1050, hC1051, H⟩ := bind_some H
    refine J.call (us := []) (cap := []) rfl rfl rfl go35 (fun w hw => by have hcc := sRecords.calls K o265.1 ([] : List Int) j266.1 j266.2.1 none 0 (RdG.own 0 rfl) hc1049 RdG.none_ (Nat.le_refl 0) t1050 hC1051 w hw; exact hcc) (fun e w1 h1 => ?_)
    obtain ⟨A1052, c1053, rfl, hw1122⟩ := h1
    refine ⟨_, _, rfl, hw1122, ?_⟩
    refine J.p rfl rfl rfl rfl (Y.asg rfl) ?_
    refine J.nx ?_
    refine C.seq ?_
    refine C.rs ?_
    refine J.p rfl rfl rfl rfl (Y.mv rfl) ?_
    refine J.p rfl rfl rfl rfl (Y.lenS Try.underlying76 rfl) ?_
    refine J.p rfl rfl rfl rfl (Y.mv rfl) ?_
    refine J.p rfl rfl rfl rfl (Y.lenS Try.underlying76 rfl) ?_
    refine J.p rfl rfl rfl rfl (Y.bin rfl rfl rfl) ?_
    refine J.nx ?_
    refine split2 H (fun c1055 H => ?_) (fun c1055 H => ?_)
    · refine C.condT (congrArg (fun b => some (Value.bool b)) (decide_eq_true c1055)) ?_
      refine C.rs ?_
      refine J.p rfl rfl rfl rfl (Y.asg rfl) ?_
      refine J.nx ?_
      refine C.ret ?_
      obtain rfl := Option.some.inj H
      refine T.th ?_
      exact ret_ok (ks := [4]) rfl rfl (fun w h => ⟨rfl, (St.pick [] [_, _, _] h rfl)⟩)
    · refine C.condF (congrArg (fun b => some (Value.bool b)) (decide_eq_false c1055)) ?_
      refine C.skip ?_
      refine N.nx ?_
      refine C.seq ?_
      refine C.rs ?_
      refine J.p rfl rfl rfl rfl (Y.asg rfl) ?_
      refine J.nx ?_
      refine C.joinNR H (fun (o1082 : Unit) (j1083 : Unit) => [(5, .bool t1)]) (fun (o1082 : Unit) (j1083 : Unit) => G) (fun (o1082 : Unit) (j1083 : Unit) => True) (fun o1080 H HK1081 => ?_) (fun o1082 j1083 H _ => ?_)
      · refine C.blk ?_
        refine C.loop (fun (i : Nat × (Int) × (Unit)) => [(5, .bool t1), (7, .slice j266.2.2.1 o265.2.length j266.2.2.2), (13, .slice A1052 t1050.length c1053), (14, .int .i64 i.2.1)]) (fun (i : Nat × (Int) × (Unit)) => own 80 16 j266.2.2.1 j266.2.2.2 (o265.2.flatMap encT80_) :: own 80 16 A1052 c1053 (t1050.flatMap encT80_) :: G) (fun (i : Nat × (Int) × (Unit)) => ScanMade.l3 t1050 o265 i.1 i.2.1 = some o1080 ∧ (True)) (fun i => i.1) (K, 0, ()) ⟨H, trivial⟩ (by exact ⟨rfl, rfl, rfl, rfl, trivial⟩) (by exact fun w h => (St.pick [2, 0] [_, _, _] h rfl)) ?_
        rintro ⟨k1121, i1109, j1110⟩ ⟨H, _⟩
        replace H : ScanMade.l3 t1050 o265 k1121 i1109 = some o1080 := H
        obtain ⟨k1108, rfl⟩ : ∃ m, k1121 = m + 1 := by cases k1121 with | zero => exact absurd H (by simp [ScanMade.l3]) | succ m => exact ⟨m, rfl⟩
        rw [ScanMade.l3] at H
        refine C.at (s' := [(5, .bool t1), (7, .slice j266.2.2.1 o265.2.length j266.2.2.2), (13, .slice A1052 t1050.length c1053), (14, .int .i64 i1109)]) (G' := own 80 16 j266.2.2.1 j266.2.2.2 (o265.2.flatMap encT80_) :: own 80 16 A1052 c1053 (t1050.flatMap encT80_) :: G) rfl rfl ?_
        refine C.seq ?_
        refine C.rs ?_
        refine J.p rfl rfl rfl rfl (Y.mv rfl) ?_
        refine J.p rfl rfl rfl rfl (Y.mv rfl) ?_
        refine J.p rfl rfl rfl rfl (Y.lenS Try.underlying76 rfl) ?_
        refine J.p rfl rfl rfl rfl (Y.bin rfl rfl rfl) ?_
        refine J.nx ?_
        refine split2 H (fun c1111 H => ?_) (fun c1111 H => ?_)
        · refine C.condT (congrArg (fun b => some (Value.bool b)) (decide_eq_true c1111)) ?_
          refine C.skip ?_
          refine N.nx ?_
          refine C.seq ?_
          refine C.blk ?_
          refine C.seq ?_
          refine C.drawn (fuel := 9) (ls := [false, false, false, false, false, false, false, false, false]) [] (own 80 16 j266.2.2.1 j266.2.2.2 (o265.2.flatMap encT80_) :: own 80 16 A1052 c1053 (t1050.flatMap encT80_) :: G) mx rfl rfl ?_
          refine D.p (ls' := [true, false, false, false, false, false, false, false, false]) 0 rfl rfl rfl rfl (by kernel_rfl) rfl (Y.mv rfl) ?_
          refine D.p (ls' := [true, true, false, false, false, false, false, false, false]) 1 rfl rfl rfl rfl (by kernel_rfl) rfl (Y.mv rfl) ?_
          obtain ⟨p1114, H⟩ := gd_some H
          refine D.know (RdG.someM lenT80_ (by decide) (RdG.own 1 rfl) p1114) (fun hh => ?_)
          obtain ⟨a1112, ha1113⟩ := hh
          refine D.p (ls' := [true, true, true, false, false, false, false, false, false]) 2 rfl rfl rfl rfl (by kernel_rfl) rfl (Y.ixa Try.underlying76 ti80 rfl rfl p1114 ha1113) ?_
          obtain ⟨p1115, H⟩ := gd_some H
          refine D.r (ls' := [true, true, true, true, false, false, false, false, false]) 3 1 0 rfl rfl rfl rfl (by kernel_rfl) (by kernel_rfl) rfl rfl (Y.ldM (us := [.int .i64 ((rd t1050 i1109).1), .int .u64 ((rd t1050 i1109).2.1), .int .i64 ((rd t1050 i1109).2.2.1), .string ((rd t1050 i1109).2.2.2.1), .string ((rd t1050 i1109).2.2.2.2.1), .int .u64 ((rd t1050 i1109).2.2.2.2.2.1), .int .i64 ((rd t1050 i1109).2.2.2.2.2.2.1), .int .i64 ((rd t1050 i1109).2.2.2.2.2.2.2.1), .int .i64 ((rd t1050 i1109).2.2.2.2.2.2.2.2.1), .string ((rd t1050 i1109).2.2.2.2.2.2.2.2.2.1), .int .i64 ((rd t1050 i1109).2.2.2.2.2.2.2.2.2.2.1), .int .i64 ((rd t1050 i1109).2.2.2.2.2.2.2.2.2.2.2.1), .int .i64 ((rd t1050 i1109).2.2.2.2.2.2.2.2.2.2.2.2.1), .int .u32 ((rd t1050 i1109).2.2.2.2.2.2.2.2.2.2.2.2.2.1), .int .i64 ((rd t1050 i1109).2.2.2.2.2.2.2.2.2.2.2.2.2.2.1), .int .i64 ((rd t1050 i1109).2.2.2.2.2.2.2.2.2.2.2.2.2.2.2)]) lenT80_ Try.underlying80 rfl ti80 rfl ha1113 p1115 (RdG.own 1 rfl) rfl) ?_
          refine D.p (ls' := [true, true, true, true, true, false, false, false, false]) 4 rfl rfl rfl rfl (by kernel_rfl) rfl (Y.mv rfl) ?_
          refine D.p (ls' := [true, true, true, true, true, true, false, false, false]) 5 rfl rfl rfl rfl (by kernel_rfl) rfl (Y.mv rfl) ?_
          obtain ⟨p1118, H⟩ := gd_some H
          refine D.know (RdG.someM lenT80_ (by decide) (RdG.own 0 rfl) p1118) (fun hh => ?_)
          obtain ⟨a1116, ha1117⟩ := hh
          refine D.p (ls' := [true, true, true, true, true, true, true, false, false]) 6 rfl rfl rfl rfl (by kernel_rfl) rfl (Y.ixa Try.underlying76 ti80 rfl rfl p1118 ha1117) ?_
          obtain ⟨p1119, H⟩ := gd_some H
          refine D.r (ls' := [true, true, true, true, true, true, true, true, false]) 7 1 0 rfl rfl rfl rfl (by kernel_rfl) (by kernel_rfl) rfl rfl (Y.ldM (us := [.int .i64 ((rd o265.2 i1109).1), .int .u64 ((rd o265.2 i1109).2.1), .int .i64 ((rd o265.2 i1109).2.2.1), .string ((rd o265.2 i1109).2.2.2.1), .string ((rd o265.2 i1109).2.2.2.2.1), .int .u64 ((rd o265.2 i1109).2.2.2.2.2.1), .int .i64 ((rd o265.2 i1109).2.2.2.2.2.2.1), .int .i64 ((rd o265.2 i1109).2.2.2.2.2.2.2.1), .int .i64 ((rd o265.2 i1109).2.2.2.2.2.2.2.2.1), .string ((rd o265.2 i1109).2.2.2.2.2.2.2.2.2.1), .int .i64 ((rd o265.2 i1109).2.2.2.2.2.2.2.2.2.2.1), .int .i64 ((rd o265.2 i1109).2.2.2.2.2.2.2.2.2.2.2.1), .int .i64 ((rd o265.2 i1109).2.2.2.2.2.2.2.2.2.2.2.2.1), .int .u32 ((rd o265.2 i1109).2.2.2.2.2.2.2.2.2.2.2.2.2.1), .int .i64 ((rd o265.2 i1109).2.2.2.2.2.2.2.2.2.2.2.2.2.2.1), .int .i64 ((rd o265.2 i1109).2.2.2.2.2.2.2.2.2.2.2.2.2.2.2)]) lenT80_ Try.underlying80 rfl ti80 rfl ha1117 p1119 (RdG.own 0 rfl) rfl) ?_
          refine D.p (ls' := [true, true, true, true, true, true, true, true, true]) 8 rfl rfl rfl rfl (by kernel_rfl) rfl (Y.nest Try.eqGuardType80 rfl (EqV.struct Try.underlying80 Try.stoodInHeld80 (EqFs.cons rfl (part_agg (us := #[.int .i64 ((rd t1050 i1109).1), .int .u64 ((rd t1050 i1109).2.1), .int .i64 ((rd t1050 i1109).2.2.1), .string ((rd t1050 i1109).2.2.2.1), .string ((rd t1050 i1109).2.2.2.2.1), .int .u64 ((rd t1050 i1109).2.2.2.2.2.1), .int .i64 ((rd t1050 i1109).2.2.2.2.2.2.1), .int .i64 ((rd t1050 i1109).2.2.2.2.2.2.2.1), .int .i64 ((rd t1050 i1109).2.2.2.2.2.2.2.2.1), .string ((rd t1050 i1109).2.2.2.2.2.2.2.2.2.1), .int .i64 ((rd t1050 i1109).2.2.2.2.2.2.2.2.2.2.1), .int .i64 ((rd t1050 i1109).2.2.2.2.2.2.2.2.2.2.2.1), .int .i64 ((rd t1050 i1109).2.2.2.2.2.2.2.2.2.2.2.2.1), .int .u32 ((rd t1050 i1109).2.2.2.2.2.2.2.2.2.2.2.2.2.1)]) Try.underlying53 rfl ti53 (by kernel_rfl)) (part_agg (us := #[.int .i64 ((rd o265.2 i1109).1), .int .u64 ((rd o265.2 i1109).2.1), .int .i64 ((rd o265.2 i1109).2.2.1), .string ((rd o265.2 i1109).2.2.2.1), .string ((rd o265.2 i1109).2.2.2.2.1), .int .u64 ((rd o265.2 i1109).2.2.2.2.2.1), .int .i64 ((rd o265.2 i1109).2.2.2.2.2.2.1), .int .i64 ((rd o265.2 i1109).2.2.2.2.2.2.2.1), .int .i64 ((rd o265.2 i1109).2.2.2.2.2.2.2.2.1), .string ((rd o265.2 i1109).2.2.2.2.2.2.2.2.2.1), .int .i64 ((rd o265.2 i1109).2.2.2.2.2.2.2.2.2.2.1), .int .i64 ((rd o265.2 i1109).2.2.2.2.2.2.2.2.2.2.2.1), .int .i64 ((rd o265.2 i1109).2.2.2.2.2.2.2.2.2.2.2.2.1), .int .u32 ((rd o265.2 i1109).2.2.2.2.2.2.2.2.2.2.2.2.2.1)]) Try.underlying53 rfl ti53 (by kernel_rfl)) (EqV.struct Try.underlying53 Try.stoodInHeld53 (EqFs.cons rfl (part_one (v := .int .i64 ((rd t1050 i1109).1)) Try.underlying41 rfl (by kernel_rfl)) (part_one (v := .int .i64 ((rd o265.2 i1109).1)) Try.underlying41 rfl (by kernel_rfl)) (EqV.int 2 Try.underlying41) (EqFs.cons rfl (part_agg (us := #[.int .u64 ((rd t1050 i1109).2.1), .int .i64 ((rd t1050 i1109).2.2.1), .string ((rd t1050 i1109).2.2.2.1), .string ((rd t1050 i1109).2.2.2.2.1)]) Try.underlying44 rfl ti44 (by kernel_rfl)) (part_agg (us := #[.int .u64 ((rd o265.2 i1109).2.1), .int .i64 ((rd o265.2 i1109).2.2.1), .string ((rd o265.2 i1109).2.2.2.1), .string ((rd o265.2 i1109).2.2.2.2.1)]) Try.underlying44 rfl ti44 (by kernel_rfl)) (EqV.struct Try.underlying44 Try.stoodInHeld44 (EqFs.cons rfl (part_one (v := .int .u64 ((rd t1050 i1109).2.1)) Try.underlying42 rfl (by kernel_rfl)) (part_one (v := .int .u64 ((rd o265.2 i1109).2.1)) Try.underlying42 rfl (by kernel_rfl)) (EqV.int 1 Try.underlying42) (EqFs.cons rfl (part_one (v := .int .i64 ((rd t1050 i1109).2.2.1)) Try.underlying41 rfl (by kernel_rfl)) (part_one (v := .int .i64 ((rd o265.2 i1109).2.2.1)) Try.underlying41 rfl (by kernel_rfl)) (EqV.int 1 Try.underlying41) (EqFs.cons rfl (part_one (v := .string ((rd t1050 i1109).2.2.2.1)) Try.underlying9 rfl (by kernel_rfl)) (part_one (v := .string ((rd o265.2 i1109).2.2.2.1)) Try.underlying9 rfl (by kernel_rfl)) (EqV.str 1 Try.underlying9) (EqFs.cons rfl (part_one (v := .string ((rd t1050 i1109).2.2.2.2.1)) Try.underlying9 rfl (by kernel_rfl)) (part_one (v := .string ((rd o265.2 i1109).2.2.2.2.1)) Try.underlying9 rfl (by kernel_rfl)) (EqV.str 1 Try.underlying9) EqFs.nil))))) (EqFs.cons rfl (part_agg (us := #[.int .u64 ((rd t1050 i1109).2.2.2.2.2.1), .int .i64 ((rd t1050 i1109).2.2.2.2.2.2.1), .int .i64 ((rd t1050 i1109).2.2.2.2.2.2.2.1), .int .i64 ((rd t1050 i1109).2.2.2.2.2.2.2.2.1), .string ((rd t1050 i1109).2.2.2.2.2.2.2.2.2.1)]) Try.underlying46 rfl ti46 (by kernel_rfl)) (part_agg (us := #[.int .u64 ((rd o265.2 i1109).2.2.2.2.2.1), .int .i64 ((rd o265.2 i1109).2.2.2.2.2.2.1), .int .i64 ((rd o265.2 i1109).2.2.2.2.2.2.2.1), .int .i64 ((rd o265.2 i1109).2.2.2.2.2.2.2.2.1), .string ((rd o265.2 i1109).2.2.2.2.2.2.2.2.2.1)]) Try.underlying46 rfl ti46 (by kernel_rfl)) (EqV.struct Try.underlying46 Try.stoodInHeld46 (EqFs.cons rfl (part_one (v := .int .u64 ((rd t1050 i1109).2.2.2.2.2.1)) Try.underlying42 rfl (by kernel_rfl)) (part_one (v := .int .u64 ((rd o265.2 i1109).2.2.2.2.2.1)) Try.underlying42 rfl (by kernel_rfl)) (EqV.int 1 Try.underlying42) (EqFs.cons rfl (part_one (v := .int .i64 ((rd t1050 i1109).2.2.2.2.2.2.1)) Try.underlying41 rfl (by kernel_rfl)) (part_one (v := .int .i64 ((rd o265.2 i1109).2.2.2.2.2.2.1)) Try.underlying41 rfl (by kernel_rfl)) (EqV.int 1 Try.underlying41) (EqFs.cons rfl (part_one (v := .int .i64 ((rd t1050 i1109).2.2.2.2.2.2.2.1)) Try.underlying3 rfl (by kernel_rfl)) (part_one (v := .int .i64 ((rd o265.2 i1109).2.2.2.2.2.2.2.1)) Try.underlying3 rfl (by kernel_rfl)) (EqV.int 1 Try.underlying3) (EqFs.cons rfl (part_one (v := .int .i64 ((rd t1050 i1109).2.2.2.2.2.2.2.2.1)) Try.underlying3 rfl (by kernel_rfl)) (part_one (v := .int .i64 ((rd o265.2 i1109).2.2.2.2.2.2.2.2.1)) Try.underlying3 rfl (by kernel_rfl)) (EqV.int 1 Try.underlying3) (EqFs.cons rfl (part_one (v := .string ((rd t1050 i1109).2.2.2.2.2.2.2.2.2.1)) Try.underlying9 rfl (by kernel_rfl)) (part_one (v := .string ((rd o265.2 i1109).2.2.2.2.2.2.2.2.2.1)) Try.underlying9 rfl (by kernel_rfl)) (EqV.str 1 Try.underlying9) EqFs.nil)))))) (EqFs.cons rfl (part_agg (us := #[.int .i64 ((rd t1050 i1109).2.2.2.2.2.2.2.2.2.2.1), .int .i64 ((rd t1050 i1109).2.2.2.2.2.2.2.2.2.2.2.1), .int .i64 ((rd t1050 i1109).2.2.2.2.2.2.2.2.2.2.2.2.1), .int .u32 ((rd t1050 i1109).2.2.2.2.2.2.2.2.2.2.2.2.2.1)]) Try.underlying51 rfl ti51 (by kernel_rfl)) (part_agg (us := #[.int .i64 ((rd o265.2 i1109).2.2.2.2.2.2.2.2.2.2.1), .int .i64 ((rd o265.2 i1109).2.2.2.2.2.2.2.2.2.2.2.1), .int .i64 ((rd o265.2 i1109).2.2.2.2.2.2.2.2.2.2.2.2.1), .int .u32 ((rd o265.2 i1109).2.2.2.2.2.2.2.2.2.2.2.2.2.1)]) Try.underlying51 rfl ti51 (by kernel_rfl)) (EqV.struct Try.underlying51 Try.stoodInHeld51 (EqFs.cons rfl (part_one (v := .int .i64 ((rd t1050 i1109).2.2.2.2.2.2.2.2.2.2.1)) Try.underlying3 rfl (by kernel_rfl)) (part_one (v := .int .i64 ((rd o265.2 i1109).2.2.2.2.2.2.2.2.2.2.1)) Try.underlying3 rfl (by kernel_rfl)) (EqV.int 1 Try.underlying3) (EqFs.cons rfl (part_agg (us := #[.int .i64 ((rd t1050 i1109).2.2.2.2.2.2.2.2.2.2.2.1), .int .i64 ((rd t1050 i1109).2.2.2.2.2.2.2.2.2.2.2.2.1), .int .u32 ((rd t1050 i1109).2.2.2.2.2.2.2.2.2.2.2.2.2.1)]) Try.underlying49 rfl ti49 (by kernel_rfl)) (part_agg (us := #[.int .i64 ((rd o265.2 i1109).2.2.2.2.2.2.2.2.2.2.2.1), .int .i64 ((rd o265.2 i1109).2.2.2.2.2.2.2.2.2.2.2.2.1), .int .u32 ((rd o265.2 i1109).2.2.2.2.2.2.2.2.2.2.2.2.2.1)]) Try.underlying49 rfl ti49 (by kernel_rfl)) (EqV.struct Try.underlying49 Try.stoodInHeld49 (EqFs.cons rfl (part_one (v := .int .i64 ((rd t1050 i1109).2.2.2.2.2.2.2.2.2.2.2.1)) Try.underlying3 rfl (by kernel_rfl)) (part_one (v := .int .i64 ((rd o265.2 i1109).2.2.2.2.2.2.2.2.2.2.2.1)) Try.underlying3 rfl (by kernel_rfl)) (EqV.int 0 Try.underlying3) (EqFs.cons rfl (part_one (v := .int .i64 ((rd t1050 i1109).2.2.2.2.2.2.2.2.2.2.2.2.1)) Try.underlying3 rfl (by kernel_rfl)) (part_one (v := .int .i64 ((rd o265.2 i1109).2.2.2.2.2.2.2.2.2.2.2.2.1)) Try.underlying3 rfl (by kernel_rfl)) (EqV.int 0 Try.underlying3) (EqFs.cons rfl (part_one (v := .int .u32 ((rd t1050 i1109).2.2.2.2.2.2.2.2.2.2.2.2.2.1)) Try.underlying47 rfl (by kernel_rfl)) (part_one (v := .int .u32 ((rd o265.2 i1109).2.2.2.2.2.2.2.2.2.2.2.2.2.1)) Try.underlying47 rfl (by kernel_rfl)) (EqV.int 0 Try.underlying47) EqFs.nil)))) EqFs.nil))) EqFs.nil))))) (EqFs.cons rfl (part_one (v := .int .i64 ((rd t1050 i1109).2.2.2.2.2.2.2.2.2.2.2.2.2.2.1)) Try.underlying3 rfl (by kernel_rfl)) (part_one (v := .int .i64 ((rd o265.2 i1109).2.2.2.2.2.2.2.2.2.2.2.2.2.2.1)) Try.underlying3 rfl (by kernel_rfl)) (EqV.int 3 Try.underlying3) (EqFs.cons rfl (part_one (v := .int .i64 ((rd t1050 i1109).2.2.2.2.2.2.2.2.2.2.2.2.2.2.2)) Try.underlying3 rfl (by kernel_rfl)) (part_one (v := .int .i64 ((rd o265.2 i1109).2.2.2.2.2.2.2.2.2.2.2.2.2.2.2)) Try.underlying3 rfl (by kernel_rfl)) (EqV.int 3 Try.underlying3) EqFs.nil)))) rfl rfl) ?_
          refine D.nil (by kernel_rfl) ?_
          refine N.nx ?_
          refine split2 H (fun c1120 H => ?_) (fun c1120 H => ?_)
          · refine C.condF (congrArg (fun b => some (Value.bool b)) (congrArg Bool.not (decide_eq_true c1120))) ?_
            refine C.skip ?_
            refine N.ib ?_
            refine N.nx ?_
            refine C.reg ?_
            refine J.p rfl rfl rfl rfl (Y.mv rfl) ?_
            refine J.p rfl rfl rfl rfl (Y.bin rfl rfl rfl) ?_
            refine J.p rfl rfl rfl rfl (Y.asg rfl) ?_
            refine J.nil ?_
            exact N.again (k1108, IntKind.wrap .i64 (i1109 + 1), ()) ⟨H, trivial⟩ (Nat.lt_succ_self _) (by exact ⟨rfl, rfl, rfl, rfl, trivial⟩) (by exact fun w h => h)
          · refine C.condT (congrArg (fun b => some (Value.bool b)) (congrArg Bool.not (decide_eq_false c1120))) ?_
            refine C.rs ?_
            refine J.p rfl rfl rfl rfl (Y.asg rfl) ?_
            refine J.nx ?_
            refine C.ret ?_
            obtain rfl := Option.some.inj H
            obtain rfl := fin_inl HK1081
            refine T.ib ?_
            refine T.th ?_
            refine T.th ?_
            refine T.ib ?_
            refine T.th ?_
            refine T.th ?_
            exact ret_ok (ks := [4]) rfl rfl (fun w h => ⟨rfl, (St.pick [] [_, _] h rfl)⟩)
        · refine C.condF (congrArg (fun b => some (Value.bool b)) (decide_eq_false c1111)) ?_
          refine C.exit ?_
          refine X.th ?_
          refine X.th ?_
          refine X.hit ?_
          obtain rfl := Option.some.inj H
          exact N.meet ((), ()) ⟨fin_inr HK1081, trivial⟩ (by exact ⟨rfl, trivial⟩) (by exact fun w h => (St.pick [] [_, _] h rfl))
      · refine N.at (s' := [(5, .bool t1)]) (G' := G) rfl rfl ?_
        refine N.nx ?_
        refine C.rs ?_
        refine J.p rfl rfl rfl rfl (Y.mv rfl) ?_
        refine J.p rfl rfl rfl rfl (Y.asg rfl) ?_
        refine J.nx ?_
        refine C.ret ?_
        obtain rfl := Option.some.inj H
        exact ret_ok (ks := [4]) rfl rfl (fun w h => ⟨rfl, h⟩)
end Go.Proofs.Ytkblnahoidbfkaa
