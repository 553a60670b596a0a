/- Own text, printed by the lifting program: each Go function beside a plain function, and the proof that a call of the one comes to the other. Conditions: what came in can be read. -/
import Derived.Test.YtmbhpcdamfdphaaLiftC
set_option linter.unusedVariables false
set_option linter.unusedSimpArgs false
set_option maxRecDepth 10000
set_option maxHeartbeats 4000000
namespace Go.Proofs.Ytmbhpcdamfdphaa
open Go Go.Sx
theorem go11 : GoF Try.prog 11 := GoF.of Try.func11 (by kernel_rfl) (by kernel_rfl)
theorem go19 : GoF Try.prog 19 := GoF.of Try.func19 (by kernel_rfl) (by kernel_rfl)
/-! ### salvor/salvorlaw10.HintForged: function 6 -/
def HintForged.l1 (K : Nat) (a0 : List T44_) : Nat → ((List Int) × (List T44_) × Int × Int) → Option ((List Int) × (List T44_) × Int)
  | 0, _ => none
  | k + 1, i150 => (if i150.2.2.2 < (a0.length : Int) then (some (decide (i150.2.2.2 < 100))) else (some false)).bind fun o157 => if o157 = true then ((gd ((0 : Int) ≤ i150.2.2.2 ∧ i150.2.2.2 < (a0.length : Int)) (gd ((0 : Int) ≤ i150.2.2.2 ∧ i150.2.2.2 < (a0.length : Int)) ((fEncode.f K 3 0 0 ByteArray.empty ByteArray.empty ((rd a0 i150.2.2.2).1) ((rd a0 i150.2.2.2).2.1) i150.2.2.1 ((rd a0 i150.2.2.2).2.2.2.1) ((rd a0 i150.2.2.2).2.2.2.2) 0 0 0 0).bind fun t198 => if t198.2 = 0 then (gd ((i150.1.length + t198.1.length) * 1 ≤ 140737488355328) (gd ((i150.2.1.length + [((rd a0 i150.2.2.2).1, (rd a0 i150.2.2.2).2.1, i150.2.2.1, (rd a0 i150.2.2.2).2.2.2.1, (rd a0 i150.2.2.2).2.2.2.2)].length) * 48 ≤ 140737488355328) (some ((i150.1 ++ t198.1), (i150.2.1 ++ [((rd a0 i150.2.2.2).1, (rd a0 i150.2.2.2).2.1, i150.2.2.1, (rd a0 i150.2.2.2).2.2.2.1, (rd a0 i150.2.2.2).2.2.2.2)]), IntKind.wrap .i64 (i150.2.2.1 + ((rd a0 i150.2.2.2).2.2.2.1)))))) else (some (i150.1, i150.2.1, i150.2.2.1))))).bind fun o188 => HintForged.l1 K a0 k (o188.1, o188.2.1, o188.2.2, IntKind.wrap .i64 (i150.2.2.2 + 1))) else (some (i150.1, i150.2.1, i150.2.2.1))
def HintForged.f (K : Nat) (a0 : List T44_) (a1 : Int) : Option (Bool) := (known.f K).bind fun t1 => (HintForged.l1 K a0 K (([] : List Int), ([] : List T44_), 0, 0)).bind fun o75 => (fEncode.f K 4 0 0 ByteArray.empty ByteArray.empty 0 0 0 0 ByteArray.empty (o75.2.1.length : Int) o75.2.2 (o75.2.1.length : Int) a1).bind fun t218 => if t218.2 ≠ 0 then (if t1 = true then (some (decide (4194304 < o75.2.2))) else (some false)) else (gd ((o75.1.length + t218.1.length) * 1 ≤ 140737488355328) ((hLoad.f K (o75.1 ++ t218.1) o75.2.2 (o75.2.1.length : Int) a1).bind fun t230 => (samePointers.f K t230.1 o75.2.1).bind fun t237 => if t1 = true then (if t230.2 = 1 then (some t237) else (some false)) else (some false)))
theorem HintForged.calls {B : Nat} {w0 : World} {G : List HP} (K : Nat) (a0 : List T44_) (a1 : Int) (Aa0 : Option Addr) (ca0 : Nat) (ha0 : RdG B w0 G Aa0 (a0.flatMap encT44_)) (ka0 : a0.length ≤ ca0) (r : Bool) (H : HintForged.f K a0 a1 = some r) (w : World) (hw : St B w0 (G) w) :
    Calls Try.prog 6 [.slice Aa0 a0.length ca0, .int .u32 a1].toArray w (fun e w' => e = .returned (.bool r) ∧ St B w0 (G) w') := by
  unfold HintForged.f at H
  refine calls_of (n := 96) (s := [(0, .slice Aa0 a0.length ca0), (1, .int .u32 a1)]) Try.func6 rfl rfl rfl rfl ?_ hw
  refine C.rs ?_
  refine J.p rfl rfl rfl rfl (Y.asg rfl) ?_
  refine J.nx ?_
  refine C.rs ?_
  obtain ⟨t1, hC2, H⟩ := bind_some H
  refine J.call (us := []) (cap := []) rfl rfl rfl go11 (fun w hw => by have hcc := known.calls K t1 hC2 w hw; exact hcc) (fun e w1 h1 => ?_)
  obtain ⟨rfl, hw244⟩ := h1
  refine ⟨_, _, rfl, hw244, ?_⟩
  refine J.p rfl rfl rfl rfl (Y.asg rfl) ?_
  refine J.nx ?_
  refine C.rs ?_
  refine J.p rfl rfl rfl rfl (Y.asg rfl) ?_
  refine J.nx ?_
  refine C.rs ?_
  refine J.p rfl rfl rfl rfl (Y.asg rfl) ?_
  refine J.nx ?_
  refine C.rs ?_
  refine J.p rfl rfl rfl rfl (Y.asg rfl) ?_
  refine J.nx ?_
  refine C.seq ?_
  refine C.rs ?_
  refine J.p rfl rfl rfl rfl (Y.asg rfl) ?_
  refine J.nx ?_
  refine C.joinN H (fun (o75 : (List Int) × (List T44_) × Int) (j76 : (Option Addr) × Nat × (Option Addr) × Nat) => [(1, .int .u32 a1), (5, .bool t1), (6, .slice j76.1 o75.1.length j76.2.1), (7, .slice j76.2.2.1 o75.2.1.length j76.2.2.2), (8, .int .i64 o75.2.2)]) (fun (o75 : (List Int) × (List T44_) × Int) (j76 : (Option Addr) × Nat × (Option Addr) × Nat) => own 5 1 j76.1 j76.2.1 (o75.1.map (Value.int .u8)) :: own 44 5 j76.2.2.1 j76.2.2.2 (o75.2.1.flatMap encT44_) :: G) (fun (o75 : (List Int) × (List T44_) × Int) (j76 : (Option Addr) × Nat × (Option Addr) × Nat) => True) (fun o73 H HK74 => ?_) (fun o75 j76 H _ => ?_)
  · refine C.blk ?_
    refine C.loop (fun (i : Nat × ((List Int) × (List T44_) × Int × Int) × ((Option Addr) × Nat × (Option Addr) × Nat)) => [(0, .slice Aa0 a0.length ca0), (1, .int .u32 a1), (5, .bool t1), (6, .slice i.2.2.1 i.2.1.1.length i.2.2.2.1), (7, .slice i.2.2.2.2.1 i.2.1.2.1.length i.2.2.2.2.2), (8, .int .i64 i.2.1.2.2.1), (9, .int .i64 i.2.1.2.2.2)]) (fun (i : Nat × ((List Int) × (List T44_) × Int × Int) × ((Option Addr) × Nat × (Option Addr) × Nat)) => own 5 1 i.2.2.1 i.2.2.2.1 (i.2.1.1.map (Value.int .u8)) :: own 44 5 i.2.2.2.2.1 i.2.2.2.2.2 (i.2.1.2.1.flatMap encT44_) :: G) (fun (i : Nat × ((List Int) × (List T44_) × Int × Int) × ((Option Addr) × Nat × (Option Addr) × Nat)) => HintForged.l1 K a0 i.1 i.2.1 = some o73 ∧ (True)) (fun i => i.1) (K, (([] : List Int), ([] : List T44_), 0, 0), (none, 0, none, 0)) ⟨H, trivial⟩ (by exact ⟨rfl, rfl, rfl, rfl, rfl, rfl, rfl, trivial⟩) (by exact fun w h => (St.pick [1, 0] [_, _] ((h.nilOwn 5 1).nilOwn 44 5) rfl)) ?_
    rintro ⟨k215, i150, j151⟩ ⟨H, _⟩
    replace H : HintForged.l1 K a0 k215 i150 = some o73 := H
    obtain ⟨k149, rfl⟩ : ∃ m, k215 = m + 1 := by cases k215 with | zero => exact absurd H (by simp [HintForged.l1]) | succ m => exact ⟨m, rfl⟩
    rw [HintForged.l1] at H
    refine C.at (s' := [(0, .slice Aa0 a0.length ca0), (1, .int .u32 a1), (5, .bool t1), (6, .slice j151.1 i150.1.length j151.2.1), (7, .slice j151.2.2.1 i150.2.1.length j151.2.2.2), (8, .int .i64 i150.2.2.1), (9, .int .i64 i150.2.2.2)]) (G' := own 5 1 j151.1 j151.2.1 (i150.1.map (Value.int .u8)) :: own 44 5 j151.2.2.1 j151.2.2.2 (i150.2.1.flatMap encT44_) :: G) rfl rfl ?_
    refine C.seq ?_
    refine C.rs ?_
    refine J.joinB H (fun (o157 : Bool) (j158 : Unit) => [(0, .slice Aa0 a0.length ca0), (1, .int .u32 a1), (5, .bool t1), (6, .slice j151.1 i150.1.length j151.2.1), (7, .slice j151.2.2.1 i150.2.1.length j151.2.2.2), (8, .int .i64 i150.2.2.1), (9, .int .i64 i150.2.2.2), (27, .bool o157)]) (fun (o157 : Bool) (j158 : Unit) => own 5 1 j151.1 j151.2.1 (i150.1.map (Value.int .u8)) :: own 44 5 j151.2.2.1 j151.2.2.2 (i150.2.1.flatMap encT44_) :: G) (fun (o157 : Bool) (j158 : Unit) => True) (fun o159 H HK160 => ?_) (fun o157 j158 H _ => ?_)
    · refine J.p rfl rfl rfl rfl (Y.mv rfl) ?_
      refine J.p rfl rfl rfl rfl (Y.mv rfl) ?_
      refine J.p rfl rfl rfl rfl (Y.lenS Try.underlying36 rfl) ?_
      refine J.p rfl rfl rfl rfl (Y.bin rfl rfl rfl) ?_
      refine J.p rfl rfl rfl rfl (Y.mv rfl) ?_
      refine split2 H (fun c161 H => ?_) (fun c161 H => ?_)
      · refine J.as (k := 24) rfl (congrArg Value.bool (decide_eq_true c161)) ?_
        refine J.p rfl rfl rfl rfl (Y.mv rfl) ?_
        refine J.p rfl rfl rfl rfl (Y.bin rfl rfl rfl) ?_
        refine J.p rfl rfl rfl rfl (Y.pickT rfl rfl) ?_
        refine J.nil ?_
        obtain rfl := Option.some.inj H
        exact N.meet (decide (i150.2.2.2 < 100), ()) ⟨HK160, trivial⟩ (by exact ⟨rfl, rfl, rfl, rfl, rfl, rfl, rfl, rfl, trivial⟩) (by exact fun w h => h)
      · refine J.as (k := 24) rfl (congrArg Value.bool (decide_eq_false c161)) ?_
        refine J.skip rfl rfl ?_
        refine J.skip rfl rfl ?_
        refine J.p rfl rfl rfl rfl (Y.pickF rfl rfl) ?_
        refine J.nil ?_
        obtain rfl := Option.some.inj H
        exact N.meet (false, ()) ⟨HK160, trivial⟩ (by exact ⟨rfl, rfl, rfl, rfl, rfl, rfl, rfl, rfl, trivial⟩) (by exact fun w h => h)
    · refine C.at (s' := [(0, .slice Aa0 a0.length ca0), (1, .int .u32 a1), (5, .bool t1), (6, .slice j151.1 i150.1.length j151.2.1), (7, .slice j151.2.2.1 i150.2.1.length j151.2.2.2), (8, .int .i64 i150.2.2.1), (9, .int .i64 i150.2.2.2), (27, .bool o157)]) (G' := own 5 1 j151.1 j151.2.1 (i150.1.map (Value.int .u8)) :: own 44 5 j151.2.2.1 j151.2.2.2 (i150.2.1.flatMap encT44_) :: G) rfl rfl ?_
      refine split2 H (fun c162 H => ?_) (fun c162 H => ?_)
      · refine C.condT (congrArg (fun b => some (Value.bool b)) (c162)) ?_
        refine C.skip ?_
        refine N.nx ?_
        refine C.joinB H (fun (o188 : (List Int) × (List T44_) × Int) (j189 : (Option Addr) × Nat × (Option Addr) × Nat) => [(0, .slice Aa0 a0.length ca0), (1, .int .u32 a1), (5, .bool t1), (6, .slice j189.1 o188.1.length j189.2.1), (7, .slice j189.2.2.1 o188.2.1.length j189.2.2.2), (8, .int .i64 o188.2.2), (9, .int .i64 i150.2.2.2)]) (fun (o188 : (List Int) × (List T44_) × Int) (j189 : (Option Addr) × Nat × (Option Addr) × Nat) => own 5 1 j189.1 j189.2.1 (o188.1.map (Value.int .u8)) :: own 44 5 j189.2.2.1 j189.2.2.2 (o188.2.1.flatMap encT44_) :: G) (fun (o188 : (List Int) × (List T44_) × Int) (j189 : (Option Addr) × Nat × (Option Addr) × Nat) => True) (fun o186 H HK187 => ?_) (fun o188 j189 H _ => ?_)
        · refine C.blk ?_
          refine C.rs ?_
          refine J.p rfl rfl rfl rfl (Y.mv rfl) ?_
          refine J.p rfl rfl rfl rfl (Y.mv rfl) ?_
          obtain ⟨p194, H⟩ := gd_some H
          refine J.know (RdG.someM lenT44_ (by decide) (ha0.suf [_, _] rfl) p194) (fun hh => ?_)
          obtain ⟨a192, ha193⟩ := hh
          refine J.p rfl rfl rfl rfl (Y.ixa Try.underlying36 ti44 rfl rfl p194 ha193) ?_
          obtain ⟨p195, H⟩ := gd_some H
          refine J.r rfl rfl rfl rfl (Y.ldM (us := [.int .u64 ((rd a0 i150.2.2.2).1), .int .i64 ((rd a0 i150.2.2.2).2.1), .int .i64 ((rd a0 i150.2.2.2).2.2.1), .int .i64 ((rd a0 i150.2.2.2).2.2.2.1), .string ((rd a0 i150.2.2.2).2.2.2.2)]) lenT44_ Try.underlying44 rfl ti44 rfl ha193 p195 (ha0.suf [_, _] rfl) rfl) ?_
          refine J.alloc (L := [.int .u64 0, .int .i64 0, .int .i64 0, .int .i64 0, .string ByteArray.empty]) rfl ti44 rfl (fun g196 => ?_)
          refine J.stA (us := [.int .u64 ((rd a0 i150.2.2.2).1), .int .i64 ((rd a0 i150.2.2.2).2.1), .int .i64 ((rd a0 i150.2.2.2).2.2.1), .int .i64 ((rd a0 i150.2.2.2).2.2.2.1), .string ((rd a0 i150.2.2.2).2.2.2.2)]) (L' := [.int .u64 ((rd a0 i150.2.2.2).1), .int .i64 ((rd a0 i150.2.2.2).2.1), .int .i64 ((rd a0 i150.2.2.2).2.2.1), .int .i64 ((rd a0 i150.2.2.2).2.2.2.1), .string ((rd a0 i150.2.2.2).2.2.2.2)]) ti44 rfl rfl rfl rfl rfl rfl ?_
          refine J.nx ?_
          refine C.rs ?_
          refine J.p rfl rfl rfl rfl (Y.mv rfl) ?_
          refine J.p rfl rfl rfl rfl (Y.fa0 fa44_2 rfl rfl) ?_
          refine J.stE (L' := [.int .u64 ((rd a0 i150.2.2.2).1), .int .i64 ((rd a0 i150.2.2.2).2.1), .int .i64 i150.2.2.1, .int .i64 ((rd a0 i150.2.2.2).2.2.2.1), .string ((rd a0 i150.2.2.2).2.2.2.2)]) ti3 rfl rfl rfl rfl rfl ?_
          refine J.nx ?_
          refine C.rs ?_
          refine J.r rfl rfl rfl rfl (Y.ldCA (us := [.int .u64 ((rd a0 i150.2.2.2).1), .int .i64 ((rd a0 i150.2.2.2).2.1), .int .i64 i150.2.2.1, .int .i64 ((rd a0 i150.2.2.2).2.2.2.1), .string ((rd a0 i150.2.2.2).2.2.2.2)]) 0 Try.underlying44 rfl ti44 rfl rfl rfl rfl) ?_
          refine J.p rfl rfl rfl rfl (Y.bld (cs := [.int .i64 3, .int .u64 0, .int .i64 0, .string ByteArray.empty, .string ByteArray.empty, .int .u64 ((rd a0 i150.2.2.2).1), .int .i64 ((rd a0 i150.2.2.2).2.1), .int .i64 i150.2.2.1, .int .i64 ((rd a0 i150.2.2.2).2.2.2.1), .string ((rd a0 i150.2.2.2).2.2.2.2), .int .i64 0, .int .i64 0, .int .i64 0, .int .u32 0]) rfl pl54 ti54 rfl (by kernel_rfl)) ?_
          obtain ⟨t198, hC199, H⟩ := bind_some H
          refine J.call (us := []) (cap := []) rfl rfl rfl go22 (fun w hw => by have hcc := fEncode.calls K 3 0 0 ByteArray.empty ByteArray.empty ((rd a0 i150.2.2.2).1) ((rd a0 i150.2.2.2).2.1) i150.2.2.1 ((rd a0 i150.2.2.2).2.2.2.1) ((rd a0 i150.2.2.2).2.2.2.2) 0 0 0 0 t198 hC199 w hw; exact hcc) (fun e w1 h1 => ?_)
          obtain ⟨A200, c201, rfl, hw214⟩ := h1
          refine ⟨_, _, rfl, hw214, ?_⟩
          refine J.p rfl rfl rfl rfl (Y.mv rfl) ?_
          refine J.p rfl rfl rfl rfl (Y.ext rfl rfl) ?_
          refine J.p rfl rfl rfl rfl (Y.ext rfl rfl) ?_
          refine J.p rfl rfl rfl rfl (Y.asg rfl) ?_
          refine J.p rfl rfl rfl rfl (Y.asg rfl) ?_
          refine J.nx ?_
          refine C.rs ?_
          refine J.p rfl rfl rfl rfl (Y.mv rfl) ?_
          refine J.p rfl rfl rfl rfl (Y.bin rfl rfl rfl) ?_
          refine J.nx ?_
          refine split2 H (fun c203 H => ?_) (fun c203 H => ?_)
          · refine C.condT (congrArg (fun b => some (Value.bool b)) (decide_eq_true c203)) ?_
            refine C.rs ?_
            refine J.p rfl rfl rfl rfl (Y.mv rfl) ?_
            refine J.p rfl rfl rfl rfl (Y.mv rfl) ?_
            refine J.pull 2 rfl rfl ?_
            obtain ⟨p206, H⟩ := gd_some H
            refine J.appL (enc := (Value.int .u8)) (xs := i150.1) (ys := t198.1) rfl Try.underlying22 ti5 rfl (by decide) rfl rfl (fun _ => rfl) (RdG.own 1 rfl) p206 (fun A204 c205 => ?_)
            refine J.pull 1 rfl rfl (J.drop ?_)
            refine J.p rfl rfl rfl rfl (Y.asg rfl) ?_
            refine J.nx ?_
            refine C.rs ?_
            refine J.p rfl rfl rfl rfl (Y.mv rfl) ?_
            refine J.r rfl rfl rfl rfl (Y.ldCA (us := [.int .u64 ((rd a0 i150.2.2.2).1), .int .i64 ((rd a0 i150.2.2.2).2.1), .int .i64 i150.2.2.1, .int .i64 ((rd a0 i150.2.2.2).2.2.2.1), .string ((rd a0 i150.2.2.2).2.2.2.2)]) 1 Try.underlying44 rfl ti44 rfl rfl rfl rfl) ?_
            refine J.bsM (enc := encT44_) (xs := [((rd a0 i150.2.2.2).1, (rd a0 i150.2.2.2).2.1, i150.2.2.1, (rd a0 i150.2.2.2).2.2.2.1, (rd a0 i150.2.2.2).2.2.2.2)]) (zs := [.int .u64 0, .int .i64 0, .int .i64 0, .int .i64 0, .string ByteArray.empty]) lenT44_ rfl Try.underlying36 ti44 (by kernel_rfl) rfl (by kernel_rfl) rfl rfl rfl (fun A208 => ?_)
            refine J.pull 3 rfl rfl ?_
            obtain ⟨p212, H⟩ := gd_some H
            refine J.appM (enc := encT44_) (xs := i150.2.1) (ys := [((rd a0 i150.2.2.2).1, (rd a0 i150.2.2.2).2.1, i150.2.2.1, (rd a0 i150.2.2.2).2.2.2.1, (rd a0 i150.2.2.2).2.2.2.2)]) lenT44_ oneT44_ rfl Try.underlying36 ti44 rfl (by decide) (by decide) rfl rfl (RdG.own 1 rfl) p212 (fun A210 c211 => ?_)
            refine J.pull 1 rfl rfl (J.drop ?_)
            refine J.p rfl rfl rfl rfl (Y.asg rfl) ?_
            refine J.nx ?_
            refine C.reg ?_
            refine J.p rfl rfl rfl rfl (Y.mv rfl) ?_
            refine J.p rfl rfl rfl rfl (Y.fa0 fa44_3 rfl rfl) ?_
            refine J.r rfl rfl rfl rfl (Y.ldC 2 Try.underlying3 rfl rfl rfl rfl) ?_
            refine J.p rfl rfl rfl rfl (Y.bin rfl rfl rfl) ?_
            refine J.p rfl rfl rfl rfl (Y.asg rfl) ?_
            refine J.nil ?_
            refine N.ib ?_
            obtain rfl := Option.some.inj H
            exact N.meet (((i150.1 ++ t198.1), (i150.2.1 ++ [((rd a0 i150.2.2.2).1, (rd a0 i150.2.2.2).2.1, i150.2.2.1, (rd a0 i150.2.2.2).2.2.2.1, (rd a0 i150.2.2.2).2.2.2.2)]), IntKind.wrap .i64 (i150.2.2.1 + ((rd a0 i150.2.2.2).2.2.2.1))), (A204, c205, A210, c211)) ⟨HK187, trivial⟩ (by exact ⟨rfl, rfl, rfl, rfl, rfl, rfl, rfl, trivial⟩) (by exact fun w h => (St.pick [1, 0] [_, _, _] h rfl))
          · refine C.condF (congrArg (fun b => some (Value.bool b)) (decide_eq_false c203)) ?_
            refine C.skip ?_
            refine N.ib ?_
            obtain rfl := Option.some.inj H
            exact N.meet ((i150.1, i150.2.1, i150.2.2.1), (j151.1, j151.2.1, j151.2.2.1, j151.2.2.2)) ⟨HK187, trivial⟩ (by exact ⟨rfl, rfl, rfl, rfl, rfl, rfl, rfl, trivial⟩) (by exact fun w h => (St.pick [2, 3] [_, _, _, _] h rfl))
        · refine C.at (s' := [(0, .slice Aa0 a0.length ca0), (1, .int .u32 a1), (5, .bool t1), (6, .slice j189.1 o188.1.length j189.2.1), (7, .slice j189.2.2.1 o188.2.1.length j189.2.2.2), (8, .int .i64 o188.2.2), (9, .int .i64 i150.2.2.2)]) (G' := own 5 1 j189.1 j189.2.1 (o188.1.map (Value.int .u8)) :: own 44 5 j189.2.2.1 j189.2.2.2 (o188.2.1.flatMap encT44_) :: G) rfl rfl ?_
          refine C.reg ?_
          refine J.p rfl rfl rfl rfl (Y.mv rfl) ?_
          refine J.p rfl rfl rfl rfl (Y.bin rfl rfl rfl) ?_
          refine J.p rfl rfl rfl rfl (Y.asg rfl) ?_
          refine J.nil ?_
          exact N.again (k149, (o188.1, o188.2.1, o188.2.2, IntKind.wrap .i64 (i150.2.2.2 + 1)), (j189.1, j189.2.1, j189.2.2.1, j189.2.2.2)) ⟨H, trivial⟩ (Nat.lt_succ_self _) (by exact ⟨rfl, rfl, rfl, rfl, rfl, rfl, rfl, trivial⟩) (by exact fun w h => h)
      · refine C.condF (congrArg (fun b => some (Value.bool b)) (nt c162)) ?_
        refine C.exit ?_
        refine X.th ?_
        refine X.th ?_
        refine X.hit ?_
        obtain rfl := Option.some.inj H
        exact N.meet ((i150.1, i150.2.1, i150.2.2.1), (j151.1, j151.2.1, j151.2.2.1, j151.2.2.2)) ⟨HK74, trivial⟩ (by exact ⟨rfl, rfl, rfl, rfl, rfl, trivial⟩) (by exact fun w h => h)
  · refine N.at (s' := [(1, .int .u32 a1), (5, .bool t1), (6, .slice j76.1 o75.1.length j76.2.1), (7, .slice j76.2.2.1 o75.2.1.length j76.2.2.2), (8, .int .i64 o75.2.2)]) (G' := own 5 1 j76.1 j76.2.1 (o75.1.map (Value.int .u8)) :: own 44 5 j76.2.2.1 j76.2.2.2 (o75.2.1.flatMap encT44_) :: G) rfl rfl ?_
    refine N.nx ?_
    refine C.rs ?_
    refine J.p rfl rfl rfl rfl (Y.mv rfl) ?_
    refine J.p rfl rfl rfl rfl (Y.mv rfl) ?_
    refine J.p rfl rfl rfl rfl (Y.lenS Try.underlying36 rfl) ?_
    refine J.p rfl rfl rfl rfl (Y.mv rfl) ?_
    refine J.p rfl rfl rfl rfl (Y.bld (cs := [.int .i64 o75.2.2, .int .i64 (o75.2.1.length : Int), .int .u32 a1]) rfl pl35 ti35 rfl (by kernel_rfl)) ?_
    refine J.alloc (L := [.int .i64 0, .int .i64 0, .int .u32 0]) rfl ti35 rfl (fun g216 => ?_)
    refine J.stA (us := [.int .i64 o75.2.2, .int .i64 (o75.2.1.length : Int), .int .u32 a1]) (L' := [.int .i64 o75.2.2, .int .i64 (o75.2.1.length : Int), .int .u32 a1]) ti35 rfl rfl rfl rfl rfl rfl ?_
    refine J.nx ?_
    refine C.rs ?_
    refine J.p rfl rfl rfl rfl (Y.mv rfl) ?_
    refine J.p rfl rfl rfl rfl (Y.lenS Try.underlying36 rfl) ?_
    refine J.r rfl rfl rfl rfl (Y.ldCA (us := [.int .i64 o75.2.2, .int .i64 (o75.2.1.length : Int), .int .u32 a1]) 0 Try.underlying35 rfl ti35 rfl rfl rfl rfl) ?_
    refine J.p rfl rfl rfl rfl (Y.bld (cs := [.int .i64 (o75.2.1.length : Int), .int .i64 o75.2.2, .int .i64 (o75.2.1.length : Int), .int .u32 a1]) rfl pl52 ti52 rfl (by kernel_rfl)) ?_
    refine J.p rfl rfl rfl rfl (Y.bld (cs := [.int .i64 4, .int .u64 0, .int .i64 0, .string ByteArray.empty, .string ByteArray.empty, .int .u64 0, .int .i64 0, .int .i64 0, .int .i64 0, .string ByteArray.empty, .int .i64 (o75.2.1.length : Int), .int .i64 o75.2.2, .int .i64 (o75.2.1.length : Int), .int .u32 a1]) rfl pl54 ti54 rfl (by kernel_rfl)) ?_
    obtain ⟨t218, hC219, H⟩ := bind_some H
    refine J.call (us := []) (cap := []) rfl rfl rfl go22 (fun w hw => by have hcc := fEncode.calls K 4 0 0 ByteArray.empty ByteArray.empty 0 0 0 0 ByteArray.empty (o75.2.1.length : Int) o75.2.2 (o75.2.1.length : Int) a1 t218 hC219 w hw; exact hcc) (fun e w1 h1 => ?_)
    obtain ⟨A220, c221, rfl, hw243⟩ := h1
    refine ⟨_, _, rfl, hw243, ?_⟩
    refine J.p rfl rfl rfl rfl (Y.mv rfl) ?_
    refine J.p rfl rfl rfl rfl (Y.ext rfl rfl) ?_
    refine J.p rfl rfl rfl rfl (Y.ext rfl rfl) ?_
    refine J.p rfl rfl rfl rfl (Y.asg rfl) ?_
    refine J.p rfl rfl rfl rfl (Y.asg rfl) ?_
    refine J.nx ?_
    refine C.seq ?_
    refine C.rs ?_
    refine J.p rfl rfl rfl rfl (Y.mv rfl) ?_
    refine J.p rfl rfl rfl rfl (Y.bin rfl rfl rfl) ?_
    refine J.nx ?_
    refine split2 H (fun c223 H => ?_) (fun c223 H => ?_)
    · refine C.condT (congrArg (fun b => some (Value.bool b)) (decide_eq_true c223)) ?_
      refine C.rs ?_
      refine J.p rfl rfl rfl rfl (Y.mv rfl) ?_
      refine J.p rfl rfl rfl rfl (Y.mv rfl) ?_
      refine split2 H (fun c224 H => ?_) (fun c224 H => ?_)
      · refine J.as (k := 72) rfl (congrArg Value.bool (c224)) ?_
        refine J.p rfl rfl rfl rfl (Y.mv rfl) ?_
        refine J.p rfl rfl rfl rfl (Y.bin rfl rfl rfl) ?_
        refine J.p rfl rfl rfl rfl (Y.pickT rfl rfl) ?_
        refine J.p rfl rfl rfl rfl (Y.asg rfl) ?_
        refine J.nx ?_
        refine C.ret ?_
        obtain rfl := Option.some.inj H
        refine T.th ?_
        exact ret_ok (ks := [4]) rfl rfl (fun w h => ⟨rfl, (St.pick [] [_, _, _, _] h rfl)⟩)
      · refine J.as (k := 72) rfl (congrArg Value.bool (nt c224)) ?_
        refine J.skip rfl rfl ?_
        refine J.skip rfl rfl ?_
        refine J.p rfl rfl rfl rfl (Y.pickF rfl rfl) ?_
        refine J.p rfl rfl rfl rfl (Y.asg rfl) ?_
        refine J.nx ?_
        refine C.ret ?_
        obtain rfl := Option.some.inj H
        refine T.th ?_
        exact ret_ok (ks := [4]) rfl rfl (fun w h => ⟨rfl, (St.pick [] [_, _, _, _] h rfl)⟩)
    · refine C.condF (congrArg (fun b => some (Value.bool b)) (decide_eq_false c223)) ?_
      refine C.skip ?_
      refine N.nx ?_
      refine C.rs ?_
      refine J.p rfl rfl rfl rfl (Y.mv rfl) ?_
      refine J.p rfl rfl rfl rfl (Y.mv rfl) ?_
      refine J.pull 2 rfl rfl ?_
      obtain ⟨p227, H⟩ := gd_some H
      refine J.appL (enc := (Value.int .u8)) (xs := o75.1) (ys := t218.1) rfl Try.underlying22 ti5 rfl (by decide) rfl rfl (fun _ => rfl) (RdG.own 1 rfl) p227 (fun A225 c226 => ?_)
      refine J.pull 1 rfl rfl (J.drop ?_)
      refine J.p rfl rfl rfl rfl (Y.asg rfl) ?_
      refine J.nx ?_
      refine C.rs ?_
      refine J.p rfl rfl rfl rfl (Y.mv rfl) ?_
      refine J.r rfl rfl rfl rfl (Y.ldCA (us := [.int .i64 o75.2.2, .int .i64 (o75.2.1.length : Int), .int .u32 a1]) 1 Try.underlying35 rfl ti35 rfl rfl rfl rfl) ?_
      refine J.know (own_leL 0 rfl) (fun hc229 => ?_)
      obtain ⟨t230, hC231, H⟩ := bind_some H
      refine J.call (us := []) (cap := []) rfl rfl rfl go17 (fun w hw => by have hcc := hLoad.calls K (o75.1 ++ t218.1) o75.2.2 (o75.2.1.length : Int) a1 A225 c226 (RdG.own 0 rfl) hc229 t230 hC231 w hw; exact hcc) (fun e w1 h1 => ?_)
      obtain ⟨A232, c233, rfl, hw242⟩ := h1
      refine ⟨_, _, rfl, hw242, ?_⟩
      refine J.p rfl rfl rfl rfl (Y.mv rfl) ?_
      refine J.p rfl rfl rfl rfl (Y.ext rfl rfl) ?_
      refine J.p rfl rfl rfl rfl (Y.ext rfl rfl) ?_
      refine J.p rfl rfl rfl rfl (Y.asg rfl) ?_
      refine J.p rfl rfl rfl rfl (Y.asg rfl) ?_
      refine J.nx ?_
      refine C.rs ?_
      refine J.p rfl rfl rfl rfl (Y.mv rfl) ?_
      refine J.p rfl rfl rfl rfl (Y.mv rfl) ?_
      refine J.know (own_leM lenT44_ (by decide) 0 rfl) (fun hc235 => ?_)
      refine J.know (own_leM lenT44_ (by decide) 3 rfl) (fun hc236 => ?_)
      obtain ⟨t237, hC238, H⟩ := bind_some H
      refine J.call (us := []) (cap := []) rfl rfl rfl go19 (fun w hw => by have hcc := samePointers.calls K t230.1 o75.2.1 A232 c233 j76.2.2.1 j76.2.2.2 (RdG.own 0 rfl) hc235 (RdG.own 3 rfl) hc236 t237 hC238 w hw; exact hcc) (fun e w1 h1 => ?_)
      obtain ⟨rfl, hw241⟩ := h1
      refine ⟨_, _, rfl, hw241, ?_⟩
      refine J.p rfl rfl rfl rfl (Y.asg rfl) ?_
      refine J.nx ?_
      refine C.rs ?_
      refine J.p rfl rfl rfl rfl (Y.mv rfl) ?_
      refine J.p rfl rfl rfl rfl (Y.mv rfl) ?_
      refine split2 H (fun c239 H => ?_) (fun c239 H => ?_)
      · refine J.as (k := 89) rfl (congrArg Value.bool (c239)) ?_
        refine J.p rfl rfl rfl rfl (Y.mv rfl) ?_
        refine J.p rfl rfl rfl rfl (Y.bin rfl rfl rfl) ?_
        refine J.p rfl rfl rfl rfl (Y.pickT rfl rfl) ?_
        refine J.p rfl rfl rfl rfl (Y.mv rfl) ?_
        refine split2 H (fun c240 H => ?_) (fun c240 H => ?_)
        · refine J.as (k := 93) rfl (congrArg Value.bool (decide_eq_true c240)) ?_
          refine J.p rfl rfl rfl rfl (Y.mv rfl) ?_
          refine J.p rfl rfl rfl rfl (Y.pickT rfl rfl) ?_
          refine J.p rfl rfl rfl rfl (Y.asg rfl) ?_
          refine J.nx ?_
          refine C.ret ?_
          obtain rfl := Option.some.inj H
          exact ret_ok (ks := [4]) rfl rfl (fun w h => ⟨rfl, (St.pick [] [_, _, _, _] h rfl)⟩)
        · refine J.as (k := 93) rfl (congrArg Value.bool (decide_eq_false c240)) ?_
          refine J.skip rfl rfl ?_
          refine J.p rfl rfl rfl rfl (Y.pickF rfl rfl) ?_
          refine J.p rfl rfl rfl rfl (Y.asg rfl) ?_
          refine J.nx ?_
          refine C.ret ?_
          obtain rfl := Option.some.inj H
          exact ret_ok (ks := [4]) rfl rfl (fun w h => ⟨rfl, (St.pick [] [_, _, _, _] h rfl)⟩)
      · refine J.as (k := 89) rfl (congrArg Value.bool (nt c239)) ?_
        refine J.skip rfl rfl ?_
        refine J.skip rfl rfl ?_
        refine J.p rfl rfl rfl rfl (Y.pickF rfl rfl) ?_
        refine J.p rfl rfl rfl rfl (Y.mv rfl) ?_
        refine J.skip rfl rfl ?_
        refine J.p rfl rfl rfl rfl (Y.pickF rfl rfl) ?_
        refine J.p rfl rfl rfl rfl (Y.asg rfl) ?_
        refine J.nx ?_
        refine C.ret ?_
        obtain rfl := Option.some.inj H
        exact ret_ok (ks := [4]) rfl rfl (fun w h => ⟨rfl, (St.pick [] [_, _, _, _] h rfl)⟩)
end Go.Proofs.Ytmbhpcdamfdphaa
