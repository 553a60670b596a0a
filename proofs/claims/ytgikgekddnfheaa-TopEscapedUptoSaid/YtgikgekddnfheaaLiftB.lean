/- Own text, printed by the lifting program: each Go function beside a plain function, and the proof that a call of the one comes to the other. Conditions: what came in can be read. -/
import Derived.Test.YtgikgekddnfheaaLiftA
set_option linter.unusedVariables false
set_option linter.unusedSimpArgs false
set_option maxRecDepth 10000
set_option maxHeartbeats 4000000
namespace Go.Proofs.Ytgikgekddnfheaa
open Go Go.Sx
theorem ti3 : TI Try.prog 3 1 8 (.int .i64 0) := TI.of (by kernel_rfl)
theorem ti4 : TI Try.prog 4 1 1 (.bool false) := TI.of (by kernel_rfl)
theorem ti25 : TI Try.prog 25 1 24 (.slice none 0 0) := TI.of (by kernel_rfl)
theorem ti50 : TI Try.prog 50 1 24 (.slice none 0 0) := TI.of (by kernel_rfl)
theorem ti52 : TI Try.prog 52 4 64 (.agg #[.slice none 0 0, .slice none 0 0, .int .i64 0, .int .i64 0]) := TI.of (by kernel_rfl)
theorem ti66 : TI Try.prog 66 1 8 (.int .u64 0) := TI.of (by kernel_rfl)
theorem fa52_0 : FA Try.prog 52 0 0 := FA.of Try.underlying52 rfl ti25 (by decide) rfl
theorem fa52_1 : FA Try.prog 52 1 1 := FA.of Try.underlying52 rfl ti50 (by decide) rfl
theorem fa52_2 : FA Try.prog 52 2 2 := FA.of Try.underlying52 rfl ti3 (by decide) rfl
theorem fa52_3 : FA Try.prog 52 3 3 := FA.of Try.underlying52 rfl ti3 (by decide) rfl
def encY62 (x : Int × Int) : List Value := [Value.int .i64 x.1, Value.int .u8 x.2]
theorem go19 : GoF Try.prog 19 := GoF.of Try.func19 (by kernel_rfl) (by kernel_rfl)
theorem go26 : GoF Try.prog 26 := GoF.of Try.func26 (by kernel_rfl) (by kernel_rfl)
theorem go31 : GoF Try.prog 31 := GoF.of Try.func31 (by kernel_rfl) (by kernel_rfl)
theorem go32 : GoF Try.prog 32 := GoF.of Try.func32 (by kernel_rfl) (by kernel_rfl)
theorem go33 : GoF Try.prog 33 := GoF.of Try.func33 (by kernel_rfl) (by kernel_rfl)
theorem go35 : GoF Try.prog 35 := GoF.of Try.func35 (by kernel_rfl) (by kernel_rfl)
theorem go40 : GoF Try.prog 40 := GoF.of Try.func40 (by kernel_rfl) (by kernel_rfl)
/-! ### salvor/salvorref3.Look: function 35 -/
def Look.l1 (a0 : List Int) : Nat → (Int × (List Int) × (List Int)) → Option (((List Int) × (List Int) × Int × Int) ⊕ ((List Int) × (List Int)))
  | 0, _ => none
  | k + 1, i244 => if i244.1 < (a0.length : Int) then (gd ((0 : Int) ≤ i244.1 ∧ i244.1 < (a0.length : Int)) (if (rd a0 i244.1) = 167 then (some (.inl ((i244.2.1, i244.2.2, 31, i244.1)))) else (if (rd a0 i244.1) = 166 then ((if (IntKind.wrap .i64 (i244.1 + 1)) = (a0.length : Int) then (some true) else (gd ((0 : Int) ≤ (IntKind.wrap .i64 (i244.1 + 1)) ∧ (IntKind.wrap .i64 (i244.1 + 1)) < (a0.length : Int)) (gd ((0 : Int) ≤ (IntKind.wrap .i64 (i244.1 + 1)) ∧ (IntKind.wrap .i64 (i244.1 + 1)) < (a0.length : Int)) (some (decide (1 < (rd a0 (IntKind.wrap .i64 (i244.1 + 1))))))))).bind fun o259 => if o259 = true then (some (.inl ((i244.2.1, i244.2.2, 32, i244.1)))) else (gd ((0 : Int) ≤ (IntKind.wrap .i64 (i244.1 + 1)) ∧ (IntKind.wrap .i64 (i244.1 + 1)) < (a0.length : Int)) (if (rd a0 (IntKind.wrap .i64 (i244.1 + 1))) = 1 then (gd ((i244.2.1.length + [167].length) * 1 ≤ 140737488355328) (gd ((i244.2.2.length + [i244.1].length) * 8 ≤ 140737488355328) (Look.l1 a0 k (IntKind.wrap .i64 (i244.1 + 2), (i244.2.1 ++ [167]), (i244.2.2 ++ [i244.1]))))) else (gd ((i244.2.1.length + [rd a0 i244.1].length) * 1 ≤ 140737488355328) (gd ((i244.2.2.length + [i244.1].length) * 8 ≤ 140737488355328) (Look.l1 a0 k (IntKind.wrap .i64 (i244.1 + 2), (i244.2.1 ++ [rd a0 i244.1]), (i244.2.2 ++ [i244.1])))))))) else (gd ((i244.2.1.length + [rd a0 i244.1].length) * 1 ≤ 140737488355328) (gd ((i244.2.2.length + [i244.1].length) * 8 ≤ 140737488355328) (Look.l1 a0 k (IntKind.wrap .i64 (i244.1 + 1), (i244.2.1 ++ [rd a0 i244.1]), (i244.2.2 ++ [i244.1])))))))) else (some (.inr (i244.2.1, i244.2.2)))
def Look.f (K : Nat) (a0 : List Int) : Option ((List Int) × (List Int) × Int × Int) := thn (Look.l1 a0 K (0, ([] : List Int), ([] : List Int))) fun o123 => some (o123.1, o123.2, 0, 0)
theorem Look.calls {B : Nat} {w0 : World} {G : List HP} (K : Nat) (a0 : List Int) (Aa0 : Option Addr) (ca0 : Nat) (ha0 : RdG B w0 G Aa0 (a0.map (Value.int .u8))) (ka0 : a0.length ≤ ca0) (r : (List Int) × (List Int) × Int × Int) (H : Look.f K a0 = some r) (w : World) (hw : St B w0 (G) w) :
    Calls Try.prog 35 [.slice Aa0 a0.length ca0].toArray w (fun e w' => ∃ A0 c0 A1 c1, e = .returned (.agg #[.slice A0 r.1.length c0, .slice A1 r.2.1.length c1, .int .i64 r.2.2.1, .int .i64 r.2.2.2]) ∧ St B w0 (own 5 1 A0 c0 (r.1.map (Value.int .u8)) :: own 3 1 A1 c1 (r.2.1.map (Value.int .i64)) :: G) w') := by
  unfold Look.f at H
  refine calls_of (n := 62) (s := [(0, .slice Aa0 a0.length ca0)]) Try.func35 rfl rfl rfl rfl ?_ hw
  refine C.rs ?_
  refine J.alloc (L := [.slice none 0 0, .slice none 0 0, .int .i64 0, .int .i64 0]) rfl ti52 rfl (fun g1 => ?_)
  refine J.nx ?_
  refine C.rs ?_
  refine J.alloc (L := [.slice none 0 0, .slice none 0 0, .int .i64 0, .int .i64 0]) rfl ti52 rfl (fun g3 => ?_)
  refine J.nx ?_
  refine C.rs ?_
  refine J.p rfl rfl rfl rfl (Y.asg rfl) ?_
  refine J.nx ?_
  refine C.joinR H (fun (o123 : (List Int) × (List Int)) (j124 : (Option Addr) × Nat × (Option Addr) × Nat) => [(2, .pointer (some ⟨g1, 0, none⟩)), (3, .pointer (some ⟨g3, 0, none⟩))]) (fun (o123 : (List Int) × (List Int)) (j124 : (Option Addr) × Nat × (Option Addr) × Nat) => cells g1 52 [.slice none 0 0, .slice none 0 0, .int .i64 0, .int .i64 0] :: own 5 1 j124.1 j124.2.1 (o123.1.map (Value.int .u8)) :: own 3 1 j124.2.2.1 j124.2.2.2 (o123.2.map (Value.int .i64)) :: cells g3 52 [.slice j124.1 o123.1.length j124.2.1, .slice j124.2.2.1 o123.2.length j124.2.2.2, .int .i64 0, .int .i64 0] :: G) (fun (o123 : (List Int) × (List Int)) (j124 : (Option Addr) × Nat × (Option Addr) × Nat) => True) (fun o121 H HK122 => ?_) (fun o123 j124 H _ => ?_)
  · refine C.blk ?_
    refine C.loop (fun (i : Nat × (Int × (List Int) × (List Int)) × ((Option Addr) × Nat × (Option Addr) × Nat)) => [(0, .slice Aa0 a0.length ca0), (2, .pointer (some ⟨g1, 0, none⟩)), (3, .pointer (some ⟨g3, 0, none⟩)), (4, .int .i64 i.2.1.1)]) (fun (i : Nat × (Int × (List Int) × (List Int)) × ((Option Addr) × Nat × (Option Addr) × Nat)) => cells g1 52 [.slice none 0 0, .slice none 0 0, .int .i64 0, .int .i64 0] :: own 5 1 i.2.2.1 i.2.2.2.1 (i.2.1.2.1.map (Value.int .u8)) :: own 3 1 i.2.2.2.2.1 i.2.2.2.2.2 (i.2.1.2.2.map (Value.int .i64)) :: cells g3 52 [.slice i.2.2.1 i.2.1.2.1.length i.2.2.2.1, .slice i.2.2.2.2.1 i.2.1.2.2.length i.2.2.2.2.2, .int .i64 0, .int .i64 0] :: G) (fun (i : Nat × (Int × (List Int) × (List Int)) × ((Option Addr) × Nat × (Option Addr) × Nat)) => Look.l1 a0 i.1 i.2.1 = some o121 ∧ (True)) (fun i => i.1) (K, (0, ([] : List Int), ([] : List Int)), (none, 0, none, 0)) ⟨H, trivial⟩ (by exact ⟨rfl, rfl, rfl, rfl, trivial⟩) (by exact fun w h => (St.pick [3, 1, 0, 2] [_, _, _, _] ((h.nilOwn 5 1).nilOwn 3 1) rfl)) ?_
    rintro ⟨k307, i244, j245⟩ ⟨H, _⟩
    replace H : Look.l1 a0 k307 i244 = some o121 := H
    obtain ⟨k243, rfl⟩ : ∃ m, k307 = m + 1 := by cases k307 with | zero => exact absurd H (by simp [Look.l1]) | succ m => exact ⟨m, rfl⟩
    rw [Look.l1] at H
    refine C.at (s' := [(0, .slice Aa0 a0.length ca0), (2, .pointer (some ⟨g1, 0, none⟩)), (3, .pointer (some ⟨g3, 0, none⟩)), (4, .int .i64 i244.1)]) (G' := cells g1 52 [.slice none 0 0, .slice none 0 0, .int .i64 0, .int .i64 0] :: own 5 1 j245.1 j245.2.1 (i244.2.1.map (Value.int .u8)) :: own 3 1 j245.2.2.1 j245.2.2.2 (i244.2.2.map (Value.int .i64)) :: cells g3 52 [.slice j245.1 i244.2.1.length j245.2.1, .slice j245.2.2.1 i244.2.2.length j245.2.2.2, .int .i64 0, .int .i64 0] :: G) rfl rfl ?_
    refine C.seq ?_
    refine C.rs ?_
    refine J.p rfl rfl rfl rfl (Y.mv rfl) ?_
    refine J.p rfl rfl rfl rfl (Y.mv rfl) ?_
    refine J.p rfl rfl rfl rfl (Y.lenS Try.underlying25 rfl) ?_
    refine J.p rfl rfl rfl rfl (Y.bin rfl rfl rfl) ?_
    refine J.nx ?_
    refine split2 H (fun c250 H => ?_) (fun c250 H => ?_)
    · refine C.condT (congrArg (fun b => some (Value.bool b)) (decide_eq_true c250)) ?_
      refine C.skip ?_
      refine N.nx ?_
      refine C.blk ?_
      refine C.rs ?_
      refine J.p rfl rfl rfl rfl (Y.mv rfl) ?_
      refine J.p rfl rfl rfl rfl (Y.mv rfl) ?_
      obtain ⟨p251, H⟩ := gd_some H
      refine J.el rfl rfl rfl Try.underlying25 ti5 Try.underlying5 rfl rfl rfl p251 (ha0.suf [_, _, _, _] rfl) ?_
      refine J.p rfl rfl rfl rfl (Y.asg rfl) ?_
      refine J.nx ?_
      refine C.seq ?_
      refine C.rs ?_
      refine J.p rfl rfl rfl rfl (Y.mv rfl) ?_
      refine J.p rfl rfl rfl rfl (Y.bin rfl rfl rfl) ?_
      refine J.nx ?_
      refine split2 H (fun c252 H => ?_) (fun c252 H => ?_)
      · refine C.condT (congrArg (fun b => some (Value.bool b)) (decide_eq_true c252)) ?_
        refine C.rs ?_
        refine J.p rfl rfl rfl rfl (Y.fa0 fa52_2 rfl rfl) ?_
        refine J.pull 3 rfl rfl ?_
        refine J.stE (L' := [.slice j245.1 i244.2.1.length j245.2.1, .slice j245.2.2.1 i244.2.2.length j245.2.2.2, .int .i64 31, .int .i64 0]) ti3 rfl rfl rfl rfl rfl ?_
        refine J.nx ?_
        refine C.rs ?_
        refine J.p rfl rfl rfl rfl (Y.mv rfl) ?_
        refine J.p rfl rfl rfl rfl (Y.fa0 fa52_3 rfl rfl) ?_
        refine J.stE (L' := [.slice j245.1 i244.2.1.length j245.2.1, .slice j245.2.2.1 i244.2.2.length j245.2.2.2, .int .i64 31, .int .i64 i244.1]) ti3 rfl rfl rfl rfl rfl ?_
        refine J.nx ?_
        refine C.rs ?_
        refine J.r rfl rfl rfl rfl (Y.ldCA (us := [.slice j245.1 i244.2.1.length j245.2.1, .slice j245.2.2.1 i244.2.2.length j245.2.2.2, .int .i64 31, .int .i64 i244.1]) 0 Try.underlying52 rfl ti52 rfl rfl rfl rfl) ?_
        refine J.pull 1 rfl rfl ?_
        refine J.stA (us := [.slice j245.1 i244.2.1.length j245.2.1, .slice j245.2.2.1 i244.2.2.length j245.2.2.2, .int .i64 31, .int .i64 i244.1]) (L' := [.slice j245.1 i244.2.1.length j245.2.1, .slice j245.2.2.1 i244.2.2.length j245.2.2.2, .int .i64 31, .int .i64 i244.1]) ti52 rfl rfl rfl rfl rfl rfl ?_
        refine J.nx ?_
        refine C.ret ?_
        obtain rfl := Option.some.inj H
        obtain rfl := fin_inl HK122
        refine T.th ?_
        refine T.ib ?_
        refine T.th ?_
        refine T.ib ?_
        refine T.th ?_
        exact ret_okG (rvs := [.cell 2 52]) (vs := [.agg #[.slice j245.1 i244.2.1.length j245.2.1, .slice j245.2.2.1 i244.2.2.length j245.2.2.2, .int .i64 31, .int .i64 i244.1]]) rfl ⟨RV.cellA (us := [.slice j245.1 i244.2.1.length j245.2.1, .slice j245.2.2.1 i244.2.2.length j245.2.2.2, .int .i64 31, .int .i64 i244.1]) 0 Try.underlying52 rfl ti52 rfl rfl rfl rfl, trivial⟩ (fun w h => ⟨j245.1, j245.2.1, j245.2.2.1, j245.2.2.2, rfl, (St.pick [2, 3] [_, _, _, _] h rfl)⟩)
      · refine C.condF (congrArg (fun b => some (Value.bool b)) (decide_eq_false c252)) ?_
        refine C.skip ?_
        refine N.nx ?_
        refine C.rs ?_
        refine J.p rfl rfl rfl rfl (Y.asg rfl) ?_
        refine J.nx ?_
        refine C.seq ?_
        refine C.rs ?_
        refine J.p rfl rfl rfl rfl (Y.mv rfl) ?_
        refine J.p rfl rfl rfl rfl (Y.bin rfl rfl rfl) ?_
        refine J.nx ?_
        refine split2 H (fun c253 H => ?_) (fun c253 H => ?_)
        · refine C.condT (congrArg (fun b => some (Value.bool b)) (decide_eq_true c253)) ?_
          refine C.seq ?_
          refine C.rs ?_
          refine J.joinB H (fun (o259 : Bool) (j260 : Unit) => [(0, .slice Aa0 a0.length ca0), (2, .pointer (some ⟨g1, 0, none⟩)), (3, .pointer (some ⟨g3, 0, none⟩)), (4, .int .i64 i244.1), (5, .int .u8 (rd a0 i244.1)), (35, .bool o259)]) (fun (o259 : Bool) (j260 : Unit) => cells g1 52 [.slice none 0 0, .slice none 0 0, .int .i64 0, .int .i64 0] :: cells g3 52 [.slice j245.1 i244.2.1.length j245.2.1, .slice j245.2.2.1 i244.2.2.length j245.2.2.2, .int .i64 0, .int .i64 0] :: own 5 1 j245.1 j245.2.1 (i244.2.1.map (Value.int .u8)) :: own 3 1 j245.2.2.1 j245.2.2.2 (i244.2.2.map (Value.int .i64)) :: G) (fun (o259 : Bool) (j260 : Unit) => True) (fun o261 H HK262 => ?_) (fun o259 j260 H _ => ?_)
          · refine J.p rfl rfl rfl rfl (Y.mv rfl) ?_
            refine J.p rfl rfl rfl rfl (Y.bin rfl rfl rfl) ?_
            refine J.p rfl rfl rfl rfl (Y.mv rfl) ?_
            refine J.p rfl rfl rfl rfl (Y.lenS Try.underlying25 rfl) ?_
            refine J.p rfl rfl rfl rfl (Y.bin rfl rfl rfl) ?_
            refine J.p rfl rfl rfl rfl (Y.mv rfl) ?_
            refine split2 H (fun c263 H => ?_) (fun c263 H => ?_)
            · refine J.as (k := 28) rfl (congrArg Value.bool (decide_eq_true c263)) ?_
              refine J.skip rfl rfl ?_
              refine J.skip rfl rfl ?_
              refine J.skip rfl rfl ?_
              refine J.skip rfl rfl ?_
              refine J.skip rfl rfl ?_
              refine J.skip rfl rfl ?_
              refine J.p rfl rfl rfl rfl (Y.pickT rfl rfl) ?_
              refine J.nil ?_
              obtain rfl := Option.some.inj H
              exact N.meet (true, ()) ⟨HK262, trivial⟩ (by exact ⟨rfl, rfl, rfl, rfl, rfl, rfl, trivial⟩) (by exact fun w h => (St.pick [0, 3, 1, 2] [_, _, _, _] h rfl))
            · refine J.as (k := 28) rfl (congrArg Value.bool (decide_eq_false c263)) ?_
              refine J.p rfl rfl rfl rfl (Y.mv rfl) ?_
              refine J.p rfl rfl rfl rfl (Y.mv rfl) ?_
              refine J.p rfl rfl rfl rfl (Y.bin rfl rfl rfl) ?_
              obtain ⟨p266, H⟩ := gd_some H
              refine J.know ((ha0.suf [_, _, _, _] rfl).some_ (j := Int.toNat (IntKind.wrap .i64 (i244.1 + 1))) (by rw [List.length_map]; exact idx_lt p266)) (fun hh => ?_)
              obtain ⟨a264, ha265⟩ := hh
              refine J.p rfl rfl rfl rfl (Y.ixa Try.underlying25 ti5 rfl rfl p266 ha265) ?_
              obtain ⟨p267, H⟩ := gd_some H
              refine J.r rfl rfl rfl rfl (Y.ldE Try.underlying5 rfl rfl ha265 p267 (ha0.suf [_, _, _, _] rfl)) ?_
              refine J.p rfl rfl rfl rfl (Y.bin rfl rfl rfl) ?_
              refine J.p rfl rfl rfl rfl (Y.pickF rfl rfl) ?_
              refine J.nil ?_
              obtain rfl := Option.some.inj H
              exact N.meet (decide (1 < (rd a0 (IntKind.wrap .i64 (i244.1 + 1)))), ()) ⟨HK262, trivial⟩ (by exact ⟨rfl, rfl, rfl, rfl, rfl, rfl, trivial⟩) (by exact fun w h => (St.pick [0, 3, 1, 2] [_, _, _, _] h rfl))
          · refine C.at (s' := [(0, .slice Aa0 a0.length ca0), (2, .pointer (some ⟨g1, 0, none⟩)), (3, .pointer (some ⟨g3, 0, none⟩)), (4, .int .i64 i244.1), (5, .int .u8 (rd a0 i244.1)), (35, .bool o259)]) (G' := cells g1 52 [.slice none 0 0, .slice none 0 0, .int .i64 0, .int .i64 0] :: cells g3 52 [.slice j245.1 i244.2.1.length j245.2.1, .slice j245.2.2.1 i244.2.2.length j245.2.2.2, .int .i64 0, .int .i64 0] :: own 5 1 j245.1 j245.2.1 (i244.2.1.map (Value.int .u8)) :: own 3 1 j245.2.2.1 j245.2.2.2 (i244.2.2.map (Value.int .i64)) :: G) rfl rfl ?_
            refine split2 H (fun c268 H => ?_) (fun c268 H => ?_)
            · refine C.condT (congrArg (fun b => some (Value.bool b)) (c268)) ?_
              refine C.rs ?_
              refine J.p rfl rfl rfl rfl (Y.fa0 fa52_2 rfl rfl) ?_
              refine J.pull 1 rfl rfl ?_
              refine J.stE (L' := [.slice j245.1 i244.2.1.length j245.2.1, .slice j245.2.2.1 i244.2.2.length j245.2.2.2, .int .i64 32, .int .i64 0]) ti3 rfl rfl rfl rfl rfl ?_
              refine J.nx ?_
              refine C.rs ?_
              refine J.p rfl rfl rfl rfl (Y.mv rfl) ?_
              refine J.p rfl rfl rfl rfl (Y.fa0 fa52_3 rfl rfl) ?_
              refine J.stE (L' := [.slice j245.1 i244.2.1.length j245.2.1, .slice j245.2.2.1 i244.2.2.length j245.2.2.2, .int .i64 32, .int .i64 i244.1]) ti3 rfl rfl rfl rfl rfl ?_
              refine J.nx ?_
              refine C.rs ?_
              refine J.r rfl rfl rfl rfl (Y.ldCA (us := [.slice j245.1 i244.2.1.length j245.2.1, .slice j245.2.2.1 i244.2.2.length j245.2.2.2, .int .i64 32, .int .i64 i244.1]) 0 Try.underlying52 rfl ti52 rfl rfl rfl rfl) ?_
              refine J.pull 1 rfl rfl ?_
              refine J.stA (us := [.slice j245.1 i244.2.1.length j245.2.1, .slice j245.2.2.1 i244.2.2.length j245.2.2.2, .int .i64 32, .int .i64 i244.1]) (L' := [.slice j245.1 i244.2.1.length j245.2.1, .slice j245.2.2.1 i244.2.2.length j245.2.2.2, .int .i64 32, .int .i64 i244.1]) ti52 rfl rfl rfl rfl rfl rfl ?_
              refine J.nx ?_
              refine C.ret ?_
              obtain rfl := Option.some.inj H
              obtain rfl := fin_inl HK122
              refine T.th ?_
              refine T.th ?_
              refine T.ib ?_
              refine T.th ?_
              refine T.ib ?_
              refine T.th ?_
              exact ret_okG (rvs := [.cell 2 52]) (vs := [.agg #[.slice j245.1 i244.2.1.length j245.2.1, .slice j245.2.2.1 i244.2.2.length j245.2.2.2, .int .i64 32, .int .i64 i244.1]]) rfl ⟨RV.cellA (us := [.slice j245.1 i244.2.1.length j245.2.1, .slice j245.2.2.1 i244.2.2.length j245.2.2.2, .int .i64 32, .int .i64 i244.1]) 0 Try.underlying52 rfl ti52 rfl rfl rfl rfl, trivial⟩ (fun w h => ⟨j245.1, j245.2.1, j245.2.2.1, j245.2.2.2, rfl, (St.pick [2, 3] [_, _, _, _] h rfl)⟩)
            · refine C.condF (congrArg (fun b => some (Value.bool b)) (nt c268)) ?_
              refine C.skip ?_
              refine N.nx ?_
              refine C.rs ?_
              refine J.p rfl rfl rfl rfl (Y.asg rfl) ?_
              refine J.nx ?_
              refine C.rs ?_
              refine J.p rfl rfl rfl rfl (Y.mv rfl) ?_
              refine J.p rfl rfl rfl rfl (Y.mv rfl) ?_
              refine J.p rfl rfl rfl rfl (Y.bin rfl rfl rfl) ?_
              obtain ⟨p269, H⟩ := gd_some H
              refine J.el rfl rfl rfl Try.underlying25 ti5 Try.underlying5 rfl rfl rfl p269 (ha0.suf [_, _, _, _] rfl) ?_
              refine J.p rfl rfl rfl rfl (Y.bin rfl rfl rfl) ?_
              refine J.nx ?_
              refine split2 H (fun c270 H => ?_) (fun c270 H => ?_)
              · refine C.condT (congrArg (fun b => some (Value.bool b)) (decide_eq_true c270)) ?_
                refine C.reg ?_
                refine J.p rfl rfl rfl rfl (Y.asg rfl) ?_
                refine J.nx ?_
                refine C.rs ?_
                refine J.p rfl rfl rfl rfl (Y.fa0 fa52_0 rfl rfl) ?_
                refine J.r rfl rfl rfl rfl (Y.ldC 1 Try.underlying25 rfl rfl rfl rfl) ?_
                refine J.p rfl rfl rfl rfl (Y.mv rfl) ?_
                refine J.bsL (enc := (Value.int .u8)) (xs := [167]) rfl Try.underlying25 ti5 rfl rfl rfl rfl rfl (fun A271 => ?_)
                refine J.pull 3 rfl rfl ?_
                obtain ⟨p275, H⟩ := gd_some H
                refine J.appL (enc := (Value.int .u8)) (xs := i244.2.1) (ys := [167]) rfl Try.underlying25 ti5 rfl (by decide) rfl rfl (fun _ => rfl) (RdG.own 1 rfl) p275 (fun A273 c274 => ?_)
                refine J.pull 1 rfl rfl (J.drop ?_)
                refine J.p rfl rfl rfl rfl (Y.fa0 fa52_0 rfl rfl) ?_
                refine J.pull 2 rfl rfl ?_
                refine J.stE (L' := [.slice A273 (i244.2.1 ++ [167]).length c274, .slice j245.2.2.1 i244.2.2.length j245.2.2.2, .int .i64 0, .int .i64 0]) ti25 rfl rfl rfl rfl rfl ?_
                refine J.nx ?_
                refine C.rs ?_
                refine J.p rfl rfl rfl rfl (Y.fa0 fa52_1 rfl rfl) ?_
                refine J.r rfl rfl rfl rfl (Y.ldC 0 Try.underlying50 rfl rfl rfl rfl) ?_
                refine J.p rfl rfl rfl rfl (Y.mv rfl) ?_
                refine J.bsL (enc := (Value.int .i64)) (xs := [i244.1]) rfl Try.underlying50 ti3 rfl rfl rfl rfl rfl (fun A277 => ?_)
                refine J.pull 4 rfl rfl ?_
                obtain ⟨p281, H⟩ := gd_some H
                refine J.appL (enc := (Value.int .i64)) (xs := i244.2.2) (ys := [i244.1]) rfl Try.underlying50 ti3 rfl (by decide) rfl rfl (fun _ => rfl) (RdG.own 1 rfl) p281 (fun A279 c280 => ?_)
                refine J.pull 1 rfl rfl (J.drop ?_)
                refine J.p rfl rfl rfl rfl (Y.fa0 fa52_1 rfl rfl) ?_
                refine J.pull 1 rfl rfl ?_
                refine J.stE (L' := [.slice A273 (i244.2.1 ++ [167]).length c274, .slice A279 (i244.2.2 ++ [i244.1]).length c280, .int .i64 0, .int .i64 0]) ti50 rfl rfl rfl rfl rfl ?_
                refine J.nx ?_
                refine C.reg ?_
                refine J.p rfl rfl rfl rfl (Y.mv rfl) ?_
                refine J.p rfl rfl rfl rfl (Y.mv rfl) ?_
                refine J.p rfl rfl rfl rfl (Y.bin rfl rfl rfl) ?_
                refine J.p rfl rfl rfl rfl (Y.asg rfl) ?_
                refine J.nil ?_
                refine N.ib ?_
                exact N.again (k243, (IntKind.wrap .i64 (i244.1 + 2), (i244.2.1 ++ [167]), (i244.2.2 ++ [i244.1])), (A273, c274, A279, c280)) ⟨H, trivial⟩ (Nat.lt_succ_self _) (by exact ⟨rfl, rfl, rfl, rfl, trivial⟩) (by exact fun w h => (St.pick [3, 2, 1, 0] [_, _, _, _] h rfl))
              · refine C.condF (congrArg (fun b => some (Value.bool b)) (decide_eq_false c270)) ?_
                refine C.skip ?_
                refine N.nx ?_
                refine C.rs ?_
                refine J.p rfl rfl rfl rfl (Y.fa0 fa52_0 rfl rfl) ?_
                refine J.r rfl rfl rfl rfl (Y.ldC 1 Try.underlying25 rfl rfl rfl rfl) ?_
                refine J.p rfl rfl rfl rfl (Y.mv rfl) ?_
                refine J.bsL (enc := (Value.int .u8)) (xs := [rd a0 i244.1]) rfl Try.underlying25 ti5 rfl rfl rfl rfl rfl (fun A283 => ?_)
                refine J.pull 3 rfl rfl ?_
                obtain ⟨p287, H⟩ := gd_some H
                refine J.appL (enc := (Value.int .u8)) (xs := i244.2.1) (ys := [rd a0 i244.1]) rfl Try.underlying25 ti5 rfl (by decide) rfl rfl (fun _ => rfl) (RdG.own 1 rfl) p287 (fun A285 c286 => ?_)
                refine J.pull 1 rfl rfl (J.drop ?_)
                refine J.p rfl rfl rfl rfl (Y.fa0 fa52_0 rfl rfl) ?_
                refine J.pull 2 rfl rfl ?_
                refine J.stE (L' := [.slice A285 (i244.2.1 ++ [rd a0 i244.1]).length c286, .slice j245.2.2.1 i244.2.2.length j245.2.2.2, .int .i64 0, .int .i64 0]) ti25 rfl rfl rfl rfl rfl ?_
                refine J.nx ?_
                refine C.rs ?_
                refine J.p rfl rfl rfl rfl (Y.fa0 fa52_1 rfl rfl) ?_
                refine J.r rfl rfl rfl rfl (Y.ldC 0 Try.underlying50 rfl rfl rfl rfl) ?_
                refine J.p rfl rfl rfl rfl (Y.mv rfl) ?_
                refine J.bsL (enc := (Value.int .i64)) (xs := [i244.1]) rfl Try.underlying50 ti3 rfl rfl rfl rfl rfl (fun A289 => ?_)
                refine J.pull 4 rfl rfl ?_
                obtain ⟨p293, H⟩ := gd_some H
                refine J.appL (enc := (Value.int .i64)) (xs := i244.2.2) (ys := [i244.1]) rfl Try.underlying50 ti3 rfl (by decide) rfl rfl (fun _ => rfl) (RdG.own 1 rfl) p293 (fun A291 c292 => ?_)
                refine J.pull 1 rfl rfl (J.drop ?_)
                refine J.p rfl rfl rfl rfl (Y.fa0 fa52_1 rfl rfl) ?_
                refine J.pull 1 rfl rfl ?_
                refine J.stE (L' := [.slice A285 (i244.2.1 ++ [rd a0 i244.1]).length c286, .slice A291 (i244.2.2 ++ [i244.1]).length c292, .int .i64 0, .int .i64 0]) ti50 rfl rfl rfl rfl rfl ?_
                refine J.nx ?_
                refine C.reg ?_
                refine J.p rfl rfl rfl rfl (Y.mv rfl) ?_
                refine J.p rfl rfl rfl rfl (Y.mv rfl) ?_
                refine J.p rfl rfl rfl rfl (Y.bin rfl rfl rfl) ?_
                refine J.p rfl rfl rfl rfl (Y.asg rfl) ?_
                refine J.nil ?_
                refine N.ib ?_
                exact N.again (k243, (IntKind.wrap .i64 (i244.1 + 2), (i244.2.1 ++ [rd a0 i244.1]), (i244.2.2 ++ [i244.1])), (A285, c286, A291, c292)) ⟨H, trivial⟩ (Nat.lt_succ_self _) (by exact ⟨rfl, rfl, rfl, rfl, trivial⟩) (by exact fun w h => (St.pick [3, 2, 1, 0] [_, _, _, _] h rfl))
        · refine C.condF (congrArg (fun b => some (Value.bool b)) (decide_eq_false c253)) ?_
          refine C.skip ?_
          refine N.nx ?_
          refine C.rs ?_
          refine J.p rfl rfl rfl rfl (Y.fa0 fa52_0 rfl rfl) ?_
          refine J.r rfl rfl rfl rfl (Y.ldC 3 Try.underlying25 rfl rfl rfl rfl) ?_
          refine J.p rfl rfl rfl rfl (Y.mv rfl) ?_
          refine J.bsL (enc := (Value.int .u8)) (xs := [rd a0 i244.1]) rfl Try.underlying25 ti5 rfl rfl rfl rfl rfl (fun A295 => ?_)
          refine J.pull 2 rfl rfl ?_
          obtain ⟨p299, H⟩ := gd_some H
          refine J.appL (enc := (Value.int .u8)) (xs := i244.2.1) (ys := [rd a0 i244.1]) rfl Try.underlying25 ti5 rfl (by decide) rfl rfl (fun _ => rfl) (RdG.own 1 rfl) p299 (fun A297 c298 => ?_)
          refine J.pull 1 rfl rfl (J.drop ?_)
          refine J.p rfl rfl rfl rfl (Y.fa0 fa52_0 rfl rfl) ?_
          refine J.pull 3 rfl rfl ?_
          refine J.stE (L' := [.slice A297 (i244.2.1 ++ [rd a0 i244.1]).length c298, .slice j245.2.2.1 i244.2.2.length j245.2.2.2, .int .i64 0, .int .i64 0]) ti25 rfl rfl rfl rfl rfl ?_
          refine J.nx ?_
          refine C.rs ?_
          refine J.p rfl rfl rfl rfl (Y.fa0 fa52_1 rfl rfl) ?_
          refine J.r rfl rfl rfl rfl (Y.ldC 0 Try.underlying50 rfl rfl rfl rfl) ?_
          refine J.p rfl rfl rfl rfl (Y.mv rfl) ?_
          refine J.bsL (enc := (Value.int .i64)) (xs := [i244.1]) rfl Try.underlying50 ti3 rfl rfl rfl rfl rfl (fun A301 => ?_)
          refine J.pull 4 rfl rfl ?_
          obtain ⟨p305, H⟩ := gd_some H
          refine J.appL (enc := (Value.int .i64)) (xs := i244.2.2) (ys := [i244.1]) rfl Try.underlying50 ti3 rfl (by decide) rfl rfl (fun _ => rfl) (RdG.own 1 rfl) p305 (fun A303 c304 => ?_)
          refine J.pull 1 rfl rfl (J.drop ?_)
          refine J.p rfl rfl rfl rfl (Y.fa0 fa52_1 rfl rfl) ?_
          refine J.pull 1 rfl rfl ?_
          refine J.stE (L' := [.slice A297 (i244.2.1 ++ [rd a0 i244.1]).length c298, .slice A303 (i244.2.2 ++ [i244.1]).length c304, .int .i64 0, .int .i64 0]) ti50 rfl rfl rfl rfl rfl ?_
          refine J.nx ?_
          refine C.reg ?_
          refine J.p rfl rfl rfl rfl (Y.mv rfl) ?_
          refine J.p rfl rfl rfl rfl (Y.mv rfl) ?_
          refine J.p rfl rfl rfl rfl (Y.bin rfl rfl rfl) ?_
          refine J.p rfl rfl rfl rfl (Y.asg rfl) ?_
          refine J.nil ?_
          refine N.ib ?_
          exact N.again (k243, (IntKind.wrap .i64 (i244.1 + 1), (i244.2.1 ++ [rd a0 i244.1]), (i244.2.2 ++ [i244.1])), (A297, c298, A303, c304)) ⟨H, trivial⟩ (Nat.lt_succ_self _) (by exact ⟨rfl, rfl, rfl, rfl, trivial⟩) (by exact fun w h => (St.pick [3, 2, 1, 0] [_, _, _, _] h rfl))
    · refine C.condF (congrArg (fun b => some (Value.bool b)) (decide_eq_false c250)) ?_
      refine C.exit ?_
      refine X.th ?_
      refine X.th ?_
      refine X.hit ?_
      obtain rfl := Option.some.inj H
      exact N.meet ((i244.2.1, i244.2.2), (j245.1, j245.2.1, j245.2.2.1, j245.2.2.2)) ⟨fin_inr HK122, trivial⟩ (by exact ⟨rfl, rfl, trivial⟩) (by exact fun w h => h)
  · refine C.at (s' := [(2, .pointer (some ⟨g1, 0, none⟩)), (3, .pointer (some ⟨g3, 0, none⟩))]) (G' := cells g1 52 [.slice none 0 0, .slice none 0 0, .int .i64 0, .int .i64 0] :: own 5 1 j124.1 j124.2.1 (o123.1.map (Value.int .u8)) :: own 3 1 j124.2.2.1 j124.2.2.2 (o123.2.map (Value.int .i64)) :: cells g3 52 [.slice j124.1 o123.1.length j124.2.1, .slice j124.2.2.1 o123.2.length j124.2.2.2, .int .i64 0, .int .i64 0] :: G) rfl rfl ?_
    refine C.rs ?_
    refine J.r rfl rfl rfl rfl (Y.ldCA (us := [.slice j124.1 o123.1.length j124.2.1, .slice j124.2.2.1 o123.2.length j124.2.2.2, .int .i64 0, .int .i64 0]) 3 Try.underlying52 rfl ti52 rfl rfl rfl rfl) ?_
    refine J.stA (us := [.slice j124.1 o123.1.length j124.2.1, .slice j124.2.2.1 o123.2.length j124.2.2.2, .int .i64 0, .int .i64 0]) (L' := [.slice j124.1 o123.1.length j124.2.1, .slice j124.2.2.1 o123.2.length j124.2.2.2, .int .i64 0, .int .i64 0]) ti52 rfl rfl rfl rfl rfl rfl ?_
    refine J.nx ?_
    refine C.ret ?_
    obtain rfl := Option.some.inj H
    exact ret_okG (rvs := [.cell 2 52]) (vs := [.agg #[.slice j124.1 o123.1.length j124.2.1, .slice j124.2.2.1 o123.2.length j124.2.2.2, .int .i64 0, .int .i64 0]]) rfl ⟨RV.cellA (us := [.slice j124.1 o123.1.length j124.2.1, .slice j124.2.2.1 o123.2.length j124.2.2.2, .int .i64 0, .int .i64 0]) 0 Try.underlying52 rfl ti52 rfl rfl rfl rfl, trivial⟩ (fun w h => ⟨j124.1, j124.2.1, j124.2.2.1, j124.2.2.2, rfl, (St.pick [1, 2] [_, _, _, _] h rfl)⟩)
/-! ### salvor/escape.Each$1: function 40 -/
def EachF.l1 {S E : Type} (a1_0 : List Int) (step : S → (Int × Int) → Option (S ⊕ E)) : Nat → (Int × S) → Option (((S ⊕ E)) ⊕ (S))
  | 0, _ => none
  | k + 1, i50 => if i50.1 < (a1_0.length : Int) then ((one.f a1_0 i50.1).bind fun t53 => if t53.2.2 ≠ 0 then (some (.inl (.inl i50.2))) else ((step i50.2 (i50.1, t53.1)).bind fun o56 => ysel o56 (fun σ57 => EachF.l1 a1_0 step k (IntKind.wrap .i64 (i50.1 + t53.2.1), σ57)) (fun e58 => some (.inl (.inr e58))))) else (some (.inr i50.2))
def EachF.f {S E : Type} (K : Nat) (step : S → (Int × Int) → Option (S ⊕ E)) (σ : S) (a1_0 : List Int) : Option ((S ⊕ E)) := thn (EachF.l1 a1_0 step K (0, σ)) fun o25 => some (.inl o25)
theorem EachF.calls {S E : Type} {B : Nat} {w0 : World} {G : List HP} (K : Nat) (step : S → (Int × Int) → Option (S ⊕ E)) (σ : S) (a1_0 : List Int) (Yy : S ⊕ E → HP) (a0 : Value) (ga1 : Nat) (Aa1_0 : Option Addr) (ca1_0 : Nat) (hy : YieldOk Try.prog B w0 G a0 encY62 Yy step) (ha1_0 : RdG B w0 G Aa1_0 (a1_0.map (Value.int .u8))) (ka1_0 : a1_0.length ≤ ca1_0) (ha1 : RdG B w0 G (some ⟨ga1, 0, none⟩) [.slice Aa1_0 a1_0.length ca1_0]) (r : (S ⊕ E)) (H : EachF.f K step σ a1_0 = some r) (w : World) (hw : St B w0 (Yy (.inl σ) :: G) w) :
    Calls Try.prog 40 [a0, .pointer (some ⟨ga1, 0, none⟩)].toArray w (fun e w' => e = .returned (.tuple #[]) ∧ St B w0 (Yy r :: G) w') := by
  unfold EachF.f at H
  refine calls_of (n := 30) (s := [(0, a0), (1, .pointer (some ⟨ga1, 0, none⟩))]) Try.func40 rfl rfl rfl rfl ?_ hw
  refine C.rs ?_
  refine J.p rfl rfl rfl rfl (Y.asg rfl) ?_
  refine J.nx ?_
  refine C.joinNR H (fun (o25 : S) (j26 : Unit) => []) (fun (o25 : S) (j26 : Unit) => Yy (.inl o25) :: G) (fun (o25 : S) (j26 : Unit) => True) (fun o23 H HK24 => ?_) (fun o25 j26 H _ => ?_)
  · refine C.blk ?_
    refine C.loop (fun (i : Nat × (Int × S) × (Unit)) => [(0, a0), (1, .pointer (some ⟨ga1, 0, none⟩)), (3, .int .i64 i.2.1.1)]) (fun (i : Nat × (Int × S) × (Unit)) => Yy (.inl i.2.1.2) :: G) (fun (i : Nat × (Int × S) × (Unit)) => EachF.l1 a1_0 step i.1 i.2.1 = some o23 ∧ (True)) (fun i => i.1) (K, (0, σ), ()) ⟨H, trivial⟩ (by exact ⟨rfl, rfl, rfl, trivial⟩) (by exact fun w h => h) ?_
    rintro ⟨k61, i50, j51⟩ ⟨H, _⟩
    replace H : EachF.l1 a1_0 step k61 i50 = some o23 := H
    obtain ⟨k49, rfl⟩ : ∃ m, k61 = m + 1 := by cases k61 with | zero => exact absurd H (by simp [EachF.l1]) | succ m => exact ⟨m, rfl⟩
    rw [EachF.l1] at H
    refine C.at (s' := [(0, a0), (1, .pointer (some ⟨ga1, 0, none⟩)), (3, .int .i64 i50.1)]) (G' := Yy (.inl i50.2) :: G) rfl rfl ?_
    refine C.seq ?_
    refine C.rs ?_
    refine J.p rfl rfl rfl rfl (Y.mv rfl) ?_
    refine J.r rfl rfl rfl rfl (Y.ldR Try.underlying25 rfl rfl (ha1.suf [_] rfl) rfl) ?_
    refine J.p rfl rfl rfl rfl (Y.lenS Try.underlying25 rfl) ?_
    refine J.p rfl rfl rfl rfl (Y.bin rfl rfl rfl) ?_
    refine J.nx ?_
    refine split2 H (fun c52 H => ?_) (fun c52 H => ?_)
    · refine C.condT (congrArg (fun b => some (Value.bool b)) (decide_eq_true c52)) ?_
      refine C.skip ?_
      refine N.nx ?_
      refine C.blk ?_
      refine C.rs ?_
      refine J.r rfl rfl rfl rfl (Y.ldR Try.underlying25 rfl rfl (ha1.suf [_] rfl) rfl) ?_
      refine J.p rfl rfl rfl rfl (Y.mv rfl) ?_
      obtain ⟨t53, hC54, H⟩ := bind_some H
      refine J.call (us := []) (cap := []) rfl rfl rfl go41 (fun w hw => one.calls a1_0 i50.1 Aa1_0 ca1_0 (ha1_0.suf [_] rfl) ka1_0 t53 hC54 w hw) (fun e w1 h1 => ?_)
      obtain ⟨rfl, hw60⟩ := h1
      refine ⟨_, _, rfl, hw60, ?_⟩
      refine J.p rfl rfl rfl rfl (Y.mv rfl) ?_
      refine J.p rfl rfl rfl rfl (Y.ext rfl rfl) ?_
      refine J.p rfl rfl rfl rfl (Y.ext rfl rfl) ?_
      refine J.p rfl rfl rfl rfl (Y.ext rfl rfl) ?_
      refine J.p rfl rfl rfl rfl (Y.asg rfl) ?_
      refine J.p rfl rfl rfl rfl (Y.asg rfl) ?_
      refine J.p rfl rfl rfl rfl (Y.asg rfl) ?_
      refine J.nx ?_
      refine C.seq ?_
      refine C.rs ?_
      refine J.p rfl rfl rfl rfl (Y.mv rfl) ?_
      refine J.p rfl rfl rfl rfl (Y.bin rfl rfl rfl) ?_
      refine J.p rfl rfl rfl rfl (Y.mv rfl) ?_
      refine split2 H (fun c55 H => ?_) (fun c55 H => ?_)
      · refine J.as (k := 20) rfl (congrArg Value.bool (decide_eq_true c55)) ?_
        refine J.skip rfl rfl ?_
        refine J.skip rfl rfl ?_
        refine J.skip rfl rfl ?_
        refine J.skip rfl rfl ?_
        refine J.skip rfl rfl ?_
        refine J.p rfl rfl rfl rfl (Y.pickT rfl rfl) ?_
        refine J.nx ?_
        refine C.condT rfl ?_
        refine C.ret ?_
        obtain rfl := Option.some.inj H
        obtain rfl := fin_inl HK24
        refine T.th ?_
        refine T.ib ?_
        refine T.th ?_
        refine T.ib ?_
        refine T.th ?_
        exact ret_ok (ks := []) rfl rfl (fun w h => ⟨rfl, h⟩)
      · refine J.as (k := 20) rfl (congrArg Value.bool (decide_eq_false c55)) ?_
        refine J.p rfl rfl rfl rfl (Y.mv rfl) ?_
        refine J.p rfl rfl rfl rfl (Y.mv rfl) ?_
        refine J.p rfl rfl rfl rfl (Y.mv rfl) ?_
        refine J.want rfl ?_
        obtain ⟨o56, hC59, H⟩ := bind_some H
        refine J.yield (σ := i50.2) (x := (i50.1, t53.1)) rfl hy hC59 rfl rfl [] rfl (fun σ57 ho => ?_) (fun e58 ho => ?_)
        · subst ho
          replace H := ysel_inl H
          refine J.imp (G' := Yy (.inl σ57) :: G) (fun w h => h) ?_
          refine J.p rfl rfl rfl rfl (Y.notb rfl) ?_
          refine J.p rfl rfl rfl rfl (Y.pickF rfl rfl) ?_
          refine J.nx ?_
          refine C.condF rfl ?_
          refine C.skip ?_
          refine N.nx ?_
          refine C.reg ?_
          refine J.p rfl rfl rfl rfl (Y.mv rfl) ?_
          refine J.p rfl rfl rfl rfl (Y.mv rfl) ?_
          refine J.p rfl rfl rfl rfl (Y.bin rfl rfl rfl) ?_
          refine J.p rfl rfl rfl rfl (Y.asg rfl) ?_
          refine J.nil ?_
          refine N.ib ?_
          exact N.again (k49, (IntKind.wrap .i64 (i50.1 + t53.2.1), σ57), ()) ⟨H, trivial⟩ (Nat.lt_succ_self _) (by exact ⟨rfl, rfl, rfl, trivial⟩) (by exact fun w h => h)
        · subst ho
          replace H := ysel_inr H
          refine J.imp (G' := Yy (.inr e58) :: G) (fun w h => h) ?_
          refine J.p rfl rfl rfl rfl (Y.notb rfl) ?_
          refine J.p rfl rfl rfl rfl (Y.pickF rfl rfl) ?_
          refine J.nx ?_
          refine C.condT rfl ?_
          refine C.ret ?_
          obtain rfl := Option.some.inj H
          obtain rfl := fin_inl HK24
          refine T.th ?_
          refine T.ib ?_
          refine T.th ?_
          refine T.ib ?_
          refine T.th ?_
          exact ret_ok (ks := []) rfl rfl (fun w h => ⟨rfl, h⟩)
    · refine C.condF (congrArg (fun b => some (Value.bool b)) (decide_eq_false c52)) ?_
      refine C.exit ?_
      refine X.th ?_
      refine X.th ?_
      refine X.hit ?_
      obtain rfl := Option.some.inj H
      exact N.meet (i50.2, ()) ⟨fin_inr HK24, trivial⟩ (by exact trivial) (by exact fun w h => h)
  · refine N.at (s' := []) (G' := Yy (.inl o25) :: G) rfl rfl ?_
    obtain rfl := Option.some.inj H
    exact end_ok (ks := []) rfl rfl (fun w h => ⟨rfl, h⟩)
/-! ### salvor/escape.Each: function 26 -/
def Each.f (a0 : List Int) : Option (Unit) := some ()
theorem Each.calls {B : Nat} {w0 : World} {G : List HP} (a0 : List Int) (Aa0 : Option Addr) (ca0 : Nat) (ha0 : RdG B w0 G Aa0 (a0.map (Value.int .u8))) (ka0 : a0.length ≤ ca0) (r : Unit) (H : Each.f a0 = some r) (w : World) (hw : St B w0 (G) w) :
    Calls Try.prog 26 [.slice Aa0 a0.length ca0].toArray w (fun e w' => ∃ gf0, e = .returned (.func (.func 40) #[] #[.pointer (some ⟨gf0, 0, none⟩)]) ∧ St B w0 (cells gf0 25 [.slice Aa0 a0.length ca0] :: G) w') := by
  unfold Each.f at H
  refine calls_of (n := 4) (s := [(0, .slice Aa0 a0.length ca0)]) Try.func26 rfl rfl rfl rfl ?_ hw
  refine C.rs ?_
  refine J.box (L := [.slice Aa0 a0.length ca0]) rfl rfl rfl (fun g1 => ?_)
  refine J.p rfl rfl rfl rfl (Y.asg rfl) ?_
  refine J.nx ?_
  refine C.rs ?_
  refine J.p rfl rfl rfl rfl (Y.mkf rfl rfl) ?_
  refine J.p rfl rfl rfl rfl (Y.asg rfl) ?_
  refine J.nx ?_
  refine C.ret ?_
  obtain rfl := Option.some.inj H
  exact ret_ok (ks := [2]) rfl rfl (fun w h => ⟨g1, rfl, h⟩)
/-! ### salvor/salvorlaw3.each: function 19 -/
def each.f (K : Nat) (a0 : List Int) (a1 : Int) : Option (Bool) := (room.f K a0).bind fun t3 => (Look.f K a0).bind fun t8 => (if a1 < 1 then (some 1) else (some a1)).bind fun o25 => gd ((0 : Int) ≤ (a0.length : Int) ∧ (0 ≤ (Int.toNat (a0.length : Int)) ∧ (Int.toNat (a0.length : Int)) ≤ t3.length)) ((Each.f ((t3.take (Int.toNat (a0.length : Int))).drop 0)).bind fun t31 => ((EachF.f K (fun (i123 : Int × Bool) (x130 : Int × Int) => (if i123.2 = true then (if i123.1 < (t8.1.length : Int) then (gd ((0 : Int) ≤ i123.1 ∧ i123.1 < (t8.2.1.length : Int)) (gd ((0 : Int) ≤ i123.1 ∧ i123.1 < (t8.2.1.length : Int)) (if (rd t8.2.1 i123.1) = x130.1 then (gd ((0 : Int) ≤ i123.1 ∧ i123.1 < (t8.1.length : Int)) (gd ((0 : Int) ≤ i123.1 ∧ i123.1 < (t8.1.length : Int)) (some (decide ((rd t8.1 i123.1) = x130.2))))) else (some false)))) else (some false)) else (some false)).bind fun o152 => (if (IntKind.wrap .i64 (i123.1 + 1)) = o25 then (some true) else (some (!o152))).bind fun o168 => if o168 = true then (some (.inr (IntKind.wrap .i64 (i123.1 + 1), o152))) else (some (.inl (IntKind.wrap .i64 (i123.1 + 1), o152)))) (0, true) ((t3.take (Int.toNat (a0.length : Int))).drop 0)).bind fun t128 => ysel t128 (fun i123 => some (i123.1, i123.2)) (fun e126 => some (e126.1, e126.2))).bind fun o81 => (if o25 < (t8.1.length : Int) then (some o25) else (some (t8.1.length : Int))).bind fun o177 => (whole.f K t3 a0).bind fun t182 => if o81.2 = true then (if t182 = true then (some (decide (o81.1 = o177))) else (some false)) else (some false))
theorem each.calls {B : Nat} {w0 : World} {G : List HP} (K : Nat) (a0 : List Int) (a1 : Int) (Aa0 : Option Addr) (ca0 : Nat) (ha0 : RdG B w0 G Aa0 (a0.map (Value.int .u8))) (ka0 : a0.length ≤ ca0) (r : Bool) (H : each.f K a0 a1 = some r) (w : World) (hw : St B w0 (G) w) :
    Calls Try.prog 19 [.slice Aa0 a0.length ca0, .int .i64 a1].toArray w (fun e w' => e = .returned (.bool r) ∧ St B w0 (G) w') := by
  unfold each.f at H
  refine calls_ofM (n := 84) (s := [(0, .slice Aa0 a0.length ca0), (1, .int .i64 a1)]) Try.func19 rfl rfl rfl rfl ?_ hw
  refine C.rs ?_
  refine J.box (L := [.int .i64 a1]) rfl rfl rfl (fun g1 => ?_)
  refine J.p rfl rfl rfl rfl (Y.asg rfl) ?_
  refine J.nx ?_
  refine C.rs ?_
  refine J.p rfl rfl rfl rfl (Y.mv rfl) ?_
  obtain ⟨t3, hC4, H⟩ := bind_some H
  refine J.call (us := []) (cap := []) rfl rfl rfl go15 (fun w hw => room.calls K a0 Aa0 ca0 (ha0.suf [_, _] rfl) ka0 t3 hC4 w hw) (fun e w1 h1 => ?_)
  obtain ⟨A5, c6, rfl, hw189⟩ := h1
  refine ⟨_, _, rfl, hw189, ?_⟩
  refine J.p rfl rfl rfl rfl (Y.asg rfl) ?_
  refine J.nx ?_
  refine C.rs ?_
  refine J.p rfl rfl rfl rfl (Y.mv rfl) ?_
  obtain ⟨t8, hC9, H⟩ := bind_some H
  refine J.call (us := []) (cap := []) rfl rfl rfl go35 (fun w hw => Look.calls K a0 Aa0 ca0 (ha0.suf [_, _, _] rfl) ka0 t8 hC9 w hw) (fun e w1 h1 => ?_)
  obtain ⟨A10, c11, A13, c14, rfl, hw188⟩ := h1
  refine ⟨_, _, rfl, hw188, ?_⟩
  refine J.alloc (L := [.slice none 0 0, .slice none 0 0, .int .i64 0, .int .i64 0]) rfl ti52 rfl (fun g16 => ?_)
  refine J.stA (us := [.slice A10 t8.1.length c11, .slice A13 t8.2.1.length c14, .int .i64 t8.2.2.1, .int .i64 t8.2.2.2]) (L' := [.slice A10 t8.1.length c11, .slice A13 t8.2.1.length c14, .int .i64 t8.2.2.1, .int .i64 t8.2.2.2]) ti52 rfl rfl rfl rfl rfl rfl ?_
  refine J.nx ?_
  refine C.rs ?_
  refine J.alloc (L := [.int .i64 0]) rfl ti3 rfl (fun g18 => ?_)
  refine J.stE (L' := [.int .i64 0]) ti3 rfl rfl rfl rfl rfl ?_
  refine J.nx ?_
  refine C.rs ?_
  refine J.alloc (L := [.bool false]) rfl ti4 rfl (fun g20 => ?_)
  refine J.stE (L' := [.bool true]) ti4 rfl rfl rfl rfl rfl ?_
  refine J.nx ?_
  refine C.seq ?_
  refine C.rs ?_
  refine J.r rfl rfl rfl rfl (Y.ldC 6 Try.underlying3 rfl rfl rfl rfl) ?_
  refine J.p rfl rfl rfl rfl (Y.bin rfl rfl rfl) ?_
  refine J.nx ?_
  refine C.joinND H (fun (o25 : Int) (j26 : Unit) => [(0, .slice Aa0 a0.length ca0), (3, .pointer (some ⟨g1, 0, none⟩)), (5, .slice A5 t3.length c6), (6, .pointer (some ⟨g16, 0, none⟩)), (7, .pointer (some ⟨g18, 0, none⟩)), (8, .pointer (some ⟨g20, 0, none⟩))]) (fun (o25 : Int) (j26 : Unit) => cells g1 3 [.int .i64 o25] :: own 5 1 A5 c6 (t3.map (Value.int .u8)) :: cells g16 52 [.slice A10 t8.1.length c11, .slice A13 t8.2.1.length c14, .int .i64 t8.2.2.1, .int .i64 t8.2.2.2] :: cells g18 3 [.int .i64 0] :: cells g20 4 [.bool true] :: own 5 1 A10 c11 (t8.1.map (Value.int .u8)) :: own 3 1 A13 c14 (t8.2.1.map (Value.int .i64)) :: G) (fun (o25 : Int) (j26 : Unit) => True) (fun o23 H HK24 => ?_) (fun ds27 o25 j26 H _ => ?_)
  · refine split2 H (fun c28 H => ?_) (fun c28 H => ?_)
    · refine C.condT (congrArg (fun b => some (Value.bool b)) (decide_eq_true c28)) ?_
      refine C.reg ?_
      refine J.pull 6 rfl rfl ?_
      refine J.stE (L' := [.int .i64 1]) ti3 rfl rfl rfl rfl rfl ?_
      refine J.nil ?_
      obtain rfl := Option.some.inj H
      exact N.meetD (1, ()) ⟨HK24, trivial⟩ (by exact ⟨rfl, rfl, rfl, rfl, rfl, rfl, trivial⟩) (by exact fun w h => (St.pick [7, 0, 6, 3, 2, 1, 4, 5] [_, _, _, _, _, _, _, _] h rfl))
    · refine C.condF (congrArg (fun b => some (Value.bool b)) (decide_eq_false c28)) ?_
      refine C.skip ?_
      obtain rfl := Option.some.inj H
      exact N.meetD (a1, ()) ⟨HK24, trivial⟩ (by exact ⟨rfl, rfl, rfl, rfl, rfl, rfl, trivial⟩) (by exact fun w h => (St.pick [7, 6, 5, 2, 1, 0, 3, 4] [_, _, _, _, _, _, _, _] h rfl))
  · refine N.at (s' := [(0, .slice Aa0 a0.length ca0), (3, .pointer (some ⟨g1, 0, none⟩)), (5, .slice A5 t3.length c6), (6, .pointer (some ⟨g16, 0, none⟩)), (7, .pointer (some ⟨g18, 0, none⟩)), (8, .pointer (some ⟨g20, 0, none⟩))]) (G' := dblks ds27 :: cells g1 3 [.int .i64 o25] :: own 5 1 A5 c6 (t3.map (Value.int .u8)) :: cells g16 52 [.slice A10 t8.1.length c11, .slice A13 t8.2.1.length c14, .int .i64 t8.2.2.1, .int .i64 t8.2.2.2] :: cells g18 3 [.int .i64 0] :: cells g20 4 [.bool true] :: own 5 1 A10 c11 (t8.1.map (Value.int .u8)) :: own 3 1 A13 c14 (t8.2.1.map (Value.int .i64)) :: G) rfl rfl ?_
    refine N.nx ?_
    refine C.rs ?_
    refine J.p rfl rfl rfl rfl (Y.mv rfl) ?_
    refine J.p rfl rfl rfl rfl (Y.mv rfl) ?_
    refine J.p rfl rfl rfl rfl (Y.lenS Try.underlying25 rfl) ?_
    obtain ⟨p30, H⟩ := gd_some H
    refine J.know (own_leL 2 rfl) (fun hc29 => ?_)
    refine J.p rfl rfl rfl rfl (Y.slcL Try.underlying25 ti5 rfl bnd.no (bnd.yes rfl p30.1) p30.2 hc29) ?_
    obtain ⟨t31, hC32, H⟩ := bind_some H
    refine J.call (us := []) (cap := []) rfl rfl rfl go26 (fun w hw => Each.calls ((t3.take (Int.toNat (a0.length : Int))).drop 0) (subA 1 A5 c6 0) (c6 - 0) (RdG.subL (l := 0) (h := (Int.toNat (a0.length : Int))) (RdG.own 2 rfl) hc29) (hc_sub hc29) t31 hC32 w hw) (fun e w1 h1 => ?_)
    obtain ⟨g33, rfl, hw187⟩ := h1
    refine ⟨_, _, rfl, hw187, ?_⟩
    refine J.p rfl rfl rfl rfl (Y.asg rfl) ?_
    refine J.nx ?_
    refine C.seq ?_
    refine C.rs ?_
    refine J.p rfl rfl rfl rfl (Y.mv rfl) ?_
    refine J.p rfl rfl rfl rfl (Y.eqfn Try.underlying39 rfl rfl) ?_
    refine J.nx ?_
    refine C.condF rfl ?_
    refine C.skip ?_
    refine N.nx ?_
    refine C.seq ?_
    refine C.rs ?_
    refine J.p rfl rfl rfl rfl (Y.mv rfl) ?_
    refine J.nx ?_
    refine C.joinND H (fun (o81 : Int × Bool) (j82 : Unit) => [(0, .slice Aa0 a0.length ca0), (3, .pointer (some ⟨g1, 0, none⟩)), (5, .slice A5 t3.length c6), (6, .pointer (some ⟨g16, 0, none⟩)), (7, .pointer (some ⟨g18, 0, none⟩)), (8, .pointer (some ⟨g20, 0, none⟩))]) (fun (o81 : Int × Bool) (j82 : Unit) => cells g1 3 [.int .i64 o25] :: own 5 1 A5 c6 (t3.map (Value.int .u8)) :: cells g16 52 [.slice A10 t8.1.length c11, .slice A13 t8.2.1.length c14, .int .i64 t8.2.2.1, .int .i64 t8.2.2.2] :: cells g18 3 [.int .i64 o81.1] :: cells g20 4 [.bool o81.2] :: own 5 1 A10 c11 (t8.1.map (Value.int .u8)) :: own 3 1 A13 c14 (t8.2.1.map (Value.int .i64)) :: G) (fun (o81 : Int × Bool) (j82 : Unit) => True) (fun o79 H HK80 => ?_) (fun ds83 o81 j82 H _ => ?_)
    · refine C.blk ?_
      refine C.sub (s' := [(0, .slice Aa0 a0.length ca0), (3, .pointer (some ⟨g1, 0, none⟩)), (5, .slice A5 t3.length c6), (6, .pointer (some ⟨g16, 0, none⟩)), (7, .pointer (some ⟨g18, 0, none⟩)), (8, .pointer (some ⟨g20, 0, none⟩)), (27, .func (.func 40) #[] #[.pointer (some ⟨g33, 0, none⟩)])]) (by exact ⟨rfl, rfl, rfl, rfl, rfl, rfl, rfl, trivial⟩) ?_
      refine C.know (own_leL 3 rfl) (fun hc135 => ?_)
      refine C.know (own_leL 7 rfl) (fun hc138 => ?_)
      refine C.know (own_leL 8 rfl) (fun hc140 => ?_)
      have hkey : ∀ Gx, Gx = (cells g33 25 [.slice (subA 1 A5 c6 0) ((t3.take (Int.toNat (a0.length : Int))).drop 0).length (c6 - 0)] :: own 5 1 A5 c6 (t3.map (Value.int .u8)) :: own 5 1 A10 c11 (t8.1.map (Value.int .u8)) :: own 3 1 A13 c14 (t8.2.1.map (Value.int .i64)) :: G) → RdG B w0 Gx Aa0 (a0.map (Value.int .u8)) ∧ RdG B w0 Gx A5 (t3.map (Value.int .u8)) ∧ RdG B w0 Gx (some ⟨g33, 0, none⟩) [.slice (subA 1 A5 c6 0) ((t3.take (Int.toNat (a0.length : Int))).drop 0).length (c6 - 0)] ∧ RdG B w0 Gx A10 (t8.1.map (Value.int .u8)) ∧ RdG B w0 Gx A13 (t8.2.1.map (Value.int .i64)) ∧ True := by rintro _ rfl; exact ⟨(ha0.suf [_, _, _, _] rfl), (RdG.own 1 rfl), (RdG.cells 0 rfl), (RdG.own 2 rfl), (RdG.own 3 rfl), trivial⟩
      obtain ⟨hb133, hb134, hb136, hb137, hb139, _⟩ := hkey _ rfl
      obtain ⟨t128, hC129, H⟩ := bind_some H
      refine C.rangeF' (E := Int × Bool) (Gb := cells g33 25 [.slice (subA 1 A5 c6 0) ((t3.take (Int.toNat (a0.length : Int))).drop 0).length (c6 - 0)] :: own 5 1 A5 c6 (t3.map (Value.int .u8)) :: own 5 1 A10 c11 (t8.1.map (Value.int .u8)) :: own 3 1 A13 c14 (t8.2.1.map (Value.int .i64)) :: G) (caps := [.pointer (some ⟨g33, 0, none⟩)]) encY62 (fun (i123 : Int × Bool) (j124 : Unit) => [cells g1 3 [.int .i64 o25], cells g16 52 [.slice A10 t8.1.length c11, .slice A13 t8.2.1.length c14, .int .i64 t8.2.2.1, .int .i64 t8.2.2.2], cells g18 3 [.int .i64 i123.1], cells g20 4 [.bool i123.2]]) (fun (i123 : Int × Bool) (j124 : Unit) => True) (fun (e126 : Int × Bool) (k127 : Unit) => [cells g1 3 [.int .i64 o25], cells g16 52 [.slice A10 t8.1.length c11, .slice A13 t8.2.1.length c14, .int .i64 t8.2.2.1, .int .i64 t8.2.2.2], cells g18 3 [.int .i64 e126.1], cells g20 4 [.bool e126.2]]) (fun (e126 : Int × Bool) (k127 : Unit) => True) (fun (_ : Int × Bool) => .exit 0) (fun (x130 : Int × Int) => [(0, .slice Aa0 a0.length ca0), (3, .pointer (some ⟨g1, 0, none⟩)), (5, .slice A5 t3.length c6), (6, .pointer (some ⟨g16, 0, none⟩)), (7, .pointer (some ⟨g18, 0, none⟩)), (8, .pointer (some ⟨g20, 0, none⟩)), (10, .int .i64 x130.1), (11, .int .u8 x130.2), (27, .func (.func 40) #[] #[.pointer (some ⟨g33, 0, none⟩)]), (28, .int .i64 x130.1), (29, .int .u8 x130.2)]) _ (0, true) () t128 rfl go40 (fun _ => rfl) (by rfl) (by decide) (pf_of rfl) trivial (fun w h => (St.pick [1, 2, 4, 5, 6, 0, 3, 7, 8] [_, _, _, _, _, _, _, _, _] h rfl)) (fun Yy yv hy w hw => EachF.calls K _ _ ((t3.take (Int.toNat (a0.length : Int))).drop 0) Yy yv g33 (subA 1 A5 c6 0) (c6 - 0) hy (RdG.subL (l := 0) (h := (Int.toNat (a0.length : Int))) (RdG.own 1 rfl) hc29) (hc_sub hc29) (RdG.cells 0 rfl) _ hC129 w hw) (fun l i123 j124 x130 L131 _ => ?_) (fun l i123 j124 x130 o L131 G hGG H _ hl132 => ?_) (fun ds125 i123 j124 hr _ => ?_) (fun ds125 e126 k127 hr hx => ?_)
      · refine C.sub (s' := [(0, .slice Aa0 a0.length ca0), (3, .pointer (some ⟨g1, 0, none⟩)), (5, .slice A5 t3.length c6), (6, .pointer (some ⟨g16, 0, none⟩)), (7, .pointer (some ⟨g18, 0, none⟩)), (8, .pointer (some ⟨g20, 0, none⟩)), (27, .func (.func 40) #[] #[.pointer (some ⟨g33, 0, none⟩)]), (28, .int .i64 x130.1), (29, .int .u8 x130.2)]) (by exact ⟨rfl, rfl, rfl, rfl, rfl, rfl, rfl, rfl, rfl, trivial⟩) ?_
        refine C.rs ?_
        refine J.p rfl rfl rfl rfl (Y.asg rfl) ?_
        refine J.nx ?_
        refine C.reg ?_
        refine J.p rfl rfl rfl rfl (Y.asg rfl) ?_
        refine J.nil ?_
        exact N.asg (by exact ⟨rfl, rfl, rfl, rfl, rfl, rfl, rfl, rfl, rfl, rfl, rfl, trivial⟩) (fun w h => h)
      · replace hb133 := RdG.suf hb133 L131 hGG
        replace hb134 := RdG.suf hb134 L131 hGG
        replace hb136 := RdG.suf hb136 L131 hGG
        replace hb137 := RdG.suf hb137 L131 hGG
        replace hb139 := RdG.suf hb139 L131 hGG
        refine C.at (s' := [(0, .slice Aa0 a0.length ca0), (3, .pointer (some ⟨g1, 0, none⟩)), (5, .slice A5 t3.length c6), (6, .pointer (some ⟨g16, 0, none⟩)), (7, .pointer (some ⟨g18, 0, none⟩)), (8, .pointer (some ⟨g20, 0, none⟩)), (10, .int .i64 x130.1), (11, .int .u8 x130.2), (27, .func (.func 40) #[] #[.pointer (some ⟨g33, 0, none⟩)]), (28, .int .i64 x130.1), (29, .int .u8 x130.2)]) (G' := cells g1 3 [.int .i64 o25] :: cells g16 52 [.slice A10 t8.1.length c11, .slice A13 t8.2.1.length c14, .int .i64 t8.2.2.1, .int .i64 t8.2.2.2] :: cells g18 3 [.int .i64 i123.1] :: cells g20 4 [.bool i123.2] :: G) rfl rfl ?_
        refine C.blk ?_
        refine C.rs ?_
        refine J.joinB H (fun (o152 : Bool) (j153 : Unit) => [(0, .slice Aa0 a0.length ca0), (3, .pointer (some ⟨g1, 0, none⟩)), (5, .slice A5 t3.length c6), (6, .pointer (some ⟨g16, 0, none⟩)), (7, .pointer (some ⟨g18, 0, none⟩)), (8, .pointer (some ⟨g20, 0, none⟩)), (27, .func (.func 40) #[] #[.pointer (some ⟨g33, 0, none⟩)])]) (fun (o152 : Bool) (j153 : Unit) => cells g1 3 [.int .i64 o25] :: cells g16 52 [.slice A10 t8.1.length c11, .slice A13 t8.2.1.length c14, .int .i64 t8.2.2.1, .int .i64 t8.2.2.2] :: cells g18 3 [.int .i64 i123.1] :: cells g20 4 [.bool o152] :: G) (fun (o152 : Bool) (j153 : Unit) => True) (fun o154 H HK155 => ?_) (fun o152 j153 H _ => ?_)
        · refine J.r rfl rfl rfl rfl (Y.ldC 3 Try.underlying4 rfl rfl rfl rfl) ?_
          refine J.p rfl rfl rfl rfl (Y.mv rfl) ?_
          refine split2 H (fun c156 H => ?_) (fun c156 H => ?_)
          · refine J.as (k := 31) rfl (congrArg Value.bool (c156)) ?_
            refine J.r rfl rfl rfl rfl (Y.ldC 2 Try.underlying3 rfl rfl rfl rfl) ?_
            refine J.p rfl rfl rfl rfl (Y.fa0 fa52_0 rfl rfl) ?_
            refine J.r rfl rfl rfl rfl (Y.ldC 1 Try.underlying25 rfl rfl rfl rfl) ?_
            refine J.p rfl rfl rfl rfl (Y.lenS Try.underlying25 rfl) ?_
            refine J.p rfl rfl rfl rfl (Y.bin rfl rfl rfl) ?_
            refine J.p rfl rfl rfl rfl (Y.pickT rfl rfl) ?_
            refine J.p rfl rfl rfl rfl (Y.mv rfl) ?_
            refine split2 H (fun c157 H => ?_) (fun c157 H => ?_)
            · refine J.as (k := 38) rfl (congrArg Value.bool (decide_eq_true c157)) ?_
              refine J.p rfl rfl rfl rfl (Y.fa0 fa52_1 rfl rfl) ?_
              refine J.r rfl rfl rfl rfl (Y.ldC 1 Try.underlying50 rfl rfl rfl rfl) ?_
              refine J.r rfl rfl rfl rfl (Y.ldC 2 Try.underlying3 rfl rfl rfl rfl) ?_
              obtain ⟨p160, H⟩ := gd_some H
              refine J.know ((hb139.suf [_, _, _, _] rfl).some_ (j := Int.toNat i123.1) (by rw [List.length_map]; exact idx_lt p160)) (fun hh => ?_)
              obtain ⟨a158, ha159⟩ := hh
              refine J.p rfl rfl rfl rfl (Y.ixa Try.underlying50 ti3 rfl rfl p160 ha159) ?_
              obtain ⟨p161, H⟩ := gd_some H
              refine J.r rfl rfl rfl rfl (Y.ldE Try.underlying3 rfl rfl ha159 p161 (hb139.suf [_, _, _, _] rfl)) ?_
              refine J.p rfl rfl rfl rfl (Y.mv rfl) ?_
              refine J.p rfl rfl rfl rfl (Y.bin rfl rfl rfl) ?_
              refine J.p rfl rfl rfl rfl (Y.pickT rfl rfl) ?_
              refine J.p rfl rfl rfl rfl (Y.mv rfl) ?_
              refine split2 H (fun c162 H => ?_) (fun c162 H => ?_)
              · refine J.as (k := 47) rfl (congrArg Value.bool (decide_eq_true c162)) ?_
                refine J.p rfl rfl rfl rfl (Y.fa0 fa52_0 rfl rfl) ?_
                refine J.r rfl rfl rfl rfl (Y.ldC 1 Try.underlying25 rfl rfl rfl rfl) ?_
                refine J.r rfl rfl rfl rfl (Y.ldC 2 Try.underlying3 rfl rfl rfl rfl) ?_
                obtain ⟨p165, H⟩ := gd_some H
                refine J.know ((hb137.suf [_, _, _, _] rfl).some_ (j := Int.toNat i123.1) (by rw [List.length_map]; exact idx_lt p165)) (fun hh => ?_)
                obtain ⟨a163, ha164⟩ := hh
                refine J.p rfl rfl rfl rfl (Y.ixa Try.underlying25 ti5 rfl rfl p165 ha164) ?_
                obtain ⟨p166, H⟩ := gd_some H
                refine J.r rfl rfl rfl rfl (Y.ldE Try.underlying5 rfl rfl ha164 p166 (hb137.suf [_, _, _, _] rfl)) ?_
                refine J.p rfl rfl rfl rfl (Y.mv rfl) ?_
                refine J.p rfl rfl rfl rfl (Y.bin rfl rfl rfl) ?_
                refine J.p rfl rfl rfl rfl (Y.pickT rfl rfl) ?_
                refine J.pull 3 rfl rfl ?_
                refine J.stE (L' := [.bool (decide ((rd t8.1 i123.1) = x130.2))]) ti4 rfl rfl rfl rfl rfl ?_
                refine J.nil ?_
                obtain rfl := Option.some.inj H
                exact N.meet (decide ((rd t8.1 i123.1) = x130.2), ()) ⟨HK155, trivial⟩ (by exact ⟨rfl, rfl, rfl, rfl, rfl, rfl, rfl, trivial⟩) (by exact fun w h => (St.pick [1, 2, 3, 0] [_, _, _, _] h rfl))
              · refine J.as (k := 47) rfl (congrArg Value.bool (decide_eq_false c162)) ?_
                refine J.skip rfl rfl ?_
                refine J.skip rfl rfl ?_
                refine J.skip rfl rfl ?_
                refine J.skip rfl rfl ?_
                refine J.skip rfl rfl ?_
                refine J.skip rfl rfl ?_
                refine J.skip rfl rfl ?_
                refine J.p rfl rfl rfl rfl (Y.pickF rfl rfl) ?_
                refine J.pull 3 rfl rfl ?_
                refine J.stE (L' := [.bool false]) ti4 rfl rfl rfl rfl rfl ?_
                refine J.nil ?_
                obtain rfl := Option.some.inj H
                exact N.meet (false, ()) ⟨HK155, trivial⟩ (by exact ⟨rfl, rfl, rfl, rfl, rfl, rfl, rfl, trivial⟩) (by exact fun w h => (St.pick [1, 2, 3, 0] [_, _, _, _] h rfl))
            · refine J.as (k := 38) rfl (congrArg Value.bool (decide_eq_false c157)) ?_
              refine J.skip rfl rfl ?_
              refine J.skip rfl rfl ?_
              refine J.skip rfl rfl ?_
              refine J.skip rfl rfl ?_
              refine J.skip rfl rfl ?_
              refine J.skip rfl rfl ?_
              refine J.skip rfl rfl ?_
              refine J.p rfl rfl rfl rfl (Y.pickF rfl rfl) ?_
              refine J.p rfl rfl rfl rfl (Y.mv rfl) ?_
              refine J.skip rfl rfl ?_
              refine J.skip rfl rfl ?_
              refine J.skip rfl rfl ?_
              refine J.skip rfl rfl ?_
              refine J.skip rfl rfl ?_
              refine J.skip rfl rfl ?_
              refine J.skip rfl rfl ?_
              refine J.p rfl rfl rfl rfl (Y.pickF rfl rfl) ?_
              refine J.pull 3 rfl rfl ?_
              refine J.stE (L' := [.bool false]) ti4 rfl rfl rfl rfl rfl ?_
              refine J.nil ?_
              obtain rfl := Option.some.inj H
              exact N.meet (false, ()) ⟨HK155, trivial⟩ (by exact ⟨rfl, rfl, rfl, rfl, rfl, rfl, rfl, trivial⟩) (by exact fun w h => (St.pick [1, 2, 3, 0] [_, _, _, _] h rfl))
          · refine J.as (k := 31) rfl (congrArg Value.bool (nt c156)) ?_
            refine J.skip rfl rfl ?_
            refine J.skip rfl rfl ?_
            refine J.skip rfl rfl ?_
            refine J.skip rfl rfl ?_
            refine J.skip rfl rfl ?_
            refine J.p rfl rfl rfl rfl (Y.pickF rfl rfl) ?_
            refine J.p rfl rfl rfl rfl (Y.mv rfl) ?_
            refine J.skip rfl rfl ?_
            refine J.skip rfl rfl ?_
            refine J.skip rfl rfl ?_
            refine J.skip rfl rfl ?_
            refine J.skip rfl rfl ?_
            refine J.skip rfl rfl ?_
            refine J.skip rfl rfl ?_
            refine J.p rfl rfl rfl rfl (Y.pickF rfl rfl) ?_
            refine J.p rfl rfl rfl rfl (Y.mv rfl) ?_
            refine J.skip rfl rfl ?_
            refine J.skip rfl rfl ?_
            refine J.skip rfl rfl ?_
            refine J.skip rfl rfl ?_
            refine J.skip rfl rfl ?_
            refine J.skip rfl rfl ?_
            refine J.skip rfl rfl ?_
            refine J.p rfl rfl rfl rfl (Y.pickF rfl rfl) ?_
            refine J.pull 3 rfl rfl ?_
            refine J.stE (L' := [.bool false]) ti4 rfl rfl rfl rfl rfl ?_
            refine J.nil ?_
            obtain rfl := Option.some.inj H
            exact N.meet (false, ()) ⟨HK155, trivial⟩ (by exact ⟨rfl, rfl, rfl, rfl, rfl, rfl, rfl, trivial⟩) (by exact fun w h => (St.pick [1, 2, 3, 0] [_, _, _, _] h rfl))
        · refine C.at (s' := [(0, .slice Aa0 a0.length ca0), (3, .pointer (some ⟨g1, 0, none⟩)), (5, .slice A5 t3.length c6), (6, .pointer (some ⟨g16, 0, none⟩)), (7, .pointer (some ⟨g18, 0, none⟩)), (8, .pointer (some ⟨g20, 0, none⟩)), (27, .func (.func 40) #[] #[.pointer (some ⟨g33, 0, none⟩)])]) (G' := cells g1 3 [.int .i64 o25] :: cells g16 52 [.slice A10 t8.1.length c11, .slice A13 t8.2.1.length c14, .int .i64 t8.2.2.1, .int .i64 t8.2.2.2] :: cells g18 3 [.int .i64 i123.1] :: cells g20 4 [.bool o152] :: G) rfl rfl ?_
          refine C.rs ?_
          refine J.r rfl rfl rfl rfl (Y.ldC 2 Try.underlying3 rfl rfl rfl rfl) ?_
          refine J.p rfl rfl rfl rfl (Y.bin rfl rfl rfl) ?_
          refine J.pull 2 rfl rfl ?_
          refine J.stE (L' := [.int .i64 (IntKind.wrap .i64 (i123.1 + 1))]) ti3 rfl rfl rfl rfl rfl ?_
          refine J.nx ?_
          refine C.rs ?_
          refine J.joinB H (fun (o168 : Bool) (j169 : Unit) => [(0, .slice Aa0 a0.length ca0), (3, .pointer (some ⟨g1, 0, none⟩)), (5, .slice A5 t3.length c6), (6, .pointer (some ⟨g16, 0, none⟩)), (7, .pointer (some ⟨g18, 0, none⟩)), (8, .pointer (some ⟨g20, 0, none⟩)), (27, .func (.func 40) #[] #[.pointer (some ⟨g33, 0, none⟩)]), (64, .bool o168)]) (fun (o168 : Bool) (j169 : Unit) => cells g1 3 [.int .i64 o25] :: cells g16 52 [.slice A10 t8.1.length c11, .slice A13 t8.2.1.length c14, .int .i64 t8.2.2.1, .int .i64 t8.2.2.2] :: cells g18 3 [.int .i64 (IntKind.wrap .i64 (i123.1 + 1))] :: cells g20 4 [.bool o152] :: G) (fun (o168 : Bool) (j169 : Unit) => True) (fun o170 H HK171 => ?_) (fun o168 j169 H _ => ?_)
          · refine J.r rfl rfl rfl rfl (Y.ldC 0 Try.underlying3 rfl rfl rfl rfl) ?_
            refine J.r rfl rfl rfl rfl (Y.ldC 1 Try.underlying3 rfl rfl rfl rfl) ?_
            refine J.p rfl rfl rfl rfl (Y.bin rfl rfl rfl) ?_
            refine J.p rfl rfl rfl rfl (Y.mv rfl) ?_
            refine split2 H (fun c172 H => ?_) (fun c172 H => ?_)
            · refine J.as (k := 61) rfl (congrArg Value.bool (decide_eq_true c172)) ?_
              refine J.skip rfl rfl ?_
              refine J.skip rfl rfl ?_
              refine J.p rfl rfl rfl rfl (Y.pickT rfl rfl) ?_
              refine J.nil ?_
              obtain rfl := Option.some.inj H
              exact N.meet (true, ()) ⟨HK171, trivial⟩ (by exact ⟨rfl, rfl, rfl, rfl, rfl, rfl, rfl, rfl, trivial⟩) (by exact fun w h => (St.pick [1, 2, 0, 3] [_, _, _, _] h rfl))
            · refine J.as (k := 61) rfl (congrArg Value.bool (decide_eq_false c172)) ?_
              refine J.r rfl rfl rfl rfl (Y.ldC 3 Try.underlying4 rfl rfl rfl rfl) ?_
              refine J.p rfl rfl rfl rfl (Y.notb rfl) ?_
              refine J.p rfl rfl rfl rfl (Y.pickF rfl rfl) ?_
              refine J.nil ?_
              obtain rfl := Option.some.inj H
              exact N.meet (!o152, ()) ⟨HK171, trivial⟩ (by exact ⟨rfl, rfl, rfl, rfl, rfl, rfl, rfl, rfl, trivial⟩) (by exact fun w h => (St.pick [1, 2, 0, 3] [_, _, _, _] h rfl))
          · refine C.at (s' := [(0, .slice Aa0 a0.length ca0), (3, .pointer (some ⟨g1, 0, none⟩)), (5, .slice A5 t3.length c6), (6, .pointer (some ⟨g16, 0, none⟩)), (7, .pointer (some ⟨g18, 0, none⟩)), (8, .pointer (some ⟨g20, 0, none⟩)), (27, .func (.func 40) #[] #[.pointer (some ⟨g33, 0, none⟩)]), (64, .bool o168)]) (G' := cells g1 3 [.int .i64 o25] :: cells g16 52 [.slice A10 t8.1.length c11, .slice A13 t8.2.1.length c14, .int .i64 t8.2.2.1, .int .i64 t8.2.2.2] :: cells g18 3 [.int .i64 (IntKind.wrap .i64 (i123.1 + 1))] :: cells g20 4 [.bool o152] :: G) rfl rfl ?_
            refine split2 H (fun c173 H => ?_) (fun c173 H => ?_)
            · refine C.condT (congrArg (fun b => some (Value.bool b)) (c173)) ?_
              refine C.exit ?_
              obtain rfl := Option.some.inj H
              refine X.ms rfl ?_
              exact X.round (IntKind.wrap .i64 (i123.1 + 1), o152) () rfl rfl trivial (by exact fun w h => h)
            · refine C.condF (congrArg (fun b => some (Value.bool b)) (nt c173)) ?_
              refine C.skip ?_
              refine N.ib ?_
              obtain rfl := Option.some.inj H
              exact N.round (IntKind.wrap .i64 (i123.1 + 1), o152) () rfl trivial (by exact fun w h => h)
      · subst hr
        replace H := ysel_inl H
        refine N.at (s' := [(0, .slice Aa0 a0.length ca0), (3, .pointer (some ⟨g1, 0, none⟩)), (5, .slice A5 t3.length c6), (6, .pointer (some ⟨g16, 0, none⟩)), (7, .pointer (some ⟨g18, 0, none⟩)), (8, .pointer (some ⟨g20, 0, none⟩)), (27, .func (.func 40) #[] #[.pointer (some ⟨g33, 0, none⟩)])]) (G' := dblks ds125 :: cells g1 3 [.int .i64 o25] :: cells g16 52 [.slice A10 t8.1.length c11, .slice A13 t8.2.1.length c14, .int .i64 t8.2.2.1, .int .i64 t8.2.2.2] :: cells g18 3 [.int .i64 i123.1] :: cells g20 4 [.bool i123.2] :: cells g33 25 [.slice (subA 1 A5 c6 0) ((t3.take (Int.toNat (a0.length : Int))).drop 0).length (c6 - 0)] :: own 5 1 A5 c6 (t3.map (Value.int .u8)) :: own 5 1 A10 c11 (t8.1.map (Value.int .u8)) :: own 3 1 A13 c14 (t8.2.1.map (Value.int .i64)) :: G) rfl rfl ?_
        refine N.ib ?_
        obtain rfl := Option.some.inj H
        exact N.meetD ((i123.1, i123.2), ()) ⟨HK80, trivial⟩ (by exact ⟨rfl, rfl, rfl, rfl, rfl, rfl, trivial⟩) (by exact fun w h => (St.pick [0, 1, 6, 2, 3, 4, 7, 8] [_, _, _, _, _, _, _, _, _] h rfl))
      · subst hr
        replace H := ysel_inr H
        refine C.at (s' := [(0, .slice Aa0 a0.length ca0), (3, .pointer (some ⟨g1, 0, none⟩)), (5, .slice A5 t3.length c6), (6, .pointer (some ⟨g16, 0, none⟩)), (7, .pointer (some ⟨g18, 0, none⟩)), (8, .pointer (some ⟨g20, 0, none⟩)), (27, .func (.func 40) #[] #[.pointer (some ⟨g33, 0, none⟩)])]) (G' := dblks ds125 :: cells g1 3 [.int .i64 o25] :: cells g16 52 [.slice A10 t8.1.length c11, .slice A13 t8.2.1.length c14, .int .i64 t8.2.2.1, .int .i64 t8.2.2.2] :: cells g18 3 [.int .i64 e126.1] :: cells g20 4 [.bool e126.2] :: cells g33 25 [.slice (subA 1 A5 c6 0) ((t3.take (Int.toNat (a0.length : Int))).drop 0).length (c6 - 0)] :: own 5 1 A5 c6 (t3.map (Value.int .u8)) :: own 5 1 A10 c11 (t8.1.map (Value.int .u8)) :: own 3 1 A13 c14 (t8.2.1.map (Value.int .i64)) :: G) rfl rfl ?_
        refine C.exit ?_
        refine X.hit ?_
        obtain rfl := Option.some.inj H
        exact N.meetD ((e126.1, e126.2), ()) ⟨HK80, trivial⟩ (by exact ⟨rfl, rfl, rfl, rfl, rfl, rfl, trivial⟩) (by exact fun w h => (St.pick [0, 1, 6, 2, 3, 4, 7, 8] [_, _, _, _, _, _, _, _, _] h rfl))
    · refine N.at (s' := [(0, .slice Aa0 a0.length ca0), (3, .pointer (some ⟨g1, 0, none⟩)), (5, .slice A5 t3.length c6), (6, .pointer (some ⟨g16, 0, none⟩)), (7, .pointer (some ⟨g18, 0, none⟩)), (8, .pointer (some ⟨g20, 0, none⟩))]) (G' := dblks ds83 :: cells g1 3 [.int .i64 o25] :: own 5 1 A5 c6 (t3.map (Value.int .u8)) :: cells g16 52 [.slice A10 t8.1.length c11, .slice A13 t8.2.1.length c14, .int .i64 t8.2.2.1, .int .i64 t8.2.2.2] :: cells g18 3 [.int .i64 o81.1] :: cells g20 4 [.bool o81.2] :: own 5 1 A10 c11 (t8.1.map (Value.int .u8)) :: own 3 1 A13 c14 (t8.2.1.map (Value.int .i64)) :: G) rfl rfl ?_
      refine N.nx ?_
      refine C.rs ?_
      refine J.p rfl rfl rfl rfl (Y.fa0 fa52_0 rfl rfl) ?_
      refine J.r rfl rfl rfl rfl (Y.ldC 3 Try.underlying25 rfl rfl rfl rfl) ?_
      refine J.p rfl rfl rfl rfl (Y.lenS Try.underlying25 rfl) ?_
      refine J.p rfl rfl rfl rfl (Y.asg rfl) ?_
      refine J.nx ?_
      refine C.seq ?_
      refine C.rs ?_
      refine J.r rfl rfl rfl rfl (Y.ldC 1 Try.underlying3 rfl rfl rfl rfl) ?_
      refine J.p rfl rfl rfl rfl (Y.mv rfl) ?_
      refine J.p rfl rfl rfl rfl (Y.bin rfl rfl rfl) ?_
      refine J.nx ?_
      refine C.joinND H (fun (o177 : Int) (j178 : Unit) => [(0, .slice Aa0 a0.length ca0), (5, .slice A5 t3.length c6), (7, .pointer (some ⟨g18, 0, none⟩)), (8, .pointer (some ⟨g20, 0, none⟩)), (12, .int .i64 o177)]) (fun (o177 : Int) (j178 : Unit) => own 5 1 A5 c6 (t3.map (Value.int .u8)) :: cells g18 3 [.int .i64 o81.1] :: cells g20 4 [.bool o81.2] :: G) (fun (o177 : Int) (j178 : Unit) => True) (fun o175 H HK176 => ?_) (fun ds179 o177 j178 H _ => ?_)
      · refine split2 H (fun c180 H => ?_) (fun c180 H => ?_)
        · refine C.condT (congrArg (fun b => some (Value.bool b)) (decide_eq_true c180)) ?_
          refine C.reg ?_
          refine J.r rfl rfl rfl rfl (Y.ldC 1 Try.underlying3 rfl rfl rfl rfl) ?_
          refine J.p rfl rfl rfl rfl (Y.asg rfl) ?_
          refine J.nil ?_
          obtain rfl := Option.some.inj H
          exact N.meetD (o25, ()) ⟨HK176, trivial⟩ (by exact ⟨rfl, rfl, rfl, rfl, rfl, trivial⟩) (by exact fun w h => (St.pick [0, 2, 4, 5] [_, _, _, _, _, _, _, _] h rfl))
        · refine C.condF (congrArg (fun b => some (Value.bool b)) (decide_eq_false c180)) ?_
          refine C.skip ?_
          obtain rfl := Option.some.inj H
          exact N.meetD ((t8.1.length : Int), ()) ⟨HK176, trivial⟩ (by exact ⟨rfl, rfl, rfl, rfl, rfl, trivial⟩) (by exact fun w h => (St.pick [0, 2, 4, 5] [_, _, _, _, _, _, _, _] h rfl))
      · refine N.at (s' := [(0, .slice Aa0 a0.length ca0), (5, .slice A5 t3.length c6), (7, .pointer (some ⟨g18, 0, none⟩)), (8, .pointer (some ⟨g20, 0, none⟩)), (12, .int .i64 o177)]) (G' := dblks ds179 :: own 5 1 A5 c6 (t3.map (Value.int .u8)) :: cells g18 3 [.int .i64 o81.1] :: cells g20 4 [.bool o81.2] :: G) rfl rfl ?_
        refine N.nx ?_
        refine C.rs ?_
        refine J.p rfl rfl rfl rfl (Y.mv rfl) ?_
        refine J.p rfl rfl rfl rfl (Y.mv rfl) ?_
        refine J.know (own_leL 1 rfl) (fun hc181 => ?_)
        obtain ⟨t182, hC183, H⟩ := bind_some H
        refine J.call (us := []) (cap := []) rfl rfl rfl go17 (fun w hw => whole.calls K t3 a0 A5 c6 Aa0 ca0 (RdG.own 1 rfl) hc181 (ha0.suf [_, _, _, _] rfl) ka0 t182 hC183 w hw) (fun e w1 h1 => ?_)
        obtain ⟨rfl, hw186⟩ := h1
        refine ⟨_, _, rfl, hw186, ?_⟩
        refine J.p rfl rfl rfl rfl (Y.asg rfl) ?_
        refine J.nx ?_
        refine C.rs ?_
        refine J.r rfl rfl rfl rfl (Y.ldC 3 Try.underlying4 rfl rfl rfl rfl) ?_
        refine J.p rfl rfl rfl rfl (Y.mv rfl) ?_
        refine split2 H (fun c184 H => ?_) (fun c184 H => ?_)
        · refine J.as (k := 76) rfl (congrArg Value.bool (c184)) ?_
          refine J.p rfl rfl rfl rfl (Y.mv rfl) ?_
          refine J.p rfl rfl rfl rfl (Y.pickT rfl rfl) ?_
          refine J.p rfl rfl rfl rfl (Y.mv rfl) ?_
          refine split2 H (fun c185 H => ?_) (fun c185 H => ?_)
          · refine J.as (k := 79) rfl (congrArg Value.bool (c185)) ?_
            refine J.r rfl rfl rfl rfl (Y.ldC 2 Try.underlying3 rfl rfl rfl rfl) ?_
            refine J.p rfl rfl rfl rfl (Y.mv rfl) ?_
            refine J.p rfl rfl rfl rfl (Y.bin rfl rfl rfl) ?_
            refine J.p rfl rfl rfl rfl (Y.pickT rfl rfl) ?_
            refine J.p rfl rfl rfl rfl (Y.asg rfl) ?_
            refine J.nx ?_
            refine C.ret ?_
            obtain rfl := Option.some.inj H
            exact ret_okM (own 5 1 A5 c6 (t3.map (Value.int .u8)) :: cells g18 3 [.int .i64 o81.1] :: cells g20 4 [.bool o81.2] :: G) (rvs := [.tmp 4]) (vs := [.bool (decide (o81.1 = o177))]) rfl ⟨RV.tmp rfl, trivial⟩ (fun w h => h) (fun w h => ⟨rfl, (St.pick [] [_, _, _] h rfl)⟩)
          · refine J.as (k := 79) rfl (congrArg Value.bool (nt c185)) ?_
            refine J.skip rfl rfl ?_
            refine J.skip rfl rfl ?_
            refine J.skip rfl rfl ?_
            refine J.p rfl rfl rfl rfl (Y.pickF rfl rfl) ?_
            refine J.p rfl rfl rfl rfl (Y.asg rfl) ?_
            refine J.nx ?_
            refine C.ret ?_
            obtain rfl := Option.some.inj H
            exact ret_okM (own 5 1 A5 c6 (t3.map (Value.int .u8)) :: cells g18 3 [.int .i64 o81.1] :: cells g20 4 [.bool o81.2] :: G) (rvs := [.tmp 4]) (vs := [.bool false]) rfl ⟨RV.tmp rfl, trivial⟩ (fun w h => h) (fun w h => ⟨rfl, (St.pick [] [_, _, _] h rfl)⟩)
        · refine J.as (k := 76) rfl (congrArg Value.bool (nt c184)) ?_
          refine J.skip rfl rfl ?_
          refine J.p rfl rfl rfl rfl (Y.pickF rfl rfl) ?_
          refine J.p rfl rfl rfl rfl (Y.mv rfl) ?_
          refine J.skip rfl rfl ?_
          refine J.skip rfl rfl ?_
          refine J.skip rfl rfl ?_
          refine J.p rfl rfl rfl rfl (Y.pickF rfl rfl) ?_
          refine J.p rfl rfl rfl rfl (Y.asg rfl) ?_
          refine J.nx ?_
          refine C.ret ?_
          obtain rfl := Option.some.inj H
          exact ret_okM (own 5 1 A5 c6 (t3.map (Value.int .u8)) :: cells g18 3 [.int .i64 o81.1] :: cells g20 4 [.bool o81.2] :: G) (rvs := [.tmp 4]) (vs := [.bool false]) rfl ⟨RV.tmp rfl, trivial⟩ (fun w h => h) (fun w h => ⟨rfl, (St.pick [] [_, _, _] h rfl)⟩)
/-! ### salvor/salvorlaw3.EscapeEaches: function 5 -/
def EscapeEaches.f (K : Nat) (a0 : List Int) (a1 : Int) (a2 : List Int) : Option (Bool) := (each.f K a0 a1).bind fun t1 => (each.f K a2 (IntKind.wrap .i64 ((a2.length : Int) + 1))).bind fun t3 => (each.f K a0 (IntKind.wrap .i64 ((a0.length : Int) + 1))).bind fun t5 => (each.f K [166, 1, 98, 166] 9).bind fun t9 => if t1 = true then (if t3 = true then (if t5 = true then (some t9) else (some false)) else (some false)) else (some false)
theorem EscapeEaches.calls {B : Nat} {w0 : World} {G : List HP} (K : Nat) (a0 : List Int) (a1 : Int) (a2 : List Int) (Aa0 : Option Addr) (ca0 : Nat) (Aa2 : Option Addr) (ca2 : Nat) (ha0 : RdG B w0 G Aa0 (a0.map (Value.int .u8))) (ka0 : a0.length ≤ ca0) (ha2 : RdG B w0 G Aa2 (a2.map (Value.int .u8))) (ka2 : a2.length ≤ ca2) (r : Bool) (H : EscapeEaches.f K a0 a1 a2 = some r) (w : World) (hw : St B w0 (G) w) :
    Calls Try.prog 5 [.slice Aa0 a0.length ca0, .int .i64 a1, .slice Aa2 a2.length ca2].toArray w (fun e w' => e = .returned (.bool r) ∧ St B w0 (G) w') := by
  unfold EscapeEaches.f at H
  refine calls_of (n := 36) (s := [(0, .slice Aa0 a0.length ca0), (1, .int .i64 a1), (2, .slice Aa2 a2.length ca2)]) Try.func5 rfl rfl rfl rfl ?_ hw
  refine C.rs ?_
  refine J.p rfl rfl rfl rfl (Y.asg rfl) ?_
  refine J.nx ?_
  refine C.rs ?_
  refine J.p rfl rfl rfl rfl (Y.mv rfl) ?_
  refine J.p rfl rfl rfl rfl (Y.mv rfl) ?_
  obtain ⟨t1, hC2, H⟩ := bind_some H
  refine J.call (us := []) (cap := []) rfl rfl rfl go19 (fun w hw => each.calls K a0 a1 Aa0 ca0 ha0 ka0 t1 hC2 w hw) (fun e w1 h1 => ?_)
  obtain ⟨rfl, hw17⟩ := h1
  refine ⟨_, _, rfl, hw17, ?_⟩
  refine J.p rfl rfl rfl rfl (Y.asg rfl) ?_
  refine J.nx ?_
  refine C.rs ?_
  refine J.p rfl rfl rfl rfl (Y.mv rfl) ?_
  refine J.p rfl rfl rfl rfl (Y.mv rfl) ?_
  refine J.p rfl rfl rfl rfl (Y.lenS Try.underlying25 rfl) ?_
  refine J.p rfl rfl rfl rfl (Y.bin rfl rfl rfl) ?_
  obtain ⟨t3, hC4, H⟩ := bind_some H
  refine J.call (us := []) (cap := []) rfl rfl rfl go19 (fun w hw => each.calls K a2 (IntKind.wrap .i64 ((a2.length : Int) + 1)) Aa2 ca2 ha2 ka2 t3 hC4 w hw) (fun e w1 h1 => ?_)
  obtain ⟨rfl, hw16⟩ := h1
  refine ⟨_, _, rfl, hw16, ?_⟩
  refine J.p rfl rfl rfl rfl (Y.asg rfl) ?_
  refine J.nx ?_
  refine C.rs ?_
  refine J.p rfl rfl rfl rfl (Y.mv rfl) ?_
  refine J.p rfl rfl rfl rfl (Y.mv rfl) ?_
  refine J.p rfl rfl rfl rfl (Y.lenS Try.underlying25 rfl) ?_
  refine J.p rfl rfl rfl rfl (Y.bin rfl rfl rfl) ?_
  obtain ⟨t5, hC6, H⟩ := bind_some H
  refine J.call (us := []) (cap := []) rfl rfl rfl go19 (fun w hw => each.calls K a0 (IntKind.wrap .i64 ((a0.length : Int) + 1)) Aa0 ca0 ha0 ka0 t5 hC6 w hw) (fun e w1 h1 => ?_)
  obtain ⟨rfl, hw15⟩ := h1
  refine ⟨_, _, rfl, hw15, ?_⟩
  refine J.p rfl rfl rfl rfl (Y.asg rfl) ?_
  refine J.nx ?_
  refine C.rs ?_
  refine J.bsL (enc := (Value.int .u8)) (xs := [166, 1, 98, 166]) rfl Try.underlying25 ti5 rfl rfl rfl rfl rfl (fun A7 => ?_)
  obtain ⟨t9, hC10, H⟩ := bind_some H
  refine J.call (us := []) (cap := []) rfl rfl rfl go19 (fun w hw => each.calls K [166, 1, 98, 166] 9 A7 4 (RdG.own 0 rfl) (show [166, 1, 98, 166].length ≤ 4 from Nat.le_refl _) t9 hC10 w hw) (fun e w1 h1 => ?_)
  obtain ⟨rfl, hw14⟩ := h1
  refine ⟨_, _, rfl, hw14, ?_⟩
  refine J.p rfl rfl rfl rfl (Y.asg rfl) ?_
  refine J.nx ?_
  refine C.rs ?_
  refine J.p rfl rfl rfl rfl (Y.mv rfl) ?_
  refine J.p rfl rfl rfl rfl (Y.mv rfl) ?_
  refine split2 H (fun c11 H => ?_) (fun c11 H => ?_)
  · refine J.as (k := 27) rfl (congrArg Value.bool (c11)) ?_
    refine J.p rfl rfl rfl rfl (Y.mv rfl) ?_
    refine J.p rfl rfl rfl rfl (Y.pickT rfl rfl) ?_
    refine J.p rfl rfl rfl rfl (Y.mv rfl) ?_
    refine split2 H (fun c12 H => ?_) (fun c12 H => ?_)
    · refine J.as (k := 30) rfl (congrArg Value.bool (c12)) ?_
      refine J.p rfl rfl rfl rfl (Y.mv rfl) ?_
      refine J.p rfl rfl rfl rfl (Y.pickT rfl rfl) ?_
      refine J.p rfl rfl rfl rfl (Y.mv rfl) ?_
      refine split2 H (fun c13 H => ?_) (fun c13 H => ?_)
      · refine J.as (k := 33) rfl (congrArg Value.bool (c13)) ?_
        refine J.p rfl rfl rfl rfl (Y.mv rfl) ?_
        refine J.p rfl rfl rfl rfl (Y.pickT rfl rfl) ?_
        refine J.p rfl rfl rfl rfl (Y.asg rfl) ?_
        refine J.nx ?_
        refine C.ret ?_
        obtain rfl := Option.some.inj H
        exact ret_ok (ks := [6]) rfl rfl (fun w h => ⟨rfl, (St.pick [] [_] h rfl)⟩)
      · refine J.as (k := 33) rfl (congrArg Value.bool (nt c13)) ?_
        refine J.skip rfl rfl ?_
        refine J.p rfl rfl rfl rfl (Y.pickF rfl rfl) ?_
        refine J.p rfl rfl rfl rfl (Y.asg rfl) ?_
        refine J.nx ?_
        refine C.ret ?_
        obtain rfl := Option.some.inj H
        exact ret_ok (ks := [6]) rfl rfl (fun w h => ⟨rfl, (St.pick [] [_] h rfl)⟩)
    · refine J.as (k := 30) rfl (congrArg Value.bool (nt c12)) ?_
      refine J.skip rfl rfl ?_
      refine J.p rfl rfl rfl rfl (Y.pickF rfl rfl) ?_
      refine J.p rfl rfl rfl rfl (Y.mv rfl) ?_
      refine J.skip rfl rfl ?_
      refine J.p rfl rfl rfl rfl (Y.pickF rfl rfl) ?_
      refine J.p rfl rfl rfl rfl (Y.asg rfl) ?_
      refine J.nx ?_
      refine C.ret ?_
      obtain rfl := Option.some.inj H
      exact ret_ok (ks := [6]) rfl rfl (fun w h => ⟨rfl, (St.pick [] [_] h rfl)⟩)
  · refine J.as (k := 27) rfl (congrArg Value.bool (nt c11)) ?_
    refine J.skip rfl rfl ?_
    refine J.p rfl rfl rfl rfl (Y.pickF rfl rfl) ?_
    refine J.p rfl rfl rfl rfl (Y.mv rfl) ?_
    refine J.skip rfl rfl ?_
    refine J.p rfl rfl rfl rfl (Y.pickF rfl rfl) ?_
    refine J.p rfl rfl rfl rfl (Y.mv rfl) ?_
    refine J.skip rfl rfl ?_
    refine J.p rfl rfl rfl rfl (Y.pickF rfl rfl) ?_
    refine J.p rfl rfl rfl rfl (Y.asg rfl) ?_
    refine J.nx ?_
    refine C.ret ?_
    obtain rfl := Option.some.inj H
    exact ret_ok (ks := [6]) rfl rfl (fun w h => ⟨rfl, (St.pick [] [_] h rfl)⟩)
/-! ### salvor/vint.Encode: function 31 -/
def Encode.l2 : Nat → ((List Int) × Int) → Option ((List Int) × Int)
  | 0, _ => none
  | k + 1, i189 => if 127 < i189.2 then (gd ((i189.1.length + [Sx.bits .or .u8 (IntKind.wrap .u8 i189.2) 128].length) * 1 ≤ 140737488355328) (Encode.l2 k ((i189.1 ++ [Sx.bits .or .u8 (IntKind.wrap .u8 i189.2) 128]), Sx.shr .u64 i189.2 7))) else (some (i189.1, i189.2))
def Encode.l1 (K : Nat) (a0 : List Int) : Nat → ((List Int) × Int) → Option ((List Int))
  | 0, _ => none
  | k + 1, i139 => if i139.2 < (a0.length : Int) then (gd ((0 : Int) ≤ i139.2 ∧ i139.2 < (a0.length : Int)) ((Encode.l2 K (i139.1, rd a0 i139.2)).bind fun o166 => gd ((o166.1.length + [IntKind.wrap .u8 o166.2].length) * 1 ≤ 140737488355328) (Encode.l1 K a0 k ((o166.1 ++ [IntKind.wrap .u8 o166.2]), IntKind.wrap .i64 (i139.2 + 1))))) else (some i139.1)
def Encode.f (K : Nat) (a0 : List Int) : Option ((List Int)) := (Encode.l1 K a0 K (([] : List Int), 0)).bind fun o69 => some o69
theorem Encode.calls {B : Nat} {w0 : World} {G : List HP} (K : Nat) (a0 : List Int) (Aa0 : Option Addr) (ca0 : Nat) (ha0 : RdG B w0 G Aa0 (a0.map (Value.int .u64))) (ka0 : a0.length ≤ ca0) (r : (List Int)) (H : Encode.f K a0 = some r) (w : World) (hw : St B w0 (G) w) :
    Calls Try.prog 31 [.slice Aa0 a0.length ca0].toArray w (fun e w' => ∃ A0 c0, e = .returned (.slice A0 r.length c0) ∧ St B w0 (own 5 1 A0 c0 (r.map (Value.int .u8)) :: G) w') := by
  unfold Encode.f at H
  refine calls_of (n := 29) (s := [(0, .slice Aa0 a0.length ca0)]) Try.func31 rfl rfl rfl rfl ?_ hw
  refine C.rs ?_
  refine J.p rfl rfl rfl rfl (Y.asg rfl) ?_
  refine J.nx ?_
  refine C.rs ?_
  refine J.p rfl rfl rfl rfl (Y.asg rfl) ?_
  refine J.nx ?_
  refine C.seq ?_
  refine C.rs ?_
  refine J.p rfl rfl rfl rfl (Y.mv rfl) ?_
  refine J.p rfl rfl rfl rfl (Y.lenS Try.underlying45 rfl) ?_
  refine J.p rfl rfl rfl rfl (Y.mv rfl) ?_
  refine J.nx ?_
  refine C.joinN H (fun (o69 : (List Int)) (j70 : (Option Addr) × Nat) => [(3, .slice j70.1 o69.length j70.2)]) (fun (o69 : (List Int)) (j70 : (Option Addr) × Nat) => own 5 1 j70.1 j70.2 (o69.map (Value.int .u8)) :: G) (fun (o69 : (List Int)) (j70 : (Option Addr) × Nat) => True) (fun o67 H HK68 => ?_) (fun o69 j70 H _ => ?_)
  · refine C.blk ?_
    refine C.loop (fun (i : Nat × ((List Int) × Int) × ((Option Addr) × Nat)) => [(3, .slice i.2.2.1 i.2.1.1.length i.2.2.2), (6, .slice Aa0 a0.length ca0), (7, .int .i64 (a0.length : Int)), (8, .int .i64 i.2.1.2)]) (fun (i : Nat × ((List Int) × Int) × ((Option Addr) × Nat)) => own 5 1 i.2.2.1 i.2.2.2 (i.2.1.1.map (Value.int .u8)) :: G) (fun (i : Nat × ((List Int) × Int) × ((Option Addr) × Nat)) => Encode.l1 K a0 i.1 i.2.1 = some o67 ∧ (True)) (fun i => i.1) (K, (([] : List Int), 0), (none, 0)) ⟨H, trivial⟩ (by exact ⟨rfl, rfl, rfl, rfl, trivial⟩) (by exact fun w h => (h.nilOwn 5 1)) ?_
    rintro ⟨k206, i139, j140⟩ ⟨H, _⟩
    replace H : Encode.l1 K a0 k206 i139 = some o67 := H
    obtain ⟨k138, rfl⟩ : ∃ m, k206 = m + 1 := by cases k206 with | zero => exact absurd H (by simp [Encode.l1]) | succ m => exact ⟨m, rfl⟩
    rw [Encode.l1] at H
    refine C.at (s' := [(3, .slice j140.1 i139.1.length j140.2), (6, .slice Aa0 a0.length ca0), (7, .int .i64 (a0.length : Int)), (8, .int .i64 i139.2)]) (G' := own 5 1 j140.1 j140.2 (i139.1.map (Value.int .u8)) :: G) rfl rfl ?_
    refine C.rs ?_
    refine J.p rfl rfl rfl rfl (Y.bin rfl rfl rfl) ?_
    refine J.nx ?_
    refine C.seq ?_
    refine split2 H (fun c143 H => ?_) (fun c143 H => ?_)
    · refine C.condT (congrArg (fun b => some (Value.bool b)) (decide_eq_true c143)) ?_
      refine C.skip ?_
      refine N.nx ?_
      refine C.seq ?_
      refine C.blk ?_
      refine C.rs ?_
      obtain ⟨p144, H⟩ := gd_some H
      refine J.el rfl rfl rfl Try.underlying45 ti66 Try.underlying66 rfl rfl rfl p144 (ha0.suf [_] rfl) ?_
      refine J.p rfl rfl rfl rfl (Y.asg rfl) ?_
      refine J.nx ?_
      refine C.joinB H (fun (o166 : (List Int) × Int) (j167 : (Option Addr) × Nat) => [(3, .slice j167.1 o166.1.length j167.2), (5, .int .u64 o166.2), (6, .slice Aa0 a0.length ca0), (7, .int .i64 (a0.length : Int)), (8, .int .i64 i139.2)]) (fun (o166 : (List Int) × Int) (j167 : (Option Addr) × Nat) => own 5 1 j167.1 j167.2 (o166.1.map (Value.int .u8)) :: G) (fun (o166 : (List Int) × Int) (j167 : (Option Addr) × Nat) => True) (fun o164 H HK165 => ?_) (fun o166 j167 H _ => ?_)
      · refine C.blk ?_
        refine C.loop (fun (i : Nat × ((List Int) × Int) × ((Option Addr) × Nat)) => [(3, .slice i.2.2.1 i.2.1.1.length i.2.2.2), (5, .int .u64 i.2.1.2), (6, .slice Aa0 a0.length ca0), (7, .int .i64 (a0.length : Int)), (8, .int .i64 i139.2)]) (fun (i : Nat × ((List Int) × Int) × ((Option Addr) × Nat)) => own 5 1 i.2.2.1 i.2.2.2 (i.2.1.1.map (Value.int .u8)) :: G) (fun (i : Nat × ((List Int) × Int) × ((Option Addr) × Nat)) => Encode.l2 i.1 i.2.1 = some o164 ∧ (True)) (fun i => i.1) (K, (i139.1, rd a0 i139.2), (j140.1, j140.2)) ⟨H, trivial⟩ (by exact ⟨rfl, rfl, rfl, rfl, rfl, trivial⟩) (by exact fun w h => h) ?_
        rintro ⟨k199, i189, j190⟩ ⟨H, _⟩
        replace H : Encode.l2 k199 i189 = some o164 := H
        obtain ⟨k188, rfl⟩ : ∃ m, k199 = m + 1 := by cases k199 with | zero => exact absurd H (by simp [Encode.l2]) | succ m => exact ⟨m, rfl⟩
        rw [Encode.l2] at H
        refine C.at (s' := [(3, .slice j190.1 i189.1.length j190.2), (5, .int .u64 i189.2), (6, .slice Aa0 a0.length ca0), (7, .int .i64 (a0.length : Int)), (8, .int .i64 i139.2)]) (G' := own 5 1 j190.1 j190.2 (i189.1.map (Value.int .u8)) :: G) rfl rfl ?_
        refine C.seq ?_
        refine C.rs ?_
        refine J.p rfl rfl rfl rfl (Y.mv rfl) ?_
        refine J.p rfl rfl rfl rfl (Y.bin rfl rfl rfl) ?_
        refine J.nx ?_
        refine split2 H (fun c192 H => ?_) (fun c192 H => ?_)
        · refine C.condT (congrArg (fun b => some (Value.bool b)) (decide_eq_true c192)) ?_
          refine C.skip ?_
          refine N.nx ?_
          refine C.seq ?_
          refine C.blk ?_
          refine C.reg ?_
          refine J.p rfl rfl rfl rfl (Y.mv rfl) ?_
          refine J.p rfl rfl rfl rfl (Y.mv rfl) ?_
          refine J.p rfl rfl rfl rfl (Y.conv Try.underlying66 Try.underlying5 rfl) ?_
          refine J.p rfl rfl rfl rfl (Y.bin rfl rfl rfl) ?_
          refine J.bsL (enc := (Value.int .u8)) (xs := [Sx.bits .or .u8 (IntKind.wrap .u8 i189.2) 128]) rfl Try.underlying25 ti5 rfl rfl rfl rfl rfl (fun A193 => ?_)
          refine J.pull 1 rfl rfl ?_
          obtain ⟨p197, H⟩ := gd_some H
          refine J.appL (enc := (Value.int .u8)) (xs := i189.1) (ys := [Sx.bits .or .u8 (IntKind.wrap .u8 i189.2) 128]) rfl Try.underlying25 ti5 rfl (by decide) rfl rfl (fun _ => rfl) (RdG.own 1 rfl) p197 (fun A195 c196 => ?_)
          refine J.pull 1 rfl rfl (J.drop ?_)
          refine J.p rfl rfl rfl rfl (Y.asg rfl) ?_
          refine J.nil ?_
          refine N.ib ?_
          refine N.nx ?_
          refine C.reg ?_
          refine J.p rfl rfl rfl rfl (Y.mv rfl) ?_
          refine J.p rfl rfl rfl rfl (Y.shr rfl rfl (by decide)) ?_
          refine J.p rfl rfl rfl rfl (Y.asg rfl) ?_
          refine J.nil ?_
          exact N.again (k188, ((i189.1 ++ [Sx.bits .or .u8 (IntKind.wrap .u8 i189.2) 128]), Sx.shr .u64 i189.2 7), (A195, c196)) ⟨H, trivial⟩ (Nat.lt_succ_self _) (by exact ⟨rfl, rfl, rfl, rfl, rfl, trivial⟩) (by exact fun w h => h)
        · refine C.condF (congrArg (fun b => some (Value.bool b)) (decide_eq_false c192)) ?_
          refine C.exit ?_
          refine X.th ?_
          refine X.th ?_
          refine X.hit ?_
          obtain rfl := Option.some.inj H
          exact N.meet ((i189.1, i189.2), (j190.1, j190.2)) ⟨HK165, trivial⟩ (by exact ⟨rfl, rfl, rfl, rfl, rfl, trivial⟩) (by exact fun w h => h)
      · refine C.at (s' := [(3, .slice j167.1 o166.1.length j167.2), (5, .int .u64 o166.2), (6, .slice Aa0 a0.length ca0), (7, .int .i64 (a0.length : Int)), (8, .int .i64 i139.2)]) (G' := own 5 1 j167.1 j167.2 (o166.1.map (Value.int .u8)) :: G) rfl rfl ?_
        refine C.reg ?_
        refine J.p rfl rfl rfl rfl (Y.mv rfl) ?_
        refine J.p rfl rfl rfl rfl (Y.mv rfl) ?_
        refine J.p rfl rfl rfl rfl (Y.conv Try.underlying66 Try.underlying5 rfl) ?_
        refine J.bsL (enc := (Value.int .u8)) (xs := [IntKind.wrap .u8 o166.2]) rfl Try.underlying25 ti5 rfl rfl rfl rfl rfl (fun A200 => ?_)
        refine J.pull 1 rfl rfl ?_
        obtain ⟨p204, H⟩ := gd_some H
        refine J.appL (enc := (Value.int .u8)) (xs := o166.1) (ys := [IntKind.wrap .u8 o166.2]) rfl Try.underlying25 ti5 rfl (by decide) rfl rfl (fun _ => rfl) (RdG.own 1 rfl) p204 (fun A202 c203 => ?_)
        refine J.pull 1 rfl rfl (J.drop ?_)
        refine J.p rfl rfl rfl rfl (Y.asg rfl) ?_
        refine J.nil ?_
        refine N.ib ?_
        refine N.nx ?_
        refine C.reg ?_
        refine J.p rfl rfl rfl rfl (Y.bin rfl rfl rfl) ?_
        refine J.p rfl rfl rfl rfl (Y.mv rfl) ?_
        refine J.nil ?_
        exact N.again (k138, ((o166.1 ++ [IntKind.wrap .u8 o166.2]), IntKind.wrap .i64 (i139.2 + 1)), (A202, c203)) ⟨H, trivial⟩ (Nat.lt_succ_self _) (by exact ⟨rfl, rfl, rfl, rfl, trivial⟩) (by exact fun w h => h)
    · refine C.condF (congrArg (fun b => some (Value.bool b)) (decide_eq_false c143)) ?_
      refine C.exit ?_
      refine X.th ?_
      refine X.th ?_
      refine X.hit ?_
      obtain rfl := Option.some.inj H
      exact N.meet (i139.1, (j140.1, j140.2)) ⟨HK68, trivial⟩ (by exact ⟨rfl, trivial⟩) (by exact fun w h => h)
  · refine N.at (s' := [(3, .slice j70.1 o69.length j70.2)]) (G' := own 5 1 j70.1 j70.2 (o69.map (Value.int .u8)) :: G) rfl rfl ?_
    refine N.nx ?_
    refine C.rs ?_
    refine J.p rfl rfl rfl rfl (Y.mv rfl) ?_
    refine J.p rfl rfl rfl rfl (Y.asg rfl) ?_
    refine J.nx ?_
    refine C.ret ?_
    obtain rfl := Option.some.inj H
    exact ret_ok (ks := [2]) rfl rfl (fun w h => ⟨j70.1, j70.2, rfl, h⟩)
/-! ### salvor/salvortop.joined: function 32 -/
def joined.f (a0 : List Int) (a1 : List Int) : Option ((List Int)) := gd ((([] : List Int).length + a0.length) * 1 ≤ 140737488355328) (gd (((([] : List Int) ++ a0).length + a1.length) * 1 ≤ 140737488355328) (some ((([] : List Int) ++ a0) ++ a1)))
theorem joined.calls {B : Nat} {w0 : World} {G : List HP} (a0 : List Int) (a1 : List Int) (Aa0 : Option Addr) (ca0 : Nat) (Aa1 : Option Addr) (ca1 : Nat) (ha0 : RdG B w0 G Aa0 (a0.map (Value.int .u8))) (ka0 : a0.length ≤ ca0) (ha1 : RdG B w0 G Aa1 (a1.map (Value.int .u8))) (ka1 : a1.length ≤ ca1) (r : (List Int)) (H : joined.f a0 a1 = some r) (w : World) (hw : St B w0 (G) w) :
    Calls Try.prog 32 [.slice Aa0 a0.length ca0, .slice Aa1 a1.length ca1].toArray w (fun e w' => ∃ A0 c0, e = .returned (.slice A0 r.length c0) ∧ St B w0 (own 5 1 A0 c0 (r.map (Value.int .u8)) :: G) w') := by
  unfold joined.f at H
  refine calls_of (n := 12) (s := [(0, .slice Aa0 a0.length ca0), (1, .slice Aa1 a1.length ca1)]) Try.func32 rfl rfl rfl rfl ?_ hw
  refine C.rs ?_
  refine J.p rfl rfl rfl rfl (Y.asg rfl) ?_
  refine J.nx ?_
  refine C.rs ?_
  refine J.p rfl rfl rfl rfl (Y.asg rfl) ?_
  refine J.nx ?_
  refine C.rs ?_
  refine J.p rfl rfl rfl rfl (Y.mv rfl) ?_
  refine J.p rfl rfl rfl rfl (Y.mv rfl) ?_
  refine J.nilOwn 5 1 ?_
  obtain ⟨p4, H⟩ := gd_some H
  refine J.appL (enc := (Value.int .u8)) (xs := ([] : List Int)) (ys := a0) rfl Try.underlying25 ti5 rfl (by decide) rfl rfl (fun _ => rfl) (ha0.suf [_] rfl) p4 (fun A2 c3 => ?_)
  refine J.p rfl rfl rfl rfl (Y.asg rfl) ?_
  refine J.nx ?_
  refine C.rs ?_
  refine J.p rfl rfl rfl rfl (Y.mv rfl) ?_
  refine J.p rfl rfl rfl rfl (Y.mv rfl) ?_
  obtain ⟨p8, H⟩ := gd_some H
  refine J.appL (enc := (Value.int .u8)) (xs := (([] : List Int) ++ a0)) (ys := a1) rfl Try.underlying25 ti5 rfl (by decide) rfl rfl (fun _ => rfl) (ha1.suf [_] rfl) p8 (fun A6 c7 => ?_)
  refine J.p rfl rfl rfl rfl (Y.asg rfl) ?_
  refine J.nx ?_
  refine C.ret ?_
  obtain rfl := Option.some.inj H
  exact ret_ok (ks := [4]) rfl rfl (fun w h => ⟨A6, c7, rfl, h⟩)
/-! ### salvor/salvortop.sameBytes: function 33 -/
def sameBytes.f (a0 : List Int) (a1 : List Int) : Option (Bool) := some (decide ((strOfNums a0) = (strOfNums a1)))
theorem sameBytes.calls {B : Nat} {w0 : World} {G : List HP} (a0 : List Int) (a1 : List Int) (Aa0 : Option Addr) (ca0 : Nat) (Aa1 : Option Addr) (ca1 : Nat) (ha0 : RdG B w0 G Aa0 (a0.map (Value.int .u8))) (ka0 : a0.length ≤ ca0) (ha1 : RdG B w0 G Aa1 (a1.map (Value.int .u8))) (ka1 : a1.length ≤ ca1) (r : Bool) (H : sameBytes.f a0 a1 = some r) (w : World) (hw : St B w0 (G) w) :
    Calls Try.prog 33 [.slice Aa0 a0.length ca0, .slice Aa1 a1.length ca1].toArray w (fun e w' => e = .returned (.bool r) ∧ St B w0 (G) w') := by
  unfold sameBytes.f at H
  refine calls_of (n := 10) (s := [(0, .slice Aa0 a0.length ca0), (1, .slice Aa1 a1.length ca1)]) Try.func33 rfl rfl rfl rfl ?_ hw
  refine C.rs ?_
  refine J.p rfl rfl rfl rfl (Y.asg rfl) ?_
  refine J.nx ?_
  refine C.rs ?_
  refine J.p rfl rfl rfl rfl (Y.mv rfl) ?_
  refine J.r rfl rfl rfl rfl (Y.b2s Try.underlying25 Try.underlying5 Try.underlying9 rfl ha0) ?_
  refine J.p rfl rfl rfl rfl (Y.mv rfl) ?_
  refine J.r rfl rfl rfl rfl (Y.b2s Try.underlying25 Try.underlying5 Try.underlying9 rfl ha1) ?_
  refine J.p rfl rfl rfl rfl (Y.eqs rfl rfl) ?_
  refine J.p rfl rfl rfl rfl (Y.asg rfl) ?_
  refine J.nx ?_
  refine C.ret ?_
  obtain rfl := Option.some.inj H
  exact ret_ok (ks := [4]) rfl rfl (fun w h => ⟨rfl, h⟩)
/-! ### salvor/salvortop.TopEscaped: function 13 -/
def TopEscaped.l1 (t31 : (List Int)) : Nat → (Int) → Option ((Bool) ⊕ (Unit))
  | 0, _ => none
  | k + 1, i167 => if i167 < (t31.length : Int) then (gd ((0 : Int) ≤ i167 ∧ i167 < (t31.length : Int)) (if (rd t31 i167) = 167 then (some (.inl (false))) else (TopEscaped.l1 t31 k (IntKind.wrap .i64 (i167 + 1))))) else (some (.inr ()))
def TopEscaped.f (K : Nat) (a0 : List Int) (a1 : List Int) : Option (Bool) := (Wrap.f K [167, 0, 166]).bind fun t3 => (Encode.f K a1).bind fun t8 => (Wrap.f K a0).bind fun t13 => (Wrap.f K t8).bind fun t19 => (joined.f a0 t8).bind fun t25 => (Wrap.f K t25).bind fun t31 => (if (strOfNums t3) ≠ (⟨#[166, 1, 0, 166, 0]⟩ : ByteArray) then (some true) else ((joined.f t13 t19).bind fun t69 => (sameBytes.f t31 t69).bind fun t76 => if t76 = true then ((joined.f a0 t8).bind fun t80 => (Size.f K t80).bind fun t86 => some (decide ((t31.length : Int) ≠ t86))) else (some true))).bind fun o62 => if o62 = true then (some false) else ((Open.f K t31).bind fun t94 => (if t94.2.1 ≠ 0 then (some true) else (if t94.2.2 ≠ 0 then (some true) else ((joined.f a0 t8).bind fun t125 => (sameBytes.f t94.1 t125).bind fun t132 => if t132 = true then ((Next.f t31 0).bind fun t136 => some (decide (t136 ≠ (t31.length : Int)))) else (some true)))).bind fun o118 => if o118 = true then (some false) else (thn (TopEscaped.l1 t31 K 0) fun o154 => (joined.f t31 [167]).bind fun t176 => (Open.f K t176).bind fun t182 => if t182.2.1 = 31 then (if t182.2.2 = (t31.length : Int) then (some (decide ((t182.1.length : Int) = 0))) else (some false)) else (some false)))
theorem TopEscaped.calls {B : Nat} {w0 : World} {G : List HP} (K : Nat) (a0 : List Int) (a1 : List Int) (Aa0 : Option Addr) (ca0 : Nat) (Aa1 : Option Addr) (ca1 : Nat) (ha0 : RdG B w0 G Aa0 (a0.map (Value.int .u8))) (ka0 : a0.length ≤ ca0) (ha1 : RdG B w0 G Aa1 (a1.map (Value.int .u64))) (ka1 : a1.length ≤ ca1) (r : Bool) (H : TopEscaped.f K a0 a1 = some r) (w : World) (hw : St B w0 (G) w) :
    Calls Try.prog 13 [.slice Aa0 a0.length ca0, .slice Aa1 a1.length ca1].toArray w (fun e w' => e = .returned (.bool r) ∧ St B w0 (G) w') := by
  unfold TopEscaped.f at H
  refine calls_of (n := 108) (s := [(0, .slice Aa0 a0.length ca0), (1, .slice Aa1 a1.length ca1)]) Try.func13 rfl rfl rfl rfl ?_ hw
  refine C.rs ?_
  refine J.p rfl rfl rfl rfl (Y.asg rfl) ?_
  refine J.nx ?_
  refine C.rs ?_
  refine J.bsL (enc := (Value.int .u8)) (xs := [167, 0, 166]) rfl Try.underlying25 ti5 rfl rfl rfl rfl rfl (fun A1 => ?_)
  obtain ⟨t3, hC4, H⟩ := bind_some H
  refine J.call (us := []) (cap := []) rfl rfl rfl go25 (fun w hw => Wrap.calls K [167, 0, 166] A1 3 (RdG.own 0 rfl) (show [167, 0, 166].length ≤ 3 from Nat.le_refl _) t3 hC4 w hw) (fun e w1 h1 => ?_)
  obtain ⟨A5, c6, rfl, hw197⟩ := h1
  refine ⟨_, _, rfl, hw197, ?_⟩
  refine J.p rfl rfl rfl rfl (Y.asg rfl) ?_
  refine J.nx ?_
  refine C.rs ?_
  refine J.p rfl rfl rfl rfl (Y.mv rfl) ?_
  obtain ⟨t8, hC9, H⟩ := bind_some H
  refine J.call (us := []) (cap := []) rfl rfl rfl go31 (fun w hw => Encode.calls K a1 Aa1 ca1 (ha1.suf [_, _] rfl) ka1 t8 hC9 w hw) (fun e w1 h1 => ?_)
  obtain ⟨A10, c11, rfl, hw196⟩ := h1
  refine ⟨_, _, rfl, hw196, ?_⟩
  refine J.p rfl rfl rfl rfl (Y.asg rfl) ?_
  refine J.nx ?_
  refine C.rs ?_
  refine J.p rfl rfl rfl rfl (Y.mv rfl) ?_
  obtain ⟨t13, hC14, H⟩ := bind_some H
  refine J.call (us := []) (cap := []) rfl rfl rfl go25 (fun w hw => Wrap.calls K a0 Aa0 ca0 (ha0.suf [_, _, _] rfl) ka0 t13 hC14 w hw) (fun e w1 h1 => ?_)
  obtain ⟨A15, c16, rfl, hw195⟩ := h1
  refine ⟨_, _, rfl, hw195, ?_⟩
  refine J.p rfl rfl rfl rfl (Y.asg rfl) ?_
  refine J.nx ?_
  refine C.rs ?_
  refine J.p rfl rfl rfl rfl (Y.mv rfl) ?_
  refine J.know (own_leL 1 rfl) (fun hc18 => ?_)
  obtain ⟨t19, hC20, H⟩ := bind_some H
  refine J.call (us := []) (cap := []) rfl rfl rfl go25 (fun w hw => Wrap.calls K t8 A10 c11 (RdG.own 1 rfl) hc18 t19 hC20 w hw) (fun e w1 h1 => ?_)
  obtain ⟨A21, c22, rfl, hw194⟩ := h1
  refine ⟨_, _, rfl, hw194, ?_⟩
  refine J.p rfl rfl rfl rfl (Y.asg rfl) ?_
  refine J.nx ?_
  refine C.rs ?_
  refine J.p rfl rfl rfl rfl (Y.mv rfl) ?_
  refine J.p rfl rfl rfl rfl (Y.mv rfl) ?_
  refine J.know (own_leL 2 rfl) (fun hc24 => ?_)
  obtain ⟨t25, hC26, H⟩ := bind_some H
  refine J.call (us := []) (cap := []) rfl rfl rfl go32 (fun w hw => joined.calls a0 t8 Aa0 ca0 A10 c11 (ha0.suf [_, _, _, _, _] rfl) ka0 (RdG.own 2 rfl) hc24 t25 hC26 w hw) (fun e w1 h1 => ?_)
  obtain ⟨A27, c28, rfl, hw193⟩ := h1
  refine ⟨_, _, rfl, hw193, ?_⟩
  refine J.know (own_leL 0 rfl) (fun hc30 => ?_)
  obtain ⟨t31, hC32, H⟩ := bind_some H
  refine J.call (us := []) (cap := []) rfl rfl rfl go25 (fun w hw => Wrap.calls K t25 A27 c28 (RdG.own 0 rfl) hc30 t31 hC32 w hw) (fun e w1 h1 => ?_)
  obtain ⟨A33, c34, rfl, hw192⟩ := h1
  refine ⟨_, _, rfl, hw192, ?_⟩
  refine J.p rfl rfl rfl rfl (Y.asg rfl) ?_
  refine J.nx ?_
  refine C.seq ?_
  refine C.rs ?_
  refine J.joinB H (fun (o62 : Bool) (j63 : Unit) => [(0, .slice Aa0 a0.length ca0), (6, .slice A10 t8.length c11), (9, .slice A33 t31.length c34), (48, .bool o62)]) (fun (o62 : Bool) (j63 : Unit) => own 5 1 A10 c11 (t8.map (Value.int .u8)) :: own 5 1 A33 c34 (t31.map (Value.int .u8)) :: G) (fun (o62 : Bool) (j63 : Unit) => True) (fun o64 H HK65 => ?_) (fun o62 j63 H _ => ?_)
  · refine J.p rfl rfl rfl rfl (Y.mv rfl) ?_
    refine J.r rfl rfl rfl rfl (Y.b2s Try.underlying25 Try.underlying5 Try.underlying9 rfl (RdG.own 5 rfl)) ?_
    refine J.p rfl rfl rfl rfl (Y.nes rfl rfl) ?_
    refine J.p rfl rfl rfl rfl (Y.mv rfl) ?_
    refine split2 H (fun c66 H => ?_) (fun c66 H => ?_)
    · refine J.as (k := 32) rfl (congrArg Value.bool (decide_eq_true c66)) ?_
      refine J.skip rfl rfl ?_
      refine J.skip rfl rfl ?_
      refine J.skip rfl rfl ?_
      refine J.skip rfl rfl ?_
      refine J.skip rfl rfl ?_
      refine J.skip rfl rfl ?_
      refine J.p rfl rfl rfl rfl (Y.pickT rfl rfl) ?_
      refine J.p rfl rfl rfl rfl (Y.mv rfl) ?_
      refine J.skip rfl rfl ?_
      refine J.skip rfl rfl ?_
      refine J.skip rfl rfl ?_
      refine J.skip rfl rfl ?_
      refine J.skip rfl rfl ?_
      refine J.skip rfl rfl ?_
      refine J.skip rfl rfl ?_
      refine J.p rfl rfl rfl rfl (Y.pickT rfl rfl) ?_
      refine J.nil ?_
      obtain rfl := Option.some.inj H
      exact N.meet (true, ()) ⟨HK65, trivial⟩ (by exact ⟨rfl, rfl, rfl, rfl, trivial⟩) (by exact fun w h => (St.pick [4, 0] [_, _, _, _, _, _, _] h rfl))
    · refine J.as (k := 32) rfl (congrArg Value.bool (decide_eq_false c66)) ?_
      refine J.p rfl rfl rfl rfl (Y.mv rfl) ?_
      refine J.p rfl rfl rfl rfl (Y.mv rfl) ?_
      refine J.p rfl rfl rfl rfl (Y.mv rfl) ?_
      refine J.want rfl ?_
      refine J.know (own_leL 3 rfl) (fun hc67 => ?_)
      refine J.know (own_leL 2 rfl) (fun hc68 => ?_)
      obtain ⟨t69, hC70, H⟩ := bind_some H
      refine J.call (us := []) (cap := []) rfl rfl rfl go32 (fun w hw => joined.calls t13 t19 A15 c16 A21 c22 (RdG.own 3 rfl) hc67 (RdG.own 2 rfl) hc68 t69 hC70 w hw) (fun e w1 h1 => ?_)
      obtain ⟨A71, c72, rfl, hw91⟩ := h1
      refine ⟨_, _, rfl, hw91, ?_⟩
      refine J.want rfl ?_
      refine J.know (own_leL 1 rfl) (fun hc74 => ?_)
      refine J.know (own_leL 0 rfl) (fun hc75 => ?_)
      obtain ⟨t76, hC77, H⟩ := bind_some H
      refine J.call (us := []) (cap := []) rfl rfl rfl go33 (fun w hw => sameBytes.calls t31 t69 A33 c34 A71 c72 (RdG.own 1 rfl) hc74 (RdG.own 0 rfl) hc75 t76 hC77 w hw) (fun e w1 h1 => ?_)
      obtain ⟨rfl, hw90⟩ := h1
      refine ⟨_, _, rfl, hw90, ?_⟩
      refine J.p rfl rfl rfl rfl (Y.notb rfl) ?_
      refine J.p rfl rfl rfl rfl (Y.pickF rfl rfl) ?_
      refine J.p rfl rfl rfl rfl (Y.mv rfl) ?_
      refine split2 H (fun c78 H => ?_) (fun c78 H => ?_)
      · refine J.as (k := 40) rfl (congrArg Value.bool (congrArg Bool.not (c78))) ?_
        refine J.p rfl rfl rfl rfl (Y.mv rfl) ?_
        refine J.p rfl rfl rfl rfl (Y.lenS Try.underlying25 rfl) ?_
        refine J.p rfl rfl rfl rfl (Y.mv rfl) ?_
        refine J.p rfl rfl rfl rfl (Y.mv rfl) ?_
        refine J.want rfl ?_
        refine J.know (own_leL 5 rfl) (fun hc79 => ?_)
        obtain ⟨t80, hC81, H⟩ := bind_some H
        refine J.call (us := []) (cap := []) rfl rfl rfl go32 (fun w hw => joined.calls a0 t8 Aa0 ca0 A10 c11 (ha0.suf [_, _, _, _, _, _, _, _] rfl) ka0 (RdG.own 5 rfl) hc79 t80 hC81 w hw) (fun e w1 h1 => ?_)
        obtain ⟨A82, c83, rfl, hw89⟩ := h1
        refine ⟨_, _, rfl, hw89, ?_⟩
        refine J.want rfl ?_
        refine J.know (own_leL 0 rfl) (fun hc85 => ?_)
        obtain ⟨t86, hC87, H⟩ := bind_some H
        refine J.call (us := []) (cap := []) rfl rfl rfl go30 (fun w hw => Size.calls K t80 A82 c83 (RdG.own 0 rfl) hc85 t86 hC87 w hw) (fun e w1 h1 => ?_)
        obtain ⟨rfl, hw88⟩ := h1
        refine ⟨_, _, rfl, hw88, ?_⟩
        refine J.p rfl rfl rfl rfl (Y.bin rfl rfl rfl) ?_
        refine J.p rfl rfl rfl rfl (Y.pickF rfl rfl) ?_
        refine J.nil ?_
        obtain rfl := Option.some.inj H
        exact N.meet (decide ((t31.length : Int) ≠ t86), ()) ⟨HK65, trivial⟩ (by exact ⟨rfl, rfl, rfl, rfl, trivial⟩) (by exact fun w h => (St.pick [6, 2] [_, _, _, _, _, _, _, _, _] h rfl))
      · refine J.as (k := 40) rfl (congrArg Value.bool (congrArg Bool.not (nt c78))) ?_
        refine J.skip rfl rfl ?_
        refine J.skip rfl rfl ?_
        refine J.skip rfl rfl ?_
        refine J.skip rfl rfl ?_
        refine J.skip rfl rfl ?_
        refine J.skip rfl rfl ?_
        refine J.skip rfl rfl ?_
        refine J.p rfl rfl rfl rfl (Y.pickT rfl rfl) ?_
        refine J.nil ?_
        obtain rfl := Option.some.inj H
        exact N.meet (true, ()) ⟨HK65, trivial⟩ (by exact ⟨rfl, rfl, rfl, rfl, trivial⟩) (by exact fun w h => (St.pick [5, 1] [_, _, _, _, _, _, _, _] h rfl))
  · refine C.at (s' := [(0, .slice Aa0 a0.length ca0), (6, .slice A10 t8.length c11), (9, .slice A33 t31.length c34), (48, .bool o62)]) (G' := own 5 1 A10 c11 (t8.map (Value.int .u8)) :: own 5 1 A33 c34 (t31.map (Value.int .u8)) :: G) rfl rfl ?_
    refine split2 H (fun c92 H => ?_) (fun c92 H => ?_)
    · refine C.condT (congrArg (fun b => some (Value.bool b)) (c92)) ?_
      refine C.rs ?_
      refine J.p rfl rfl rfl rfl (Y.asg rfl) ?_
      refine J.nx ?_
      refine C.ret ?_
      obtain rfl := Option.some.inj H
      refine T.th ?_
      exact ret_ok (ks := [4]) rfl rfl (fun w h => ⟨rfl, (St.pick [] [_, _] h rfl)⟩)
    · refine C.condF (congrArg (fun b => some (Value.bool b)) (nt c92)) ?_
      refine C.skip ?_
      refine N.nx ?_
      refine C.rs ?_
      refine J.p rfl rfl rfl rfl (Y.mv rfl) ?_
      refine J.know (own_leL 1 rfl) (fun hc93 => ?_)
      obtain ⟨t94, hC95, H⟩ := bind_some H
      refine J.call (us := []) (cap := []) rfl rfl rfl go29 (fun w hw => Open.calls K t31 A33 c34 (RdG.own 1 rfl) hc93 t94 hC95 w hw) (fun e w1 h1 => ?_)
      obtain ⟨A96, c97, rfl, hw191⟩ := h1
      refine ⟨_, _, rfl, hw191, ?_⟩
      refine J.p rfl rfl rfl rfl (Y.mv rfl) ?_
      refine J.p rfl rfl rfl rfl (Y.ext rfl rfl) ?_
      refine J.p rfl rfl rfl rfl (Y.ext rfl rfl) ?_
      refine J.p rfl rfl rfl rfl (Y.ext rfl rfl) ?_
      refine J.p rfl rfl rfl rfl (Y.asg rfl) ?_
      refine J.p rfl rfl rfl rfl (Y.asg rfl) ?_
      refine J.p rfl rfl rfl rfl (Y.asg rfl) ?_
      refine J.nx ?_
      refine C.seq ?_
      refine C.rs ?_
      refine J.joinB H (fun (o118 : Bool) (j119 : Unit) => [(9, .slice A33 t31.length c34), (75, .bool o118)]) (fun (o118 : Bool) (j119 : Unit) => own 5 1 A33 c34 (t31.map (Value.int .u8)) :: G) (fun (o118 : Bool) (j119 : Unit) => True) (fun o120 H HK121 => ?_) (fun o118 j119 H _ => ?_)
      · refine J.p rfl rfl rfl rfl (Y.mv rfl) ?_
        refine J.p rfl rfl rfl rfl (Y.bin rfl rfl rfl) ?_
        refine J.p rfl rfl rfl rfl (Y.mv rfl) ?_
        refine split2 H (fun c122 H => ?_) (fun c122 H => ?_)
        · refine J.as (k := 57) rfl (congrArg Value.bool (decide_eq_true c122)) ?_
          refine J.skip rfl rfl ?_
          refine J.skip rfl rfl ?_
          refine J.p rfl rfl rfl rfl (Y.pickT rfl rfl) ?_
          refine J.p rfl rfl rfl rfl (Y.mv rfl) ?_
          refine J.skip rfl rfl ?_
          refine J.skip rfl rfl ?_
          refine J.skip rfl rfl ?_
          refine J.skip rfl rfl ?_
          refine J.skip rfl rfl ?_
          refine J.skip rfl rfl ?_
          refine J.p rfl rfl rfl rfl (Y.pickT rfl rfl) ?_
          refine J.p rfl rfl rfl rfl (Y.mv rfl) ?_
          refine J.skip rfl rfl ?_
          refine J.skip rfl rfl ?_
          refine J.skip rfl rfl ?_
          refine J.skip rfl rfl ?_
          refine J.skip rfl rfl ?_
          refine J.p rfl rfl rfl rfl (Y.pickT rfl rfl) ?_
          refine J.nil ?_
          obtain rfl := Option.some.inj H
          exact N.meet (true, ()) ⟨HK121, trivial⟩ (by exact ⟨rfl, rfl, trivial⟩) (by exact fun w h => (St.pick [2] [_, _, _] h rfl))
        · refine J.as (k := 57) rfl (congrArg Value.bool (decide_eq_false c122)) ?_
          refine J.p rfl rfl rfl rfl (Y.mv rfl) ?_
          refine J.p rfl rfl rfl rfl (Y.bin rfl rfl rfl) ?_
          refine J.p rfl rfl rfl rfl (Y.pickF rfl rfl) ?_
          refine J.p rfl rfl rfl rfl (Y.mv rfl) ?_
          refine split2 H (fun c123 H => ?_) (fun c123 H => ?_)
          · refine J.as (k := 61) rfl (congrArg Value.bool (decide_eq_true c123)) ?_
            refine J.skip rfl rfl ?_
            refine J.skip rfl rfl ?_
            refine J.skip rfl rfl ?_
            refine J.skip rfl rfl ?_
            refine J.skip rfl rfl ?_
            refine J.skip rfl rfl ?_
            refine J.p rfl rfl rfl rfl (Y.pickT rfl rfl) ?_
            refine J.p rfl rfl rfl rfl (Y.mv rfl) ?_
            refine J.skip rfl rfl ?_
            refine J.skip rfl rfl ?_
            refine J.skip rfl rfl ?_
            refine J.skip rfl rfl ?_
            refine J.skip rfl rfl ?_
            refine J.p rfl rfl rfl rfl (Y.pickT rfl rfl) ?_
            refine J.nil ?_
            obtain rfl := Option.some.inj H
            exact N.meet (true, ()) ⟨HK121, trivial⟩ (by exact ⟨rfl, rfl, trivial⟩) (by exact fun w h => (St.pick [2] [_, _, _] h rfl))
          · refine J.as (k := 61) rfl (congrArg Value.bool (decide_eq_false c123)) ?_
            refine J.p rfl rfl rfl rfl (Y.mv rfl) ?_
            refine J.p rfl rfl rfl rfl (Y.mv rfl) ?_
            refine J.p rfl rfl rfl rfl (Y.mv rfl) ?_
            refine J.want rfl ?_
            refine J.know (own_leL 1 rfl) (fun hc124 => ?_)
            obtain ⟨t125, hC126, H⟩ := bind_some H
            refine J.call (us := []) (cap := []) rfl rfl rfl go32 (fun w hw => joined.calls a0 t8 Aa0 ca0 A10 c11 (ha0.suf [_, _, _] rfl) ka0 (RdG.own 1 rfl) hc124 t125 hC126 w hw) (fun e w1 h1 => ?_)
            obtain ⟨A127, c128, rfl, hw140⟩ := h1
            refine ⟨_, _, rfl, hw140, ?_⟩
            refine J.want rfl ?_
            refine J.know (own_leL 1 rfl) (fun hc130 => ?_)
            refine J.know (own_leL 0 rfl) (fun hc131 => ?_)
            obtain ⟨t132, hC133, H⟩ := bind_some H
            refine J.call (us := []) (cap := []) rfl rfl rfl go33 (fun w hw => sameBytes.calls t94.1 t125 A96 c97 A127 c128 (RdG.own 1 rfl) hc130 (RdG.own 0 rfl) hc131 t132 hC133 w hw) (fun e w1 h1 => ?_)
            obtain ⟨rfl, hw139⟩ := h1
            refine ⟨_, _, rfl, hw139, ?_⟩
            refine J.p rfl rfl rfl rfl (Y.notb rfl) ?_
            refine J.p rfl rfl rfl rfl (Y.pickF rfl rfl) ?_
            refine J.p rfl rfl rfl rfl (Y.mv rfl) ?_
            refine split2 H (fun c134 H => ?_) (fun c134 H => ?_)
            · refine J.as (k := 69) rfl (congrArg Value.bool (congrArg Bool.not (c134))) ?_
              refine J.p rfl rfl rfl rfl (Y.mv rfl) ?_
              refine J.want rfl ?_
              refine J.know (own_leL 3 rfl) (fun hc135 => ?_)
              obtain ⟨t136, hC137, H⟩ := bind_some H
              refine J.call (us := []) (cap := []) rfl rfl rfl go16 (fun w hw => Next.calls t31 0 A33 c34 (RdG.own 3 rfl) hc135 t136 hC137 w hw) (fun e w1 h1 => ?_)
              obtain ⟨rfl, hw138⟩ := h1
              refine ⟨_, _, rfl, hw138, ?_⟩
              refine J.p rfl rfl rfl rfl (Y.mv rfl) ?_
              refine J.p rfl rfl rfl rfl (Y.lenS Try.underlying25 rfl) ?_
              refine J.p rfl rfl rfl rfl (Y.bin rfl rfl rfl) ?_
              refine J.p rfl rfl rfl rfl (Y.pickF rfl rfl) ?_
              refine J.nil ?_
              obtain rfl := Option.some.inj H
              exact N.meet (decide (t136 ≠ (t31.length : Int)), ()) ⟨HK121, trivial⟩ (by exact ⟨rfl, rfl, trivial⟩) (by exact fun w h => (St.pick [3] [_, _, _, _] h rfl))
            · refine J.as (k := 69) rfl (congrArg Value.bool (congrArg Bool.not (nt c134))) ?_
              refine J.skip rfl rfl ?_
              refine J.skip rfl rfl ?_
              refine J.skip rfl rfl ?_
              refine J.skip rfl rfl ?_
              refine J.skip rfl rfl ?_
              refine J.p rfl rfl rfl rfl (Y.pickT rfl rfl) ?_
              refine J.nil ?_
              obtain rfl := Option.some.inj H
              exact N.meet (true, ()) ⟨HK121, trivial⟩ (by exact ⟨rfl, rfl, trivial⟩) (by exact fun w h => (St.pick [3] [_, _, _, _] h rfl))
      · refine C.at (s' := [(9, .slice A33 t31.length c34), (75, .bool o118)]) (G' := own 5 1 A33 c34 (t31.map (Value.int .u8)) :: G) rfl rfl ?_
        refine split2 H (fun c141 H => ?_) (fun c141 H => ?_)
        · refine C.condT (congrArg (fun b => some (Value.bool b)) (c141)) ?_
          refine C.rs ?_
          refine J.p rfl rfl rfl rfl (Y.asg rfl) ?_
          refine J.nx ?_
          refine C.ret ?_
          obtain rfl := Option.some.inj H
          refine T.th ?_
          exact ret_ok (ks := [4]) rfl rfl (fun w h => ⟨rfl, (St.pick [] [_] h rfl)⟩)
        · refine C.condF (congrArg (fun b => some (Value.bool b)) (nt c141)) ?_
          refine C.skip ?_
          refine N.nx ?_
          refine C.seq ?_
          refine C.rs ?_
          refine J.p rfl rfl rfl rfl (Y.asg rfl) ?_
          refine J.nx ?_
          refine C.joinNR H (fun (o154 : Unit) (j155 : Unit) => [(9, .slice A33 t31.length c34)]) (fun (o154 : Unit) (j155 : Unit) => own 5 1 A33 c34 (t31.map (Value.int .u8)) :: G) (fun (o154 : Unit) (j155 : Unit) => True) (fun o152 H HK153 => ?_) (fun o154 j155 H _ => ?_)
          · refine C.blk ?_
            refine C.loop (fun (i : Nat × (Int) × (Unit)) => [(9, .slice A33 t31.length c34), (13, .int .i64 i.2.1)]) (fun (i : Nat × (Int) × (Unit)) => own 5 1 A33 c34 (t31.map (Value.int .u8)) :: G) (fun (i : Nat × (Int) × (Unit)) => TopEscaped.l1 t31 i.1 i.2.1 = some o152 ∧ (True)) (fun i => i.1) (K, 0, ()) ⟨H, trivial⟩ (by exact ⟨rfl, rfl, trivial⟩) (by exact fun w h => h) ?_
            rintro ⟨k172, i167, j168⟩ ⟨H, _⟩
            replace H : TopEscaped.l1 t31 k172 i167 = some o152 := H
            obtain ⟨k166, rfl⟩ : ∃ m, k172 = m + 1 := by cases k172 with | zero => exact absurd H (by simp [TopEscaped.l1]) | succ m => exact ⟨m, rfl⟩
            rw [TopEscaped.l1] at H
            refine C.at (s' := [(9, .slice A33 t31.length c34), (13, .int .i64 i167)]) (G' := own 5 1 A33 c34 (t31.map (Value.int .u8)) :: G) rfl rfl ?_
            refine C.seq ?_
            refine C.rs ?_
            refine J.p rfl rfl rfl rfl (Y.mv rfl) ?_
            refine J.p rfl rfl rfl rfl (Y.mv rfl) ?_
            refine J.p rfl rfl rfl rfl (Y.lenS Try.underlying25 rfl) ?_
            refine J.p rfl rfl rfl rfl (Y.bin rfl rfl rfl) ?_
            refine J.nx ?_
            refine split2 H (fun c169 H => ?_) (fun c169 H => ?_)
            · refine C.condT (congrArg (fun b => some (Value.bool b)) (decide_eq_true c169)) ?_
              refine C.skip ?_
              refine N.nx ?_
              refine C.seq ?_
              refine C.blk ?_
              refine C.rs ?_
              refine J.p rfl rfl rfl rfl (Y.mv rfl) ?_
              refine J.p rfl rfl rfl rfl (Y.mv rfl) ?_
              obtain ⟨p170, H⟩ := gd_some H
              refine J.el rfl rfl rfl Try.underlying25 ti5 Try.underlying5 rfl rfl rfl p170 (RdG.own 0 rfl) ?_
              refine J.p rfl rfl rfl rfl (Y.bin rfl rfl rfl) ?_
              refine J.nx ?_
              refine split2 H (fun c171 H => ?_) (fun c171 H => ?_)
              · refine C.condT (congrArg (fun b => some (Value.bool b)) (decide_eq_true c171)) ?_
                refine C.rs ?_
                refine J.p rfl rfl rfl rfl (Y.asg rfl) ?_
                refine J.nx ?_
                refine C.ret ?_
                obtain rfl := Option.some.inj H
                obtain rfl := fin_inl HK153
                refine T.ib ?_
                refine T.th ?_
                refine T.th ?_
                refine T.ib ?_
                refine T.th ?_
                refine T.th ?_
                exact ret_ok (ks := [4]) rfl rfl (fun w h => ⟨rfl, (St.pick [] [_] h rfl)⟩)
              · refine C.condF (congrArg (fun b => some (Value.bool b)) (decide_eq_false c171)) ?_
                refine C.skip ?_
                refine N.ib ?_
                refine N.nx ?_
                refine C.reg ?_
                refine J.p rfl rfl rfl rfl (Y.mv rfl) ?_
                refine J.p rfl rfl rfl rfl (Y.bin rfl rfl rfl) ?_
                refine J.p rfl rfl rfl rfl (Y.asg rfl) ?_
                refine J.nil ?_
                exact N.again (k166, IntKind.wrap .i64 (i167 + 1), ()) ⟨H, trivial⟩ (Nat.lt_succ_self _) (by exact ⟨rfl, rfl, trivial⟩) (by exact fun w h => h)
            · refine C.condF (congrArg (fun b => some (Value.bool b)) (decide_eq_false c169)) ?_
              refine C.exit ?_
              refine X.th ?_
              refine X.th ?_
              refine X.hit ?_
              obtain rfl := Option.some.inj H
              exact N.meet ((), ()) ⟨fin_inr HK153, trivial⟩ (by exact ⟨rfl, trivial⟩) (by exact fun w h => h)
          · refine N.at (s' := [(9, .slice A33 t31.length c34)]) (G' := own 5 1 A33 c34 (t31.map (Value.int .u8)) :: G) rfl rfl ?_
            refine N.nx ?_
            refine C.rs ?_
            refine J.p rfl rfl rfl rfl (Y.mv rfl) ?_
            refine J.bsL (enc := (Value.int .u8)) (xs := [167]) rfl Try.underlying25 ti5 rfl rfl rfl rfl rfl (fun A173 => ?_)
            refine J.know (own_leL 1 rfl) (fun hc175 => ?_)
            obtain ⟨t176, hC177, H⟩ := bind_some H
            refine J.call (us := []) (cap := []) rfl rfl rfl go32 (fun w hw => joined.calls t31 [167] A33 c34 A173 1 (RdG.own 1 rfl) hc175 (RdG.own 0 rfl) (show [167].length ≤ 1 from Nat.le_refl _) t176 hC177 w hw) (fun e w1 h1 => ?_)
            obtain ⟨A178, c179, rfl, hw190⟩ := h1
            refine ⟨_, _, rfl, hw190, ?_⟩
            refine J.know (own_leL 0 rfl) (fun hc181 => ?_)
            obtain ⟨t182, hC183, H⟩ := bind_some H
            refine J.call (us := []) (cap := []) rfl rfl rfl go29 (fun w hw => Open.calls K t176 A178 c179 (RdG.own 0 rfl) hc181 t182 hC183 w hw) (fun e w1 h1 => ?_)
            obtain ⟨A184, c185, rfl, hw189⟩ := h1
            refine ⟨_, _, rfl, hw189, ?_⟩
            refine J.p rfl rfl rfl rfl (Y.mv rfl) ?_
            refine J.p rfl rfl rfl rfl (Y.ext rfl rfl) ?_
            refine J.p rfl rfl rfl rfl (Y.ext rfl rfl) ?_
            refine J.p rfl rfl rfl rfl (Y.ext rfl rfl) ?_
            refine J.p rfl rfl rfl rfl (Y.asg rfl) ?_
            refine J.p rfl rfl rfl rfl (Y.asg rfl) ?_
            refine J.p rfl rfl rfl rfl (Y.asg rfl) ?_
            refine J.nx ?_
            refine C.rs ?_
            refine J.p rfl rfl rfl rfl (Y.mv rfl) ?_
            refine J.p rfl rfl rfl rfl (Y.bin rfl rfl rfl) ?_
            refine J.p rfl rfl rfl rfl (Y.mv rfl) ?_
            refine split2 H (fun c187 H => ?_) (fun c187 H => ?_)
            · refine J.as (k := 97) rfl (congrArg Value.bool (decide_eq_true c187)) ?_
              refine J.p rfl rfl rfl rfl (Y.mv rfl) ?_
              refine J.p rfl rfl rfl rfl (Y.mv rfl) ?_
              refine J.p rfl rfl rfl rfl (Y.lenS Try.underlying25 rfl) ?_
              refine J.p rfl rfl rfl rfl (Y.bin rfl rfl rfl) ?_
              refine J.p rfl rfl rfl rfl (Y.pickT rfl rfl) ?_
              refine J.p rfl rfl rfl rfl (Y.mv rfl) ?_
              refine split2 H (fun c188 H => ?_) (fun c188 H => ?_)
              · refine J.as (k := 103) rfl (congrArg Value.bool (decide_eq_true c188)) ?_
                refine J.p rfl rfl rfl rfl (Y.mv rfl) ?_
                refine J.p rfl rfl rfl rfl (Y.lenS Try.underlying25 rfl) ?_
                refine J.p rfl rfl rfl rfl (Y.bin rfl rfl rfl) ?_
                refine J.p rfl rfl rfl rfl (Y.pickT rfl rfl) ?_
                refine J.p rfl rfl rfl rfl (Y.asg rfl) ?_
                refine J.nx ?_
                refine C.ret ?_
                obtain rfl := Option.some.inj H
                exact ret_ok (ks := [4]) rfl rfl (fun w h => ⟨rfl, (St.pick [] [_, _, _, _] h rfl)⟩)
              · refine J.as (k := 103) rfl (congrArg Value.bool (decide_eq_false c188)) ?_
                refine J.skip rfl rfl ?_
                refine J.skip rfl rfl ?_
                refine J.skip rfl rfl ?_
                refine J.p rfl rfl rfl rfl (Y.pickF rfl rfl) ?_
                refine J.p rfl rfl rfl rfl (Y.asg rfl) ?_
                refine J.nx ?_
                refine C.ret ?_
                obtain rfl := Option.some.inj H
                exact ret_ok (ks := [4]) rfl rfl (fun w h => ⟨rfl, (St.pick [] [_, _, _, _] h rfl)⟩)
            · refine J.as (k := 97) rfl (congrArg Value.bool (decide_eq_false c187)) ?_
              refine J.skip rfl rfl ?_
              refine J.skip rfl rfl ?_
              refine J.skip rfl rfl ?_
              refine J.skip rfl rfl ?_
              refine J.p rfl rfl rfl rfl (Y.pickF rfl rfl) ?_
              refine J.p rfl rfl rfl rfl (Y.mv rfl) ?_
              refine J.skip rfl rfl ?_
              refine J.skip rfl rfl ?_
              refine J.skip rfl rfl ?_
              refine J.p rfl rfl rfl rfl (Y.pickF rfl rfl) ?_
              refine J.p rfl rfl rfl rfl (Y.asg rfl) ?_
              refine J.nx ?_
              refine C.ret ?_
              obtain rfl := Option.some.inj H
              exact ret_ok (ks := [4]) rfl rfl (fun w h => ⟨rfl, (St.pick [] [_, _, _, _] h rfl)⟩)
/-! ### salvor/salvorlaw3.pick: function 27 -/
def pick.f (a0 : Int) (a1 : Int) : Option (Int) := if a0 < 0 then (gd (a1 ≠ (0 : Int)) (some (Int.tmod (IntKind.wrap .i64 (0 - (IntKind.wrap .i64 (a0 + 1)))) a1))) else (gd (a1 ≠ (0 : Int)) (some (Int.tmod a0 a1)))
theorem pick.calls {B : Nat} {w0 : World} {G : List HP} (a0 : Int) (a1 : Int) (r : Int) (H : pick.f a0 a1 = some r) (w : World) (hw : St B w0 (G) w) :
    Calls Try.prog 27 [.int .i64 a0, .int .i64 a1].toArray w (fun e w' => e = .returned (.int .i64 r) ∧ St B w0 (G) w') := by
  unfold pick.f at H
  refine calls_of (n := 13) (s := [(0, .int .i64 a0), (1, .int .i64 a1)]) Try.func27 rfl rfl rfl rfl ?_ hw
  refine C.rs ?_
  refine J.p rfl rfl rfl rfl (Y.asg rfl) ?_
  refine J.nx ?_
  refine C.seq ?_
  refine C.rs ?_
  refine J.p rfl rfl rfl rfl (Y.mv rfl) ?_
  refine J.p rfl rfl rfl rfl (Y.bin rfl rfl rfl) ?_
  refine J.nx ?_
  refine split2 H (fun c1 H => ?_) (fun c1 H => ?_)
  · refine C.condT (congrArg (fun b => some (Value.bool b)) (decide_eq_true c1)) ?_
    refine C.reg ?_
    refine J.p rfl rfl rfl rfl (Y.mv rfl) ?_
    refine J.p rfl rfl rfl rfl (Y.bin rfl rfl rfl) ?_
    refine J.p rfl rfl rfl rfl (Y.neg rfl) ?_
    refine J.p rfl rfl rfl rfl (Y.asg rfl) ?_
    refine J.nx ?_
    refine C.rs ?_
    refine J.p rfl rfl rfl rfl (Y.mv rfl) ?_
    refine J.p rfl rfl rfl rfl (Y.mv rfl) ?_
    obtain ⟨p2, H⟩ := gd_some H
    refine J.p rfl rfl rfl rfl (Y.rem rfl rfl p2) ?_
    refine J.p rfl rfl rfl rfl (Y.asg rfl) ?_
    refine J.nx ?_
    refine C.ret ?_
    obtain rfl := Option.some.inj H
    exact ret_ok (ks := [4]) rfl rfl (fun w h => ⟨rfl, h⟩)
  · refine C.condF (congrArg (fun b => some (Value.bool b)) (decide_eq_false c1)) ?_
    refine C.skip ?_
    refine N.nx ?_
    refine C.rs ?_
    refine J.p rfl rfl rfl rfl (Y.mv rfl) ?_
    refine J.p rfl rfl rfl rfl (Y.mv rfl) ?_
    obtain ⟨p3, H⟩ := gd_some H
    refine J.p rfl rfl rfl rfl (Y.rem rfl rfl p3) ?_
    refine J.p rfl rfl rfl rfl (Y.asg rfl) ?_
    refine J.nx ?_
    refine C.ret ?_
    obtain rfl := Option.some.inj H
    exact ret_ok (ks := [4]) rfl rfl (fun w h => ⟨rfl, h⟩)
end Go.Proofs.Ytgikgekddnfheaa
