/- Own text, printed by the lifting program: each Go function beside a plain function, and the proof that a call of the one comes to the other. Conditions: what came in can be read. -/
import Derived.Test.YtakolnamobkkkaaLiftB
set_option linter.unusedVariables false
set_option linter.unusedSimpArgs false
set_option maxRecDepth 10000
set_option maxHeartbeats 4000000
namespace Go.Proofs.Ytakolnamobkkkaa
open Go Go.Sx
theorem fa64_0 : FA Try.prog 64 0 0 := FA.of Try.underlying64 rfl ti3 (by decide) rfl
theorem fa64_1 : FA Try.prog 64 1 1 := FA.of Try.underlying64 rfl ti3 (by decide) rfl
theorem fa64_2 : FA Try.prog 64 2 2 := FA.of Try.underlying64 rfl ti3 (by decide) rfl
theorem go15 : GoF Try.prog 15 := GoF.of Try.func15 (by kernel_rfl) (by kernel_rfl)
theorem go18 : GoF Try.prog 18 := GoF.of Try.func18 (by kernel_rfl) (by kernel_rfl)
theorem go21 : GoF Try.prog 21 := GoF.of Try.func21 (by kernel_rfl) (by kernel_rfl)
theorem go34 : GoF Try.prog 34 := GoF.of Try.func34 (by kernel_rfl) (by kernel_rfl)
theorem go35 : GoF Try.prog 35 := GoF.of Try.func35 (by kernel_rfl) (by kernel_rfl)
theorem go39 : GoF Try.prog 39 := GoF.of Try.func39 (by kernel_rfl) (by kernel_rfl)
theorem go41 : GoF Try.prog 41 := GoF.of Try.func41 (by kernel_rfl) (by kernel_rfl)
theorem go42 : GoF Try.prog 42 := GoF.of Try.func42 (by kernel_rfl) (by kernel_rfl)
theorem go52 : GoF Try.prog 52 := GoF.of Try.func52 (by kernel_rfl) (by kernel_rfl)
theorem go53 : GoF Try.prog 53 := GoF.of Try.func53 (by kernel_rfl) (by kernel_rfl)
theorem go55 : GoF Try.prog 55 := GoF.of Try.func55 (by kernel_rfl) (by kernel_rfl)
theorem go57 : GoF Try.prog 57 := GoF.of Try.func57 (by kernel_rfl) (by kernel_rfl)
theorem go58 : GoF Try.prog 58 := GoF.of Try.func58 (by kernel_rfl) (by kernel_rfl)
theorem go59 : GoF Try.prog 59 := GoF.of Try.func59 (by kernel_rfl) (by kernel_rfl)
theorem go76 : GoF Try.prog 76 := GoF.of Try.func76 (by kernel_rfl) (by kernel_rfl)
theorem go77 : GoF Try.prog 77 := GoF.of Try.func77 (by kernel_rfl) (by kernel_rfl)
/-! ### salvor/salvorref4.plain: function 41 -/
def plain.l1 (a0 : List Int) : Nat → ((List Int) × Int) → Option (((List Int) × Bool) ⊕ ((List Int)))
  | 0, _ => none
  | k + 1, i149 => if i149.2 < (a0.length : Int) then (thn (gd ((0 : Int) ≤ i149.2 ∧ i149.2 < (a0.length : Int)) (if (rd a0 i149.2) = 167 then (some (.inl (.inl ((([] : List Int), false))))) else (gd ((0 : Int) ≤ i149.2 ∧ i149.2 < (a0.length : Int)) (if (rd a0 i149.2) ≠ 166 then (gd ((0 : Int) ≤ i149.2 ∧ i149.2 < (a0.length : Int)) (gd ((i149.1.length + [rd a0 i149.2].length) * 1 ≤ 140737488355328) (some (.inr ((i149.1 ++ [rd a0 i149.2]), i149.2))))) else ((if (IntKind.wrap .i64 (i149.2 + 1)) = (a0.length : Int) then (some true) else (gd ((0 : Int) ≤ (IntKind.wrap .i64 (i149.2 + 1)) ∧ (IntKind.wrap .i64 (i149.2 + 1)) < (a0.length : Int)) (gd ((0 : Int) ≤ (IntKind.wrap .i64 (i149.2 + 1)) ∧ (IntKind.wrap .i64 (i149.2 + 1)) < (a0.length : Int)) (some (decide (1 < (rd a0 (IntKind.wrap .i64 (i149.2 + 1))))))))).bind fun o204 => if o204 = true then (some (.inl (.inl ((([] : List Int), false))))) else (gd ((0 : Int) ≤ (IntKind.wrap .i64 (i149.2 + 1)) ∧ (IntKind.wrap .i64 (i149.2 + 1)) < (a0.length : Int)) (gd ((i149.1.length + [IntKind.wrap .u8 (166 + (rd a0 (IntKind.wrap .i64 (i149.2 + 1))))].length) * 1 ≤ 140737488355328) (some (.inr ((i149.1 ++ [IntKind.wrap .u8 (166 + (rd a0 (IntKind.wrap .i64 (i149.2 + 1))))]), IntKind.wrap .i64 (i149.2 + 1))))))))))) fun o184 => plain.l1 a0 k (o184.1, IntKind.wrap .i64 (o184.2 + 1))) else (some (.inr i149.1))
def plain.f (K : Nat) (a0 : List Int) : Option ((List Int) × Bool) := thn (plain.l1 a0 K (([] : List Int), 0)) fun o74 => some (o74, true)
theorem plain.calls {B : Nat} {w0 : World} {G : List HP} (K : Nat) (a0 : List Int) (Aa0 : Option Addr) (ca0 : Nat) (ha0 : RdG B w0 G Aa0 (a0.map (Value.int .u8))) (ka0 : a0.length ≤ ca0) (r : (List Int) × Bool) (H : plain.f K a0 = some r) (w : World) (hw : St B w0 (G) w) :
    Calls Try.prog 41 [.slice Aa0 a0.length ca0].toArray w (fun e w' => ∃ A0 c0, e = .returned (.tuple #[.slice A0 r.1.length c0, .bool r.2]) ∧ St B w0 (own 5 1 A0 c0 (r.1.map (Value.int .u8)) :: G) w') := by
  unfold plain.f at H
  refine calls_of (n := 51) (s := [(0, .slice Aa0 a0.length ca0)]) Try.func41 rfl rfl rfl rfl ?_ hw
  refine C.rs ?_
  refine J.p rfl rfl rfl rfl (Y.asg rfl) ?_
  refine J.p rfl rfl rfl rfl (Y.asg rfl) ?_
  refine J.nx ?_
  refine C.rs ?_
  refine J.p rfl rfl rfl rfl (Y.asg rfl) ?_
  refine J.nx ?_
  refine C.seq ?_
  refine C.rs ?_
  refine J.p rfl rfl rfl rfl (Y.asg rfl) ?_
  refine J.nx ?_
  refine C.joinNR H (fun (o74 : (List Int)) (j75 : (Option Addr) × Nat) => [(4, .slice j75.1 o74.length j75.2)]) (fun (o74 : (List Int)) (j75 : (Option Addr) × Nat) => own 5 1 j75.1 j75.2 (o74.map (Value.int .u8)) :: G) (fun (o74 : (List Int)) (j75 : (Option Addr) × Nat) => True) (fun o72 H HK73 => ?_) (fun o74 j75 H _ => ?_)
  · refine C.blk ?_
    refine C.loop (fun (i : Nat × ((List Int) × Int) × ((Option Addr) × Nat)) => [(0, .slice Aa0 a0.length ca0), (4, .slice i.2.2.1 i.2.1.1.length i.2.2.2), (5, .int .i64 i.2.1.2)]) (fun (i : Nat × ((List Int) × Int) × ((Option Addr) × Nat)) => own 5 1 i.2.2.1 i.2.2.2 (i.2.1.1.map (Value.int .u8)) :: G) (fun (i : Nat × ((List Int) × Int) × ((Option Addr) × Nat)) => plain.l1 a0 i.1 i.2.1 = some o72 ∧ (True)) (fun i => i.1) (K, (([] : List Int), 0), (none, 0)) ⟨H, trivial⟩ (by exact ⟨rfl, rfl, rfl, trivial⟩) (by exact fun w h => (h.nilOwn 5 1)) ?_
    rintro ⟨k222, i149, j150⟩ ⟨H, _⟩
    replace H : plain.l1 a0 k222 i149 = some o72 := H
    obtain ⟨k148, rfl⟩ : ∃ m, k222 = m + 1 := by cases k222 with | zero => exact absurd H (by simp [plain.l1]) | succ m => exact ⟨m, rfl⟩
    rw [plain.l1] at H
    refine C.at (s' := [(0, .slice Aa0 a0.length ca0), (4, .slice j150.1 i149.1.length j150.2), (5, .int .i64 i149.2)]) (G' := own 5 1 j150.1 j150.2 (i149.1.map (Value.int .u8)) :: G) rfl rfl ?_
    refine C.seq ?_
    refine C.rs ?_
    refine J.p rfl rfl rfl rfl (Y.mv rfl) ?_
    refine J.p rfl rfl rfl rfl (Y.mv rfl) ?_
    refine J.p rfl rfl rfl rfl (Y.lenS Try.underlying22 rfl) ?_
    refine J.p rfl rfl rfl rfl (Y.bin rfl rfl rfl) ?_
    refine J.nx ?_
    refine split2 H (fun c153 H => ?_) (fun c153 H => ?_)
    · refine C.condT (congrArg (fun b => some (Value.bool b)) (decide_eq_true c153)) ?_
      refine C.skip ?_
      refine N.nx ?_
      refine C.joinR H (fun (o184 : (List Int) × Int) (j185 : (Option Addr) × Nat) => [(0, .slice Aa0 a0.length ca0), (4, .slice j185.1 o184.1.length j185.2), (5, .int .i64 o184.2)]) (fun (o184 : (List Int) × Int) (j185 : (Option Addr) × Nat) => own 5 1 j185.1 j185.2 (o184.1.map (Value.int .u8)) :: G) (fun (o184 : (List Int) × Int) (j185 : (Option Addr) × Nat) => True) (fun o182 H HK183 => ?_) (fun o184 j185 H _ => ?_)
      · refine C.blk ?_
        refine C.seq ?_
        refine C.rs ?_
        refine J.p rfl rfl rfl rfl (Y.mv rfl) ?_
        refine J.p rfl rfl rfl rfl (Y.mv rfl) ?_
        obtain ⟨p187, H⟩ := gd_some H
        refine J.el rfl rfl rfl Try.underlying22 ti5 Try.underlying5 rfl rfl rfl p187 (ha0.suf [_] rfl) ?_
        refine J.p rfl rfl rfl rfl (Y.bin rfl rfl rfl) ?_
        refine J.nx ?_
        refine split2 H (fun c188 H => ?_) (fun c188 H => ?_)
        · refine C.condT (congrArg (fun b => some (Value.bool b)) (decide_eq_true c188)) ?_
          refine C.rs ?_
          refine J.p rfl rfl rfl rfl (Y.asg rfl) ?_
          refine J.p rfl rfl rfl rfl (Y.asg rfl) ?_
          refine J.nx ?_
          refine C.ret ?_
          obtain rfl := Option.some.inj H
          obtain rfl := fin_inl HK183
          obtain rfl := fin_inl HK73
          refine T.th ?_
          refine T.ib ?_
          refine T.th ?_
          refine T.th ?_
          refine T.ib ?_
          refine T.th ?_
          refine T.th ?_
          exact ret_ok (ks := [2, 3]) rfl rfl (fun w h => ⟨none, 0, rfl, (St.pick [0] [_, _] (h.nilOwn 5 1) rfl)⟩)
        · refine C.condF (congrArg (fun b => some (Value.bool b)) (decide_eq_false c188)) ?_
          refine C.skip ?_
          refine N.nx ?_
          refine C.seq ?_
          refine C.rs ?_
          refine J.p rfl rfl rfl rfl (Y.mv rfl) ?_
          refine J.p rfl rfl rfl rfl (Y.mv rfl) ?_
          obtain ⟨p190, H⟩ := gd_some H
          refine J.el rfl rfl rfl Try.underlying22 ti5 Try.underlying5 rfl rfl rfl p190 (ha0.suf [_] rfl) ?_
          refine J.p rfl rfl rfl rfl (Y.bin rfl rfl rfl) ?_
          refine J.nx ?_
          refine split2 H (fun c191 H => ?_) (fun c191 H => ?_)
          · refine C.condT (congrArg (fun b => some (Value.bool b)) (decide_eq_true c191)) ?_
            refine C.rs ?_
            refine J.p rfl rfl rfl rfl (Y.mv rfl) ?_
            refine J.p rfl rfl rfl rfl (Y.mv rfl) ?_
            refine J.p rfl rfl rfl rfl (Y.mv rfl) ?_
            obtain ⟨p192, H⟩ := gd_some H
            refine J.el rfl rfl rfl Try.underlying22 ti5 Try.underlying5 rfl rfl rfl p192 (ha0.suf [_] rfl) ?_
            refine J.bsL (enc := (Value.int .u8)) (xs := [rd a0 i149.2]) rfl Try.underlying22 ti5 rfl rfl rfl rfl rfl (fun A193 => ?_)
            refine J.pull 1 rfl rfl ?_
            obtain ⟨p197, H⟩ := gd_some H
            refine J.appL (enc := (Value.int .u8)) (xs := i149.1) (ys := [rd a0 i149.2]) rfl Try.underlying22 ti5 rfl (by decide) rfl rfl (fun _ => rfl) (RdG.own 1 rfl) p197 (fun A195 c196 => ?_)
            refine J.pull 1 rfl rfl (J.drop ?_)
            refine J.p rfl rfl rfl rfl (Y.asg rfl) ?_
            refine J.nx ?_
            refine C.exit ?_
            refine X.th ?_
            refine X.hit ?_
            obtain rfl := Option.some.inj H
            exact N.meet (((i149.1 ++ [rd a0 i149.2]), i149.2), (A195, c196)) ⟨fin_inr HK183, trivial⟩ (by exact ⟨rfl, rfl, rfl, trivial⟩) (by exact fun w h => h)
          · refine C.condF (congrArg (fun b => some (Value.bool b)) (decide_eq_false c191)) ?_
            refine C.skip ?_
            refine N.nx ?_
            refine C.rs ?_
            refine J.p rfl rfl rfl rfl (Y.mv rfl) ?_
            refine J.p rfl rfl rfl rfl (Y.bin rfl rfl rfl) ?_
            refine J.p rfl rfl rfl rfl (Y.asg rfl) ?_
            refine J.nx ?_
            refine C.seq ?_
            refine C.rs ?_
            refine J.joinB H (fun (o204 : Bool) (j205 : Unit) => [(0, .slice Aa0 a0.length ca0), (4, .slice j150.1 i149.1.length j150.2), (5, .int .i64 (IntKind.wrap .i64 (i149.2 + 1))), (41, .bool o204)]) (fun (o204 : Bool) (j205 : Unit) => own 5 1 j150.1 j150.2 (i149.1.map (Value.int .u8)) :: G) (fun (o204 : Bool) (j205 : Unit) => True) (fun o206 H HK207 => ?_) (fun o204 j205 H _ => ?_)
            · refine J.p rfl rfl rfl rfl (Y.mv rfl) ?_
              refine J.p rfl rfl rfl rfl (Y.mv rfl) ?_
              refine J.p rfl rfl rfl rfl (Y.lenS Try.underlying22 rfl) ?_
              refine J.p rfl rfl rfl rfl (Y.bin rfl rfl rfl) ?_
              refine J.p rfl rfl rfl rfl (Y.mv rfl) ?_
              refine split2 H (fun c208 H => ?_) (fun c208 H => ?_)
              · refine J.as (k := 35) rfl (congrArg Value.bool (decide_eq_true c208)) ?_
                refine J.skip rfl rfl ?_
                refine J.skip rfl rfl ?_
                refine J.skip rfl rfl ?_
                refine J.skip rfl rfl ?_
                refine J.skip rfl rfl ?_
                refine J.p rfl rfl rfl rfl (Y.pickT rfl rfl) ?_
                refine J.nil ?_
                obtain rfl := Option.some.inj H
                exact N.meet (true, ()) ⟨HK207, trivial⟩ (by exact ⟨rfl, rfl, rfl, rfl, trivial⟩) (by exact fun w h => h)
              · refine J.as (k := 35) rfl (congrArg Value.bool (decide_eq_false c208)) ?_
                refine J.p rfl rfl rfl rfl (Y.mv rfl) ?_
                refine J.p rfl rfl rfl rfl (Y.mv rfl) ?_
                obtain ⟨p211, H⟩ := gd_some H
                refine J.know ((ha0.suf [_] rfl).some_ (j := Int.toNat (IntKind.wrap .i64 (i149.2 + 1))) (by rw [List.length_map]; exact idx_lt p211)) (fun hh => ?_)
                obtain ⟨a209, ha210⟩ := hh
                refine J.p rfl rfl rfl rfl (Y.ixa Try.underlying22 ti5 rfl rfl p211 ha210) ?_
                obtain ⟨p212, H⟩ := gd_some H
                refine J.r rfl rfl rfl rfl (Y.ldE Try.underlying5 rfl rfl ha210 p212 (ha0.suf [_] rfl)) ?_
                refine J.p rfl rfl rfl rfl (Y.bin rfl rfl rfl) ?_
                refine J.p rfl rfl rfl rfl (Y.pickF rfl rfl) ?_
                refine J.nil ?_
                obtain rfl := Option.some.inj H
                exact N.meet (decide (1 < (rd a0 (IntKind.wrap .i64 (i149.2 + 1)))), ()) ⟨HK207, trivial⟩ (by exact ⟨rfl, rfl, rfl, rfl, trivial⟩) (by exact fun w h => h)
            · refine C.at (s' := [(0, .slice Aa0 a0.length ca0), (4, .slice j150.1 i149.1.length j150.2), (5, .int .i64 (IntKind.wrap .i64 (i149.2 + 1))), (41, .bool o204)]) (G' := own 5 1 j150.1 j150.2 (i149.1.map (Value.int .u8)) :: G) rfl rfl ?_
              refine split2 H (fun c213 H => ?_) (fun c213 H => ?_)
              · refine C.condT (congrArg (fun b => some (Value.bool b)) (c213)) ?_
                refine C.rs ?_
                refine J.p rfl rfl rfl rfl (Y.asg rfl) ?_
                refine J.p rfl rfl rfl rfl (Y.asg rfl) ?_
                refine J.nx ?_
                refine C.ret ?_
                obtain rfl := Option.some.inj H
                obtain rfl := fin_inl HK183
                obtain rfl := fin_inl HK73
                refine T.th ?_
                refine T.ib ?_
                refine T.th ?_
                refine T.th ?_
                refine T.ib ?_
                refine T.th ?_
                refine T.th ?_
                exact ret_ok (ks := [2, 3]) rfl rfl (fun w h => ⟨none, 0, rfl, (St.pick [0] [_, _] (h.nilOwn 5 1) rfl)⟩)
              · refine C.condF (congrArg (fun b => some (Value.bool b)) (nt c213)) ?_
                refine C.skip ?_
                refine N.nx ?_
                refine C.reg ?_
                refine J.p rfl rfl rfl rfl (Y.mv rfl) ?_
                refine J.p rfl rfl rfl rfl (Y.mv rfl) ?_
                refine J.p rfl rfl rfl rfl (Y.mv rfl) ?_
                obtain ⟨p215, H⟩ := gd_some H
                refine J.el rfl rfl rfl Try.underlying22 ti5 Try.underlying5 rfl rfl rfl p215 (ha0.suf [_] rfl) ?_
                refine J.p rfl rfl rfl rfl (Y.bin rfl rfl rfl) ?_
                refine J.bsL (enc := (Value.int .u8)) (xs := [IntKind.wrap .u8 (166 + (rd a0 (IntKind.wrap .i64 (i149.2 + 1))))]) rfl Try.underlying22 ti5 rfl rfl rfl rfl rfl (fun A216 => ?_)
                refine J.pull 1 rfl rfl ?_
                obtain ⟨p220, H⟩ := gd_some H
                refine J.appL (enc := (Value.int .u8)) (xs := i149.1) (ys := [IntKind.wrap .u8 (166 + (rd a0 (IntKind.wrap .i64 (i149.2 + 1))))]) rfl Try.underlying22 ti5 rfl (by decide) rfl rfl (fun _ => rfl) (RdG.own 1 rfl) p220 (fun A218 c219 => ?_)
                refine J.pull 1 rfl rfl (J.drop ?_)
                refine J.p rfl rfl rfl rfl (Y.asg rfl) ?_
                refine J.nil ?_
                refine N.ib ?_
                obtain rfl := Option.some.inj H
                exact N.meet (((i149.1 ++ [IntKind.wrap .u8 (166 + (rd a0 (IntKind.wrap .i64 (i149.2 + 1))))]), IntKind.wrap .i64 (i149.2 + 1)), (A218, c219)) ⟨fin_inr HK183, trivial⟩ (by exact ⟨rfl, rfl, rfl, trivial⟩) (by exact fun w h => h)
      · refine C.at (s' := [(0, .slice Aa0 a0.length ca0), (4, .slice j185.1 o184.1.length j185.2), (5, .int .i64 o184.2)]) (G' := own 5 1 j185.1 j185.2 (o184.1.map (Value.int .u8)) :: G) rfl rfl ?_
        refine C.reg ?_
        refine J.p rfl rfl rfl rfl (Y.mv rfl) ?_
        refine J.p rfl rfl rfl rfl (Y.bin rfl rfl rfl) ?_
        refine J.p rfl rfl rfl rfl (Y.asg rfl) ?_
        refine J.nil ?_
        exact N.again (k148, (o184.1, IntKind.wrap .i64 (o184.2 + 1)), (j185.1, j185.2)) ⟨H, trivial⟩ (Nat.lt_succ_self _) (by exact ⟨rfl, rfl, rfl, trivial⟩) (by exact fun w h => h)
    · refine C.condF (congrArg (fun b => some (Value.bool b)) (decide_eq_false c153)) ?_
      refine C.exit ?_
      refine X.th ?_
      refine X.th ?_
      refine X.hit ?_
      obtain rfl := Option.some.inj H
      exact N.meet (i149.1, (j150.1, j150.2)) ⟨fin_inr HK73, trivial⟩ (by exact ⟨rfl, trivial⟩) (by exact fun w h => h)
  · refine N.at (s' := [(4, .slice j75.1 o74.length j75.2)]) (G' := own 5 1 j75.1 j75.2 (o74.map (Value.int .u8)) :: G) rfl rfl ?_
    refine N.nx ?_
    refine C.rs ?_
    refine J.p rfl rfl rfl rfl (Y.mv rfl) ?_
    refine J.p rfl rfl rfl rfl (Y.asg rfl) ?_
    refine J.p rfl rfl rfl rfl (Y.asg rfl) ?_
    refine J.nx ?_
    refine C.ret ?_
    obtain rfl := Option.some.inj H
    exact ret_ok (ks := [2, 3]) rfl rfl (fun w h => ⟨j75.1, j75.2, rfl, h⟩)
/-! ### salvor/salvorref4.length: function 39 -/
def rLength.l1 (a0 : List Int) (a1 : Int) : Nat → (Int × Int) → Option ((Int × Int) ⊕ (Int))
  | 0, _ => none
  | k + 1, i35 => if i35.2 ≤ 3 then (if (a0.length : Int) ≤ (IntKind.wrap .i64 (a1 + i35.2)) then (some (.inl ((0, 43)))) else (gd ((0 : Int) ≤ (IntKind.wrap .i64 (a1 + i35.2)) ∧ (IntKind.wrap .i64 (a1 + i35.2)) < (a0.length : Int)) (if 127 < (rd a0 (IntKind.wrap .i64 (a1 + i35.2))) then (some (.inl ((0, 42)))) else (gd ((0 : Int) ≤ (IntKind.wrap .i64 (a1 + i35.2)) ∧ (IntKind.wrap .i64 (a1 + i35.2)) < (a0.length : Int)) (rLength.l1 a0 a1 k (IntKind.wrap .i64 ((IntKind.wrap .i64 (128 * i35.1)) + (IntKind.wrap .i64 (rd a0 (IntKind.wrap .i64 (a1 + i35.2))))), IntKind.wrap .i64 (i35.2 + 1))))))) else (some (.inr i35.1))
def rLength.f (K : Nat) (a0 : List Int) (a1 : Int) : Option (Int × Int) := thn (rLength.l1 a0 a1 K (0, 1)) fun o18 => some (o18, 0)
theorem rLength.calls {B : Nat} {w0 : World} {G : List HP} (K : Nat) (a0 : List Int) (a1 : Int) (Aa0 : Option Addr) (ca0 : Nat) (ha0 : RdG B w0 G Aa0 (a0.map (Value.int .u8))) (ka0 : a0.length ≤ ca0) (r : Int × Int) (H : rLength.f K a0 a1 = some r) (w : World) (hw : St B w0 (G) w) :
    Calls Try.prog 39 [.slice Aa0 a0.length ca0, .int .i64 a1].toArray w (fun e w' => e = .returned (.tuple #[.int .i64 r.1, .int .i64 r.2]) ∧ St B w0 (G) w') := by
  unfold rLength.f at H
  refine calls_of (n := 36) (s := [(0, .slice Aa0 a0.length ca0), (1, .int .i64 a1)]) Try.func39 rfl rfl rfl rfl ?_ hw
  refine C.rs ?_
  refine J.p rfl rfl rfl rfl (Y.asg rfl) ?_
  refine J.p rfl rfl rfl rfl (Y.asg rfl) ?_
  refine J.nx ?_
  refine C.rs ?_
  refine J.p rfl rfl rfl rfl (Y.asg rfl) ?_
  refine J.nx ?_
  refine C.seq ?_
  refine C.rs ?_
  refine J.p rfl rfl rfl rfl (Y.asg rfl) ?_
  refine J.nx ?_
  refine C.joinNR H (fun (o18 : Int) (j19 : Unit) => [(6, .int .i64 o18)]) (fun (o18 : Int) (j19 : Unit) => G) (fun (o18 : Int) (j19 : Unit) => True) (fun o16 H HK17 => ?_) (fun o18 j19 H _ => ?_)
  · refine C.blk ?_
    refine C.loop (fun (i : Nat × (Int × Int) × (Unit)) => [(0, .slice Aa0 a0.length ca0), (1, .int .i64 a1), (6, .int .i64 i.2.1.1), (7, .int .i64 i.2.1.2)]) (fun (i : Nat × (Int × Int) × (Unit)) => G) (fun (i : Nat × (Int × Int) × (Unit)) => rLength.l1 a0 a1 i.1 i.2.1 = some o16 ∧ (True)) (fun i => i.1) (K, (0, 1), ()) ⟨H, trivial⟩ (by exact ⟨rfl, rfl, rfl, rfl, trivial⟩) (by exact fun w h => h) ?_
    rintro ⟨k42, i35, j36⟩ ⟨H, _⟩
    replace H : rLength.l1 a0 a1 k42 i35 = some o16 := H
    obtain ⟨k34, rfl⟩ : ∃ m, k42 = m + 1 := by cases k42 with | zero => exact absurd H (by simp [rLength.l1]) | succ m => exact ⟨m, rfl⟩
    rw [rLength.l1] at H
    refine C.at (s' := [(0, .slice Aa0 a0.length ca0), (1, .int .i64 a1), (6, .int .i64 i35.1), (7, .int .i64 i35.2)]) (G' := G) rfl rfl ?_
    refine C.seq ?_
    refine C.rs ?_
    refine J.p rfl rfl rfl rfl (Y.mv rfl) ?_
    refine J.p rfl rfl rfl rfl (Y.bin rfl rfl rfl) ?_
    refine J.nx ?_
    refine split2 H (fun c37 H => ?_) (fun c37 H => ?_)
    · refine C.condT (congrArg (fun b => some (Value.bool b)) (decide_eq_true c37)) ?_
      refine C.skip ?_
      refine N.nx ?_
      refine C.seq ?_
      refine C.blk ?_
      refine C.seq ?_
      refine C.rs ?_
      refine J.p rfl rfl rfl rfl (Y.mv rfl) ?_
      refine J.p rfl rfl rfl rfl (Y.mv rfl) ?_
      refine J.p rfl rfl rfl rfl (Y.bin rfl rfl rfl) ?_
      refine J.p rfl rfl rfl rfl (Y.mv rfl) ?_
      refine J.p rfl rfl rfl rfl (Y.lenS Try.underlying22 rfl) ?_
      refine J.p rfl rfl rfl rfl (Y.bin rfl rfl rfl) ?_
      refine J.nx ?_
      refine split2 H (fun c38 H => ?_) (fun c38 H => ?_)
      · refine C.condT (congrArg (fun b => some (Value.bool b)) (decide_eq_true c38)) ?_
        refine C.rs ?_
        refine J.p rfl rfl rfl rfl (Y.asg rfl) ?_
        refine J.p rfl rfl rfl rfl (Y.asg rfl) ?_
        refine J.nx ?_
        refine C.ret ?_
        obtain rfl := Option.some.inj H
        obtain rfl := fin_inl HK17
        refine T.th ?_
        refine T.ib ?_
        refine T.th ?_
        refine T.th ?_
        refine T.ib ?_
        refine T.th ?_
        refine T.th ?_
        exact ret_ok (ks := [4, 5]) rfl rfl (fun w h => ⟨rfl, h⟩)
      · refine C.condF (congrArg (fun b => some (Value.bool b)) (decide_eq_false c38)) ?_
        refine C.skip ?_
        refine N.nx ?_
        refine C.seq ?_
        refine C.rs ?_
        refine J.p rfl rfl rfl rfl (Y.mv rfl) ?_
        refine J.p rfl rfl rfl rfl (Y.mv rfl) ?_
        refine J.p rfl rfl rfl rfl (Y.mv rfl) ?_
        refine J.p rfl rfl rfl rfl (Y.bin rfl rfl rfl) ?_
        obtain ⟨p39, H⟩ := gd_some H
        refine J.el rfl rfl rfl Try.underlying22 ti5 Try.underlying5 rfl rfl rfl p39 ha0 ?_
        refine J.p rfl rfl rfl rfl (Y.bin rfl rfl rfl) ?_
        refine J.nx ?_
        refine split2 H (fun c40 H => ?_) (fun c40 H => ?_)
        · refine C.condT (congrArg (fun b => some (Value.bool b)) (decide_eq_true c40)) ?_
          refine C.rs ?_
          refine J.p rfl rfl rfl rfl (Y.asg rfl) ?_
          refine J.p rfl rfl rfl rfl (Y.asg rfl) ?_
          refine J.nx ?_
          refine C.ret ?_
          obtain rfl := Option.some.inj H
          obtain rfl := fin_inl HK17
          refine T.th ?_
          refine T.ib ?_
          refine T.th ?_
          refine T.th ?_
          refine T.ib ?_
          refine T.th ?_
          refine T.th ?_
          exact ret_ok (ks := [4, 5]) rfl rfl (fun w h => ⟨rfl, h⟩)
        · refine C.condF (congrArg (fun b => some (Value.bool b)) (decide_eq_false c40)) ?_
          refine C.skip ?_
          refine N.nx ?_
          refine C.reg ?_
          refine J.p rfl rfl rfl rfl (Y.mv rfl) ?_
          refine J.p rfl rfl rfl rfl (Y.bin rfl rfl rfl) ?_
          refine J.p rfl rfl rfl rfl (Y.mv rfl) ?_
          refine J.p rfl rfl rfl rfl (Y.mv rfl) ?_
          refine J.p rfl rfl rfl rfl (Y.mv rfl) ?_
          refine J.p rfl rfl rfl rfl (Y.bin rfl rfl rfl) ?_
          obtain ⟨p41, H⟩ := gd_some H
          refine J.el rfl rfl rfl Try.underlying22 ti5 Try.underlying5 rfl rfl rfl p41 ha0 ?_
          refine J.p rfl rfl rfl rfl (Y.conv Try.underlying5 Try.underlying3 rfl) ?_
          refine J.p rfl rfl rfl rfl (Y.bin rfl rfl rfl) ?_
          refine J.p rfl rfl rfl rfl (Y.asg rfl) ?_
          refine J.nil ?_
          refine N.ib ?_
          refine N.nx ?_
          refine C.reg ?_
          refine J.p rfl rfl rfl rfl (Y.mv rfl) ?_
          refine J.p rfl rfl rfl rfl (Y.bin rfl rfl rfl) ?_
          refine J.p rfl rfl rfl rfl (Y.asg rfl) ?_
          refine J.nil ?_
          exact N.again (k34, (IntKind.wrap .i64 ((IntKind.wrap .i64 (128 * i35.1)) + (IntKind.wrap .i64 (rd a0 (IntKind.wrap .i64 (a1 + i35.2))))), IntKind.wrap .i64 (i35.2 + 1)), ()) ⟨H, trivial⟩ (Nat.lt_succ_self _) (by exact ⟨rfl, rfl, rfl, rfl, trivial⟩) (by exact fun w h => h)
    · refine C.condF (congrArg (fun b => some (Value.bool b)) (decide_eq_false c37)) ?_
      refine C.exit ?_
      refine X.th ?_
      refine X.th ?_
      refine X.hit ?_
      obtain rfl := Option.some.inj H
      exact N.meet (i35.1, ()) ⟨fin_inr HK17, trivial⟩ (by exact ⟨rfl, trivial⟩) (by exact fun w h => h)
  · refine N.at (s' := [(6, .int .i64 o18)]) (G' := G) rfl rfl ?_
    refine N.nx ?_
    refine C.rs ?_
    refine J.p rfl rfl rfl rfl (Y.mv rfl) ?_
    refine J.p rfl rfl rfl rfl (Y.asg rfl) ?_
    refine J.p rfl rfl rfl rfl (Y.asg rfl) ?_
    refine J.nx ?_
    refine C.ret ?_
    obtain rfl := Option.some.inj H
    exact ret_ok (ks := [4, 5]) rfl rfl (fun w h => ⟨rfl, h⟩)
/-! ### salvor/salvorref4.Decode: function 16 -/
def rDecode.l1 (t12 : Int × Int) : Nat → ((List Int) × Int) → Option ((Int × Int × Int × ByteArray × ByteArray × Int × Int × Int × Int × ByteArray × Int × Int × Int × Int × Int × Int) ⊕ ((List Int)))
  | 0, _ => none
  | k + 1, i47 => if i47.2 < t12.1 then (gd ((0 : Int) ≤ i47.2 ∧ i47.2 < (i47.1.length : Int)) (if (rd i47.1 i47.2) = 167 then (some (.inl ((0, 0, 0, ByteArray.empty, ByteArray.empty, 0, 0, 0, 0, ByteArray.empty, 0, 0, 0, 0, 0, 45)))) else (rDecode.l1 t12 k (i47.1, IntKind.wrap .i64 (i47.2 + 1))))) else (some (.inr i47.1))
def rDecode.l2 (a1 : Int) (t12 : Int × Int) (a0 : List Int) : Nat → (Int × Int) → Option ((Int × Int × Int × ByteArray × ByteArray × Int × Int × Int × Int × ByteArray × Int × Int × Int × Int × Int × Int) ⊕ (Int))
  | 0, _ => none
  | k + 1, i95 => if i95.2 < 5 then (gd ((0 : Int) ≤ (IntKind.wrap .i64 ((IntKind.wrap .i64 ((IntKind.wrap .i64 (a1 + 4)) + t12.1)) + i95.2)) ∧ (IntKind.wrap .i64 ((IntKind.wrap .i64 ((IntKind.wrap .i64 (a1 + 4)) + t12.1)) + i95.2)) < (a0.length : Int)) ((if 127 < (IntKind.wrap .i64 (rd a0 (IntKind.wrap .i64 ((IntKind.wrap .i64 ((IntKind.wrap .i64 (a1 + 4)) + t12.1)) + i95.2)))) then (some true) else (if i95.2 = 0 then (some (decide (15 < (IntKind.wrap .i64 (rd a0 (IntKind.wrap .i64 ((IntKind.wrap .i64 ((IntKind.wrap .i64 (a1 + 4)) + t12.1)) + i95.2))))))) else (some false))).bind fun o101 => if o101 = true then (some (.inl ((0, 0, 0, ByteArray.empty, ByteArray.empty, 0, 0, 0, 0, ByteArray.empty, 0, 0, 0, 0, 0, 44)))) else (rDecode.l2 a1 t12 a0 k (IntKind.wrap .i64 ((IntKind.wrap .i64 (128 * i95.1)) + (IntKind.wrap .i64 (rd a0 (IntKind.wrap .i64 ((IntKind.wrap .i64 ((IntKind.wrap .i64 (a1 + 4)) + t12.1)) + i95.2))))), IntKind.wrap .i64 (i95.2 + 1))))) else (some (.inr i95.1))
def rDecode.f (K : Nat) (a0 : List Int) (a1 : Int) : Option (Int × Int × Int × ByteArray × ByteArray × Int × Int × Int × Int × ByteArray × Int × Int × Int × Int × Int × Int) := (if a1 < 0 then (some true) else (some (decide ((a0.length : Int) ≤ a1)))).bind fun o4 => if o4 = true then (some (0, 0, 0, ByteArray.empty, ByteArray.empty, 0, 0, 0, 0, ByteArray.empty, 0, 0, 0, 0, 0, 40)) else (gd ((0 : Int) ≤ a1 ∧ a1 < (a0.length : Int)) (if (rd a0 a1) ≠ 167 then (some (0, 0, 0, ByteArray.empty, ByteArray.empty, 0, 0, 0, 0, ByteArray.empty, 0, 0, 0, 0, 0, 41)) else ((rLength.f K a0 a1).bind fun t12 => if t12.2 ≠ 0 then (some (0, 0, 0, ByteArray.empty, ByteArray.empty, 0, 0, 0, 0, ByteArray.empty, 0, 0, 0, 0, 0, t12.2)) else (if (IntKind.wrap .i64 ((a0.length : Int) - (IntKind.wrap .i64 (a1 + 4)))) < (IntKind.wrap .i64 (t12.1 + 5)) then (some (0, 0, 0, ByteArray.empty, ByteArray.empty, 0, 0, 0, 0, ByteArray.empty, 0, 0, 0, 0, 0, 43)) else (gd ((0 : Int) ≤ (IntKind.wrap .i64 (a1 + 4)) ∧ (0 : Int) ≤ (IntKind.wrap .i64 ((IntKind.wrap .i64 (a1 + 4)) + t12.1)) ∧ ((Int.toNat (IntKind.wrap .i64 (a1 + 4))) ≤ (Int.toNat (IntKind.wrap .i64 ((IntKind.wrap .i64 (a1 + 4)) + t12.1))) ∧ (Int.toNat (IntKind.wrap .i64 ((IntKind.wrap .i64 (a1 + 4)) + t12.1))) ≤ a0.length)) (thn (rDecode.l1 t12 K (((a0.take (Int.toNat (IntKind.wrap .i64 ((IntKind.wrap .i64 (a1 + 4)) + t12.1)))).drop (Int.toNat (IntKind.wrap .i64 (a1 + 4)))), 0)) fun o31 => thn (rDecode.l2 a1 t12 a0 K (0, 0)) fun o74 => gd ((0 : Int) ≤ (IntKind.wrap .i64 (a1 + 1)) ∧ (0 : Int) ≤ (IntKind.wrap .i64 ((IntKind.wrap .i64 (a1 + 4)) + t12.1)) ∧ ((Int.toNat (IntKind.wrap .i64 (a1 + 1))) ≤ (Int.toNat (IntKind.wrap .i64 ((IntKind.wrap .i64 (a1 + 4)) + t12.1))) ∧ (Int.toNat (IntKind.wrap .i64 ((IntKind.wrap .i64 (a1 + 4)) + t12.1))) ≤ a0.length)) ((rSum.f K ((a0.take (Int.toNat (IntKind.wrap .i64 ((IntKind.wrap .i64 (a1 + 4)) + t12.1)))).drop (Int.toNat (IntKind.wrap .i64 (a1 + 1))))).bind fun t110 => if (IntKind.wrap .u32 o74) ≠ t110 then (some (0, 0, 0, ByteArray.empty, ByteArray.empty, 0, 0, 0, 0, ByteArray.empty, 0, 0, 0, 0, 0, 44)) else ((plain.f K o31).bind fun t113 => if t113.2 = true then ((opened.f K t113.1).bind fun t120 => if t120.2.2.2.2.2.2.2.2.2.2.2.2.2.2 = true then (some (t120.1, t120.2.1, t120.2.2.1, t120.2.2.2.1, t120.2.2.2.2.1, t120.2.2.2.2.2.1, t120.2.2.2.2.2.2.1, t120.2.2.2.2.2.2.2.1, t120.2.2.2.2.2.2.2.2.1, t120.2.2.2.2.2.2.2.2.2.1, t120.2.2.2.2.2.2.2.2.2.2.1, t120.2.2.2.2.2.2.2.2.2.2.2.1, t120.2.2.2.2.2.2.2.2.2.2.2.2.1, t120.2.2.2.2.2.2.2.2.2.2.2.2.2.1, IntKind.wrap .i64 (t12.1 + 9), 0)) else (some (0, 0, 0, ByteArray.empty, ByteArray.empty, 0, 0, 0, 0, ByteArray.empty, 0, 0, 0, 0, 0, 45))) else (some (0, 0, 0, ByteArray.empty, ByteArray.empty, 0, 0, 0, 0, ByteArray.empty, 0, 0, 0, 0, 0, 45))))))))))
theorem rDecode.calls {B : Nat} {w0 : World} {G : List HP} (K : Nat) (a0 : List Int) (a1 : Int) (Aa0 : Option Addr) (ca0 : Nat) (ha0 : RdG B w0 G Aa0 (a0.map (Value.int .u8))) (ka0 : a0.length ≤ ca0) (r : Int × Int × Int × ByteArray × ByteArray × Int × Int × Int × Int × ByteArray × Int × Int × Int × Int × Int × Int) (H : rDecode.f K a0 a1 = some r) (w : World) (hw : St B w0 (G) w) :
    Calls Try.prog 16 [.slice Aa0 a0.length ca0, .int .i64 a1].toArray w (fun e w' => e = .returned (.tuple #[.agg #[.int .i64 r.1, .int .u64 r.2.1, .int .i64 r.2.2.1, .string r.2.2.2.1, .string r.2.2.2.2.1, .int .u64 r.2.2.2.2.2.1, .int .i64 r.2.2.2.2.2.2.1, .int .i64 r.2.2.2.2.2.2.2.1, .int .i64 r.2.2.2.2.2.2.2.2.1, .string r.2.2.2.2.2.2.2.2.2.1, .int .i64 r.2.2.2.2.2.2.2.2.2.2.1, .int .i64 r.2.2.2.2.2.2.2.2.2.2.2.1, .int .i64 r.2.2.2.2.2.2.2.2.2.2.2.2.1, .int .u32 r.2.2.2.2.2.2.2.2.2.2.2.2.2.1], .int .i64 r.2.2.2.2.2.2.2.2.2.2.2.2.2.2.1, .int .i64 r.2.2.2.2.2.2.2.2.2.2.2.2.2.2.2]) ∧ St B w0 (G) w') := by
  unfold rDecode.f at H
  refine calls_of (n := 130) (s := [(0, .slice Aa0 a0.length ca0), (1, .int .i64 a1)]) Try.func16 rfl rfl rfl rfl ?_ hw
  refine C.rs ?_
  refine J.alloc (L := [.int .i64 0, .int .u64 0, .int .i64 0, .string ByteArray.empty, .string ByteArray.empty, .int .u64 0, .int .i64 0, .int .i64 0, .int .i64 0, .string ByteArray.empty, .int .i64 0, .int .i64 0, .int .i64 0, .int .u32 0]) rfl ti36 rfl (fun g1 => ?_)
  refine J.p rfl rfl rfl rfl (Y.asg rfl) ?_
  refine J.p rfl rfl rfl rfl (Y.asg rfl) ?_
  refine J.nx ?_
  refine C.seq ?_
  refine C.rs ?_
  refine J.joinB H (fun (o4 : Bool) (j5 : Unit) => [(0, .slice Aa0 a0.length ca0), (1, .int .i64 a1), (4, .pointer (some ⟨g1, 0, none⟩)), (26, .bool o4)]) (fun (o4 : Bool) (j5 : Unit) => cells g1 36 [.int .i64 0, .int .u64 0, .int .i64 0, .string ByteArray.empty, .string ByteArray.empty, .int .u64 0, .int .i64 0, .int .i64 0, .int .i64 0, .string ByteArray.empty, .int .i64 0, .int .i64 0, .int .i64 0, .int .u32 0] :: G) (fun (o4 : Bool) (j5 : Unit) => True) (fun o6 H HK7 => ?_) (fun o4 j5 H _ => ?_)
  · refine J.p rfl rfl rfl rfl (Y.mv rfl) ?_
    refine J.p rfl rfl rfl rfl (Y.bin rfl rfl rfl) ?_
    refine J.p rfl rfl rfl rfl (Y.mv rfl) ?_
    refine split2 H (fun c8 H => ?_) (fun c8 H => ?_)
    · refine J.as (k := 21) rfl (congrArg Value.bool (decide_eq_true c8)) ?_
      refine J.skip rfl rfl ?_
      refine J.skip rfl rfl ?_
      refine J.skip rfl rfl ?_
      refine J.skip rfl rfl ?_
      refine J.p rfl rfl rfl rfl (Y.pickT rfl rfl) ?_
      refine J.nil ?_
      obtain rfl := Option.some.inj H
      exact N.meet (true, ()) ⟨HK7, trivial⟩ (by exact ⟨rfl, rfl, rfl, rfl, trivial⟩) (by exact fun w h => h)
    · refine J.as (k := 21) rfl (congrArg Value.bool (decide_eq_false c8)) ?_
      refine J.p rfl rfl rfl rfl (Y.mv rfl) ?_
      refine J.p rfl rfl rfl rfl (Y.mv rfl) ?_
      refine J.p rfl rfl rfl rfl (Y.lenS Try.underlying22 rfl) ?_
      refine J.p rfl rfl rfl rfl (Y.bin rfl rfl rfl) ?_
      refine J.p rfl rfl rfl rfl (Y.pickF rfl rfl) ?_
      refine J.nil ?_
      obtain rfl := Option.some.inj H
      exact N.meet (decide ((a0.length : Int) ≤ a1), ()) ⟨HK7, trivial⟩ (by exact ⟨rfl, rfl, rfl, rfl, trivial⟩) (by exact fun w h => h)
  · refine C.at (s' := [(0, .slice Aa0 a0.length ca0), (1, .int .i64 a1), (4, .pointer (some ⟨g1, 0, none⟩)), (26, .bool o4)]) (G' := cells g1 36 [.int .i64 0, .int .u64 0, .int .i64 0, .string ByteArray.empty, .string ByteArray.empty, .int .u64 0, .int .i64 0, .int .i64 0, .int .i64 0, .string ByteArray.empty, .int .i64 0, .int .i64 0, .int .i64 0, .int .u32 0] :: G) rfl rfl ?_
    refine split2 H (fun c9 H => ?_) (fun c9 H => ?_)
    · refine C.condT (congrArg (fun b => some (Value.bool b)) (c9)) ?_
      refine C.rs ?_
      refine J.p rfl rfl rfl rfl (Y.bld (cs := [.int .i64 0, .int .u64 0, .int .i64 0, .string ByteArray.empty, .string ByteArray.empty, .int .u64 0, .int .i64 0, .int .i64 0, .int .i64 0, .string ByteArray.empty, .int .i64 0, .int .i64 0, .int .i64 0, .int .u32 0]) rfl pl36 ti36 rfl rfl) ?_
      refine J.stA (us := [.int .i64 0, .int .u64 0, .int .i64 0, .string ByteArray.empty, .string ByteArray.empty, .int .u64 0, .int .i64 0, .int .i64 0, .int .i64 0, .string ByteArray.empty, .int .i64 0, .int .i64 0, .int .i64 0, .int .u32 0]) (L' := [.int .i64 0, .int .u64 0, .int .i64 0, .string ByteArray.empty, .string ByteArray.empty, .int .u64 0, .int .i64 0, .int .i64 0, .int .i64 0, .string ByteArray.empty, .int .i64 0, .int .i64 0, .int .i64 0, .int .u32 0]) ti36 rfl rfl rfl rfl rfl rfl ?_
      refine J.p rfl rfl rfl rfl (Y.asg rfl) ?_
      refine J.p rfl rfl rfl rfl (Y.asg rfl) ?_
      refine J.nx ?_
      refine C.ret ?_
      obtain rfl := Option.some.inj H
      refine T.th ?_
      exact ret_okG (rvs := [.cell 4 36, .tmp 5, .tmp 6]) (vs := [.agg #[.int .i64 0, .int .u64 0, .int .i64 0, .string ByteArray.empty, .string ByteArray.empty, .int .u64 0, .int .i64 0, .int .i64 0, .int .i64 0, .string ByteArray.empty, .int .i64 0, .int .i64 0, .int .i64 0, .int .u32 0], .int .i64 0, .int .i64 40]) rfl ⟨RV.cellA (us := [.int .i64 0, .int .u64 0, .int .i64 0, .string ByteArray.empty, .string ByteArray.empty, .int .u64 0, .int .i64 0, .int .i64 0, .int .i64 0, .string ByteArray.empty, .int .i64 0, .int .i64 0, .int .i64 0, .int .u32 0]) 0 Try.underlying36 rfl ti36 rfl rfl rfl rfl, RV.tmp rfl, RV.tmp rfl, trivial⟩ (fun w h => ⟨rfl, (St.pick [] [_] h rfl)⟩)
    · refine C.condF (congrArg (fun b => some (Value.bool b)) (nt c9)) ?_
      refine C.skip ?_
      refine N.nx ?_
      refine C.seq ?_
      refine C.rs ?_
      refine J.p rfl rfl rfl rfl (Y.mv rfl) ?_
      refine J.p rfl rfl rfl rfl (Y.mv rfl) ?_
      obtain ⟨p10, H⟩ := gd_some H
      refine J.el rfl rfl rfl Try.underlying22 ti5 Try.underlying5 rfl rfl rfl p10 (ha0.suf [_] rfl) ?_
      refine J.p rfl rfl rfl rfl (Y.bin rfl rfl rfl) ?_
      refine J.nx ?_
      refine split2 H (fun c11 H => ?_) (fun c11 H => ?_)
      · refine C.condT (congrArg (fun b => some (Value.bool b)) (decide_eq_true c11)) ?_
        refine C.rs ?_
        refine J.p rfl rfl rfl rfl (Y.bld (cs := [.int .i64 0, .int .u64 0, .int .i64 0, .string ByteArray.empty, .string ByteArray.empty, .int .u64 0, .int .i64 0, .int .i64 0, .int .i64 0, .string ByteArray.empty, .int .i64 0, .int .i64 0, .int .i64 0, .int .u32 0]) rfl pl36 ti36 rfl rfl) ?_
        refine J.stA (us := [.int .i64 0, .int .u64 0, .int .i64 0, .string ByteArray.empty, .string ByteArray.empty, .int .u64 0, .int .i64 0, .int .i64 0, .int .i64 0, .string ByteArray.empty, .int .i64 0, .int .i64 0, .int .i64 0, .int .u32 0]) (L' := [.int .i64 0, .int .u64 0, .int .i64 0, .string ByteArray.empty, .string ByteArray.empty, .int .u64 0, .int .i64 0, .int .i64 0, .int .i64 0, .string ByteArray.empty, .int .i64 0, .int .i64 0, .int .i64 0, .int .u32 0]) ti36 rfl rfl rfl rfl rfl rfl ?_
        refine J.p rfl rfl rfl rfl (Y.asg rfl) ?_
        refine J.p rfl rfl rfl rfl (Y.asg rfl) ?_
        refine J.nx ?_
        refine C.ret ?_
        obtain rfl := Option.some.inj H
        refine T.th ?_
        exact ret_okG (rvs := [.cell 4 36, .tmp 5, .tmp 6]) (vs := [.agg #[.int .i64 0, .int .u64 0, .int .i64 0, .string ByteArray.empty, .string ByteArray.empty, .int .u64 0, .int .i64 0, .int .i64 0, .int .i64 0, .string ByteArray.empty, .int .i64 0, .int .i64 0, .int .i64 0, .int .u32 0], .int .i64 0, .int .i64 41]) rfl ⟨RV.cellA (us := [.int .i64 0, .int .u64 0, .int .i64 0, .string ByteArray.empty, .string ByteArray.empty, .int .u64 0, .int .i64 0, .int .i64 0, .int .i64 0, .string ByteArray.empty, .int .i64 0, .int .i64 0, .int .i64 0, .int .u32 0]) 0 Try.underlying36 rfl ti36 rfl rfl rfl rfl, RV.tmp rfl, RV.tmp rfl, trivial⟩ (fun w h => ⟨rfl, (St.pick [] [_] h rfl)⟩)
      · refine C.condF (congrArg (fun b => some (Value.bool b)) (decide_eq_false c11)) ?_
        refine C.skip ?_
        refine N.nx ?_
        refine C.rs ?_
        refine J.p rfl rfl rfl rfl (Y.mv rfl) ?_
        refine J.p rfl rfl rfl rfl (Y.mv rfl) ?_
        obtain ⟨t12, hC13, H⟩ := bind_some H
        refine J.call (us := []) (cap := []) rfl rfl rfl go39 (fun w hw => by have hcc := rLength.calls K a0 a1 Aa0 ca0 (ha0.suf [_] rfl) ka0 t12 hC13 w hw; exact hcc) (fun e w1 h1 => ?_)
        obtain ⟨rfl, hw128⟩ := h1
        refine ⟨_, _, rfl, hw128, ?_⟩
        refine J.p rfl rfl rfl rfl (Y.mv rfl) ?_
        refine J.p rfl rfl rfl rfl (Y.ext rfl rfl) ?_
        refine J.p rfl rfl rfl rfl (Y.ext rfl rfl) ?_
        refine J.p rfl rfl rfl rfl (Y.asg rfl) ?_
        refine J.p rfl rfl rfl rfl (Y.asg rfl) ?_
        refine J.nx ?_
        refine C.seq ?_
        refine C.rs ?_
        refine J.p rfl rfl rfl rfl (Y.mv rfl) ?_
        refine J.p rfl rfl rfl rfl (Y.bin rfl rfl rfl) ?_
        refine J.nx ?_
        refine split2 H (fun c14 H => ?_) (fun c14 H => ?_)
        · refine C.condT (congrArg (fun b => some (Value.bool b)) (decide_eq_true c14)) ?_
          refine C.rs ?_
          refine J.p rfl rfl rfl rfl (Y.bld (cs := [.int .i64 0, .int .u64 0, .int .i64 0, .string ByteArray.empty, .string ByteArray.empty, .int .u64 0, .int .i64 0, .int .i64 0, .int .i64 0, .string ByteArray.empty, .int .i64 0, .int .i64 0, .int .i64 0, .int .u32 0]) rfl pl36 ti36 rfl rfl) ?_
          refine J.p rfl rfl rfl rfl (Y.mv rfl) ?_
          refine J.stA (us := [.int .i64 0, .int .u64 0, .int .i64 0, .string ByteArray.empty, .string ByteArray.empty, .int .u64 0, .int .i64 0, .int .i64 0, .int .i64 0, .string ByteArray.empty, .int .i64 0, .int .i64 0, .int .i64 0, .int .u32 0]) (L' := [.int .i64 0, .int .u64 0, .int .i64 0, .string ByteArray.empty, .string ByteArray.empty, .int .u64 0, .int .i64 0, .int .i64 0, .int .i64 0, .string ByteArray.empty, .int .i64 0, .int .i64 0, .int .i64 0, .int .u32 0]) ti36 rfl rfl rfl rfl rfl rfl ?_
          refine J.p rfl rfl rfl rfl (Y.asg rfl) ?_
          refine J.p rfl rfl rfl rfl (Y.asg rfl) ?_
          refine J.nx ?_
          refine C.ret ?_
          obtain rfl := Option.some.inj H
          refine T.th ?_
          exact ret_okG (rvs := [.cell 4 36, .tmp 5, .tmp 6]) (vs := [.agg #[.int .i64 0, .int .u64 0, .int .i64 0, .string ByteArray.empty, .string ByteArray.empty, .int .u64 0, .int .i64 0, .int .i64 0, .int .i64 0, .string ByteArray.empty, .int .i64 0, .int .i64 0, .int .i64 0, .int .u32 0], .int .i64 0, .int .i64 t12.2]) rfl ⟨RV.cellA (us := [.int .i64 0, .int .u64 0, .int .i64 0, .string ByteArray.empty, .string ByteArray.empty, .int .u64 0, .int .i64 0, .int .i64 0, .int .i64 0, .string ByteArray.empty, .int .i64 0, .int .i64 0, .int .i64 0, .int .u32 0]) 0 Try.underlying36 rfl ti36 rfl rfl rfl rfl, RV.tmp rfl, RV.tmp rfl, trivial⟩ (fun w h => ⟨rfl, (St.pick [] [_] h rfl)⟩)
        · refine C.condF (congrArg (fun b => some (Value.bool b)) (decide_eq_false c14)) ?_
          refine C.skip ?_
          refine N.nx ?_
          refine C.rs ?_
          refine J.p rfl rfl rfl rfl (Y.mv rfl) ?_
          refine J.p rfl rfl rfl rfl (Y.bin rfl rfl rfl) ?_
          refine J.p rfl rfl rfl rfl (Y.asg rfl) ?_
          refine J.nx ?_
          refine C.seq ?_
          refine C.rs ?_
          refine J.p rfl rfl rfl rfl (Y.mv rfl) ?_
          refine J.p rfl rfl rfl rfl (Y.lenS Try.underlying22 rfl) ?_
          refine J.p rfl rfl rfl rfl (Y.mv rfl) ?_
          refine J.p rfl rfl rfl rfl (Y.bin rfl rfl rfl) ?_
          refine J.p rfl rfl rfl rfl (Y.mv rfl) ?_
          refine J.p rfl rfl rfl rfl (Y.bin rfl rfl rfl) ?_
          refine J.p rfl rfl rfl rfl (Y.bin rfl rfl rfl) ?_
          refine J.nx ?_
          refine split2 H (fun c15 H => ?_) (fun c15 H => ?_)
          · refine C.condT (congrArg (fun b => some (Value.bool b)) (decide_eq_true c15)) ?_
            refine C.rs ?_
            refine J.p rfl rfl rfl rfl (Y.bld (cs := [.int .i64 0, .int .u64 0, .int .i64 0, .string ByteArray.empty, .string ByteArray.empty, .int .u64 0, .int .i64 0, .int .i64 0, .int .i64 0, .string ByteArray.empty, .int .i64 0, .int .i64 0, .int .i64 0, .int .u32 0]) rfl pl36 ti36 rfl rfl) ?_
            refine J.stA (us := [.int .i64 0, .int .u64 0, .int .i64 0, .string ByteArray.empty, .string ByteArray.empty, .int .u64 0, .int .i64 0, .int .i64 0, .int .i64 0, .string ByteArray.empty, .int .i64 0, .int .i64 0, .int .i64 0, .int .u32 0]) (L' := [.int .i64 0, .int .u64 0, .int .i64 0, .string ByteArray.empty, .string ByteArray.empty, .int .u64 0, .int .i64 0, .int .i64 0, .int .i64 0, .string ByteArray.empty, .int .i64 0, .int .i64 0, .int .i64 0, .int .u32 0]) ti36 rfl rfl rfl rfl rfl rfl ?_
            refine J.p rfl rfl rfl rfl (Y.asg rfl) ?_
            refine J.p rfl rfl rfl rfl (Y.asg rfl) ?_
            refine J.nx ?_
            refine C.ret ?_
            obtain rfl := Option.some.inj H
            refine T.th ?_
            exact ret_okG (rvs := [.cell 4 36, .tmp 5, .tmp 6]) (vs := [.agg #[.int .i64 0, .int .u64 0, .int .i64 0, .string ByteArray.empty, .string ByteArray.empty, .int .u64 0, .int .i64 0, .int .i64 0, .int .i64 0, .string ByteArray.empty, .int .i64 0, .int .i64 0, .int .i64 0, .int .u32 0], .int .i64 0, .int .i64 43]) rfl ⟨RV.cellA (us := [.int .i64 0, .int .u64 0, .int .i64 0, .string ByteArray.empty, .string ByteArray.empty, .int .u64 0, .int .i64 0, .int .i64 0, .int .i64 0, .string ByteArray.empty, .int .i64 0, .int .i64 0, .int .i64 0, .int .u32 0]) 0 Try.underlying36 rfl ti36 rfl rfl rfl rfl, RV.tmp rfl, RV.tmp rfl, trivial⟩ (fun w h => ⟨rfl, (St.pick [] [_] h rfl)⟩)
          · refine C.condF (congrArg (fun b => some (Value.bool b)) (decide_eq_false c15)) ?_
            refine C.skip ?_
            refine N.nx ?_
            refine C.rs ?_
            refine J.p rfl rfl rfl rfl (Y.mv rfl) ?_
            refine J.p rfl rfl rfl rfl (Y.mv rfl) ?_
            refine J.p rfl rfl rfl rfl (Y.mv rfl) ?_
            refine J.p rfl rfl rfl rfl (Y.mv rfl) ?_
            refine J.p rfl rfl rfl rfl (Y.bin rfl rfl rfl) ?_
            obtain ⟨p16, H⟩ := gd_some H
            refine J.p rfl rfl rfl rfl (Y.slcL Try.underlying22 ti5 rfl (bnd.yes rfl p16.1) (bnd.yes rfl p16.2.1) p16.2.2 ka0) ?_
            refine J.p rfl rfl rfl rfl (Y.asg rfl) ?_
            refine J.nx ?_
            refine C.seq ?_
            refine C.rs ?_
            refine J.p rfl rfl rfl rfl (Y.asg rfl) ?_
            refine J.nx ?_
            refine C.joinNR H (fun (o31 : (List Int)) (j32 : (Option Addr) × Nat) => [(0, .slice Aa0 a0.length ca0), (1, .int .i64 a1), (4, .pointer (some ⟨g1, 0, none⟩)), (7, .int .i64 t12.1), (9, .int .i64 (IntKind.wrap .i64 (a1 + 4))), (10, .slice j32.1 o31.length j32.2)]) (fun (o31 : (List Int)) (j32 : (Option Addr) × Nat) => cells g1 36 [.int .i64 0, .int .u64 0, .int .i64 0, .string ByteArray.empty, .string ByteArray.empty, .int .u64 0, .int .i64 0, .int .i64 0, .int .i64 0, .string ByteArray.empty, .int .i64 0, .int .i64 0, .int .i64 0, .int .u32 0] :: G) (fun (o31 : (List Int)) (j32 : (Option Addr) × Nat) => (RdG B w0 G j32.1 (o31.map (Value.int .u8)) ∧ o31.length ≤ j32.2)) (fun o29 H HK30 => ?_) (fun o31 j32 H hx33 => ?_)
            · refine C.blk ?_
              refine C.loop (fun (i : Nat × ((List Int) × Int) × ((Option Addr) × Nat)) => [(0, .slice Aa0 a0.length ca0), (1, .int .i64 a1), (4, .pointer (some ⟨g1, 0, none⟩)), (7, .int .i64 t12.1), (9, .int .i64 (IntKind.wrap .i64 (a1 + 4))), (10, .slice i.2.2.1 i.2.1.1.length i.2.2.2), (11, .int .i64 i.2.1.2)]) (fun (i : Nat × ((List Int) × Int) × ((Option Addr) × Nat)) => cells g1 36 [.int .i64 0, .int .u64 0, .int .i64 0, .string ByteArray.empty, .string ByteArray.empty, .int .u64 0, .int .i64 0, .int .i64 0, .int .i64 0, .string ByteArray.empty, .int .i64 0, .int .i64 0, .int .i64 0, .int .u32 0] :: G) (fun (i : Nat × ((List Int) × Int) × ((Option Addr) × Nat)) => rDecode.l1 t12 i.1 i.2.1 = some o29 ∧ ((RdG B w0 G i.2.2.1 (i.2.1.1.map (Value.int .u8)) ∧ i.2.1.1.length ≤ i.2.2.2))) (fun i => i.1) (K, (((a0.take (Int.toNat (IntKind.wrap .i64 ((IntKind.wrap .i64 (a1 + 4)) + t12.1)))).drop (Int.toNat (IntKind.wrap .i64 (a1 + 4)))), 0), (subA 1 Aa0 ca0 (Int.toNat (IntKind.wrap .i64 (a1 + 4))), ca0 - (Int.toNat (IntKind.wrap .i64 (a1 + 4))))) ⟨H, ⟨(RdG.subL (l := (Int.toNat (IntKind.wrap .i64 (a1 + 4)))) (h := (Int.toNat (IntKind.wrap .i64 ((IntKind.wrap .i64 (a1 + 4)) + t12.1)))) ha0 ka0), (hc_sub ka0)⟩⟩ (by exact ⟨rfl, rfl, rfl, rfl, rfl, rfl, rfl, trivial⟩) (by exact fun w h => h) ?_
              rintro ⟨k53, i47, j48⟩ ⟨H, hx49⟩
              replace H : rDecode.l1 t12 k53 i47 = some o29 := H
              obtain ⟨k46, rfl⟩ : ∃ m, k53 = m + 1 := by cases k53 with | zero => exact absurd H (by simp [rDecode.l1]) | succ m => exact ⟨m, rfl⟩
              rw [rDecode.l1] at H
              refine C.at (s' := [(0, .slice Aa0 a0.length ca0), (1, .int .i64 a1), (4, .pointer (some ⟨g1, 0, none⟩)), (7, .int .i64 t12.1), (9, .int .i64 (IntKind.wrap .i64 (a1 + 4))), (10, .slice j48.1 i47.1.length j48.2), (11, .int .i64 i47.2)]) (G' := cells g1 36 [.int .i64 0, .int .u64 0, .int .i64 0, .string ByteArray.empty, .string ByteArray.empty, .int .u64 0, .int .i64 0, .int .i64 0, .int .i64 0, .string ByteArray.empty, .int .i64 0, .int .i64 0, .int .i64 0, .int .u32 0] :: G) rfl rfl ?_
              refine C.seq ?_
              refine C.rs ?_
              refine J.p rfl rfl rfl rfl (Y.mv rfl) ?_
              refine J.p rfl rfl rfl rfl (Y.mv rfl) ?_
              refine J.p rfl rfl rfl rfl (Y.bin rfl rfl rfl) ?_
              refine J.nx ?_
              refine split2 H (fun c50 H => ?_) (fun c50 H => ?_)
              · refine C.condT (congrArg (fun b => some (Value.bool b)) (decide_eq_true c50)) ?_
                refine C.skip ?_
                refine N.nx ?_
                refine C.seq ?_
                refine C.blk ?_
                refine C.rs ?_
                refine J.p rfl rfl rfl rfl (Y.mv rfl) ?_
                refine J.p rfl rfl rfl rfl (Y.mv rfl) ?_
                obtain ⟨p51, H⟩ := gd_some H
                refine J.el rfl rfl rfl Try.underlying22 ti5 Try.underlying5 rfl rfl rfl p51 (hx49.1.suf [_] rfl) ?_
                refine J.p rfl rfl rfl rfl (Y.bin rfl rfl rfl) ?_
                refine J.nx ?_
                refine split2 H (fun c52 H => ?_) (fun c52 H => ?_)
                · refine C.condT (congrArg (fun b => some (Value.bool b)) (decide_eq_true c52)) ?_
                  refine C.rs ?_
                  refine J.p rfl rfl rfl rfl (Y.bld (cs := [.int .i64 0, .int .u64 0, .int .i64 0, .string ByteArray.empty, .string ByteArray.empty, .int .u64 0, .int .i64 0, .int .i64 0, .int .i64 0, .string ByteArray.empty, .int .i64 0, .int .i64 0, .int .i64 0, .int .u32 0]) rfl pl36 ti36 rfl rfl) ?_
                  refine J.stA (us := [.int .i64 0, .int .u64 0, .int .i64 0, .string ByteArray.empty, .string ByteArray.empty, .int .u64 0, .int .i64 0, .int .i64 0, .int .i64 0, .string ByteArray.empty, .int .i64 0, .int .i64 0, .int .i64 0, .int .u32 0]) (L' := [.int .i64 0, .int .u64 0, .int .i64 0, .string ByteArray.empty, .string ByteArray.empty, .int .u64 0, .int .i64 0, .int .i64 0, .int .i64 0, .string ByteArray.empty, .int .i64 0, .int .i64 0, .int .i64 0, .int .u32 0]) ti36 rfl rfl rfl rfl rfl rfl ?_
                  refine J.p rfl rfl rfl rfl (Y.asg rfl) ?_
                  refine J.p rfl rfl rfl rfl (Y.asg rfl) ?_
                  refine J.nx ?_
                  refine C.ret ?_
                  obtain rfl := Option.some.inj H
                  obtain rfl := fin_inl HK30
                  refine T.ib ?_
                  refine T.th ?_
                  refine T.th ?_
                  refine T.ib ?_
                  refine T.th ?_
                  refine T.th ?_
                  exact ret_okG (rvs := [.cell 4 36, .tmp 5, .tmp 6]) (vs := [.agg #[.int .i64 0, .int .u64 0, .int .i64 0, .string ByteArray.empty, .string ByteArray.empty, .int .u64 0, .int .i64 0, .int .i64 0, .int .i64 0, .string ByteArray.empty, .int .i64 0, .int .i64 0, .int .i64 0, .int .u32 0], .int .i64 0, .int .i64 45]) rfl ⟨RV.cellA (us := [.int .i64 0, .int .u64 0, .int .i64 0, .string ByteArray.empty, .string ByteArray.empty, .int .u64 0, .int .i64 0, .int .i64 0, .int .i64 0, .string ByteArray.empty, .int .i64 0, .int .i64 0, .int .i64 0, .int .u32 0]) 0 Try.underlying36 rfl ti36 rfl rfl rfl rfl, RV.tmp rfl, RV.tmp rfl, trivial⟩ (fun w h => ⟨rfl, (St.pick [] [_] h rfl)⟩)
                · refine C.condF (congrArg (fun b => some (Value.bool b)) (decide_eq_false c52)) ?_
                  refine C.skip ?_
                  refine N.ib ?_
                  refine N.nx ?_
                  refine C.reg ?_
                  refine J.p rfl rfl rfl rfl (Y.mv rfl) ?_
                  refine J.p rfl rfl rfl rfl (Y.bin rfl rfl rfl) ?_
                  refine J.p rfl rfl rfl rfl (Y.asg rfl) ?_
                  refine J.nil ?_
                  exact N.again (k46, (i47.1, IntKind.wrap .i64 (i47.2 + 1)), (j48.1, j48.2)) ⟨H, ⟨hx49.1, hx49.2⟩⟩ (Nat.lt_succ_self _) (by exact ⟨rfl, rfl, rfl, rfl, rfl, rfl, rfl, trivial⟩) (by exact fun w h => h)
              · refine C.condF (congrArg (fun b => some (Value.bool b)) (decide_eq_false c50)) ?_
                refine C.exit ?_
                refine X.th ?_
                refine X.th ?_
                refine X.hit ?_
                obtain rfl := Option.some.inj H
                exact N.meet (i47.1, (j48.1, j48.2)) ⟨fin_inr HK30, ⟨hx49.1, hx49.2⟩⟩ (by exact ⟨rfl, rfl, rfl, rfl, rfl, rfl, trivial⟩) (by exact fun w h => h)
            · refine N.at (s' := [(0, .slice Aa0 a0.length ca0), (1, .int .i64 a1), (4, .pointer (some ⟨g1, 0, none⟩)), (7, .int .i64 t12.1), (9, .int .i64 (IntKind.wrap .i64 (a1 + 4))), (10, .slice j32.1 o31.length j32.2)]) (G' := cells g1 36 [.int .i64 0, .int .u64 0, .int .i64 0, .string ByteArray.empty, .string ByteArray.empty, .int .u64 0, .int .i64 0, .int .i64 0, .int .i64 0, .string ByteArray.empty, .int .i64 0, .int .i64 0, .int .i64 0, .int .u32 0] :: G) rfl rfl ?_
              refine N.nx ?_
              refine C.rs ?_
              refine J.p rfl rfl rfl rfl (Y.asg rfl) ?_
              refine J.nx ?_
              refine C.seq ?_
              refine C.rs ?_
              refine J.p rfl rfl rfl rfl (Y.asg rfl) ?_
              refine J.nx ?_
              refine C.joinNR H (fun (o74 : Int) (j75 : Unit) => [(0, .slice Aa0 a0.length ca0), (1, .int .i64 a1), (4, .pointer (some ⟨g1, 0, none⟩)), (7, .int .i64 t12.1), (9, .int .i64 (IntKind.wrap .i64 (a1 + 4))), (10, .slice j32.1 o31.length j32.2), (12, .int .i64 o74)]) (fun (o74 : Int) (j75 : Unit) => cells g1 36 [.int .i64 0, .int .u64 0, .int .i64 0, .string ByteArray.empty, .string ByteArray.empty, .int .u64 0, .int .i64 0, .int .i64 0, .int .i64 0, .string ByteArray.empty, .int .i64 0, .int .i64 0, .int .i64 0, .int .u32 0] :: G) (fun (o74 : Int) (j75 : Unit) => True) (fun o72 H HK73 => ?_) (fun o74 j75 H _ => ?_)
              · refine C.blk ?_
                refine C.loop (fun (i : Nat × (Int × Int) × (Unit)) => [(0, .slice Aa0 a0.length ca0), (1, .int .i64 a1), (4, .pointer (some ⟨g1, 0, none⟩)), (7, .int .i64 t12.1), (9, .int .i64 (IntKind.wrap .i64 (a1 + 4))), (10, .slice j32.1 o31.length j32.2), (12, .int .i64 i.2.1.1), (13, .int .i64 i.2.1.2)]) (fun (i : Nat × (Int × Int) × (Unit)) => cells g1 36 [.int .i64 0, .int .u64 0, .int .i64 0, .string ByteArray.empty, .string ByteArray.empty, .int .u64 0, .int .i64 0, .int .i64 0, .int .i64 0, .string ByteArray.empty, .int .i64 0, .int .i64 0, .int .i64 0, .int .u32 0] :: G) (fun (i : Nat × (Int × Int) × (Unit)) => rDecode.l2 a1 t12 a0 i.1 i.2.1 = some o72 ∧ (True)) (fun i => i.1) (K, (0, 0), ()) ⟨H, trivial⟩ (by exact ⟨rfl, rfl, rfl, rfl, rfl, rfl, rfl, rfl, trivial⟩) (by exact fun w h => h) ?_
                rintro ⟨k108, i95, j96⟩ ⟨H, _⟩
                replace H : rDecode.l2 a1 t12 a0 k108 i95 = some o72 := H
                obtain ⟨k94, rfl⟩ : ∃ m, k108 = m + 1 := by cases k108 with | zero => exact absurd H (by simp [rDecode.l2]) | succ m => exact ⟨m, rfl⟩
                rw [rDecode.l2] at H
                refine C.at (s' := [(0, .slice Aa0 a0.length ca0), (1, .int .i64 a1), (4, .pointer (some ⟨g1, 0, none⟩)), (7, .int .i64 t12.1), (9, .int .i64 (IntKind.wrap .i64 (a1 + 4))), (10, .slice j32.1 o31.length j32.2), (12, .int .i64 i95.1), (13, .int .i64 i95.2)]) (G' := cells g1 36 [.int .i64 0, .int .u64 0, .int .i64 0, .string ByteArray.empty, .string ByteArray.empty, .int .u64 0, .int .i64 0, .int .i64 0, .int .i64 0, .string ByteArray.empty, .int .i64 0, .int .i64 0, .int .i64 0, .int .u32 0] :: G) rfl rfl ?_
                refine C.seq ?_
                refine C.rs ?_
                refine J.p rfl rfl rfl rfl (Y.mv rfl) ?_
                refine J.p rfl rfl rfl rfl (Y.bin rfl rfl rfl) ?_
                refine J.nx ?_
                refine split2 H (fun c97 H => ?_) (fun c97 H => ?_)
                · refine C.condT (congrArg (fun b => some (Value.bool b)) (decide_eq_true c97)) ?_
                  refine C.skip ?_
                  refine N.nx ?_
                  refine C.seq ?_
                  refine C.blk ?_
                  refine C.rs ?_
                  refine J.p rfl rfl rfl rfl (Y.mv rfl) ?_
                  refine J.p rfl rfl rfl rfl (Y.mv rfl) ?_
                  refine J.p rfl rfl rfl rfl (Y.mv rfl) ?_
                  refine J.p rfl rfl rfl rfl (Y.bin rfl rfl rfl) ?_
                  refine J.p rfl rfl rfl rfl (Y.mv rfl) ?_
                  refine J.p rfl rfl rfl rfl (Y.bin rfl rfl rfl) ?_
                  obtain ⟨p98, H⟩ := gd_some H
                  refine J.el rfl rfl rfl Try.underlying22 ti5 Try.underlying5 rfl rfl rfl p98 (ha0.suf [_] rfl) ?_
                  refine J.p rfl rfl rfl rfl (Y.conv Try.underlying5 Try.underlying3 rfl) ?_
                  refine J.p rfl rfl rfl rfl (Y.asg rfl) ?_
                  refine J.nx ?_
                  refine C.seq ?_
                  refine C.rs ?_
                  refine J.joinB H (fun (o101 : Bool) (j102 : Unit) => [(0, .slice Aa0 a0.length ca0), (1, .int .i64 a1), (4, .pointer (some ⟨g1, 0, none⟩)), (7, .int .i64 t12.1), (9, .int .i64 (IntKind.wrap .i64 (a1 + 4))), (10, .slice j32.1 o31.length j32.2), (12, .int .i64 i95.1), (13, .int .i64 i95.2), (14, .int .i64 (IntKind.wrap .i64 (rd a0 (IntKind.wrap .i64 ((IntKind.wrap .i64 ((IntKind.wrap .i64 (a1 + 4)) + t12.1)) + i95.2))))), (93, .bool o101)]) (fun (o101 : Bool) (j102 : Unit) => cells g1 36 [.int .i64 0, .int .u64 0, .int .i64 0, .string ByteArray.empty, .string ByteArray.empty, .int .u64 0, .int .i64 0, .int .i64 0, .int .i64 0, .string ByteArray.empty, .int .i64 0, .int .i64 0, .int .i64 0, .int .u32 0] :: G) (fun (o101 : Bool) (j102 : Unit) => True) (fun o103 H HK104 => ?_) (fun o101 j102 H _ => ?_)
                  · refine J.p rfl rfl rfl rfl (Y.mv rfl) ?_
                    refine J.p rfl rfl rfl rfl (Y.bin rfl rfl rfl) ?_
                    refine J.p rfl rfl rfl rfl (Y.mv rfl) ?_
                    refine split2 H (fun c105 H => ?_) (fun c105 H => ?_)
                    · refine J.as (k := 86) rfl (congrArg Value.bool (decide_eq_true c105)) ?_
                      refine J.skip rfl rfl ?_
                      refine J.skip rfl rfl ?_
                      refine J.skip rfl rfl ?_
                      refine J.skip rfl rfl ?_
                      refine J.skip rfl rfl ?_
                      refine J.skip rfl rfl ?_
                      refine J.p rfl rfl rfl rfl (Y.pickT rfl rfl) ?_
                      refine J.nil ?_
                      obtain rfl := Option.some.inj H
                      exact N.meet (true, ()) ⟨HK104, trivial⟩ (by exact ⟨rfl, rfl, rfl, rfl, rfl, rfl, rfl, rfl, rfl, rfl, trivial⟩) (by exact fun w h => h)
                    · refine J.as (k := 86) rfl (congrArg Value.bool (decide_eq_false c105)) ?_
                      refine J.p rfl rfl rfl rfl (Y.mv rfl) ?_
                      refine J.p rfl rfl rfl rfl (Y.bin rfl rfl rfl) ?_
                      refine J.p rfl rfl rfl rfl (Y.mv rfl) ?_
                      refine split2 H (fun c106 H => ?_) (fun c106 H => ?_)
                      · refine J.as (k := 89) rfl (congrArg Value.bool (decide_eq_true c106)) ?_
                        refine J.p rfl rfl rfl rfl (Y.mv rfl) ?_
                        refine J.p rfl rfl rfl rfl (Y.bin rfl rfl rfl) ?_
                        refine J.p rfl rfl rfl rfl (Y.pickT rfl rfl) ?_
                        refine J.p rfl rfl rfl rfl (Y.pickF rfl rfl) ?_
                        refine J.nil ?_
                        obtain rfl := Option.some.inj H
                        exact N.meet (decide (15 < (IntKind.wrap .i64 (rd a0 (IntKind.wrap .i64 ((IntKind.wrap .i64 ((IntKind.wrap .i64 (a1 + 4)) + t12.1)) + i95.2))))), ()) ⟨HK104, trivial⟩ (by exact ⟨rfl, rfl, rfl, rfl, rfl, rfl, rfl, rfl, rfl, rfl, trivial⟩) (by exact fun w h => h)
                      · refine J.as (k := 89) rfl (congrArg Value.bool (decide_eq_false c106)) ?_
                        refine J.skip rfl rfl ?_
                        refine J.skip rfl rfl ?_
                        refine J.p rfl rfl rfl rfl (Y.pickF rfl rfl) ?_
                        refine J.p rfl rfl rfl rfl (Y.pickF rfl rfl) ?_
                        refine J.nil ?_
                        obtain rfl := Option.some.inj H
                        exact N.meet (false, ()) ⟨HK104, trivial⟩ (by exact ⟨rfl, rfl, rfl, rfl, rfl, rfl, rfl, rfl, rfl, rfl, trivial⟩) (by exact fun w h => h)
                  · refine C.at (s' := [(0, .slice Aa0 a0.length ca0), (1, .int .i64 a1), (4, .pointer (some ⟨g1, 0, none⟩)), (7, .int .i64 t12.1), (9, .int .i64 (IntKind.wrap .i64 (a1 + 4))), (10, .slice j32.1 o31.length j32.2), (12, .int .i64 i95.1), (13, .int .i64 i95.2), (14, .int .i64 (IntKind.wrap .i64 (rd a0 (IntKind.wrap .i64 ((IntKind.wrap .i64 ((IntKind.wrap .i64 (a1 + 4)) + t12.1)) + i95.2))))), (93, .bool o101)]) (G' := cells g1 36 [.int .i64 0, .int .u64 0, .int .i64 0, .string ByteArray.empty, .string ByteArray.empty, .int .u64 0, .int .i64 0, .int .i64 0, .int .i64 0, .string ByteArray.empty, .int .i64 0, .int .i64 0, .int .i64 0, .int .u32 0] :: G) rfl rfl ?_
                    refine split2 H (fun c107 H => ?_) (fun c107 H => ?_)
                    · refine C.condT (congrArg (fun b => some (Value.bool b)) (c107)) ?_
                      refine C.rs ?_
                      refine J.p rfl rfl rfl rfl (Y.bld (cs := [.int .i64 0, .int .u64 0, .int .i64 0, .string ByteArray.empty, .string ByteArray.empty, .int .u64 0, .int .i64 0, .int .i64 0, .int .i64 0, .string ByteArray.empty, .int .i64 0, .int .i64 0, .int .i64 0, .int .u32 0]) rfl pl36 ti36 rfl rfl) ?_
                      refine J.stA (us := [.int .i64 0, .int .u64 0, .int .i64 0, .string ByteArray.empty, .string ByteArray.empty, .int .u64 0, .int .i64 0, .int .i64 0, .int .i64 0, .string ByteArray.empty, .int .i64 0, .int .i64 0, .int .i64 0, .int .u32 0]) (L' := [.int .i64 0, .int .u64 0, .int .i64 0, .string ByteArray.empty, .string ByteArray.empty, .int .u64 0, .int .i64 0, .int .i64 0, .int .i64 0, .string ByteArray.empty, .int .i64 0, .int .i64 0, .int .i64 0, .int .u32 0]) ti36 rfl rfl rfl rfl rfl rfl ?_
                      refine J.p rfl rfl rfl rfl (Y.asg rfl) ?_
                      refine J.p rfl rfl rfl rfl (Y.asg rfl) ?_
                      refine J.nx ?_
                      refine C.ret ?_
                      obtain rfl := Option.some.inj H
                      obtain rfl := fin_inl HK73
                      refine T.th ?_
                      refine T.ib ?_
                      refine T.th ?_
                      refine T.th ?_
                      refine T.ib ?_
                      refine T.th ?_
                      refine T.th ?_
                      exact ret_okG (rvs := [.cell 4 36, .tmp 5, .tmp 6]) (vs := [.agg #[.int .i64 0, .int .u64 0, .int .i64 0, .string ByteArray.empty, .string ByteArray.empty, .int .u64 0, .int .i64 0, .int .i64 0, .int .i64 0, .string ByteArray.empty, .int .i64 0, .int .i64 0, .int .i64 0, .int .u32 0], .int .i64 0, .int .i64 44]) rfl ⟨RV.cellA (us := [.int .i64 0, .int .u64 0, .int .i64 0, .string ByteArray.empty, .string ByteArray.empty, .int .u64 0, .int .i64 0, .int .i64 0, .int .i64 0, .string ByteArray.empty, .int .i64 0, .int .i64 0, .int .i64 0, .int .u32 0]) 0 Try.underlying36 rfl ti36 rfl rfl rfl rfl, RV.tmp rfl, RV.tmp rfl, trivial⟩ (fun w h => ⟨rfl, (St.pick [] [_] h rfl)⟩)
                    · refine C.condF (congrArg (fun b => some (Value.bool b)) (nt c107)) ?_
                      refine C.skip ?_
                      refine N.nx ?_
                      refine C.reg ?_
                      refine J.p rfl rfl rfl rfl (Y.mv rfl) ?_
                      refine J.p rfl rfl rfl rfl (Y.bin rfl rfl rfl) ?_
                      refine J.p rfl rfl rfl rfl (Y.mv rfl) ?_
                      refine J.p rfl rfl rfl rfl (Y.bin rfl rfl rfl) ?_
                      refine J.p rfl rfl rfl rfl (Y.asg rfl) ?_
                      refine J.nil ?_
                      refine N.ib ?_
                      refine N.nx ?_
                      refine C.reg ?_
                      refine J.p rfl rfl rfl rfl (Y.mv rfl) ?_
                      refine J.p rfl rfl rfl rfl (Y.bin rfl rfl rfl) ?_
                      refine J.p rfl rfl rfl rfl (Y.asg rfl) ?_
                      refine J.nil ?_
                      exact N.again (k94, (IntKind.wrap .i64 ((IntKind.wrap .i64 (128 * i95.1)) + (IntKind.wrap .i64 (rd a0 (IntKind.wrap .i64 ((IntKind.wrap .i64 ((IntKind.wrap .i64 (a1 + 4)) + t12.1)) + i95.2))))), IntKind.wrap .i64 (i95.2 + 1)), ()) ⟨H, trivial⟩ (Nat.lt_succ_self _) (by exact ⟨rfl, rfl, rfl, rfl, rfl, rfl, rfl, rfl, trivial⟩) (by exact fun w h => h)
                · refine C.condF (congrArg (fun b => some (Value.bool b)) (decide_eq_false c97)) ?_
                  refine C.exit ?_
                  refine X.th ?_
                  refine X.th ?_
                  refine X.hit ?_
                  obtain rfl := Option.some.inj H
                  exact N.meet (i95.1, ()) ⟨fin_inr HK73, trivial⟩ (by exact ⟨rfl, rfl, rfl, rfl, rfl, rfl, rfl, trivial⟩) (by exact fun w h => h)
              · refine N.at (s' := [(0, .slice Aa0 a0.length ca0), (1, .int .i64 a1), (4, .pointer (some ⟨g1, 0, none⟩)), (7, .int .i64 t12.1), (9, .int .i64 (IntKind.wrap .i64 (a1 + 4))), (10, .slice j32.1 o31.length j32.2), (12, .int .i64 o74)]) (G' := cells g1 36 [.int .i64 0, .int .u64 0, .int .i64 0, .string ByteArray.empty, .string ByteArray.empty, .int .u64 0, .int .i64 0, .int .i64 0, .int .i64 0, .string ByteArray.empty, .int .i64 0, .int .i64 0, .int .i64 0, .int .u32 0] :: G) rfl rfl ?_
                refine N.nx ?_
                refine C.seq ?_
                refine C.rs ?_
                refine J.p rfl rfl rfl rfl (Y.mv rfl) ?_
                refine J.p rfl rfl rfl rfl (Y.conv Try.underlying3 Try.underlying30 rfl) ?_
                refine J.p rfl rfl rfl rfl (Y.mv rfl) ?_
                refine J.p rfl rfl rfl rfl (Y.mv rfl) ?_
                refine J.p rfl rfl rfl rfl (Y.bin rfl rfl rfl) ?_
                refine J.p rfl rfl rfl rfl (Y.mv rfl) ?_
                refine J.p rfl rfl rfl rfl (Y.mv rfl) ?_
                refine J.p rfl rfl rfl rfl (Y.bin rfl rfl rfl) ?_
                obtain ⟨p109, H⟩ := gd_some H
                refine J.p rfl rfl rfl rfl (Y.slcL Try.underlying22 ti5 rfl (bnd.yes rfl p109.1) (bnd.yes rfl p109.2.1) p109.2.2 ka0) ?_
                obtain ⟨t110, hC111, H⟩ := bind_some H
                refine J.call (us := []) (cap := []) rfl rfl rfl go40 (fun w hw => by have hcc := rSum.calls K ((a0.take (Int.toNat (IntKind.wrap .i64 ((IntKind.wrap .i64 (a1 + 4)) + t12.1)))).drop (Int.toNat (IntKind.wrap .i64 (a1 + 1)))) (subA 1 Aa0 ca0 (Int.toNat (IntKind.wrap .i64 (a1 + 1)))) (ca0 - (Int.toNat (IntKind.wrap .i64 (a1 + 1)))) (RdG.subL (l := (Int.toNat (IntKind.wrap .i64 (a1 + 1)))) (h := (Int.toNat (IntKind.wrap .i64 ((IntKind.wrap .i64 (a1 + 4)) + t12.1)))) (ha0.suf [_] rfl) ka0) (hc_sub ka0) t110 hC111 w hw; exact hcc) (fun e w1 h1 => ?_)
                obtain ⟨rfl, hw127⟩ := h1
                refine ⟨_, _, rfl, hw127, ?_⟩
                refine J.p rfl rfl rfl rfl (Y.bin rfl rfl rfl) ?_
                refine J.nx ?_
                refine split2 H (fun c112 H => ?_) (fun c112 H => ?_)
                · refine C.condT (congrArg (fun b => some (Value.bool b)) (decide_eq_true c112)) ?_
                  refine C.rs ?_
                  refine J.p rfl rfl rfl rfl (Y.bld (cs := [.int .i64 0, .int .u64 0, .int .i64 0, .string ByteArray.empty, .string ByteArray.empty, .int .u64 0, .int .i64 0, .int .i64 0, .int .i64 0, .string ByteArray.empty, .int .i64 0, .int .i64 0, .int .i64 0, .int .u32 0]) rfl pl36 ti36 rfl rfl) ?_
                  refine J.stA (us := [.int .i64 0, .int .u64 0, .int .i64 0, .string ByteArray.empty, .string ByteArray.empty, .int .u64 0, .int .i64 0, .int .i64 0, .int .i64 0, .string ByteArray.empty, .int .i64 0, .int .i64 0, .int .i64 0, .int .u32 0]) (L' := [.int .i64 0, .int .u64 0, .int .i64 0, .string ByteArray.empty, .string ByteArray.empty, .int .u64 0, .int .i64 0, .int .i64 0, .int .i64 0, .string ByteArray.empty, .int .i64 0, .int .i64 0, .int .i64 0, .int .u32 0]) ti36 rfl rfl rfl rfl rfl rfl ?_
                  refine J.p rfl rfl rfl rfl (Y.asg rfl) ?_
                  refine J.p rfl rfl rfl rfl (Y.asg rfl) ?_
                  refine J.nx ?_
                  refine C.ret ?_
                  obtain rfl := Option.some.inj H
                  refine T.th ?_
                  exact ret_okG (rvs := [.cell 4 36, .tmp 5, .tmp 6]) (vs := [.agg #[.int .i64 0, .int .u64 0, .int .i64 0, .string ByteArray.empty, .string ByteArray.empty, .int .u64 0, .int .i64 0, .int .i64 0, .int .i64 0, .string ByteArray.empty, .int .i64 0, .int .i64 0, .int .i64 0, .int .u32 0], .int .i64 0, .int .i64 44]) rfl ⟨RV.cellA (us := [.int .i64 0, .int .u64 0, .int .i64 0, .string ByteArray.empty, .string ByteArray.empty, .int .u64 0, .int .i64 0, .int .i64 0, .int .i64 0, .string ByteArray.empty, .int .i64 0, .int .i64 0, .int .i64 0, .int .u32 0]) 0 Try.underlying36 rfl ti36 rfl rfl rfl rfl, RV.tmp rfl, RV.tmp rfl, trivial⟩ (fun w h => ⟨rfl, (St.pick [] [_] h rfl)⟩)
                · refine C.condF (congrArg (fun b => some (Value.bool b)) (decide_eq_false c112)) ?_
                  refine C.skip ?_
                  refine N.nx ?_
                  refine C.rs ?_
                  refine J.p rfl rfl rfl rfl (Y.mv rfl) ?_
                  obtain ⟨t113, hC114, H⟩ := bind_some H
                  refine J.call (us := []) (cap := []) rfl rfl rfl go41 (fun w hw => by have hcc := plain.calls K o31 j32.1 j32.2 (hx33.1.suf [_] rfl) hx33.2 t113 hC114 w hw; exact hcc) (fun e w1 h1 => ?_)
                  obtain ⟨A115, c116, rfl, hw126⟩ := h1
                  refine ⟨_, _, rfl, hw126, ?_⟩
                  refine J.p rfl rfl rfl rfl (Y.mv rfl) ?_
                  refine J.p rfl rfl rfl rfl (Y.ext rfl rfl) ?_
                  refine J.p rfl rfl rfl rfl (Y.ext rfl rfl) ?_
                  refine J.p rfl rfl rfl rfl (Y.asg rfl) ?_
                  refine J.p rfl rfl rfl rfl (Y.asg rfl) ?_
                  refine J.nx ?_
                  refine C.seq ?_
                  refine C.rs ?_
                  refine J.p rfl rfl rfl rfl (Y.mv rfl) ?_
                  refine J.p rfl rfl rfl rfl (Y.notb rfl) ?_
                  refine J.nx ?_
                  refine split2 H (fun c118 H => ?_) (fun c118 H => ?_)
                  · refine C.condF (congrArg (fun b => some (Value.bool b)) (congrArg Bool.not (c118))) ?_
                    refine C.skip ?_
                    refine N.nx ?_
                    refine C.rs ?_
                    refine J.p rfl rfl rfl rfl (Y.mv rfl) ?_
                    refine J.know (own_leL 0 rfl) (fun hc119 => ?_)
                    obtain ⟨t120, hC121, H⟩ := bind_some H
                    refine J.call (us := []) (cap := []) rfl rfl rfl go42 (fun w hw => by have hcc := opened.calls K t113.1 A115 c116 (RdG.own 0 rfl) hc119 t120 hC121 w hw; exact hcc) (fun e w1 h1 => ?_)
                    obtain ⟨rfl, hw125⟩ := h1
                    refine ⟨_, _, rfl, hw125, ?_⟩
                    refine J.p rfl rfl rfl rfl (Y.mv rfl) ?_
                    refine J.p rfl rfl rfl rfl (Y.ext rfl rfl) ?_
                    refine J.p rfl rfl rfl rfl (Y.ext rfl rfl) ?_
                    refine J.alloc (L := [.int .i64 0, .int .u64 0, .int .i64 0, .string ByteArray.empty, .string ByteArray.empty, .int .u64 0, .int .i64 0, .int .i64 0, .int .i64 0, .string ByteArray.empty, .int .i64 0, .int .i64 0, .int .i64 0, .int .u32 0]) rfl ti36 rfl (fun g122 => ?_)
                    refine J.stA (us := [.int .i64 t120.1, .int .u64 t120.2.1, .int .i64 t120.2.2.1, .string t120.2.2.2.1, .string t120.2.2.2.2.1, .int .u64 t120.2.2.2.2.2.1, .int .i64 t120.2.2.2.2.2.2.1, .int .i64 t120.2.2.2.2.2.2.2.1, .int .i64 t120.2.2.2.2.2.2.2.2.1, .string t120.2.2.2.2.2.2.2.2.2.1, .int .i64 t120.2.2.2.2.2.2.2.2.2.2.1, .int .i64 t120.2.2.2.2.2.2.2.2.2.2.2.1, .int .i64 t120.2.2.2.2.2.2.2.2.2.2.2.2.1, .int .u32 t120.2.2.2.2.2.2.2.2.2.2.2.2.2.1]) (L' := [.int .i64 t120.1, .int .u64 t120.2.1, .int .i64 t120.2.2.1, .string t120.2.2.2.1, .string t120.2.2.2.2.1, .int .u64 t120.2.2.2.2.2.1, .int .i64 t120.2.2.2.2.2.2.1, .int .i64 t120.2.2.2.2.2.2.2.1, .int .i64 t120.2.2.2.2.2.2.2.2.1, .string t120.2.2.2.2.2.2.2.2.2.1, .int .i64 t120.2.2.2.2.2.2.2.2.2.2.1, .int .i64 t120.2.2.2.2.2.2.2.2.2.2.2.1, .int .i64 t120.2.2.2.2.2.2.2.2.2.2.2.2.1, .int .u32 t120.2.2.2.2.2.2.2.2.2.2.2.2.2.1]) ti36 rfl rfl rfl rfl rfl rfl ?_
                    refine J.p rfl rfl rfl rfl (Y.asg rfl) ?_
                    refine J.nx ?_
                    refine C.seq ?_
                    refine C.rs ?_
                    refine J.p rfl rfl rfl rfl (Y.mv rfl) ?_
                    refine J.p rfl rfl rfl rfl (Y.notb rfl) ?_
                    refine J.nx ?_
                    refine split2 H (fun c124 H => ?_) (fun c124 H => ?_)
                    · refine C.condF (congrArg (fun b => some (Value.bool b)) (congrArg Bool.not (c124))) ?_
                      refine C.skip ?_
                      refine N.nx ?_
                      refine C.rs ?_
                      refine J.r rfl rfl rfl rfl (Y.ldCA (us := [.int .i64 t120.1, .int .u64 t120.2.1, .int .i64 t120.2.2.1, .string t120.2.2.2.1, .string t120.2.2.2.2.1, .int .u64 t120.2.2.2.2.2.1, .int .i64 t120.2.2.2.2.2.2.1, .int .i64 t120.2.2.2.2.2.2.2.1, .int .i64 t120.2.2.2.2.2.2.2.2.1, .string t120.2.2.2.2.2.2.2.2.2.1, .int .i64 t120.2.2.2.2.2.2.2.2.2.2.1, .int .i64 t120.2.2.2.2.2.2.2.2.2.2.2.1, .int .i64 t120.2.2.2.2.2.2.2.2.2.2.2.2.1, .int .u32 t120.2.2.2.2.2.2.2.2.2.2.2.2.2.1]) 0 Try.underlying36 rfl ti36 rfl rfl rfl rfl) ?_
                      refine J.p rfl rfl rfl rfl (Y.mv rfl) ?_
                      refine J.p rfl rfl rfl rfl (Y.bin rfl rfl rfl) ?_
                      refine J.pull 2 rfl rfl ?_
                      refine J.stA (us := [.int .i64 t120.1, .int .u64 t120.2.1, .int .i64 t120.2.2.1, .string t120.2.2.2.1, .string t120.2.2.2.2.1, .int .u64 t120.2.2.2.2.2.1, .int .i64 t120.2.2.2.2.2.2.1, .int .i64 t120.2.2.2.2.2.2.2.1, .int .i64 t120.2.2.2.2.2.2.2.2.1, .string t120.2.2.2.2.2.2.2.2.2.1, .int .i64 t120.2.2.2.2.2.2.2.2.2.2.1, .int .i64 t120.2.2.2.2.2.2.2.2.2.2.2.1, .int .i64 t120.2.2.2.2.2.2.2.2.2.2.2.2.1, .int .u32 t120.2.2.2.2.2.2.2.2.2.2.2.2.2.1]) (L' := [.int .i64 t120.1, .int .u64 t120.2.1, .int .i64 t120.2.2.1, .string t120.2.2.2.1, .string t120.2.2.2.2.1, .int .u64 t120.2.2.2.2.2.1, .int .i64 t120.2.2.2.2.2.2.1, .int .i64 t120.2.2.2.2.2.2.2.1, .int .i64 t120.2.2.2.2.2.2.2.2.1, .string t120.2.2.2.2.2.2.2.2.2.1, .int .i64 t120.2.2.2.2.2.2.2.2.2.2.1, .int .i64 t120.2.2.2.2.2.2.2.2.2.2.2.1, .int .i64 t120.2.2.2.2.2.2.2.2.2.2.2.2.1, .int .u32 t120.2.2.2.2.2.2.2.2.2.2.2.2.2.1]) ti36 rfl rfl rfl rfl rfl rfl ?_
                      refine J.p rfl rfl rfl rfl (Y.asg rfl) ?_
                      refine J.p rfl rfl rfl rfl (Y.asg rfl) ?_
                      refine J.nx ?_
                      refine C.ret ?_
                      obtain rfl := Option.some.inj H
                      exact ret_okG (rvs := [.cell 4 36, .tmp 5, .tmp 6]) (vs := [.agg #[.int .i64 t120.1, .int .u64 t120.2.1, .int .i64 t120.2.2.1, .string t120.2.2.2.1, .string t120.2.2.2.2.1, .int .u64 t120.2.2.2.2.2.1, .int .i64 t120.2.2.2.2.2.2.1, .int .i64 t120.2.2.2.2.2.2.2.1, .int .i64 t120.2.2.2.2.2.2.2.2.1, .string t120.2.2.2.2.2.2.2.2.2.1, .int .i64 t120.2.2.2.2.2.2.2.2.2.2.1, .int .i64 t120.2.2.2.2.2.2.2.2.2.2.2.1, .int .i64 t120.2.2.2.2.2.2.2.2.2.2.2.2.1, .int .u32 t120.2.2.2.2.2.2.2.2.2.2.2.2.2.1], .int .i64 (IntKind.wrap .i64 (t12.1 + 9)), .int .i64 0]) rfl ⟨RV.cellA (us := [.int .i64 t120.1, .int .u64 t120.2.1, .int .i64 t120.2.2.1, .string t120.2.2.2.1, .string t120.2.2.2.2.1, .int .u64 t120.2.2.2.2.2.1, .int .i64 t120.2.2.2.2.2.2.1, .int .i64 t120.2.2.2.2.2.2.2.1, .int .i64 t120.2.2.2.2.2.2.2.2.1, .string t120.2.2.2.2.2.2.2.2.2.1, .int .i64 t120.2.2.2.2.2.2.2.2.2.2.1, .int .i64 t120.2.2.2.2.2.2.2.2.2.2.2.1, .int .i64 t120.2.2.2.2.2.2.2.2.2.2.2.2.1, .int .u32 t120.2.2.2.2.2.2.2.2.2.2.2.2.2.1]) 0 Try.underlying36 rfl ti36 rfl rfl rfl rfl, RV.tmp rfl, RV.tmp rfl, trivial⟩ (fun w h => ⟨rfl, (St.pick [] [_, _, _] h rfl)⟩)
                    · refine C.condT (congrArg (fun b => some (Value.bool b)) (congrArg Bool.not (nt c124))) ?_
                      refine C.rs ?_
                      refine J.p rfl rfl rfl rfl (Y.bld (cs := [.int .i64 0, .int .u64 0, .int .i64 0, .string ByteArray.empty, .string ByteArray.empty, .int .u64 0, .int .i64 0, .int .i64 0, .int .i64 0, .string ByteArray.empty, .int .i64 0, .int .i64 0, .int .i64 0, .int .u32 0]) rfl pl36 ti36 rfl rfl) ?_
                      refine J.pull 2 rfl rfl ?_
                      refine J.stA (us := [.int .i64 0, .int .u64 0, .int .i64 0, .string ByteArray.empty, .string ByteArray.empty, .int .u64 0, .int .i64 0, .int .i64 0, .int .i64 0, .string ByteArray.empty, .int .i64 0, .int .i64 0, .int .i64 0, .int .u32 0]) (L' := [.int .i64 0, .int .u64 0, .int .i64 0, .string ByteArray.empty, .string ByteArray.empty, .int .u64 0, .int .i64 0, .int .i64 0, .int .i64 0, .string ByteArray.empty, .int .i64 0, .int .i64 0, .int .i64 0, .int .u32 0]) ti36 rfl rfl rfl rfl rfl rfl ?_
                      refine J.p rfl rfl rfl rfl (Y.asg rfl) ?_
                      refine J.p rfl rfl rfl rfl (Y.asg rfl) ?_
                      refine J.nx ?_
                      refine C.ret ?_
                      obtain rfl := Option.some.inj H
                      refine T.th ?_
                      exact ret_okG (rvs := [.cell 4 36, .tmp 5, .tmp 6]) (vs := [.agg #[.int .i64 0, .int .u64 0, .int .i64 0, .string ByteArray.empty, .string ByteArray.empty, .int .u64 0, .int .i64 0, .int .i64 0, .int .i64 0, .string ByteArray.empty, .int .i64 0, .int .i64 0, .int .i64 0, .int .u32 0], .int .i64 0, .int .i64 45]) rfl ⟨RV.cellA (us := [.int .i64 0, .int .u64 0, .int .i64 0, .string ByteArray.empty, .string ByteArray.empty, .int .u64 0, .int .i64 0, .int .i64 0, .int .i64 0, .string ByteArray.empty, .int .i64 0, .int .i64 0, .int .i64 0, .int .u32 0]) 0 Try.underlying36 rfl ti36 rfl rfl rfl rfl, RV.tmp rfl, RV.tmp rfl, trivial⟩ (fun w h => ⟨rfl, (St.pick [] [_, _, _] h rfl)⟩)
                  · refine C.condT (congrArg (fun b => some (Value.bool b)) (congrArg Bool.not (nt c118))) ?_
                    refine C.rs ?_
                    refine J.p rfl rfl rfl rfl (Y.bld (cs := [.int .i64 0, .int .u64 0, .int .i64 0, .string ByteArray.empty, .string ByteArray.empty, .int .u64 0, .int .i64 0, .int .i64 0, .int .i64 0, .string ByteArray.empty, .int .i64 0, .int .i64 0, .int .i64 0, .int .u32 0]) rfl pl36 ti36 rfl rfl) ?_
                    refine J.pull 1 rfl rfl ?_
                    refine J.stA (us := [.int .i64 0, .int .u64 0, .int .i64 0, .string ByteArray.empty, .string ByteArray.empty, .int .u64 0, .int .i64 0, .int .i64 0, .int .i64 0, .string ByteArray.empty, .int .i64 0, .int .i64 0, .int .i64 0, .int .u32 0]) (L' := [.int .i64 0, .int .u64 0, .int .i64 0, .string ByteArray.empty, .string ByteArray.empty, .int .u64 0, .int .i64 0, .int .i64 0, .int .i64 0, .string ByteArray.empty, .int .i64 0, .int .i64 0, .int .i64 0, .int .u32 0]) ti36 rfl rfl rfl rfl rfl rfl ?_
                    refine J.p rfl rfl rfl rfl (Y.asg rfl) ?_
                    refine J.p rfl rfl rfl rfl (Y.asg rfl) ?_
                    refine J.nx ?_
                    refine C.ret ?_
                    obtain rfl := Option.some.inj H
                    refine T.th ?_
                    exact ret_okG (rvs := [.cell 4 36, .tmp 5, .tmp 6]) (vs := [.agg #[.int .i64 0, .int .u64 0, .int .i64 0, .string ByteArray.empty, .string ByteArray.empty, .int .u64 0, .int .i64 0, .int .i64 0, .int .i64 0, .string ByteArray.empty, .int .i64 0, .int .i64 0, .int .i64 0, .int .u32 0], .int .i64 0, .int .i64 45]) rfl ⟨RV.cellA (us := [.int .i64 0, .int .u64 0, .int .i64 0, .string ByteArray.empty, .string ByteArray.empty, .int .u64 0, .int .i64 0, .int .i64 0, .int .i64 0, .string ByteArray.empty, .int .i64 0, .int .i64 0, .int .i64 0, .int .u32 0]) 0 Try.underlying36 rfl ti36 rfl rfl rfl rfl, RV.tmp rfl, RV.tmp rfl, trivial⟩ (fun w h => ⟨rfl, (St.pick [] [_, _] h rfl)⟩)
/-! ### salvor/salvorlaw4.known: function 14 -/
def known.f (K : Nat) : Option (Bool) := (first.f).bind fun t1 => (fEncode.f K t1.1 t1.2.1 t1.2.2.1 t1.2.2.2.1 t1.2.2.2.2.1 t1.2.2.2.2.2.1 t1.2.2.2.2.2.2.1 t1.2.2.2.2.2.2.2.1 t1.2.2.2.2.2.2.2.2.1 t1.2.2.2.2.2.2.2.2.2.1 t1.2.2.2.2.2.2.2.2.2.2.1 t1.2.2.2.2.2.2.2.2.2.2.2.1 t1.2.2.2.2.2.2.2.2.2.2.2.2.1 t1.2.2.2.2.2.2.2.2.2.2.2.2.2).bind fun t3 => (if t3.2 ≠ 0 then (some true) else (some (decide ((t3.1.length : Int) ≠ 14)))).bind fun o9 => if o9 = true then (some false) else ((fDecode.f K t3.1 0).bind fun t16 => (gd ((0 : Int) ≤ 0 ∧ 0 < (t3.1.length : Int)) (if (rd t3.1 0) = 167 then (gd ((0 : Int) ≤ 3 ∧ 3 < (t3.1.length : Int)) (gd ((0 : Int) ≤ 3 ∧ 3 < (t3.1.length : Int)) (if (rd t3.1 3) = 5 then (gd ((0 : Int) ≤ 4 ∧ 4 < (t3.1.length : Int)) (gd ((0 : Int) ≤ 4 ∧ 4 < (t3.1.length : Int)) (if (rd t3.1 4) = 1 then (gd ((0 : Int) ≤ 8 ∧ 8 < (t3.1.length : Int)) (gd ((0 : Int) ≤ 8 ∧ 8 < (t3.1.length : Int)) (some (decide ((rd t3.1 8) = 118))))) else (some false)))) else (some false)))) else (some false))).bind fun o36 => if o36 = true then ((first.f).bind fun t57 => if t16.1 = t57.1 ∧ (t16.2.1 = t57.2.1 ∧ t16.2.2.1 = t57.2.2.1 ∧ t16.2.2.2.1 = t57.2.2.2.1 ∧ t16.2.2.2.2.1 = t57.2.2.2.2.1 ∧ True) ∧ (t16.2.2.2.2.2.1 = t57.2.2.2.2.2.1 ∧ t16.2.2.2.2.2.2.1 = t57.2.2.2.2.2.2.1 ∧ t16.2.2.2.2.2.2.2.1 = t57.2.2.2.2.2.2.2.1 ∧ t16.2.2.2.2.2.2.2.2.1 = t57.2.2.2.2.2.2.2.2.1 ∧ t16.2.2.2.2.2.2.2.2.2.1 = t57.2.2.2.2.2.2.2.2.2.1 ∧ True) ∧ (t16.2.2.2.2.2.2.2.2.2.2.1 = t57.2.2.2.2.2.2.2.2.2.2.1 ∧ (t16.2.2.2.2.2.2.2.2.2.2.2.1 = t57.2.2.2.2.2.2.2.2.2.2.2.1 ∧ t16.2.2.2.2.2.2.2.2.2.2.2.2.1 = t57.2.2.2.2.2.2.2.2.2.2.2.2.1 ∧ t16.2.2.2.2.2.2.2.2.2.2.2.2.2.1 = t57.2.2.2.2.2.2.2.2.2.2.2.2.2 ∧ True) ∧ True) ∧ True then (if t16.2.2.2.2.2.2.2.2.2.2.2.2.2.2.1 = 14 then (some (decide (t16.2.2.2.2.2.2.2.2.2.2.2.2.2.2.2 = 0))) else (some false)) else (some false)) else (some false))
theorem known.calls {B : Nat} {w0 : World} {G : List HP} (K : Nat) (r : Bool) (H : known.f K = some r) (w : World) (hw : St B w0 (G) w) :
    Calls Try.prog 14 [].toArray w (fun e w' => e = .returned (.bool r) ∧ St B w0 (G) w') := by
  unfold known.f at H
  refine calls_of (n := 61) (s := []) Try.func14 rfl rfl rfl rfl ?_ hw
  refine C.rs ?_
  refine J.p rfl rfl rfl rfl (Y.asg rfl) ?_
  refine J.nx ?_
  refine C.rs ?_
  obtain ⟨t1, hC2, H⟩ := bind_some H
  refine J.call (us := []) (cap := []) rfl rfl rfl go35 (fun w hw => by have hcc := first.calls t1 hC2 w hw; exact hcc) (fun e w1 h1 => ?_)
  obtain ⟨rfl, hw64⟩ := h1
  refine ⟨_, _, rfl, hw64, ?_⟩
  obtain ⟨t3, hC4, H⟩ := bind_some H
  refine J.call (us := []) (cap := []) rfl rfl rfl go18 (fun w hw => by have hcc := fEncode.calls K t1.1 t1.2.1 t1.2.2.1 t1.2.2.2.1 t1.2.2.2.2.1 t1.2.2.2.2.2.1 t1.2.2.2.2.2.2.1 t1.2.2.2.2.2.2.2.1 t1.2.2.2.2.2.2.2.2.1 t1.2.2.2.2.2.2.2.2.2.1 t1.2.2.2.2.2.2.2.2.2.2.1 t1.2.2.2.2.2.2.2.2.2.2.2.1 t1.2.2.2.2.2.2.2.2.2.2.2.2.1 t1.2.2.2.2.2.2.2.2.2.2.2.2.2 t3 hC4 w hw; exact hcc) (fun e w1 h1 => ?_)
  obtain ⟨A5, c6, rfl, hw63⟩ := h1
  refine ⟨_, _, rfl, hw63, ?_⟩
  refine J.p rfl rfl rfl rfl (Y.mv rfl) ?_
  refine J.p rfl rfl rfl rfl (Y.ext rfl rfl) ?_
  refine J.p rfl rfl rfl rfl (Y.ext rfl rfl) ?_
  refine J.p rfl rfl rfl rfl (Y.asg rfl) ?_
  refine J.p rfl rfl rfl rfl (Y.asg rfl) ?_
  refine J.nx ?_
  refine C.seq ?_
  refine C.rs ?_
  refine J.joinB H (fun (o9 : Bool) (j10 : Unit) => [(1, .slice A5 t3.1.length c6), (18, .bool o9)]) (fun (o9 : Bool) (j10 : Unit) => own 5 1 A5 c6 (t3.1.map (Value.int .u8)) :: G) (fun (o9 : Bool) (j10 : Unit) => True) (fun o11 H HK12 => ?_) (fun o9 j10 H _ => ?_)
  · refine J.p rfl rfl rfl rfl (Y.mv rfl) ?_
    refine J.p rfl rfl rfl rfl (Y.bin rfl rfl rfl) ?_
    refine J.p rfl rfl rfl rfl (Y.mv rfl) ?_
    refine split2 H (fun c13 H => ?_) (fun c13 H => ?_)
    · refine J.as (k := 14) rfl (congrArg Value.bool (decide_eq_true c13)) ?_
      refine J.skip rfl rfl ?_
      refine J.skip rfl rfl ?_
      refine J.skip rfl rfl ?_
      refine J.p rfl rfl rfl rfl (Y.pickT rfl rfl) ?_
      refine J.nil ?_
      obtain rfl := Option.some.inj H
      exact N.meet (true, ()) ⟨HK12, trivial⟩ (by exact ⟨rfl, rfl, trivial⟩) (by exact fun w h => h)
    · refine J.as (k := 14) rfl (congrArg Value.bool (decide_eq_false c13)) ?_
      refine J.p rfl rfl rfl rfl (Y.mv rfl) ?_
      refine J.p rfl rfl rfl rfl (Y.lenS Try.underlying22 rfl) ?_
      refine J.p rfl rfl rfl rfl (Y.bin rfl rfl rfl) ?_
      refine J.p rfl rfl rfl rfl (Y.pickF rfl rfl) ?_
      refine J.nil ?_
      obtain rfl := Option.some.inj H
      exact N.meet (decide ((t3.1.length : Int) ≠ 14), ()) ⟨HK12, trivial⟩ (by exact ⟨rfl, rfl, trivial⟩) (by exact fun w h => h)
  · refine C.at (s' := [(1, .slice A5 t3.1.length c6), (18, .bool o9)]) (G' := own 5 1 A5 c6 (t3.1.map (Value.int .u8)) :: G) rfl rfl ?_
    refine split2 H (fun c14 H => ?_) (fun c14 H => ?_)
    · refine C.condT (congrArg (fun b => some (Value.bool b)) (c14)) ?_
      refine C.rs ?_
      refine J.p rfl rfl rfl rfl (Y.asg rfl) ?_
      refine J.nx ?_
      refine C.ret ?_
      obtain rfl := Option.some.inj H
      refine T.th ?_
      exact ret_ok (ks := [0]) rfl rfl (fun w h => ⟨rfl, (St.pick [] [_] h rfl)⟩)
    · refine C.condF (congrArg (fun b => some (Value.bool b)) (nt c14)) ?_
      refine C.skip ?_
      refine N.nx ?_
      refine C.rs ?_
      refine J.p rfl rfl rfl rfl (Y.mv rfl) ?_
      refine J.know (own_leL 0 rfl) (fun hc15 => ?_)
      obtain ⟨t16, hC17, H⟩ := bind_some H
      refine J.call (us := []) (cap := []) rfl rfl rfl go15 (fun w hw => by have hcc := fDecode.calls K t3.1 0 A5 c6 (RdG.own 0 rfl) hc15 t16 hC17 w hw; exact hcc) (fun e w1 h1 => ?_)
      obtain ⟨rfl, hw62⟩ := h1
      refine ⟨_, _, rfl, hw62, ?_⟩
      refine J.p rfl rfl rfl rfl (Y.mv rfl) ?_
      refine J.p rfl rfl rfl rfl (Y.ext rfl rfl) ?_
      refine J.p rfl rfl rfl rfl (Y.ext rfl rfl) ?_
      refine J.p rfl rfl rfl rfl (Y.ext rfl rfl) ?_
      refine J.alloc (L := [.int .i64 0, .int .u64 0, .int .i64 0, .string ByteArray.empty, .string ByteArray.empty, .int .u64 0, .int .i64 0, .int .i64 0, .int .i64 0, .string ByteArray.empty, .int .i64 0, .int .i64 0, .int .i64 0, .int .u32 0]) rfl ti36 rfl (fun g18 => ?_)
      refine J.stA (us := [.int .i64 t16.1, .int .u64 t16.2.1, .int .i64 t16.2.2.1, .string t16.2.2.2.1, .string t16.2.2.2.2.1, .int .u64 t16.2.2.2.2.2.1, .int .i64 t16.2.2.2.2.2.2.1, .int .i64 t16.2.2.2.2.2.2.2.1, .int .i64 t16.2.2.2.2.2.2.2.2.1, .string t16.2.2.2.2.2.2.2.2.2.1, .int .i64 t16.2.2.2.2.2.2.2.2.2.2.1, .int .i64 t16.2.2.2.2.2.2.2.2.2.2.2.1, .int .i64 t16.2.2.2.2.2.2.2.2.2.2.2.2.1, .int .u32 t16.2.2.2.2.2.2.2.2.2.2.2.2.2.1]) (L' := [.int .i64 t16.1, .int .u64 t16.2.1, .int .i64 t16.2.2.1, .string t16.2.2.2.1, .string t16.2.2.2.2.1, .int .u64 t16.2.2.2.2.2.1, .int .i64 t16.2.2.2.2.2.2.1, .int .i64 t16.2.2.2.2.2.2.2.1, .int .i64 t16.2.2.2.2.2.2.2.2.1, .string t16.2.2.2.2.2.2.2.2.2.1, .int .i64 t16.2.2.2.2.2.2.2.2.2.2.1, .int .i64 t16.2.2.2.2.2.2.2.2.2.2.2.1, .int .i64 t16.2.2.2.2.2.2.2.2.2.2.2.2.1, .int .u32 t16.2.2.2.2.2.2.2.2.2.2.2.2.2.1]) ti36 rfl rfl rfl rfl rfl rfl ?_
      refine J.p rfl rfl rfl rfl (Y.asg rfl) ?_
      refine J.p rfl rfl rfl rfl (Y.asg rfl) ?_
      refine J.nx ?_
      refine C.rs ?_
      refine J.joinB H (fun (o36 : Bool) (j37 : Unit) => [(3, .pointer (some ⟨g18, 0, none⟩)), (4, .int .i64 t16.2.2.2.2.2.2.2.2.2.2.2.2.2.2.1), (5, .int .i64 t16.2.2.2.2.2.2.2.2.2.2.2.2.2.2.2), (6, .bool o36)]) (fun (o36 : Bool) (j37 : Unit) => cells g18 36 [.int .i64 t16.1, .int .u64 t16.2.1, .int .i64 t16.2.2.1, .string t16.2.2.2.1, .string t16.2.2.2.2.1, .int .u64 t16.2.2.2.2.2.1, .int .i64 t16.2.2.2.2.2.2.1, .int .i64 t16.2.2.2.2.2.2.2.1, .int .i64 t16.2.2.2.2.2.2.2.2.1, .string t16.2.2.2.2.2.2.2.2.2.1, .int .i64 t16.2.2.2.2.2.2.2.2.2.2.1, .int .i64 t16.2.2.2.2.2.2.2.2.2.2.2.1, .int .i64 t16.2.2.2.2.2.2.2.2.2.2.2.2.1, .int .u32 t16.2.2.2.2.2.2.2.2.2.2.2.2.2.1] :: G) (fun (o36 : Bool) (j37 : Unit) => True) (fun o38 H HK39 => ?_) (fun o36 j37 H _ => ?_)
      · refine J.p rfl rfl rfl rfl (Y.mv rfl) ?_
        obtain ⟨p40, H⟩ := gd_some H
        refine J.el rfl rfl rfl Try.underlying22 ti5 Try.underlying5 rfl rfl rfl p40 (RdG.own 1 rfl) ?_
        refine J.p rfl rfl rfl rfl (Y.bin rfl rfl rfl) ?_
        refine J.p rfl rfl rfl rfl (Y.mv rfl) ?_
        refine split2 H (fun c41 H => ?_) (fun c41 H => ?_)
        · refine J.as (k := 29) rfl (congrArg Value.bool (decide_eq_true c41)) ?_
          refine J.p rfl rfl rfl rfl (Y.mv rfl) ?_
          obtain ⟨p44, H⟩ := gd_some H
          refine J.know ((RdG.own 1 rfl).some_ (j := Int.toNat 3) (by rw [List.length_map]; exact idx_lt p44)) (fun hh => ?_)
          obtain ⟨a42, ha43⟩ := hh
          refine J.p rfl rfl rfl rfl (Y.ixa Try.underlying22 ti5 rfl rfl p44 ha43) ?_
          obtain ⟨p45, H⟩ := gd_some H
          refine J.r rfl rfl rfl rfl (Y.ldE Try.underlying5 rfl rfl ha43 p45 (RdG.own 1 rfl)) ?_
          refine J.p rfl rfl rfl rfl (Y.bin rfl rfl rfl) ?_
          refine J.p rfl rfl rfl rfl (Y.pickT rfl rfl) ?_
          refine J.p rfl rfl rfl rfl (Y.mv rfl) ?_
          refine split2 H (fun c46 H => ?_) (fun c46 H => ?_)
          · refine J.as (k := 35) rfl (congrArg Value.bool (decide_eq_true c46)) ?_
            refine J.p rfl rfl rfl rfl (Y.mv rfl) ?_
            obtain ⟨p49, H⟩ := gd_some H
            refine J.know ((RdG.own 1 rfl).some_ (j := Int.toNat 4) (by rw [List.length_map]; exact idx_lt p49)) (fun hh => ?_)
            obtain ⟨a47, ha48⟩ := hh
            refine J.p rfl rfl rfl rfl (Y.ixa Try.underlying22 ti5 rfl rfl p49 ha48) ?_
            obtain ⟨p50, H⟩ := gd_some H
            refine J.r rfl rfl rfl rfl (Y.ldE Try.underlying5 rfl rfl ha48 p50 (RdG.own 1 rfl)) ?_
            refine J.p rfl rfl rfl rfl (Y.bin rfl rfl rfl) ?_
            refine J.p rfl rfl rfl rfl (Y.pickT rfl rfl) ?_
            refine J.p rfl rfl rfl rfl (Y.mv rfl) ?_
            refine split2 H (fun c51 H => ?_) (fun c51 H => ?_)
            · refine J.as (k := 41) rfl (congrArg Value.bool (decide_eq_true c51)) ?_
              refine J.p rfl rfl rfl rfl (Y.mv rfl) ?_
              obtain ⟨p54, H⟩ := gd_some H
              refine J.know ((RdG.own 1 rfl).some_ (j := Int.toNat 8) (by rw [List.length_map]; exact idx_lt p54)) (fun hh => ?_)
              obtain ⟨a52, ha53⟩ := hh
              refine J.p rfl rfl rfl rfl (Y.ixa Try.underlying22 ti5 rfl rfl p54 ha53) ?_
              obtain ⟨p55, H⟩ := gd_some H
              refine J.r rfl rfl rfl rfl (Y.ldE Try.underlying5 rfl rfl ha53 p55 (RdG.own 1 rfl)) ?_
              refine J.p rfl rfl rfl rfl (Y.bin rfl rfl rfl) ?_
              refine J.p rfl rfl rfl rfl (Y.pickT rfl rfl) ?_
              refine J.p rfl rfl rfl rfl (Y.asg rfl) ?_
              refine J.nil ?_
              obtain rfl := Option.some.inj H
              exact N.meet (decide ((rd t3.1 8) = 118), ()) ⟨HK39, trivial⟩ (by exact ⟨rfl, rfl, rfl, rfl, trivial⟩) (by exact fun w h => (St.pick [0] [_, _] h rfl))
            · refine J.as (k := 41) rfl (congrArg Value.bool (decide_eq_false c51)) ?_
              refine J.skip rfl rfl ?_
              refine J.skip rfl rfl ?_
              refine J.skip rfl rfl ?_
              refine J.skip rfl rfl ?_
              refine J.p rfl rfl rfl rfl (Y.pickF rfl rfl) ?_
              refine J.p rfl rfl rfl rfl (Y.asg rfl) ?_
              refine J.nil ?_
              obtain rfl := Option.some.inj H
              exact N.meet (false, ()) ⟨HK39, trivial⟩ (by exact ⟨rfl, rfl, rfl, rfl, trivial⟩) (by exact fun w h => (St.pick [0] [_, _] h rfl))
          · refine J.as (k := 35) rfl (congrArg Value.bool (decide_eq_false c46)) ?_
            refine J.skip rfl rfl ?_
            refine J.skip rfl rfl ?_
            refine J.skip rfl rfl ?_
            refine J.skip rfl rfl ?_
            refine J.p rfl rfl rfl rfl (Y.pickF rfl rfl) ?_
            refine J.p rfl rfl rfl rfl (Y.mv rfl) ?_
            refine J.skip rfl rfl ?_
            refine J.skip rfl rfl ?_
            refine J.skip rfl rfl ?_
            refine J.skip rfl rfl ?_
            refine J.p rfl rfl rfl rfl (Y.pickF rfl rfl) ?_
            refine J.p rfl rfl rfl rfl (Y.asg rfl) ?_
            refine J.nil ?_
            obtain rfl := Option.some.inj H
            exact N.meet (false, ()) ⟨HK39, trivial⟩ (by exact ⟨rfl, rfl, rfl, rfl, trivial⟩) (by exact fun w h => (St.pick [0] [_, _] h rfl))
        · refine J.as (k := 29) rfl (congrArg Value.bool (decide_eq_false c41)) ?_
          refine J.skip rfl rfl ?_
          refine J.skip rfl rfl ?_
          refine J.skip rfl rfl ?_
          refine J.skip rfl rfl ?_
          refine J.p rfl rfl rfl rfl (Y.pickF rfl rfl) ?_
          refine J.p rfl rfl rfl rfl (Y.mv rfl) ?_
          refine J.skip rfl rfl ?_
          refine J.skip rfl rfl ?_
          refine J.skip rfl rfl ?_
          refine J.skip rfl rfl ?_
          refine J.p rfl rfl rfl rfl (Y.pickF rfl rfl) ?_
          refine J.p rfl rfl rfl rfl (Y.mv rfl) ?_
          refine J.skip rfl rfl ?_
          refine J.skip rfl rfl ?_
          refine J.skip rfl rfl ?_
          refine J.skip rfl rfl ?_
          refine J.p rfl rfl rfl rfl (Y.pickF rfl rfl) ?_
          refine J.p rfl rfl rfl rfl (Y.asg rfl) ?_
          refine J.nil ?_
          obtain rfl := Option.some.inj H
          exact N.meet (false, ()) ⟨HK39, trivial⟩ (by exact ⟨rfl, rfl, rfl, rfl, trivial⟩) (by exact fun w h => (St.pick [0] [_, _] h rfl))
      · refine C.at (s' := [(3, .pointer (some ⟨g18, 0, none⟩)), (4, .int .i64 t16.2.2.2.2.2.2.2.2.2.2.2.2.2.2.1), (5, .int .i64 t16.2.2.2.2.2.2.2.2.2.2.2.2.2.2.2), (6, .bool o36)]) (G' := cells g18 36 [.int .i64 t16.1, .int .u64 t16.2.1, .int .i64 t16.2.2.1, .string t16.2.2.2.1, .string t16.2.2.2.2.1, .int .u64 t16.2.2.2.2.2.1, .int .i64 t16.2.2.2.2.2.2.1, .int .i64 t16.2.2.2.2.2.2.2.1, .int .i64 t16.2.2.2.2.2.2.2.2.1, .string t16.2.2.2.2.2.2.2.2.2.1, .int .i64 t16.2.2.2.2.2.2.2.2.2.2.1, .int .i64 t16.2.2.2.2.2.2.2.2.2.2.2.1, .int .i64 t16.2.2.2.2.2.2.2.2.2.2.2.2.1, .int .u32 t16.2.2.2.2.2.2.2.2.2.2.2.2.2.1] :: G) rfl rfl ?_
        refine C.seq ?_
        refine C.drawn (fuel := 15) (ls := [false, false, false, false, false, false, false, false, false, false, false, false, false, false, false]) [] (cells g18 36 [.int .i64 t16.1, .int .u64 t16.2.1, .int .i64 t16.2.2.1, .string t16.2.2.2.1, .string t16.2.2.2.2.1, .int .u64 t16.2.2.2.2.2.1, .int .i64 t16.2.2.2.2.2.2.1, .int .i64 t16.2.2.2.2.2.2.2.1, .int .i64 t16.2.2.2.2.2.2.2.2.1, .string t16.2.2.2.2.2.2.2.2.2.1, .int .i64 t16.2.2.2.2.2.2.2.2.2.2.1, .int .i64 t16.2.2.2.2.2.2.2.2.2.2.2.1, .int .i64 t16.2.2.2.2.2.2.2.2.2.2.2.2.1, .int .u32 t16.2.2.2.2.2.2.2.2.2.2.2.2.2.1] :: G) mx rfl rfl ?_
        refine D.p (ls' := [true, false, false, false, false, false, false, false, false, false, false, false, false, false, false]) 0 rfl rfl rfl rfl (by kernel_rfl) rfl (Y.mv rfl) ?_
        refine D.p (ls' := [true, true, false, false, false, false, false, false, false, false, false, false, false, false, false]) 1 rfl rfl rfl rfl (by kernel_rfl) rfl (Y.mv rfl) ?_
        refine split2 H (fun c56 H => ?_) (fun c56 H => ?_)
        · refine D.as (k := 48) rfl (congrArg Value.bool (c56)) ?_
          refine D.r (ls' := [true, true, true, false, false, false, false, false, false, false, false, false, false, false, false]) 2 1 0 rfl rfl rfl rfl (by kernel_rfl) (by kernel_rfl) rfl rfl (Y.ldCA (us := [.int .i64 t16.1, .int .u64 t16.2.1, .int .i64 t16.2.2.1, .string t16.2.2.2.1, .string t16.2.2.2.2.1, .int .u64 t16.2.2.2.2.2.1, .int .i64 t16.2.2.2.2.2.2.1, .int .i64 t16.2.2.2.2.2.2.2.1, .int .i64 t16.2.2.2.2.2.2.2.2.1, .string t16.2.2.2.2.2.2.2.2.2.1, .int .i64 t16.2.2.2.2.2.2.2.2.2.2.1, .int .i64 t16.2.2.2.2.2.2.2.2.2.2.2.1, .int .i64 t16.2.2.2.2.2.2.2.2.2.2.2.2.1, .int .u32 t16.2.2.2.2.2.2.2.2.2.2.2.2.2.1]) 0 Try.underlying36 rfl ti36 rfl rfl rfl rfl) ?_
          refine D.any [3] (by kernel_rfl) rfl ⟨?_, trivial⟩
          refine DW.j (ls' := [true, true, true, true, false, false, false, false, false, false, false, false, false, false, false]) rfl rfl ?_
          refine J.want rfl ?_
          obtain ⟨t57, hC58, H⟩ := bind_some H
          refine J.call (us := []) (cap := []) rfl rfl rfl go35 (fun w hw => by have hcc := first.calls t57 hC58 w hw; exact hcc) (fun e w1 h1 => ?_)
          obtain ⟨rfl, hw61⟩ := h1
          refine ⟨_, _, rfl, hw61, ?_⟩
          refine J.nil ?_
          refine D.backK 0 rfl ?_
          refine D.p (ls' := [true, true, true, true, true, false, false, false, false, false, false, false, false, false, false]) 4 rfl rfl rfl rfl (by kernel_rfl) rfl (Y.eqst Try.eqGuardType36 rfl (EqV.struct Try.underlying36 Try.stoodInHeld36 (EqFs.cons rfl (part_one Try.underlying24 rfl rfl) (part_one Try.underlying24 rfl rfl) (EqV.int 2 Try.underlying24) (EqFs.cons rfl (part_agg Try.underlying27 rfl ti27 rfl) (part_agg Try.underlying27 rfl ti27 rfl) (EqV.struct Try.underlying27 Try.stoodInHeld27 (EqFs.cons rfl (part_one Try.underlying25 rfl rfl) (part_one Try.underlying25 rfl rfl) (EqV.int 1 Try.underlying25) (EqFs.cons rfl (part_one Try.underlying24 rfl rfl) (part_one Try.underlying24 rfl rfl) (EqV.int 1 Try.underlying24) (EqFs.cons rfl (part_one Try.underlying9 rfl rfl) (part_one Try.underlying9 rfl rfl) (EqV.str 1 Try.underlying9) (EqFs.cons rfl (part_one Try.underlying9 rfl rfl) (part_one Try.underlying9 rfl rfl) (EqV.str 1 Try.underlying9) EqFs.nil))))) (EqFs.cons rfl (part_agg Try.underlying29 rfl ti29 rfl) (part_agg Try.underlying29 rfl ti29 rfl) (EqV.struct Try.underlying29 Try.stoodInHeld29 (EqFs.cons rfl (part_one Try.underlying25 rfl rfl) (part_one Try.underlying25 rfl rfl) (EqV.int 1 Try.underlying25) (EqFs.cons rfl (part_one Try.underlying24 rfl rfl) (part_one Try.underlying24 rfl rfl) (EqV.int 1 Try.underlying24) (EqFs.cons rfl (part_one Try.underlying3 rfl rfl) (part_one Try.underlying3 rfl rfl) (EqV.int 1 Try.underlying3) (EqFs.cons rfl (part_one Try.underlying3 rfl rfl) (part_one Try.underlying3 rfl rfl) (EqV.int 1 Try.underlying3) (EqFs.cons rfl (part_one Try.underlying9 rfl rfl) (part_one Try.underlying9 rfl rfl) (EqV.str 1 Try.underlying9) EqFs.nil)))))) (EqFs.cons rfl (part_agg Try.underlying34 rfl ti34 rfl) (part_agg Try.underlying34 rfl ti34 rfl) (EqV.struct Try.underlying34 Try.stoodInHeld34 (EqFs.cons rfl (part_one Try.underlying3 rfl rfl) (part_one Try.underlying3 rfl rfl) (EqV.int 1 Try.underlying3) (EqFs.cons rfl (part_agg Try.underlying32 rfl ti32 rfl) (part_agg Try.underlying32 rfl ti32 rfl) (EqV.struct Try.underlying32 Try.stoodInHeld32 (EqFs.cons rfl (part_one Try.underlying3 rfl rfl) (part_one Try.underlying3 rfl rfl) (EqV.int 0 Try.underlying3) (EqFs.cons rfl (part_one Try.underlying3 rfl rfl) (part_one Try.underlying3 rfl rfl) (EqV.int 0 Try.underlying3) (EqFs.cons rfl (part_one Try.underlying30 rfl rfl) (part_one Try.underlying30 rfl rfl) (EqV.int 0 Try.underlying30) EqFs.nil)))) EqFs.nil))) EqFs.nil))))) rfl rfl) ?_
          refine D.p (ls' := [true, true, true, true, true, true, false, false, false, false, false, false, false, false, false]) 5 rfl rfl rfl rfl (by kernel_rfl) rfl (Y.pickT rfl rfl) ?_
          refine D.p (ls' := [true, true, true, true, true, true, true, false, false, false, false, false, false, false, false]) 6 rfl rfl rfl rfl (by kernel_rfl) rfl (Y.mv rfl) ?_
          refine split2 H (fun c59 H => ?_) (fun c59 H => ?_)
          · refine D.as (k := 53) rfl (congrArg Value.bool (decide_eq_true c59)) ?_
            refine D.p (ls' := [true, true, true, true, true, true, true, true, false, false, false, false, false, false, false]) 7 rfl rfl rfl rfl (by kernel_rfl) rfl (Y.mv rfl) ?_
            refine D.p (ls' := [true, true, true, true, true, true, true, true, true, false, false, false, false, false, false]) 8 rfl rfl rfl rfl (by kernel_rfl) rfl (Y.bin rfl rfl rfl) ?_
            refine D.p (ls' := [true, true, true, true, true, true, true, true, true, true, false, false, false, false, false]) 9 rfl rfl rfl rfl (by kernel_rfl) rfl (Y.pickT rfl rfl) ?_
            refine D.p (ls' := [true, true, true, true, true, true, true, true, true, true, true, false, false, false, false]) 10 rfl rfl rfl rfl (by kernel_rfl) rfl (Y.mv rfl) ?_
            refine split2 H (fun c60 H => ?_) (fun c60 H => ?_)
            · refine D.as (k := 57) rfl (congrArg Value.bool (decide_eq_true c60)) ?_
              refine D.p (ls' := [true, true, true, true, true, true, true, true, true, true, true, true, false, false, false]) 11 rfl rfl rfl rfl (by kernel_rfl) rfl (Y.mv rfl) ?_
              refine D.p (ls' := [true, true, true, true, true, true, true, true, true, true, true, true, true, false, false]) 12 rfl rfl rfl rfl (by kernel_rfl) rfl (Y.bin rfl rfl rfl) ?_
              refine D.p (ls' := [true, true, true, true, true, true, true, true, true, true, true, true, true, true, false]) 13 rfl rfl rfl rfl (by kernel_rfl) rfl (Y.pickT rfl rfl) ?_
              refine D.p (ls' := [true, true, true, true, true, true, true, true, true, true, true, true, true, true, true]) 14 rfl rfl rfl rfl (by kernel_rfl) rfl (Y.asg rfl) ?_
              refine D.nil (by kernel_rfl) ?_
              refine N.nx ?_
              refine C.ret ?_
              obtain rfl := Option.some.inj H
              exact ret_ok (ks := [0]) rfl rfl (fun w h => ⟨rfl, (St.pick [] [_] h rfl)⟩)
            · refine D.as (k := 57) rfl (congrArg Value.bool (decide_eq_false c60)) ?_
              refine D.off (ls' := [true, true, true, true, true, true, true, true, true, true, true, true, false, false, false]) 11 rfl rfl rfl rfl (by kernel_rfl) rfl ?_
              refine D.off (ls' := [true, true, true, true, true, true, true, true, true, true, true, true, true, false, false]) 12 rfl rfl rfl rfl (by kernel_rfl) rfl ?_
              refine D.p (ls' := [true, true, true, true, true, true, true, true, true, true, true, true, true, true, false]) 13 rfl rfl rfl rfl (by kernel_rfl) rfl (Y.pickF rfl rfl) ?_
              refine D.p (ls' := [true, true, true, true, true, true, true, true, true, true, true, true, true, true, true]) 14 rfl rfl rfl rfl (by kernel_rfl) rfl (Y.asg rfl) ?_
              refine D.nil (by kernel_rfl) ?_
              refine N.nx ?_
              refine C.ret ?_
              obtain rfl := Option.some.inj H
              exact ret_ok (ks := [0]) rfl rfl (fun w h => ⟨rfl, (St.pick [] [_] h rfl)⟩)
          · refine D.as (k := 53) rfl (congrArg Value.bool (decide_eq_false c59)) ?_
            refine D.off (ls' := [true, true, true, true, true, true, true, true, false, false, false, false, false, false, false]) 7 rfl rfl rfl rfl (by kernel_rfl) rfl ?_
            refine D.off (ls' := [true, true, true, true, true, true, true, true, true, false, false, false, false, false, false]) 8 rfl rfl rfl rfl (by kernel_rfl) rfl ?_
            refine D.p (ls' := [true, true, true, true, true, true, true, true, true, true, false, false, false, false, false]) 9 rfl rfl rfl rfl (by kernel_rfl) rfl (Y.pickF rfl rfl) ?_
            refine D.p (ls' := [true, true, true, true, true, true, true, true, true, true, true, false, false, false, false]) 10 rfl rfl rfl rfl (by kernel_rfl) rfl (Y.mv rfl) ?_
            refine D.off (ls' := [true, true, true, true, true, true, true, true, true, true, true, true, false, false, false]) 11 rfl rfl rfl rfl (by kernel_rfl) rfl ?_
            refine D.off (ls' := [true, true, true, true, true, true, true, true, true, true, true, true, true, false, false]) 12 rfl rfl rfl rfl (by kernel_rfl) rfl ?_
            refine D.p (ls' := [true, true, true, true, true, true, true, true, true, true, true, true, true, true, false]) 13 rfl rfl rfl rfl (by kernel_rfl) rfl (Y.pickF rfl rfl) ?_
            refine D.p (ls' := [true, true, true, true, true, true, true, true, true, true, true, true, true, true, true]) 14 rfl rfl rfl rfl (by kernel_rfl) rfl (Y.asg rfl) ?_
            refine D.nil (by kernel_rfl) ?_
            refine N.nx ?_
            refine C.ret ?_
            obtain rfl := Option.some.inj H
            exact ret_ok (ks := [0]) rfl rfl (fun w h => ⟨rfl, (St.pick [] [_] h rfl)⟩)
        · refine D.as (k := 48) rfl (congrArg Value.bool (nt c56)) ?_
          refine D.off (ls' := [true, true, true, false, false, false, false, false, false, false, false, false, false, false, false]) 2 rfl rfl rfl rfl (by kernel_rfl) rfl ?_
          refine D.off (ls' := [true, true, true, true, false, false, false, false, false, false, false, false, false, false, false]) 3 rfl rfl rfl rfl (by kernel_rfl) rfl ?_
          refine D.off (ls' := [true, true, true, true, true, false, false, false, false, false, false, false, false, false, false]) 4 rfl rfl rfl rfl (by kernel_rfl) rfl ?_
          refine D.p (ls' := [true, true, true, true, true, true, false, false, false, false, false, false, false, false, false]) 5 rfl rfl rfl rfl (by kernel_rfl) rfl (Y.pickF rfl rfl) ?_
          refine D.p (ls' := [true, true, true, true, true, true, true, false, false, false, false, false, false, false, false]) 6 rfl rfl rfl rfl (by kernel_rfl) rfl (Y.mv rfl) ?_
          refine D.off (ls' := [true, true, true, true, true, true, true, true, false, false, false, false, false, false, false]) 7 rfl rfl rfl rfl (by kernel_rfl) rfl ?_
          refine D.off (ls' := [true, true, true, true, true, true, true, true, true, false, false, false, false, false, false]) 8 rfl rfl rfl rfl (by kernel_rfl) rfl ?_
          refine D.p (ls' := [true, true, true, true, true, true, true, true, true, true, false, false, false, false, false]) 9 rfl rfl rfl rfl (by kernel_rfl) rfl (Y.pickF rfl rfl) ?_
          refine D.p (ls' := [true, true, true, true, true, true, true, true, true, true, true, false, false, false, false]) 10 rfl rfl rfl rfl (by kernel_rfl) rfl (Y.mv rfl) ?_
          refine D.off (ls' := [true, true, true, true, true, true, true, true, true, true, true, true, false, false, false]) 11 rfl rfl rfl rfl (by kernel_rfl) rfl ?_
          refine D.off (ls' := [true, true, true, true, true, true, true, true, true, true, true, true, true, false, false]) 12 rfl rfl rfl rfl (by kernel_rfl) rfl ?_
          refine D.p (ls' := [true, true, true, true, true, true, true, true, true, true, true, true, true, true, false]) 13 rfl rfl rfl rfl (by kernel_rfl) rfl (Y.pickF rfl rfl) ?_
          refine D.p (ls' := [true, true, true, true, true, true, true, true, true, true, true, true, true, true, true]) 14 rfl rfl rfl rfl (by kernel_rfl) rfl (Y.asg rfl) ?_
          refine D.nil (by kernel_rfl) ?_
          refine N.nx ?_
          refine C.ret ?_
          obtain rfl := Option.some.inj H
          exact ret_ok (ks := [0]) rfl rfl (fun w h => ⟨rfl, (St.pick [] [_] h rfl)⟩)
/-! ### salvor/frame.rank: function 53 -/
def rank.f (a0 : Int) : Option (Int) := if a0 = 0 then (some 1) else (some 0)
theorem rank.calls {B : Nat} {w0 : World} {G : List HP} (a0 : Int) (r : Int) (H : rank.f a0 = some r) (w : World) (hw : St B w0 (G) w) :
    Calls Try.prog 53 [.int .i64 a0].toArray w (fun e w' => e = .returned (.int .i64 r) ∧ St B w0 (G) w') := by
  unfold rank.f at H
  refine calls_of (n := 5) (s := [(0, .int .i64 a0)]) Try.func53 rfl rfl rfl rfl ?_ hw
  refine C.rs ?_
  refine J.p rfl rfl rfl rfl (Y.asg rfl) ?_
  refine J.nx ?_
  refine C.seq ?_
  refine C.rs ?_
  refine J.p rfl rfl rfl rfl (Y.mv rfl) ?_
  refine J.p rfl rfl rfl rfl (Y.bin rfl rfl rfl) ?_
  refine J.nx ?_
  refine split2 H (fun c1 H => ?_) (fun c1 H => ?_)
  · refine C.condT (congrArg (fun b => some (Value.bool b)) (decide_eq_true c1)) ?_
    refine C.rs ?_
    refine J.p rfl rfl rfl rfl (Y.asg rfl) ?_
    refine J.nx ?_
    refine C.ret ?_
    obtain rfl := Option.some.inj H
    refine T.th ?_
    exact ret_ok (ks := [2]) rfl rfl (fun w h => ⟨rfl, h⟩)
  · refine C.condF (congrArg (fun b => some (Value.bool b)) (decide_eq_false c1)) ?_
    refine C.skip ?_
    refine N.nx ?_
    refine C.rs ?_
    refine J.p rfl rfl rfl rfl (Y.asg rfl) ?_
    refine J.nx ?_
    refine C.ret ?_
    obtain rfl := Option.some.inj H
    exact ret_ok (ks := [2]) rfl rfl (fun w h => ⟨rfl, h⟩)
/-! ### cmp.isNaN[int]: function 76 -/
def isNaNi.f (a0 : Int) : Option (Bool) := some (decide (a0 ≠ a0))
theorem isNaNi.calls {B : Nat} {w0 : World} {G : List HP} (a0 : Int) (r : Bool) (H : isNaNi.f a0 = some r) (w : World) (hw : St B w0 (G) w) :
    Calls Try.prog 76 [.int .i64 a0].toArray w (fun e w' => e = .returned (.bool r) ∧ St B w0 (G) w') := by
  unfold isNaNi.f at H
  refine calls_of (n := 6) (s := [(0, .int .i64 a0)]) Try.func76 rfl rfl rfl rfl ?_ hw
  refine C.rs ?_
  refine J.p rfl rfl rfl rfl (Y.asg rfl) ?_
  refine J.nx ?_
  refine C.rs ?_
  refine J.p rfl rfl rfl rfl (Y.mv rfl) ?_
  refine J.p rfl rfl rfl rfl (Y.mv rfl) ?_
  refine J.p rfl rfl rfl rfl (Y.bin rfl rfl rfl) ?_
  refine J.p rfl rfl rfl rfl (Y.asg rfl) ?_
  refine J.nx ?_
  refine C.ret ?_
  obtain rfl := Option.some.inj H
  exact ret_ok (ks := [2]) rfl rfl (fun w h => ⟨rfl, h⟩)
/-! ### cmp.isNaN[uint64]: function 77 -/
def isNaNu.f (a0 : Int) : Option (Bool) := some (decide (a0 ≠ a0))
theorem isNaNu.calls {B : Nat} {w0 : World} {G : List HP} (a0 : Int) (r : Bool) (H : isNaNu.f a0 = some r) (w : World) (hw : St B w0 (G) w) :
    Calls Try.prog 77 [.int .u64 a0].toArray w (fun e w' => e = .returned (.bool r) ∧ St B w0 (G) w') := by
  unfold isNaNu.f at H
  refine calls_of (n := 6) (s := [(0, .int .u64 a0)]) Try.func77 rfl rfl rfl rfl ?_ hw
  refine C.rs ?_
  refine J.p rfl rfl rfl rfl (Y.asg rfl) ?_
  refine J.nx ?_
  refine C.rs ?_
  refine J.p rfl rfl rfl rfl (Y.mv rfl) ?_
  refine J.p rfl rfl rfl rfl (Y.mv rfl) ?_
  refine J.p rfl rfl rfl rfl (Y.bin rfl rfl rfl) ?_
  refine J.p rfl rfl rfl rfl (Y.asg rfl) ?_
  refine J.nx ?_
  refine C.ret ?_
  obtain rfl := Option.some.inj H
  exact ret_ok (ks := [2]) rfl rfl (fun w h => ⟨rfl, h⟩)
/-! ### cmp.Compare[int]: function 52 -/
def cmpInt.f (a0 : Int) (a1 : Int) : Option (Int) := (isNaNi.f a0).bind fun t1 => (isNaNi.f a1).bind fun t3 => if t1 = true then (if t3 = true then (some 0) else (some (-1))) else (if t3 = true then (some 1) else (if a0 < a1 then (some (-1)) else (if a1 < a0 then (some 1) else (some 0))))
theorem cmpInt.calls {B : Nat} {w0 : World} {G : List HP} (a0 : Int) (a1 : Int) (r : Int) (H : cmpInt.f a0 a1 = some r) (w : World) (hw : St B w0 (G) w) :
    Calls Try.prog 52 [.int .i64 a0, .int .i64 a1].toArray w (fun e w' => e = .returned (.int .i64 r) ∧ St B w0 (G) w') := by
  unfold cmpInt.f at H
  refine calls_of (n := 20) (s := [(0, .int .i64 a0), (1, .int .i64 a1)]) Try.func52 rfl rfl rfl rfl ?_ hw
  refine C.rs ?_
  refine J.p rfl rfl rfl rfl (Y.asg rfl) ?_
  refine J.nx ?_
  refine C.rs ?_
  refine J.p rfl rfl rfl rfl (Y.mv rfl) ?_
  obtain ⟨t1, hC2, H⟩ := bind_some H
  refine J.call (us := []) (cap := []) rfl rfl rfl go76 (fun w hw => by have hcc := isNaNi.calls a0 t1 hC2 w hw; exact hcc) (fun e w1 h1 => ?_)
  obtain ⟨rfl, hw11⟩ := h1
  refine ⟨_, _, rfl, hw11, ?_⟩
  refine J.p rfl rfl rfl rfl (Y.asg rfl) ?_
  refine J.nx ?_
  refine C.rs ?_
  refine J.p rfl rfl rfl rfl (Y.mv rfl) ?_
  obtain ⟨t3, hC4, H⟩ := bind_some H
  refine J.call (us := []) (cap := []) rfl rfl rfl go76 (fun w hw => by have hcc := isNaNi.calls a1 t3 hC4 w hw; exact hcc) (fun e w1 h1 => ?_)
  obtain ⟨rfl, hw10⟩ := h1
  refine ⟨_, _, rfl, hw10, ?_⟩
  refine J.p rfl rfl rfl rfl (Y.asg rfl) ?_
  refine J.nx ?_
  refine C.seq ?_
  refine C.rs ?_
  refine J.p rfl rfl rfl rfl (Y.mv rfl) ?_
  refine J.nx ?_
  refine split2 H (fun c5 H => ?_) (fun c5 H => ?_)
  · refine C.condT (congrArg (fun b => some (Value.bool b)) (c5)) ?_
    refine C.seq ?_
    refine C.rs ?_
    refine J.p rfl rfl rfl rfl (Y.mv rfl) ?_
    refine J.nx ?_
    refine split2 H (fun c6 H => ?_) (fun c6 H => ?_)
    · refine C.condT (congrArg (fun b => some (Value.bool b)) (c6)) ?_
      refine C.rs ?_
      refine J.p rfl rfl rfl rfl (Y.asg rfl) ?_
      refine J.nx ?_
      refine C.ret ?_
      obtain rfl := Option.some.inj H
      refine T.th ?_
      refine T.th ?_
      exact ret_ok (ks := [4]) rfl rfl (fun w h => ⟨rfl, h⟩)
    · refine C.condF (congrArg (fun b => some (Value.bool b)) (nt c6)) ?_
      refine C.skip ?_
      refine N.nx ?_
      refine C.rs ?_
      refine J.p rfl rfl rfl rfl (Y.asg rfl) ?_
      refine J.nx ?_
      refine C.ret ?_
      obtain rfl := Option.some.inj H
      refine T.th ?_
      exact ret_ok (ks := [4]) rfl rfl (fun w h => ⟨rfl, h⟩)
  · refine C.condF (congrArg (fun b => some (Value.bool b)) (nt c5)) ?_
    refine C.skip ?_
    refine N.nx ?_
    refine C.seq ?_
    refine C.rs ?_
    refine J.p rfl rfl rfl rfl (Y.mv rfl) ?_
    refine J.nx ?_
    refine split2 H (fun c7 H => ?_) (fun c7 H => ?_)
    · refine C.condT (congrArg (fun b => some (Value.bool b)) (c7)) ?_
      refine C.rs ?_
      refine J.p rfl rfl rfl rfl (Y.asg rfl) ?_
      refine J.nx ?_
      refine C.ret ?_
      obtain rfl := Option.some.inj H
      refine T.th ?_
      exact ret_ok (ks := [4]) rfl rfl (fun w h => ⟨rfl, h⟩)
    · refine C.condF (congrArg (fun b => some (Value.bool b)) (nt c7)) ?_
      refine C.skip ?_
      refine N.nx ?_
      refine C.seq ?_
      refine C.rs ?_
      refine J.p rfl rfl rfl rfl (Y.mv rfl) ?_
      refine J.p rfl rfl rfl rfl (Y.mv rfl) ?_
      refine J.p rfl rfl rfl rfl (Y.bin rfl rfl rfl) ?_
      refine J.nx ?_
      refine split2 H (fun c8 H => ?_) (fun c8 H => ?_)
      · refine C.condT (congrArg (fun b => some (Value.bool b)) (decide_eq_true c8)) ?_
        refine C.rs ?_
        refine J.p rfl rfl rfl rfl (Y.asg rfl) ?_
        refine J.nx ?_
        refine C.ret ?_
        obtain rfl := Option.some.inj H
        refine T.th ?_
        exact ret_ok (ks := [4]) rfl rfl (fun w h => ⟨rfl, h⟩)
      · refine C.condF (congrArg (fun b => some (Value.bool b)) (decide_eq_false c8)) ?_
        refine C.skip ?_
        refine N.nx ?_
        refine C.seq ?_
        refine C.rs ?_
        refine J.p rfl rfl rfl rfl (Y.mv rfl) ?_
        refine J.p rfl rfl rfl rfl (Y.mv rfl) ?_
        refine J.p rfl rfl rfl rfl (Y.bin rfl rfl rfl) ?_
        refine J.nx ?_
        refine split2 H (fun c9 H => ?_) (fun c9 H => ?_)
        · refine C.condT (congrArg (fun b => some (Value.bool b)) (decide_eq_true c9)) ?_
          refine C.rs ?_
          refine J.p rfl rfl rfl rfl (Y.asg rfl) ?_
          refine J.nx ?_
          refine C.ret ?_
          obtain rfl := Option.some.inj H
          refine T.th ?_
          exact ret_ok (ks := [4]) rfl rfl (fun w h => ⟨rfl, h⟩)
        · refine C.condF (congrArg (fun b => some (Value.bool b)) (decide_eq_false c9)) ?_
          refine C.skip ?_
          refine N.nx ?_
          refine C.rs ?_
          refine J.p rfl rfl rfl rfl (Y.asg rfl) ?_
          refine J.nx ?_
          refine C.ret ?_
          obtain rfl := Option.some.inj H
          exact ret_ok (ks := [4]) rfl rfl (fun w h => ⟨rfl, h⟩)
/-! ### cmp.Compare[uint64]: function 55 -/
def cmpU64.f (a0 : Int) (a1 : Int) : Option (Int) := (isNaNu.f a0).bind fun t1 => (isNaNu.f a1).bind fun t3 => if t1 = true then (if t3 = true then (some 0) else (some (-1))) else (if t3 = true then (some 1) else (if a0 < a1 then (some (-1)) else (if a1 < a0 then (some 1) else (some 0))))
theorem cmpU64.calls {B : Nat} {w0 : World} {G : List HP} (a0 : Int) (a1 : Int) (r : Int) (H : cmpU64.f a0 a1 = some r) (w : World) (hw : St B w0 (G) w) :
    Calls Try.prog 55 [.int .u64 a0, .int .u64 a1].toArray w (fun e w' => e = .returned (.int .i64 r) ∧ St B w0 (G) w') := by
  unfold cmpU64.f at H
  refine calls_of (n := 20) (s := [(0, .int .u64 a0), (1, .int .u64 a1)]) Try.func55 rfl rfl rfl rfl ?_ hw
  refine C.rs ?_
  refine J.p rfl rfl rfl rfl (Y.asg rfl) ?_
  refine J.nx ?_
  refine C.rs ?_
  refine J.p rfl rfl rfl rfl (Y.mv rfl) ?_
  obtain ⟨t1, hC2, H⟩ := bind_some H
  refine J.call (us := []) (cap := []) rfl rfl rfl go77 (fun w hw => by have hcc := isNaNu.calls a0 t1 hC2 w hw; exact hcc) (fun e w1 h1 => ?_)
  obtain ⟨rfl, hw11⟩ := h1
  refine ⟨_, _, rfl, hw11, ?_⟩
  refine J.p rfl rfl rfl rfl (Y.asg rfl) ?_
  refine J.nx ?_
  refine C.rs ?_
  refine J.p rfl rfl rfl rfl (Y.mv rfl) ?_
  obtain ⟨t3, hC4, H⟩ := bind_some H
  refine J.call (us := []) (cap := []) rfl rfl rfl go77 (fun w hw => by have hcc := isNaNu.calls a1 t3 hC4 w hw; exact hcc) (fun e w1 h1 => ?_)
  obtain ⟨rfl, hw10⟩ := h1
  refine ⟨_, _, rfl, hw10, ?_⟩
  refine J.p rfl rfl rfl rfl (Y.asg rfl) ?_
  refine J.nx ?_
  refine C.seq ?_
  refine C.rs ?_
  refine J.p rfl rfl rfl rfl (Y.mv rfl) ?_
  refine J.nx ?_
  refine split2 H (fun c5 H => ?_) (fun c5 H => ?_)
  · refine C.condT (congrArg (fun b => some (Value.bool b)) (c5)) ?_
    refine C.seq ?_
    refine C.rs ?_
    refine J.p rfl rfl rfl rfl (Y.mv rfl) ?_
    refine J.nx ?_
    refine split2 H (fun c6 H => ?_) (fun c6 H => ?_)
    · refine C.condT (congrArg (fun b => some (Value.bool b)) (c6)) ?_
      refine C.rs ?_
      refine J.p rfl rfl rfl rfl (Y.asg rfl) ?_
      refine J.nx ?_
      refine C.ret ?_
      obtain rfl := Option.some.inj H
      refine T.th ?_
      refine T.th ?_
      exact ret_ok (ks := [4]) rfl rfl (fun w h => ⟨rfl, h⟩)
    · refine C.condF (congrArg (fun b => some (Value.bool b)) (nt c6)) ?_
      refine C.skip ?_
      refine N.nx ?_
      refine C.rs ?_
      refine J.p rfl rfl rfl rfl (Y.asg rfl) ?_
      refine J.nx ?_
      refine C.ret ?_
      obtain rfl := Option.some.inj H
      refine T.th ?_
      exact ret_ok (ks := [4]) rfl rfl (fun w h => ⟨rfl, h⟩)
  · refine C.condF (congrArg (fun b => some (Value.bool b)) (nt c5)) ?_
    refine C.skip ?_
    refine N.nx ?_
    refine C.seq ?_
    refine C.rs ?_
    refine J.p rfl rfl rfl rfl (Y.mv rfl) ?_
    refine J.nx ?_
    refine split2 H (fun c7 H => ?_) (fun c7 H => ?_)
    · refine C.condT (congrArg (fun b => some (Value.bool b)) (c7)) ?_
      refine C.rs ?_
      refine J.p rfl rfl rfl rfl (Y.asg rfl) ?_
      refine J.nx ?_
      refine C.ret ?_
      obtain rfl := Option.some.inj H
      refine T.th ?_
      exact ret_ok (ks := [4]) rfl rfl (fun w h => ⟨rfl, h⟩)
    · refine C.condF (congrArg (fun b => some (Value.bool b)) (nt c7)) ?_
      refine C.skip ?_
      refine N.nx ?_
      refine C.seq ?_
      refine C.rs ?_
      refine J.p rfl rfl rfl rfl (Y.mv rfl) ?_
      refine J.p rfl rfl rfl rfl (Y.mv rfl) ?_
      refine J.p rfl rfl rfl rfl (Y.bin rfl rfl rfl) ?_
      refine J.nx ?_
      refine split2 H (fun c8 H => ?_) (fun c8 H => ?_)
      · refine C.condT (congrArg (fun b => some (Value.bool b)) (decide_eq_true c8)) ?_
        refine C.rs ?_
        refine J.p rfl rfl rfl rfl (Y.asg rfl) ?_
        refine J.nx ?_
        refine C.ret ?_
        obtain rfl := Option.some.inj H
        refine T.th ?_
        exact ret_ok (ks := [4]) rfl rfl (fun w h => ⟨rfl, h⟩)
      · refine C.condF (congrArg (fun b => some (Value.bool b)) (decide_eq_false c8)) ?_
        refine C.skip ?_
        refine N.nx ?_
        refine C.seq ?_
        refine C.rs ?_
        refine J.p rfl rfl rfl rfl (Y.mv rfl) ?_
        refine J.p rfl rfl rfl rfl (Y.mv rfl) ?_
        refine J.p rfl rfl rfl rfl (Y.bin rfl rfl rfl) ?_
        refine J.nx ?_
        refine split2 H (fun c9 H => ?_) (fun c9 H => ?_)
        · refine C.condT (congrArg (fun b => some (Value.bool b)) (decide_eq_true c9)) ?_
          refine C.rs ?_
          refine J.p rfl rfl rfl rfl (Y.asg rfl) ?_
          refine J.nx ?_
          refine C.ret ?_
          obtain rfl := Option.some.inj H
          refine T.th ?_
          exact ret_ok (ks := [4]) rfl rfl (fun w h => ⟨rfl, h⟩)
        · refine C.condF (congrArg (fun b => some (Value.bool b)) (decide_eq_false c9)) ?_
          refine C.skip ?_
          refine N.nx ?_
          refine C.rs ?_
          refine J.p rfl rfl rfl rfl (Y.asg rfl) ?_
          refine J.nx ?_
          refine C.ret ?_
          obtain rfl := Option.some.inj H
          exact ret_ok (ks := [4]) rfl rfl (fun w h => ⟨rfl, h⟩)
/-! ### cmp.Or[int]: function 54 -/
def cmpOr.l1 (a0 : List Int) : Nat → (Int) → Option ((Int) ⊕ (Unit))
  | 0, _ => none
  | k + 1, i26 => if i26 < (a0.length : Int) then (gd ((0 : Int) ≤ i26 ∧ i26 < (a0.length : Int)) (if (rd a0 i26) ≠ 0 then (some (.inl (rd a0 i26))) else (cmpOr.l1 a0 k (IntKind.wrap .i64 (i26 + 1))))) else (some (.inr ()))
def cmpOr.f (K : Nat) (a0 : List Int) : Option (Int) := thn (cmpOr.l1 a0 K 0) fun o13 => some 0
theorem cmpOr.calls {B : Nat} {w0 : World} {G : List HP} (K : Nat) (a0 : List Int) (Aa0 : Option Addr) (ca0 : Nat) (ha0 : RdG B w0 G Aa0 (a0.map (Value.int .i64))) (ka0 : a0.length ≤ ca0) (r : Int) (H : cmpOr.f K a0 = some r) (w : World) (hw : St B w0 (G) w) :
    Calls Try.prog 54 [.slice Aa0 a0.length ca0].toArray w (fun e w' => e = .returned (.int .i64 r) ∧ St B w0 (G) w') := by
  unfold cmpOr.f at H
  refine calls_of (n := 18) (s := [(0, .slice Aa0 a0.length ca0)]) Try.func54 rfl rfl rfl rfl ?_ hw
  refine C.rs ?_
  refine J.p rfl rfl rfl rfl (Y.asg rfl) ?_
  refine J.nx ?_
  refine C.rs ?_
  refine J.p rfl rfl rfl rfl (Y.asg rfl) ?_
  refine J.nx ?_
  refine C.seq ?_
  refine C.rs ?_
  refine J.p rfl rfl rfl rfl (Y.mv rfl) ?_
  refine J.p rfl rfl rfl rfl (Y.lenS Try.underlying116 rfl) ?_
  refine J.p rfl rfl rfl rfl (Y.mv rfl) ?_
  refine J.nx ?_
  refine C.joinNR H (fun (o13 : Unit) (j14 : Unit) => [(3, .int .i64 0)]) (fun (o13 : Unit) (j14 : Unit) => G) (fun (o13 : Unit) (j14 : Unit) => True) (fun o11 H HK12 => ?_) (fun o13 j14 H _ => ?_)
  · refine C.blk ?_
    refine C.loop (fun (i : Nat × (Int) × (Unit)) => [(3, .int .i64 0), (6, .slice Aa0 a0.length ca0), (7, .int .i64 (a0.length : Int)), (8, .int .i64 i.2.1)]) (fun (i : Nat × (Int) × (Unit)) => G) (fun (i : Nat × (Int) × (Unit)) => cmpOr.l1 a0 i.1 i.2.1 = some o11 ∧ (True)) (fun i => i.1) (K, 0, ()) ⟨H, trivial⟩ (by exact ⟨rfl, rfl, rfl, rfl, trivial⟩) (by exact fun w h => h) ?_
    rintro ⟨k31, i26, j27⟩ ⟨H, _⟩
    replace H : cmpOr.l1 a0 k31 i26 = some o11 := H
    obtain ⟨k25, rfl⟩ : ∃ m, k31 = m + 1 := by cases k31 with | zero => exact absurd H (by simp [cmpOr.l1]) | succ m => exact ⟨m, rfl⟩
    rw [cmpOr.l1] at H
    refine C.at (s' := [(3, .int .i64 0), (6, .slice Aa0 a0.length ca0), (7, .int .i64 (a0.length : Int)), (8, .int .i64 i26)]) (G' := G) rfl rfl ?_
    refine C.rs ?_
    refine J.p rfl rfl rfl rfl (Y.bin rfl rfl rfl) ?_
    refine J.nx ?_
    refine C.seq ?_
    refine split2 H (fun c28 H => ?_) (fun c28 H => ?_)
    · refine C.condT (congrArg (fun b => some (Value.bool b)) (decide_eq_true c28)) ?_
      refine C.skip ?_
      refine N.nx ?_
      refine C.seq ?_
      refine C.blk ?_
      refine C.rs ?_
      obtain ⟨p29, H⟩ := gd_some H
      refine J.el rfl rfl rfl Try.underlying116 ti3 Try.underlying3 rfl rfl rfl p29 ha0 ?_
      refine J.p rfl rfl rfl rfl (Y.asg rfl) ?_
      refine J.nx ?_
      refine C.rs ?_
      refine J.p rfl rfl rfl rfl (Y.mv rfl) ?_
      refine J.p rfl rfl rfl rfl (Y.mv rfl) ?_
      refine J.p rfl rfl rfl rfl (Y.bin rfl rfl rfl) ?_
      refine J.nx ?_
      refine split2 H (fun c30 H => ?_) (fun c30 H => ?_)
      · refine C.condT (congrArg (fun b => some (Value.bool b)) (decide_eq_true c30)) ?_
        refine C.rs ?_
        refine J.p rfl rfl rfl rfl (Y.mv rfl) ?_
        refine J.p rfl rfl rfl rfl (Y.asg rfl) ?_
        refine J.nx ?_
        refine C.ret ?_
        obtain rfl := Option.some.inj H
        obtain rfl := fin_inl HK12
        refine T.ib ?_
        refine T.th ?_
        refine T.th ?_
        refine T.ib ?_
        refine T.th ?_
        refine T.th ?_
        exact ret_ok (ks := [2]) rfl rfl (fun w h => ⟨rfl, h⟩)
      · refine C.condF (congrArg (fun b => some (Value.bool b)) (decide_eq_false c30)) ?_
        refine C.skip ?_
        refine N.ib ?_
        refine N.nx ?_
        refine C.reg ?_
        refine J.p rfl rfl rfl rfl (Y.bin rfl rfl rfl) ?_
        refine J.p rfl rfl rfl rfl (Y.mv rfl) ?_
        refine J.nil ?_
        exact N.again (k25, IntKind.wrap .i64 (i26 + 1), ()) ⟨H, trivial⟩ (Nat.lt_succ_self _) (by exact ⟨rfl, rfl, rfl, rfl, trivial⟩) (by exact fun w h => h)
    · refine C.condF (congrArg (fun b => some (Value.bool b)) (decide_eq_false c28)) ?_
      refine C.exit ?_
      refine X.th ?_
      refine X.th ?_
      refine X.hit ?_
      obtain rfl := Option.some.inj H
      exact N.meet ((), ()) ⟨fin_inr HK12, trivial⟩ (by exact ⟨rfl, trivial⟩) (by exact fun w h => h)
  · refine N.at (s' := [(3, .int .i64 0)]) (G' := G) rfl rfl ?_
    refine N.nx ?_
    refine C.rs ?_
    refine J.p rfl rfl rfl rfl (Y.mv rfl) ?_
    refine J.p rfl rfl rfl rfl (Y.asg rfl) ?_
    refine J.nx ?_
    refine C.ret ?_
    obtain rfl := Option.some.inj H
    exact ret_ok (ks := [2]) rfl rfl (fun w h => ⟨rfl, h⟩)
/-! ### salvor/salvorref4.Compare: function 28 -/
def rCompare.l1 (t7 : (List Int) × Int) (t14 : (List Int) × Int) : Nat → (Int) → Option ((Int) ⊕ (Unit))
  | 0, _ => none
  | k + 1, i131 => (if i131 < (t7.1.length : Int) then (some (decide (i131 < (t14.1.length : Int)))) else (some false)).bind fun o134 => if o134 = true then (gd ((0 : Int) ≤ i131 ∧ i131 < (t7.1.length : Int)) (gd ((0 : Int) ≤ i131 ∧ i131 < (t7.1.length : Int)) (gd ((0 : Int) ≤ i131 ∧ i131 < (t14.1.length : Int)) (gd ((0 : Int) ≤ i131 ∧ i131 < (t14.1.length : Int)) (if (rd t7.1 i131) < (rd t14.1 i131) then (some (.inl (-1))) else (gd ((0 : Int) ≤ i131 ∧ i131 < (t7.1.length : Int)) (gd ((0 : Int) ≤ i131 ∧ i131 < (t7.1.length : Int)) (gd ((0 : Int) ≤ i131 ∧ i131 < (t14.1.length : Int)) (gd ((0 : Int) ≤ i131 ∧ i131 < (t14.1.length : Int)) (if (rd t14.1 i131) < (rd t7.1 i131) then (some (.inl (1))) else (rCompare.l1 t7 t14 k (IntKind.wrap .i64 (i131 + 1))))))))))))) else (some (.inr ()))
def rCompare.f (K : Nat) (a0_0 : Int) (a0_1 : Int) (a0_2 : ByteArray) (a0_3 : ByteArray) (a1_0 : Int) (a1_1 : Int) (a1_2 : ByteArray) (a1_3 : ByteArray) : Option (Int) := (rOf.f a0_0 a0_1 a0_2 a0_3).bind fun t5 => (rBody.f K t5.1 t5.2.1 t5.2.2.1 t5.2.2.2.1 t5.2.2.2.2.1 t5.2.2.2.2.2.1 t5.2.2.2.2.2.2.1 t5.2.2.2.2.2.2.2.1 t5.2.2.2.2.2.2.2.2.1 t5.2.2.2.2.2.2.2.2.2.1 t5.2.2.2.2.2.2.2.2.2.2.1 t5.2.2.2.2.2.2.2.2.2.2.2.1 t5.2.2.2.2.2.2.2.2.2.2.2.2.1 t5.2.2.2.2.2.2.2.2.2.2.2.2.2).bind fun t7 => (rOf.f a1_0 a1_1 a1_2 a1_3).bind fun t12 => (rBody.f K t12.1 t12.2.1 t12.2.2.1 t12.2.2.2.1 t12.2.2.2.2.1 t12.2.2.2.2.2.1 t12.2.2.2.2.2.2.1 t12.2.2.2.2.2.2.2.1 t12.2.2.2.2.2.2.2.2.1 t12.2.2.2.2.2.2.2.2.2.1 t12.2.2.2.2.2.2.2.2.2.2.1 t12.2.2.2.2.2.2.2.2.2.2.2.1 t12.2.2.2.2.2.2.2.2.2.2.2.2.1 t12.2.2.2.2.2.2.2.2.2.2.2.2.2).bind fun t14 => (if t7.2 ≠ 0 then (some (decide (t14.2 ≠ 0))) else (some false)).bind fun o20 => if o20 = true then (some 0) else (if t7.2 ≠ 0 then (some (-1)) else (if t14.2 ≠ 0 then (some 1) else (if a0_0 < a1_0 then (some (-1)) else (if a1_0 < a0_0 then (some 1) else (thn (rCompare.l1 t7 t14 K 0) fun o80 => if (t7.1.length : Int) < (t14.1.length : Int) then (some (-1)) else (if (t14.1.length : Int) < (t7.1.length : Int) then (some 1) else (some 0)))))))
theorem rCompare.calls {B : Nat} {w0 : World} {G : List HP} (K : Nat) (a0_0 : Int) (a0_1 : Int) (a0_2 : ByteArray) (a0_3 : ByteArray) (a1_0 : Int) (a1_1 : Int) (a1_2 : ByteArray) (a1_3 : ByteArray) (r : Int) (H : rCompare.f K a0_0 a0_1 a0_2 a0_3 a1_0 a1_1 a1_2 a1_3 = some r) (w : World) (hw : St B w0 (G) w) :
    Calls Try.prog 28 [.agg #[.int .u64 a0_0, .int .i64 a0_1, .string a0_2, .string a0_3], .agg #[.int .u64 a1_0, .int .i64 a1_1, .string a1_2, .string a1_3]].toArray w (fun e w' => e = .returned (.int .i64 r) ∧ St B w0 (G) w') := by
  unfold rCompare.f at H
  refine calls_of (n := 89) (s := [(0, .agg #[.int .u64 a0_0, .int .i64 a0_1, .string a0_2, .string a0_3]), (1, .agg #[.int .u64 a1_0, .int .i64 a1_1, .string a1_2, .string a1_3])]) Try.func28 rfl rfl rfl rfl ?_ hw
  refine C.rs ?_
  refine J.box (L := [.int .u64 a0_0, .int .i64 a0_1, .string a0_2, .string a0_3]) rfl rfl rfl (fun g1 => ?_)
  refine J.box (L := [.int .u64 a1_0, .int .i64 a1_1, .string a1_2, .string a1_3]) rfl rfl rfl (fun g3 => ?_)
  refine J.p rfl rfl rfl rfl (Y.asg rfl) ?_
  refine J.nx ?_
  refine C.rs ?_
  refine J.r rfl rfl rfl rfl (Y.ldCA (us := [.int .u64 a0_0, .int .i64 a0_1, .string a0_2, .string a0_3]) 1 Try.underlying27 rfl ti27 rfl rfl rfl rfl) ?_
  obtain ⟨t5, hC6, H⟩ := bind_some H
  refine J.call (us := []) (cap := []) rfl rfl rfl go57 (fun w hw => by have hcc := rOf.calls a0_0 a0_1 a0_2 a0_3 t5 hC6 w hw; exact hcc) (fun e w1 h1 => ?_)
  obtain ⟨rfl, hw164⟩ := h1
  refine ⟨_, _, rfl, hw164, ?_⟩
  obtain ⟨t7, hC8, H⟩ := bind_some H
  refine J.call (us := []) (cap := []) rfl rfl rfl go22 (fun w hw => by have hcc := rBody.calls K t5.1 t5.2.1 t5.2.2.1 t5.2.2.2.1 t5.2.2.2.2.1 t5.2.2.2.2.2.1 t5.2.2.2.2.2.2.1 t5.2.2.2.2.2.2.2.1 t5.2.2.2.2.2.2.2.2.1 t5.2.2.2.2.2.2.2.2.2.1 t5.2.2.2.2.2.2.2.2.2.2.1 t5.2.2.2.2.2.2.2.2.2.2.2.1 t5.2.2.2.2.2.2.2.2.2.2.2.2.1 t5.2.2.2.2.2.2.2.2.2.2.2.2.2 t7 hC8 w hw; exact hcc) (fun e w1 h1 => ?_)
  obtain ⟨A9, c10, rfl, hw163⟩ := h1
  refine ⟨_, _, rfl, hw163, ?_⟩
  refine J.p rfl rfl rfl rfl (Y.mv rfl) ?_
  refine J.p rfl rfl rfl rfl (Y.ext rfl rfl) ?_
  refine J.p rfl rfl rfl rfl (Y.ext rfl rfl) ?_
  refine J.p rfl rfl rfl rfl (Y.asg rfl) ?_
  refine J.p rfl rfl rfl rfl (Y.asg rfl) ?_
  refine J.nx ?_
  refine C.rs ?_
  refine J.r rfl rfl rfl rfl (Y.ldCA (us := [.int .u64 a1_0, .int .i64 a1_1, .string a1_2, .string a1_3]) 1 Try.underlying27 rfl ti27 rfl rfl rfl rfl) ?_
  obtain ⟨t12, hC13, H⟩ := bind_some H
  refine J.call (us := []) (cap := []) rfl rfl rfl go57 (fun w hw => by have hcc := rOf.calls a1_0 a1_1 a1_2 a1_3 t12 hC13 w hw; exact hcc) (fun e w1 h1 => ?_)
  obtain ⟨rfl, hw162⟩ := h1
  refine ⟨_, _, rfl, hw162, ?_⟩
  obtain ⟨t14, hC15, H⟩ := bind_some H
  refine J.call (us := []) (cap := []) rfl rfl rfl go22 (fun w hw => by have hcc := rBody.calls K t12.1 t12.2.1 t12.2.2.1 t12.2.2.2.1 t12.2.2.2.2.1 t12.2.2.2.2.2.1 t12.2.2.2.2.2.2.1 t12.2.2.2.2.2.2.2.1 t12.2.2.2.2.2.2.2.2.1 t12.2.2.2.2.2.2.2.2.2.1 t12.2.2.2.2.2.2.2.2.2.2.1 t12.2.2.2.2.2.2.2.2.2.2.2.1 t12.2.2.2.2.2.2.2.2.2.2.2.2.1 t12.2.2.2.2.2.2.2.2.2.2.2.2.2 t14 hC15 w hw; exact hcc) (fun e w1 h1 => ?_)
  obtain ⟨A16, c17, rfl, hw161⟩ := h1
  refine ⟨_, _, rfl, hw161, ?_⟩
  refine J.p rfl rfl rfl rfl (Y.mv rfl) ?_
  refine J.p rfl rfl rfl rfl (Y.ext rfl rfl) ?_
  refine J.p rfl rfl rfl rfl (Y.ext rfl rfl) ?_
  refine J.p rfl rfl rfl rfl (Y.asg rfl) ?_
  refine J.p rfl rfl rfl rfl (Y.asg rfl) ?_
  refine J.nx ?_
  refine C.seq ?_
  refine C.blk ?_
  refine C.rs ?_
  refine J.joinB H (fun (o20 : Bool) (j21 : Unit) => [(2, .pointer (some ⟨g1, 0, none⟩)), (3, .pointer (some ⟨g3, 0, none⟩)), (5, .slice A9 t7.1.length c10), (6, .int .i64 t7.2), (7, .slice A16 t14.1.length c17), (8, .int .i64 t14.2), (22, .bool o20)]) (fun (o20 : Bool) (j21 : Unit) => cells g1 27 [.int .u64 a0_0, .int .i64 a0_1, .string a0_2, .string a0_3] :: cells g3 27 [.int .u64 a1_0, .int .i64 a1_1, .string a1_2, .string a1_3] :: own 5 1 A9 c10 (t7.1.map (Value.int .u8)) :: own 5 1 A16 c17 (t14.1.map (Value.int .u8)) :: G) (fun (o20 : Bool) (j21 : Unit) => True) (fun o22 H HK23 => ?_) (fun o20 j21 H _ => ?_)
  · refine J.p rfl rfl rfl rfl (Y.mv rfl) ?_
    refine J.p rfl rfl rfl rfl (Y.bin rfl rfl rfl) ?_
    refine J.p rfl rfl rfl rfl (Y.mv rfl) ?_
    refine split2 H (fun c24 H => ?_) (fun c24 H => ?_)
    · refine J.as (k := 25) rfl (congrArg Value.bool (decide_eq_true c24)) ?_
      refine J.p rfl rfl rfl rfl (Y.mv rfl) ?_
      refine J.p rfl rfl rfl rfl (Y.bin rfl rfl rfl) ?_
      refine J.p rfl rfl rfl rfl (Y.pickT rfl rfl) ?_
      refine J.p rfl rfl rfl rfl (Y.asg rfl) ?_
      refine J.nil ?_
      obtain rfl := Option.some.inj H
      exact N.meet (decide (t14.2 ≠ 0), ()) ⟨HK23, trivial⟩ (by exact ⟨rfl, rfl, rfl, rfl, rfl, rfl, rfl, trivial⟩) (by exact fun w h => (St.pick [3, 2, 1, 0] [_, _, _, _] h rfl))
    · refine J.as (k := 25) rfl (congrArg Value.bool (decide_eq_false c24)) ?_
      refine J.skip rfl rfl ?_
      refine J.skip rfl rfl ?_
      refine J.p rfl rfl rfl rfl (Y.pickF rfl rfl) ?_
      refine J.p rfl rfl rfl rfl (Y.asg rfl) ?_
      refine J.nil ?_
      obtain rfl := Option.some.inj H
      exact N.meet (false, ()) ⟨HK23, trivial⟩ (by exact ⟨rfl, rfl, rfl, rfl, rfl, rfl, rfl, trivial⟩) (by exact fun w h => (St.pick [3, 2, 1, 0] [_, _, _, _] h rfl))
  · refine C.at (s' := [(2, .pointer (some ⟨g1, 0, none⟩)), (3, .pointer (some ⟨g3, 0, none⟩)), (5, .slice A9 t7.1.length c10), (6, .int .i64 t7.2), (7, .slice A16 t14.1.length c17), (8, .int .i64 t14.2), (22, .bool o20)]) (G' := cells g1 27 [.int .u64 a0_0, .int .i64 a0_1, .string a0_2, .string a0_3] :: cells g3 27 [.int .u64 a1_0, .int .i64 a1_1, .string a1_2, .string a1_3] :: own 5 1 A9 c10 (t7.1.map (Value.int .u8)) :: own 5 1 A16 c17 (t14.1.map (Value.int .u8)) :: G) rfl rfl ?_
    refine split2 H (fun c25 H => ?_) (fun c25 H => ?_)
    · refine C.condT (congrArg (fun b => some (Value.bool b)) (c25)) ?_
      refine C.rs ?_
      refine J.p rfl rfl rfl rfl (Y.asg rfl) ?_
      refine J.nx ?_
      refine C.ret ?_
      obtain rfl := Option.some.inj H
      refine T.ib ?_
      refine T.th ?_
      exact ret_ok (ks := [4]) rfl rfl (fun w h => ⟨rfl, (St.pick [] [_, _, _, _] h rfl)⟩)
    · refine C.condF (congrArg (fun b => some (Value.bool b)) (nt c25)) ?_
      refine C.rs ?_
      refine J.p rfl rfl rfl rfl (Y.mv rfl) ?_
      refine J.p rfl rfl rfl rfl (Y.bin rfl rfl rfl) ?_
      refine J.p rfl rfl rfl rfl (Y.asg rfl) ?_
      refine J.nx ?_
      refine split2 H (fun c26 H => ?_) (fun c26 H => ?_)
      · refine C.condT (congrArg (fun b => some (Value.bool b)) (decide_eq_true c26)) ?_
        refine C.rs ?_
        refine J.p rfl rfl rfl rfl (Y.asg rfl) ?_
        refine J.nx ?_
        refine C.ret ?_
        obtain rfl := Option.some.inj H
        refine T.ib ?_
        refine T.th ?_
        exact ret_ok (ks := [4]) rfl rfl (fun w h => ⟨rfl, (St.pick [] [_, _, _, _] h rfl)⟩)
      · refine C.condF (congrArg (fun b => some (Value.bool b)) (decide_eq_false c26)) ?_
        refine C.rs ?_
        refine J.p rfl rfl rfl rfl (Y.mv rfl) ?_
        refine J.p rfl rfl rfl rfl (Y.bin rfl rfl rfl) ?_
        refine J.p rfl rfl rfl rfl (Y.asg rfl) ?_
        refine J.nx ?_
        refine split2 H (fun c27 H => ?_) (fun c27 H => ?_)
        · refine C.condT (congrArg (fun b => some (Value.bool b)) (decide_eq_true c27)) ?_
          refine C.rs ?_
          refine J.p rfl rfl rfl rfl (Y.asg rfl) ?_
          refine J.nx ?_
          refine C.ret ?_
          obtain rfl := Option.some.inj H
          refine T.ib ?_
          refine T.th ?_
          exact ret_ok (ks := [4]) rfl rfl (fun w h => ⟨rfl, (St.pick [] [_, _, _, _] h rfl)⟩)
        · refine C.condF (congrArg (fun b => some (Value.bool b)) (decide_eq_false c27)) ?_
          refine C.rs ?_
          refine J.p rfl rfl rfl rfl (Y.fa0 fa27_0 rfl rfl) ?_
          refine J.r rfl rfl rfl rfl (Y.ldC 0 Try.underlying25 rfl rfl rfl rfl) ?_
          refine J.p rfl rfl rfl rfl (Y.fa0 fa27_0 rfl rfl) ?_
          refine J.r rfl rfl rfl rfl (Y.ldC 1 Try.underlying25 rfl rfl rfl rfl) ?_
          refine J.p rfl rfl rfl rfl (Y.bin rfl rfl rfl) ?_
          refine J.p rfl rfl rfl rfl (Y.asg rfl) ?_
          refine J.nx ?_
          refine split2 H (fun c28 H => ?_) (fun c28 H => ?_)
          · refine C.condT (congrArg (fun b => some (Value.bool b)) (decide_eq_true c28)) ?_
            refine C.rs ?_
            refine J.p rfl rfl rfl rfl (Y.asg rfl) ?_
            refine J.nx ?_
            refine C.ret ?_
            obtain rfl := Option.some.inj H
            refine T.ib ?_
            refine T.th ?_
            exact ret_ok (ks := [4]) rfl rfl (fun w h => ⟨rfl, (St.pick [] [_, _, _, _] h rfl)⟩)
          · refine C.condF (congrArg (fun b => some (Value.bool b)) (decide_eq_false c28)) ?_
            refine C.rs ?_
            refine J.p rfl rfl rfl rfl (Y.fa0 fa27_0 rfl rfl) ?_
            refine J.r rfl rfl rfl rfl (Y.ldC 0 Try.underlying25 rfl rfl rfl rfl) ?_
            refine J.p rfl rfl rfl rfl (Y.fa0 fa27_0 rfl rfl) ?_
            refine J.r rfl rfl rfl rfl (Y.ldC 1 Try.underlying25 rfl rfl rfl rfl) ?_
            refine J.p rfl rfl rfl rfl (Y.bin rfl rfl rfl) ?_
            refine J.p rfl rfl rfl rfl (Y.asg rfl) ?_
            refine J.nx ?_
            refine split2 H (fun c29 H => ?_) (fun c29 H => ?_)
            · refine C.condT (congrArg (fun b => some (Value.bool b)) (decide_eq_true c29)) ?_
              refine C.rs ?_
              refine J.p rfl rfl rfl rfl (Y.asg rfl) ?_
              refine J.nx ?_
              refine C.ret ?_
              obtain rfl := Option.some.inj H
              refine T.ib ?_
              refine T.th ?_
              exact ret_ok (ks := [4]) rfl rfl (fun w h => ⟨rfl, (St.pick [] [_, _, _, _] h rfl)⟩)
            · refine C.condF (congrArg (fun b => some (Value.bool b)) (decide_eq_false c29)) ?_
              refine C.skip ?_
              refine N.ib ?_
              refine N.nx ?_
              refine C.seq ?_
              refine C.rs ?_
              refine J.p rfl rfl rfl rfl (Y.asg rfl) ?_
              refine J.nx ?_
              refine C.joinNR H (fun (o80 : Unit) (j81 : Unit) => [(5, .slice A9 t7.1.length c10), (7, .slice A16 t14.1.length c17)]) (fun (o80 : Unit) (j81 : Unit) => own 5 1 A9 c10 (t7.1.map (Value.int .u8)) :: own 5 1 A16 c17 (t14.1.map (Value.int .u8)) :: G) (fun (o80 : Unit) (j81 : Unit) => True) (fun o78 H HK79 => ?_) (fun o80 j81 H _ => ?_)
              · refine C.blk ?_
                refine C.loop (fun (i : Nat × (Int) × (Unit)) => [(5, .slice A9 t7.1.length c10), (7, .slice A16 t14.1.length c17), (9, .int .i64 i.2.1)]) (fun (i : Nat × (Int) × (Unit)) => own 5 1 A9 c10 (t7.1.map (Value.int .u8)) :: own 5 1 A16 c17 (t14.1.map (Value.int .u8)) :: G) (fun (i : Nat × (Int) × (Unit)) => rCompare.l1 t7 t14 i.1 i.2.1 = some o78 ∧ (True)) (fun i => i.1) (K, 0, ()) ⟨H, trivial⟩ (by exact ⟨rfl, rfl, rfl, trivial⟩) (by exact fun w h => (St.pick [2, 3] [_, _, _, _] h rfl)) ?_
                rintro ⟨k158, i131, j132⟩ ⟨H, _⟩
                replace H : rCompare.l1 t7 t14 k158 i131 = some o78 := H
                obtain ⟨k130, rfl⟩ : ∃ m, k158 = m + 1 := by cases k158 with | zero => exact absurd H (by simp [rCompare.l1]) | succ m => exact ⟨m, rfl⟩
                rw [rCompare.l1] at H
                refine C.at (s' := [(5, .slice A9 t7.1.length c10), (7, .slice A16 t14.1.length c17), (9, .int .i64 i131)]) (G' := own 5 1 A9 c10 (t7.1.map (Value.int .u8)) :: own 5 1 A16 c17 (t14.1.map (Value.int .u8)) :: G) rfl rfl ?_
                refine C.seq ?_
                refine C.rs ?_
                refine J.joinB H (fun (o134 : Bool) (j135 : Unit) => [(5, .slice A9 t7.1.length c10), (7, .slice A16 t14.1.length c17), (9, .int .i64 i131), (56, .bool o134)]) (fun (o134 : Bool) (j135 : Unit) => own 5 1 A9 c10 (t7.1.map (Value.int .u8)) :: own 5 1 A16 c17 (t14.1.map (Value.int .u8)) :: G) (fun (o134 : Bool) (j135 : Unit) => True) (fun o136 H HK137 => ?_) (fun o134 j135 H _ => ?_)
                · refine J.p rfl rfl rfl rfl (Y.mv rfl) ?_
                  refine J.p rfl rfl rfl rfl (Y.mv rfl) ?_
                  refine J.p rfl rfl rfl rfl (Y.lenS Try.underlying22 rfl) ?_
                  refine J.p rfl rfl rfl rfl (Y.bin rfl rfl rfl) ?_
                  refine J.p rfl rfl rfl rfl (Y.mv rfl) ?_
                  refine split2 H (fun c138 H => ?_) (fun c138 H => ?_)
                  · refine J.as (k := 51) rfl (congrArg Value.bool (decide_eq_true c138)) ?_
                    refine J.p rfl rfl rfl rfl (Y.mv rfl) ?_
                    refine J.p rfl rfl rfl rfl (Y.mv rfl) ?_
                    refine J.p rfl rfl rfl rfl (Y.lenS Try.underlying22 rfl) ?_
                    refine J.p rfl rfl rfl rfl (Y.bin rfl rfl rfl) ?_
                    refine J.p rfl rfl rfl rfl (Y.pickT rfl rfl) ?_
                    refine J.nil ?_
                    obtain rfl := Option.some.inj H
                    exact N.meet (decide (i131 < (t14.1.length : Int)), ()) ⟨HK137, trivial⟩ (by exact ⟨rfl, rfl, rfl, rfl, trivial⟩) (by exact fun w h => h)
                  · refine J.as (k := 51) rfl (congrArg Value.bool (decide_eq_false c138)) ?_
                    refine J.skip rfl rfl ?_
                    refine J.skip rfl rfl ?_
                    refine J.skip rfl rfl ?_
                    refine J.skip rfl rfl ?_
                    refine J.p rfl rfl rfl rfl (Y.pickF rfl rfl) ?_
                    refine J.nil ?_
                    obtain rfl := Option.some.inj H
                    exact N.meet (false, ()) ⟨HK137, trivial⟩ (by exact ⟨rfl, rfl, rfl, rfl, trivial⟩) (by exact fun w h => h)
                · refine C.at (s' := [(5, .slice A9 t7.1.length c10), (7, .slice A16 t14.1.length c17), (9, .int .i64 i131), (56, .bool o134)]) (G' := own 5 1 A9 c10 (t7.1.map (Value.int .u8)) :: own 5 1 A16 c17 (t14.1.map (Value.int .u8)) :: G) rfl rfl ?_
                  refine split2 H (fun c139 H => ?_) (fun c139 H => ?_)
                  · refine C.condT (congrArg (fun b => some (Value.bool b)) (c139)) ?_
                    refine C.skip ?_
                    refine N.nx ?_
                    refine C.seq ?_
                    refine C.blk ?_
                    refine C.seq ?_
                    refine C.seq ?_
                    refine C.drawn (fuel := 9) (ls := [false, false, false, false, false, false, false, false, false]) [] (own 5 1 A9 c10 (t7.1.map (Value.int .u8)) :: own 5 1 A16 c17 (t14.1.map (Value.int .u8)) :: G) mx rfl rfl ?_
                    refine D.p (ls' := [true, false, false, false, false, false, false, false, false]) 0 rfl rfl rfl rfl (by kernel_rfl) rfl (Y.mv rfl) ?_
                    refine D.p (ls' := [true, true, false, false, false, false, false, false, false]) 1 rfl rfl rfl rfl (by kernel_rfl) rfl (Y.mv rfl) ?_
                    obtain ⟨p142, H⟩ := gd_some H
                    refine D.know ((RdG.own 0 rfl).some_ (j := Int.toNat i131) (by rw [List.length_map]; exact idx_lt p142)) (fun hh => ?_)
                    obtain ⟨a140, ha141⟩ := hh
                    refine D.p (ls' := [true, true, true, false, false, false, false, false, false]) 2 rfl rfl rfl rfl (by kernel_rfl) rfl (Y.ixa Try.underlying22 ti5 rfl rfl p142 ha141) ?_
                    obtain ⟨p143, H⟩ := gd_some H
                    refine D.r (ls' := [true, true, true, true, false, false, false, false, false]) 3 1 0 rfl rfl rfl rfl (by kernel_rfl) (by kernel_rfl) rfl rfl (Y.ldE Try.underlying5 rfl rfl ha141 p143 (RdG.own 0 rfl)) ?_
                    refine D.p (ls' := [true, true, true, true, true, false, false, false, false]) 4 rfl rfl rfl rfl (by kernel_rfl) rfl (Y.mv rfl) ?_
                    refine D.p (ls' := [true, true, true, true, true, true, false, false, false]) 5 rfl rfl rfl rfl (by kernel_rfl) rfl (Y.mv rfl) ?_
                    obtain ⟨p146, H⟩ := gd_some H
                    refine D.know ((RdG.own 1 rfl).some_ (j := Int.toNat i131) (by rw [List.length_map]; exact idx_lt p146)) (fun hh => ?_)
                    obtain ⟨a144, ha145⟩ := hh
                    refine D.p (ls' := [true, true, true, true, true, true, true, false, false]) 6 rfl rfl rfl rfl (by kernel_rfl) rfl (Y.ixa Try.underlying22 ti5 rfl rfl p146 ha145) ?_
                    obtain ⟨p147, H⟩ := gd_some H
                    refine D.r (ls' := [true, true, true, true, true, true, true, true, false]) 7 1 0 rfl rfl rfl rfl (by kernel_rfl) (by kernel_rfl) rfl rfl (Y.ldE Try.underlying5 rfl rfl ha145 p147 (RdG.own 1 rfl)) ?_
                    refine D.p (ls' := [true, true, true, true, true, true, true, true, true]) 8 rfl rfl rfl rfl (by kernel_rfl) rfl (Y.bin rfl rfl rfl) ?_
                    refine D.nil (by kernel_rfl) ?_
                    refine N.nx ?_
                    refine split2 H (fun c148 H => ?_) (fun c148 H => ?_)
                    · refine C.condT (congrArg (fun b => some (Value.bool b)) (decide_eq_true c148)) ?_
                      refine C.rs ?_
                      refine J.p rfl rfl rfl rfl (Y.asg rfl) ?_
                      refine J.nx ?_
                      refine C.ret ?_
                      obtain rfl := Option.some.inj H
                      obtain rfl := fin_inl HK79
                      refine T.th ?_
                      refine T.ib ?_
                      refine T.th ?_
                      refine T.th ?_
                      refine T.ib ?_
                      refine T.th ?_
                      refine T.th ?_
                      exact ret_ok (ks := [4]) rfl rfl (fun w h => ⟨rfl, (St.pick [] [_, _] h rfl)⟩)
                    · refine C.condF (congrArg (fun b => some (Value.bool b)) (decide_eq_false c148)) ?_
                      refine C.skip ?_
                      refine N.nx ?_
                      refine C.seq ?_
                      refine C.drawn (fuel := 9) (ls := [false, false, false, false, false, false, false, false, false]) [] (own 5 1 A9 c10 (t7.1.map (Value.int .u8)) :: own 5 1 A16 c17 (t14.1.map (Value.int .u8)) :: G) mx rfl rfl ?_
                      refine D.p (ls' := [true, false, false, false, false, false, false, false, false]) 0 rfl rfl rfl rfl (by kernel_rfl) rfl (Y.mv rfl) ?_
                      refine D.p (ls' := [true, true, false, false, false, false, false, false, false]) 1 rfl rfl rfl rfl (by kernel_rfl) rfl (Y.mv rfl) ?_
                      obtain ⟨p151, H⟩ := gd_some H
                      refine D.know ((RdG.own 0 rfl).some_ (j := Int.toNat i131) (by rw [List.length_map]; exact idx_lt p151)) (fun hh => ?_)
                      obtain ⟨a149, ha150⟩ := hh
                      refine D.p (ls' := [true, true, true, false, false, false, false, false, false]) 2 rfl rfl rfl rfl (by kernel_rfl) rfl (Y.ixa Try.underlying22 ti5 rfl rfl p151 ha150) ?_
                      obtain ⟨p152, H⟩ := gd_some H
                      refine D.r (ls' := [true, true, true, true, false, false, false, false, false]) 3 1 0 rfl rfl rfl rfl (by kernel_rfl) (by kernel_rfl) rfl rfl (Y.ldE Try.underlying5 rfl rfl ha150 p152 (RdG.own 0 rfl)) ?_
                      refine D.p (ls' := [true, true, true, true, true, false, false, false, false]) 4 rfl rfl rfl rfl (by kernel_rfl) rfl (Y.mv rfl) ?_
                      refine D.p (ls' := [true, true, true, true, true, true, false, false, false]) 5 rfl rfl rfl rfl (by kernel_rfl) rfl (Y.mv rfl) ?_
                      obtain ⟨p155, H⟩ := gd_some H
                      refine D.know ((RdG.own 1 rfl).some_ (j := Int.toNat i131) (by rw [List.length_map]; exact idx_lt p155)) (fun hh => ?_)
                      obtain ⟨a153, ha154⟩ := hh
                      refine D.p (ls' := [true, true, true, true, true, true, true, false, false]) 6 rfl rfl rfl rfl (by kernel_rfl) rfl (Y.ixa Try.underlying22 ti5 rfl rfl p155 ha154) ?_
                      obtain ⟨p156, H⟩ := gd_some H
                      refine D.r (ls' := [true, true, true, true, true, true, true, true, false]) 7 1 0 rfl rfl rfl rfl (by kernel_rfl) (by kernel_rfl) rfl rfl (Y.ldE Try.underlying5 rfl rfl ha154 p156 (RdG.own 1 rfl)) ?_
                      refine D.p (ls' := [true, true, true, true, true, true, true, true, true]) 8 rfl rfl rfl rfl (by kernel_rfl) rfl (Y.bin rfl rfl rfl) ?_
                      refine D.nil (by kernel_rfl) ?_
                      refine N.nx ?_
                      refine split2 H (fun c157 H => ?_) (fun c157 H => ?_)
                      · refine C.condT (congrArg (fun b => some (Value.bool b)) (decide_eq_true c157)) ?_
                        refine C.rs ?_
                        refine J.p rfl rfl rfl rfl (Y.asg rfl) ?_
                        refine J.nx ?_
                        refine C.ret ?_
                        obtain rfl := Option.some.inj H
                        obtain rfl := fin_inl HK79
                        refine T.ib ?_
                        refine T.th ?_
                        refine T.th ?_
                        refine T.ib ?_
                        refine T.th ?_
                        refine T.th ?_
                        exact ret_ok (ks := [4]) rfl rfl (fun w h => ⟨rfl, (St.pick [] [_, _] h rfl)⟩)
                      · refine C.condF (congrArg (fun b => some (Value.bool b)) (decide_eq_false c157)) ?_
                        refine C.skip ?_
                        refine N.ib ?_
                        refine N.nx ?_
                        refine C.reg ?_
                        refine J.p rfl rfl rfl rfl (Y.mv rfl) ?_
                        refine J.p rfl rfl rfl rfl (Y.bin rfl rfl rfl) ?_
                        refine J.p rfl rfl rfl rfl (Y.asg rfl) ?_
                        refine J.nil ?_
                        exact N.again (k130, IntKind.wrap .i64 (i131 + 1), ()) ⟨H, trivial⟩ (Nat.lt_succ_self _) (by exact ⟨rfl, rfl, rfl, trivial⟩) (by exact fun w h => h)
                  · refine C.condF (congrArg (fun b => some (Value.bool b)) (nt c139)) ?_
                    refine C.exit ?_
                    refine X.th ?_
                    refine X.th ?_
                    refine X.hit ?_
                    obtain rfl := Option.some.inj H
                    exact N.meet ((), ()) ⟨fin_inr HK79, trivial⟩ (by exact ⟨rfl, rfl, trivial⟩) (by exact fun w h => h)
              · refine N.at (s' := [(5, .slice A9 t7.1.length c10), (7, .slice A16 t14.1.length c17)]) (G' := own 5 1 A9 c10 (t7.1.map (Value.int .u8)) :: own 5 1 A16 c17 (t14.1.map (Value.int .u8)) :: G) rfl rfl ?_
                refine N.nx ?_
                refine C.seq ?_
                refine C.blk ?_
                refine C.rs ?_
                refine J.p rfl rfl rfl rfl (Y.mv rfl) ?_
                refine J.p rfl rfl rfl rfl (Y.lenS Try.underlying22 rfl) ?_
                refine J.p rfl rfl rfl rfl (Y.mv rfl) ?_
                refine J.p rfl rfl rfl rfl (Y.lenS Try.underlying22 rfl) ?_
                refine J.p rfl rfl rfl rfl (Y.bin rfl rfl rfl) ?_
                refine J.p rfl rfl rfl rfl (Y.asg rfl) ?_
                refine J.nx ?_
                refine split2 H (fun c159 H => ?_) (fun c159 H => ?_)
                · refine C.condT (congrArg (fun b => some (Value.bool b)) (decide_eq_true c159)) ?_
                  refine C.rs ?_
                  refine J.p rfl rfl rfl rfl (Y.asg rfl) ?_
                  refine J.nx ?_
                  refine C.ret ?_
                  obtain rfl := Option.some.inj H
                  refine T.ib ?_
                  refine T.th ?_
                  exact ret_ok (ks := [4]) rfl rfl (fun w h => ⟨rfl, (St.pick [] [_, _] h rfl)⟩)
                · refine C.condF (congrArg (fun b => some (Value.bool b)) (decide_eq_false c159)) ?_
                  refine C.rs ?_
                  refine J.p rfl rfl rfl rfl (Y.mv rfl) ?_
                  refine J.p rfl rfl rfl rfl (Y.lenS Try.underlying22 rfl) ?_
                  refine J.p rfl rfl rfl rfl (Y.mv rfl) ?_
                  refine J.p rfl rfl rfl rfl (Y.lenS Try.underlying22 rfl) ?_
                  refine J.p rfl rfl rfl rfl (Y.bin rfl rfl rfl) ?_
                  refine J.p rfl rfl rfl rfl (Y.asg rfl) ?_
                  refine J.nx ?_
                  refine split2 H (fun c160 H => ?_) (fun c160 H => ?_)
                  · refine C.condT (congrArg (fun b => some (Value.bool b)) (decide_eq_true c160)) ?_
                    refine C.rs ?_
                    refine J.p rfl rfl rfl rfl (Y.asg rfl) ?_
                    refine J.nx ?_
                    refine C.ret ?_
                    obtain rfl := Option.some.inj H
                    refine T.ib ?_
                    refine T.th ?_
                    exact ret_ok (ks := [4]) rfl rfl (fun w h => ⟨rfl, (St.pick [] [_, _] h rfl)⟩)
                  · refine C.condF (congrArg (fun b => some (Value.bool b)) (decide_eq_false c160)) ?_
                    refine C.skip ?_
                    refine N.ib ?_
                    refine N.nx ?_
                    refine C.rs ?_
                    refine J.p rfl rfl rfl rfl (Y.asg rfl) ?_
                    refine J.nx ?_
                    refine C.ret ?_
                    obtain rfl := Option.some.inj H
                    exact ret_ok (ks := [4]) rfl rfl (fun w h => ⟨rfl, (St.pick [] [_, _] h rfl)⟩)
/-! ### salvor/salvortop.keyOf: function 58 -/
def keyOf.l1 (t1 : Int) : Nat → (ByteArray) → Option (ByteArray)
  | 0, _ => none
  | k + 1, i45 => (if t1 = 5 then (some (decide ((i45.size : Int) < 64))) else (some false)).bind fun o48 => if o48 = true then (gd (i45.size + (⟨#[166]⟩ : ByteArray).size ≤ 9223372036854775807) (keyOf.l1 t1 k (i45 ++ (⟨#[166]⟩ : ByteArray)))) else (some i45)
def keyOf.f (K : Nat) (a0 : Int) : Option (ByteArray) := (pick.f a0 6).bind fun t1 => gd ((0 : Int) ≤ t1 ∧ (0 : Int) ≤ (IntKind.wrap .i64 (t1 + 1)) ∧ ((Int.toNat t1) ≤ (Int.toNat (IntKind.wrap .i64 (t1 + 1))) ∧ (Int.toNat (IntKind.wrap .i64 (t1 + 1))) ≤ (⟨#[97, 98, 99, 100, 101, 102]⟩ : ByteArray).size)) ((if t1 = 4 then (gd (((⟨#[97, 98, 99, 100, 101, 102]⟩ : ByteArray).extract (Int.toNat t1) (Int.toNat (IntKind.wrap .i64 (t1 + 1)))).size + (⟨#[167, 0, 166, 167]⟩ : ByteArray).size ≤ 9223372036854775807) (some (((⟨#[97, 98, 99, 100, 101, 102]⟩ : ByteArray).extract (Int.toNat t1) (Int.toNat (IntKind.wrap .i64 (t1 + 1)))) ++ (⟨#[167, 0, 166, 167]⟩ : ByteArray)))) else (some ((⟨#[97, 98, 99, 100, 101, 102]⟩ : ByteArray).extract (Int.toNat t1) (Int.toNat (IntKind.wrap .i64 (t1 + 1)))))).bind fun o8 => (keyOf.l1 t1 K o8).bind fun o28 => some o28)
theorem keyOf.calls {B : Nat} {w0 : World} {G : List HP} (K : Nat) (a0 : Int) (r : ByteArray) (H : keyOf.f K a0 = some r) (w : World) (hw : St B w0 (G) w) :
    Calls Try.prog 58 [.int .i64 a0].toArray w (fun e w' => e = .returned (.string r) ∧ St B w0 (G) w') := by
  unfold keyOf.f at H
  refine calls_of (n := 25) (s := [(0, .int .i64 a0)]) Try.func58 rfl rfl rfl rfl ?_ hw
  refine C.rs ?_
  refine J.p rfl rfl rfl rfl (Y.asg rfl) ?_
  refine J.nx ?_
  refine C.rs ?_
  refine J.p rfl rfl rfl rfl (Y.mv rfl) ?_
  obtain ⟨t1, hC2, H⟩ := bind_some H
  refine J.call (us := []) (cap := []) rfl rfl rfl go34 (fun w hw => by have hcc := pick.calls a0 6 t1 hC2 w hw; exact hcc) (fun e w1 h1 => ?_)
  obtain ⟨rfl, hw56⟩ := h1
  refine ⟨_, _, rfl, hw56, ?_⟩
  refine J.p rfl rfl rfl rfl (Y.asg rfl) ?_
  refine J.nx ?_
  refine C.rs ?_
  refine J.p rfl rfl rfl rfl (Y.mv rfl) ?_
  refine J.p rfl rfl rfl rfl (Y.mv rfl) ?_
  refine J.p rfl rfl rfl rfl (Y.bin rfl rfl rfl) ?_
  obtain ⟨p3, H⟩ := gd_some H
  refine J.p rfl rfl rfl rfl (Y.slcT Try.underlying9 rfl (bnd.yes rfl p3.1) (bnd.yes rfl p3.2.1) p3.2.2) ?_
  refine J.p rfl rfl rfl rfl (Y.asg rfl) ?_
  refine J.nx ?_
  refine C.seq ?_
  refine C.rs ?_
  refine J.p rfl rfl rfl rfl (Y.mv rfl) ?_
  refine J.p rfl rfl rfl rfl (Y.bin rfl rfl rfl) ?_
  refine J.nx ?_
  refine C.joinN H (fun (o8 : ByteArray) (j9 : Unit) => [(3, .int .i64 t1), (4, .string o8)]) (fun (o8 : ByteArray) (j9 : Unit) => G) (fun (o8 : ByteArray) (j9 : Unit) => True) (fun o6 H HK7 => ?_) (fun o8 j9 H _ => ?_)
  · refine split2 H (fun c10 H => ?_) (fun c10 H => ?_)
    · refine C.condT (congrArg (fun b => some (Value.bool b)) (decide_eq_true c10)) ?_
      refine C.reg ?_
      refine J.p rfl rfl rfl rfl (Y.mv rfl) ?_
      obtain ⟨p11, H⟩ := gd_some H
      refine J.p rfl rfl rfl rfl (Y.cat rfl rfl p11) ?_
      refine J.p rfl rfl rfl rfl (Y.asg rfl) ?_
      refine J.nil ?_
      obtain rfl := Option.some.inj H
      exact N.meet (((⟨#[97, 98, 99, 100, 101, 102]⟩ : ByteArray).extract (Int.toNat t1) (Int.toNat (IntKind.wrap .i64 (t1 + 1)))) ++ (⟨#[167, 0, 166, 167]⟩ : ByteArray), ()) ⟨HK7, trivial⟩ (by exact ⟨rfl, rfl, trivial⟩) (by exact fun w h => h)
    · refine C.condF (congrArg (fun b => some (Value.bool b)) (decide_eq_false c10)) ?_
      refine C.skip ?_
      obtain rfl := Option.some.inj H
      exact N.meet ((⟨#[97, 98, 99, 100, 101, 102]⟩ : ByteArray).extract (Int.toNat t1) (Int.toNat (IntKind.wrap .i64 (t1 + 1))), ()) ⟨HK7, trivial⟩ (by exact ⟨rfl, rfl, trivial⟩) (by exact fun w h => h)
  · refine N.at (s' := [(3, .int .i64 t1), (4, .string o8)]) (G' := G) rfl rfl ?_
    refine N.nx ?_
    refine C.joinB H (fun (o28 : ByteArray) (j29 : Unit) => [(4, .string o28)]) (fun (o28 : ByteArray) (j29 : Unit) => G) (fun (o28 : ByteArray) (j29 : Unit) => True) (fun o26 H HK27 => ?_) (fun o28 j29 H _ => ?_)
    · refine C.blk ?_
      refine C.loop (fun (i : Nat × (ByteArray) × (Unit)) => [(3, .int .i64 t1), (4, .string i.2.1)]) (fun (i : Nat × (ByteArray) × (Unit)) => G) (fun (i : Nat × (ByteArray) × (Unit)) => keyOf.l1 t1 i.1 i.2.1 = some o26 ∧ (True)) (fun i => i.1) (K, o8, ()) ⟨H, trivial⟩ (by exact ⟨rfl, rfl, trivial⟩) (by exact fun w h => h) ?_
      rintro ⟨k55, i45, j46⟩ ⟨H, _⟩
      replace H : keyOf.l1 t1 k55 i45 = some o26 := H
      obtain ⟨k44, rfl⟩ : ∃ m, k55 = m + 1 := by cases k55 with | zero => exact absurd H (by simp [keyOf.l1]) | succ m => exact ⟨m, rfl⟩
      rw [keyOf.l1] at H
      refine C.at (s' := [(3, .int .i64 t1), (4, .string i45)]) (G' := G) rfl rfl ?_
      refine C.seq ?_
      refine C.rs ?_
      refine J.joinB H (fun (o48 : Bool) (j49 : Unit) => [(3, .int .i64 t1), (4, .string i45), (21, .bool o48)]) (fun (o48 : Bool) (j49 : Unit) => G) (fun (o48 : Bool) (j49 : Unit) => True) (fun o50 H HK51 => ?_) (fun o48 j49 H _ => ?_)
      · refine J.p rfl rfl rfl rfl (Y.mv rfl) ?_
        refine J.p rfl rfl rfl rfl (Y.bin rfl rfl rfl) ?_
        refine J.p rfl rfl rfl rfl (Y.mv rfl) ?_
        refine split2 H (fun c52 H => ?_) (fun c52 H => ?_)
        · refine J.as (k := 17) rfl (congrArg Value.bool (decide_eq_true c52)) ?_
          refine J.p rfl rfl rfl rfl (Y.mv rfl) ?_
          refine J.p rfl rfl rfl rfl (Y.lenT Try.underlying9 rfl) ?_
          refine J.p rfl rfl rfl rfl (Y.bin rfl rfl rfl) ?_
          refine J.p rfl rfl rfl rfl (Y.pickT rfl rfl) ?_
          refine J.nil ?_
          obtain rfl := Option.some.inj H
          exact N.meet (decide ((i45.size : Int) < 64), ()) ⟨HK51, trivial⟩ (by exact ⟨rfl, rfl, rfl, trivial⟩) (by exact fun w h => h)
        · refine J.as (k := 17) rfl (congrArg Value.bool (decide_eq_false c52)) ?_
          refine J.skip rfl rfl ?_
          refine J.skip rfl rfl ?_
          refine J.skip rfl rfl ?_
          refine J.p rfl rfl rfl rfl (Y.pickF rfl rfl) ?_
          refine J.nil ?_
          obtain rfl := Option.some.inj H
          exact N.meet (false, ()) ⟨HK51, trivial⟩ (by exact ⟨rfl, rfl, rfl, trivial⟩) (by exact fun w h => h)
      · refine C.at (s' := [(3, .int .i64 t1), (4, .string i45), (21, .bool o48)]) (G' := G) rfl rfl ?_
        refine split2 H (fun c53 H => ?_) (fun c53 H => ?_)
        · refine C.condT (congrArg (fun b => some (Value.bool b)) (c53)) ?_
          refine C.skip ?_
          refine N.nx ?_
          refine C.blk ?_
          refine C.reg ?_
          refine J.p rfl rfl rfl rfl (Y.mv rfl) ?_
          obtain ⟨p54, H⟩ := gd_some H
          refine J.p rfl rfl rfl rfl (Y.cat rfl rfl p54) ?_
          refine J.p rfl rfl rfl rfl (Y.asg rfl) ?_
          refine J.nil ?_
          refine N.ib ?_
          exact N.again (k44, i45 ++ (⟨#[166]⟩ : ByteArray), ()) ⟨H, trivial⟩ (Nat.lt_succ_self _) (by exact ⟨rfl, rfl, trivial⟩) (by exact fun w h => h)
        · refine C.condF (congrArg (fun b => some (Value.bool b)) (nt c53)) ?_
          refine C.exit ?_
          refine X.th ?_
          refine X.th ?_
          refine X.hit ?_
          obtain rfl := Option.some.inj H
          exact N.meet (i45, ()) ⟨HK27, trivial⟩ (by exact ⟨rfl, trivial⟩) (by exact fun w h => h)
    · refine C.at (s' := [(4, .string o28)]) (G' := G) rfl rfl ?_
      refine C.rs ?_
      refine J.p rfl rfl rfl rfl (Y.mv rfl) ?_
      refine J.p rfl rfl rfl rfl (Y.asg rfl) ?_
      refine J.nx ?_
      refine C.ret ?_
      obtain rfl := Option.some.inj H
      exact ret_ok (ks := [2]) rfl rfl (fun w h => ⟨rfl, h⟩)
/-! ### salvor/salvortop.valueOf: function 59 -/
def valueOf.l1 (o8 : Int) (a0 : Int) : Nat → (ByteArray × Int) → Option (ByteArray)
  | 0, _ => none
  | k + 1, i56 => if i56.2 < o8 then (gd ((IntKind.wrap .i64 (1 + (Int.tmod i56.2 5))) ≠ (0 : Int)) ((pick.f (IntKind.wrap .i64 ((IntKind.wrap .i64 (Int.tdiv a0 (IntKind.wrap .i64 (1 + (Int.tmod i56.2 5))))) + (IntKind.wrap .i64 (i56.2 * 31)))) 256).bind fun t60 => gd (i56.1.size + (strOfNums [IntKind.wrap .u8 t60]).size ≤ 9223372036854775807) (valueOf.l1 o8 a0 k (i56.1 ++ (strOfNums [IntKind.wrap .u8 t60]), IntKind.wrap .i64 (i56.2 + 1))))) else (some i56.1)
def valueOf.f (K : Nat) (a0 : Int) : Option (ByteArray) := (pick.f a0 9).bind fun t1 => (pick.f (IntKind.wrap .i64 (Int.tdiv a0 9)) 40).bind fun t3 => (if t1 = 8 then (some (IntKind.wrap .i64 (t3 * 9))) else (some t3)).bind fun o8 => (valueOf.l1 o8 a0 K ((⟨#[]⟩ : ByteArray), 0)).bind fun o33 => (if t1 = 6 then ((fEncode.f K 1 999999 1 (⟨#[97]⟩ : ByteArray) (⟨#[102, 111, 114, 103, 101, 100]⟩ : ByteArray) 0 0 0 0 ByteArray.empty 0 0 0 0).bind fun t83 => if t83.2 = 0 then (gd (o33.size + (strOfNums t83.1).size ≤ 9223372036854775807) (some (o33 ++ (strOfNums t83.1)))) else (some o33)) else (if t1 = 7 then (gd (o33.size + (⟨#[167, 167, 0, 0]⟩ : ByteArray).size ≤ 9223372036854775807) (some (o33 ++ (⟨#[167, 167, 0, 0]⟩ : ByteArray)))) else (some o33))).bind fun o80 => some o80
theorem valueOf.calls {B : Nat} {w0 : World} {G : List HP} (K : Nat) (a0 : Int) (r : ByteArray) (H : valueOf.f K a0 = some r) (w : World) (hw : St B w0 (G) w) :
    Calls Try.prog 59 [.int .i64 a0].toArray w (fun e w' => e = .returned (.string r) ∧ St B w0 (G) w') := by
  unfold valueOf.f at H
  refine calls_of (n := 57) (s := [(0, .int .i64 a0)]) Try.func59 rfl rfl rfl rfl ?_ hw
  refine C.rs ?_
  refine J.p rfl rfl rfl rfl (Y.asg rfl) ?_
  refine J.nx ?_
  refine C.rs ?_
  refine J.p rfl rfl rfl rfl (Y.mv rfl) ?_
  obtain ⟨t1, hC2, H⟩ := bind_some H
  refine J.call (us := []) (cap := []) rfl rfl rfl go34 (fun w hw => by have hcc := pick.calls a0 9 t1 hC2 w hw; exact hcc) (fun e w1 h1 => ?_)
  obtain ⟨rfl, hw94⟩ := h1
  refine ⟨_, _, rfl, hw94, ?_⟩
  refine J.p rfl rfl rfl rfl (Y.asg rfl) ?_
  refine J.nx ?_
  refine C.rs ?_
  refine J.p rfl rfl rfl rfl (Y.asg rfl) ?_
  refine J.nx ?_
  refine C.rs ?_
  refine J.p rfl rfl rfl rfl (Y.mv rfl) ?_
  refine J.p rfl rfl rfl rfl (Y.quo rfl rfl (by decide)) ?_
  obtain ⟨t3, hC4, H⟩ := bind_some H
  refine J.call (us := []) (cap := []) rfl rfl rfl go34 (fun w hw => by have hcc := pick.calls (IntKind.wrap .i64 (Int.tdiv a0 9)) 40 t3 hC4 w hw; exact hcc) (fun e w1 h1 => ?_)
  obtain ⟨rfl, hw93⟩ := h1
  refine ⟨_, _, rfl, hw93, ?_⟩
  refine J.p rfl rfl rfl rfl (Y.asg rfl) ?_
  refine J.nx ?_
  refine C.seq ?_
  refine C.rs ?_
  refine J.p rfl rfl rfl rfl (Y.mv rfl) ?_
  refine J.p rfl rfl rfl rfl (Y.bin rfl rfl rfl) ?_
  refine J.nx ?_
  refine C.joinN H (fun (o8 : Int) (j9 : Unit) => [(0, .int .i64 a0), (3, .int .i64 t1), (4, .string (⟨#[]⟩ : ByteArray)), (5, .int .i64 o8)]) (fun (o8 : Int) (j9 : Unit) => G) (fun (o8 : Int) (j9 : Unit) => True) (fun o6 H HK7 => ?_) (fun o8 j9 H _ => ?_)
  · refine split2 H (fun c10 H => ?_) (fun c10 H => ?_)
    · refine C.condT (congrArg (fun b => some (Value.bool b)) (decide_eq_true c10)) ?_
      refine C.reg ?_
      refine J.p rfl rfl rfl rfl (Y.mv rfl) ?_
      refine J.p rfl rfl rfl rfl (Y.bin rfl rfl rfl) ?_
      refine J.p rfl rfl rfl rfl (Y.asg rfl) ?_
      refine J.nil ?_
      obtain rfl := Option.some.inj H
      exact N.meet (IntKind.wrap .i64 (t3 * 9), ()) ⟨HK7, trivial⟩ (by exact ⟨rfl, rfl, rfl, rfl, trivial⟩) (by exact fun w h => h)
    · refine C.condF (congrArg (fun b => some (Value.bool b)) (decide_eq_false c10)) ?_
      refine C.skip ?_
      obtain rfl := Option.some.inj H
      exact N.meet (t3, ()) ⟨HK7, trivial⟩ (by exact ⟨rfl, rfl, rfl, rfl, trivial⟩) (by exact fun w h => h)
  · refine N.at (s' := [(0, .int .i64 a0), (3, .int .i64 t1), (4, .string (⟨#[]⟩ : ByteArray)), (5, .int .i64 o8)]) (G' := G) rfl rfl ?_
    refine N.nx ?_
    refine C.seq ?_
    refine C.rs ?_
    refine J.p rfl rfl rfl rfl (Y.asg rfl) ?_
    refine J.nx ?_
    refine C.joinN H (fun (o33 : ByteArray) (j34 : Unit) => [(3, .int .i64 t1), (4, .string o33)]) (fun (o33 : ByteArray) (j34 : Unit) => G) (fun (o33 : ByteArray) (j34 : Unit) => True) (fun o31 H HK32 => ?_) (fun o33 j34 H _ => ?_)
    · refine C.blk ?_
      refine C.loop (fun (i : Nat × (ByteArray × Int) × (Unit)) => [(0, .int .i64 a0), (3, .int .i64 t1), (4, .string i.2.1.1), (5, .int .i64 o8), (6, .int .i64 i.2.1.2)]) (fun (i : Nat × (ByteArray × Int) × (Unit)) => G) (fun (i : Nat × (ByteArray × Int) × (Unit)) => valueOf.l1 o8 a0 i.1 i.2.1 = some o31 ∧ (True)) (fun i => i.1) (K, ((⟨#[]⟩ : ByteArray), 0), ()) ⟨H, trivial⟩ (by exact ⟨rfl, rfl, rfl, rfl, rfl, trivial⟩) (by exact fun w h => h) ?_
      rintro ⟨k66, i56, j57⟩ ⟨H, _⟩
      replace H : valueOf.l1 o8 a0 k66 i56 = some o31 := H
      obtain ⟨k55, rfl⟩ : ∃ m, k66 = m + 1 := by cases k66 with | zero => exact absurd H (by simp [valueOf.l1]) | succ m => exact ⟨m, rfl⟩
      rw [valueOf.l1] at H
      refine C.at (s' := [(0, .int .i64 a0), (3, .int .i64 t1), (4, .string i56.1), (5, .int .i64 o8), (6, .int .i64 i56.2)]) (G' := G) rfl rfl ?_
      refine C.seq ?_
      refine C.rs ?_
      refine J.p rfl rfl rfl rfl (Y.mv rfl) ?_
      refine J.p rfl rfl rfl rfl (Y.mv rfl) ?_
      refine J.p rfl rfl rfl rfl (Y.bin rfl rfl rfl) ?_
      refine J.nx ?_
      refine split2 H (fun c58 H => ?_) (fun c58 H => ?_)
      · refine C.condT (congrArg (fun b => some (Value.bool b)) (decide_eq_true c58)) ?_
        refine C.skip ?_
        refine N.nx ?_
        refine C.seq ?_
        refine C.blk ?_
        refine C.reg ?_
        refine J.p rfl rfl rfl rfl (Y.mv rfl) ?_
        refine J.p rfl rfl rfl rfl (Y.mv rfl) ?_
        refine J.p rfl rfl rfl rfl (Y.mv rfl) ?_
        refine J.p rfl rfl rfl rfl (Y.rem rfl rfl (by decide)) ?_
        refine J.p rfl rfl rfl rfl (Y.bin rfl rfl rfl) ?_
        obtain ⟨p59, H⟩ := gd_some H
        refine J.p rfl rfl rfl rfl (Y.quo rfl rfl p59) ?_
        refine J.p rfl rfl rfl rfl (Y.mv rfl) ?_
        refine J.p rfl rfl rfl rfl (Y.bin rfl rfl rfl) ?_
        refine J.p rfl rfl rfl rfl (Y.bin rfl rfl rfl) ?_
        obtain ⟨t60, hC61, H⟩ := bind_some H
        refine J.call (us := []) (cap := []) rfl rfl rfl go34 (fun w hw => by have hcc := pick.calls (IntKind.wrap .i64 ((IntKind.wrap .i64 (Int.tdiv a0 (IntKind.wrap .i64 (1 + (Int.tmod i56.2 5))))) + (IntKind.wrap .i64 (i56.2 * 31)))) 256 t60 hC61 w hw; exact hcc) (fun e w1 h1 => ?_)
        obtain ⟨rfl, hw65⟩ := h1
        refine ⟨_, _, rfl, hw65, ?_⟩
        refine J.p rfl rfl rfl rfl (Y.conv Try.underlying3 Try.underlying5 rfl) ?_
        refine J.bsL (enc := (Value.int .u8)) (xs := [IntKind.wrap .u8 t60]) rfl Try.underlying22 ti5 rfl rfl rfl rfl rfl (fun A62 => ?_)
        refine J.r rfl rfl rfl rfl (Y.b2s Try.underlying22 Try.underlying5 Try.underlying9 rfl (RdG.own 0 rfl)) ?_
        obtain ⟨p64, H⟩ := gd_some H
        refine J.p rfl rfl rfl rfl (Y.cat rfl rfl p64) ?_
        refine J.p rfl rfl rfl rfl (Y.asg rfl) ?_
        refine J.nil ?_
        refine N.ib ?_
        refine N.nx ?_
        refine C.reg ?_
        refine J.p rfl rfl rfl rfl (Y.mv rfl) ?_
        refine J.p rfl rfl rfl rfl (Y.bin rfl rfl rfl) ?_
        refine J.p rfl rfl rfl rfl (Y.asg rfl) ?_
        refine J.nil ?_
        exact N.again (k55, (i56.1 ++ (strOfNums [IntKind.wrap .u8 t60]), IntKind.wrap .i64 (i56.2 + 1)), ()) ⟨H, trivial⟩ (Nat.lt_succ_self _) (by exact ⟨rfl, rfl, rfl, rfl, rfl, trivial⟩) (by exact fun w h => (St.pick [] [_] h rfl))
      · refine C.condF (congrArg (fun b => some (Value.bool b)) (decide_eq_false c58)) ?_
        refine C.exit ?_
        refine X.th ?_
        refine X.th ?_
        refine X.hit ?_
        obtain rfl := Option.some.inj H
        exact N.meet (i56.1, ()) ⟨HK32, trivial⟩ (by exact ⟨rfl, rfl, trivial⟩) (by exact fun w h => h)
    · refine N.at (s' := [(3, .int .i64 t1), (4, .string o33)]) (G' := G) rfl rfl ?_
      refine N.nx ?_
      refine C.seq ?_
      refine C.rs ?_
      refine J.p rfl rfl rfl rfl (Y.mv rfl) ?_
      refine J.nx ?_
      refine C.joinN H (fun (o80 : ByteArray) (j81 : Unit) => [(4, .string o80)]) (fun (o80 : ByteArray) (j81 : Unit) => G) (fun (o80 : ByteArray) (j81 : Unit) => True) (fun o78 H HK79 => ?_) (fun o80 j81 H _ => ?_)
      · refine C.blk ?_
        refine C.rs ?_
        refine J.p rfl rfl rfl rfl (Y.bin rfl rfl rfl) ?_
        refine J.p rfl rfl rfl rfl (Y.asg rfl) ?_
        refine J.nx ?_
        refine split2 H (fun c82 H => ?_) (fun c82 H => ?_)
        · refine C.condT (congrArg (fun b => some (Value.bool b)) (decide_eq_true c82)) ?_
          refine C.rs ?_
          refine J.p rfl rfl rfl rfl (Y.bld (cs := [.int .u64 999999, .int .i64 1, .string (⟨#[97]⟩ : ByteArray), .string (⟨#[102, 111, 114, 103, 101, 100]⟩ : ByteArray)]) rfl pl27 ti27 rfl rfl) ?_
          refine J.p rfl rfl rfl rfl (Y.bld (cs := [.int .i64 1, .int .u64 999999, .int .i64 1, .string (⟨#[97]⟩ : ByteArray), .string (⟨#[102, 111, 114, 103, 101, 100]⟩ : ByteArray), .int .u64 0, .int .i64 0, .int .i64 0, .int .i64 0, .string ByteArray.empty, .int .i64 0, .int .i64 0, .int .i64 0, .int .u32 0]) rfl pl36 ti36 rfl rfl) ?_
          obtain ⟨t83, hC84, H⟩ := bind_some H
          refine J.call (us := []) (cap := []) rfl rfl rfl go18 (fun w hw => by have hcc := fEncode.calls K 1 999999 1 (⟨#[97]⟩ : ByteArray) (⟨#[102, 111, 114, 103, 101, 100]⟩ : ByteArray) 0 0 0 0 ByteArray.empty 0 0 0 0 t83 hC84 w hw; exact hcc) (fun e w1 h1 => ?_)
          obtain ⟨A85, c86, rfl, hw90⟩ := h1
          refine ⟨_, _, rfl, hw90, ?_⟩
          refine J.p rfl rfl rfl rfl (Y.mv rfl) ?_
          refine J.p rfl rfl rfl rfl (Y.ext rfl rfl) ?_
          refine J.p rfl rfl rfl rfl (Y.ext rfl rfl) ?_
          refine J.p rfl rfl rfl rfl (Y.asg rfl) ?_
          refine J.p rfl rfl rfl rfl (Y.asg rfl) ?_
          refine J.nx ?_
          refine C.rs ?_
          refine J.p rfl rfl rfl rfl (Y.mv rfl) ?_
          refine J.p rfl rfl rfl rfl (Y.bin rfl rfl rfl) ?_
          refine J.nx ?_
          refine split2 H (fun c88 H => ?_) (fun c88 H => ?_)
          · refine C.condT (congrArg (fun b => some (Value.bool b)) (decide_eq_true c88)) ?_
            refine C.reg ?_
            refine J.p rfl rfl rfl rfl (Y.mv rfl) ?_
            refine J.p rfl rfl rfl rfl (Y.mv rfl) ?_
            refine J.r rfl rfl rfl rfl (Y.b2s Try.underlying22 Try.underlying5 Try.underlying9 rfl (RdG.own 0 rfl)) ?_
            obtain ⟨p89, H⟩ := gd_some H
            refine J.p rfl rfl rfl rfl (Y.cat rfl rfl p89) ?_
            refine J.p rfl rfl rfl rfl (Y.asg rfl) ?_
            refine J.nil ?_
            refine N.ib ?_
            obtain rfl := Option.some.inj H
            exact N.meet (o33 ++ (strOfNums t83.1), ()) ⟨HK79, trivial⟩ (by exact ⟨rfl, trivial⟩) (by exact fun w h => (St.pick [] [_] h rfl))
          · refine C.condF (congrArg (fun b => some (Value.bool b)) (decide_eq_false c88)) ?_
            refine C.skip ?_
            refine N.ib ?_
            obtain rfl := Option.some.inj H
            exact N.meet (o33, ()) ⟨HK79, trivial⟩ (by exact ⟨rfl, trivial⟩) (by exact fun w h => (St.pick [] [_] h rfl))
        · refine C.condF (congrArg (fun b => some (Value.bool b)) (decide_eq_false c82)) ?_
          refine C.rs ?_
          refine J.p rfl rfl rfl rfl (Y.bin rfl rfl rfl) ?_
          refine J.p rfl rfl rfl rfl (Y.asg rfl) ?_
          refine J.nx ?_
          refine split2 H (fun c91 H => ?_) (fun c91 H => ?_)
          · refine C.condT (congrArg (fun b => some (Value.bool b)) (decide_eq_true c91)) ?_
            refine C.reg ?_
            refine J.p rfl rfl rfl rfl (Y.mv rfl) ?_
            obtain ⟨p92, H⟩ := gd_some H
            refine J.p rfl rfl rfl rfl (Y.cat rfl rfl p92) ?_
            refine J.p rfl rfl rfl rfl (Y.asg rfl) ?_
            refine J.nil ?_
            refine N.ib ?_
            obtain rfl := Option.some.inj H
            exact N.meet (o33 ++ (⟨#[167, 167, 0, 0]⟩ : ByteArray), ()) ⟨HK79, trivial⟩ (by exact ⟨rfl, trivial⟩) (by exact fun w h => h)
          · refine C.condF (congrArg (fun b => some (Value.bool b)) (decide_eq_false c91)) ?_
            refine C.skip ?_
            refine N.ib ?_
            obtain rfl := Option.some.inj H
            exact N.meet (o33, ()) ⟨HK79, trivial⟩ (by exact ⟨rfl, trivial⟩) (by exact fun w h => h)
      · refine N.at (s' := [(4, .string o80)]) (G' := G) rfl rfl ?_
        refine N.nx ?_
        refine C.rs ?_
        refine J.p rfl rfl rfl rfl (Y.mv rfl) ?_
        refine J.p rfl rfl rfl rfl (Y.asg rfl) ?_
        refine J.nx ?_
        refine C.ret ?_
        obtain rfl := Option.some.inj H
        exact ret_ok (ks := [2]) rfl rfl (fun w h => ⟨rfl, h⟩)
/-! ### salvor/salvortop.recordOf: function 29 -/
def recordOf.f (K : Nat) (a0_0 : Int) (a0_1 : Int) (a0_2 : Int) (a0_3 : Int) (a1 : Int) : Option (Int × Int × ByteArray × ByteArray) := (pick.f a0_0 4).bind fun t5 => if t5 = 0 then ((keyOf.f K a0_1).bind fun t8 => some (a1, 2, t8, ByteArray.empty)) else ((keyOf.f K a0_1).bind fun t11 => (valueOf.f K a0_2).bind fun t13 => some (a1, 1, t11, t13))
theorem recordOf.calls {B : Nat} {w0 : World} {G : List HP} (K : Nat) (a0_0 : Int) (a0_1 : Int) (a0_2 : Int) (a0_3 : Int) (a1 : Int) (r : Int × Int × ByteArray × ByteArray) (H : recordOf.f K a0_0 a0_1 a0_2 a0_3 a1 = some r) (w : World) (hw : St B w0 (G) w) :
    Calls Try.prog 29 [.agg #[.int .i64 a0_0, .int .i64 a0_1, .int .i64 a0_2, .int .i64 a0_3], .int .u64 a1].toArray w (fun e w' => e = .returned (.agg #[.int .u64 r.1, .int .i64 r.2.1, .string r.2.2.1, .string r.2.2.2]) ∧ St B w0 (G) w') := by
  unfold recordOf.f at H
  refine calls_of (n := 22) (s := [(0, .agg #[.int .i64 a0_0, .int .i64 a0_1, .int .i64 a0_2, .int .i64 a0_3]), (1, .int .u64 a1)]) Try.func29 rfl rfl rfl rfl ?_ hw
  refine C.rs ?_
  refine J.box (L := [.int .i64 a0_0, .int .i64 a0_1, .int .i64 a0_2, .int .i64 a0_3]) rfl rfl rfl (fun g1 => ?_)
  refine J.alloc (L := [.int .u64 0, .int .i64 0, .string ByteArray.empty, .string ByteArray.empty]) rfl ti27 rfl (fun g3 => ?_)
  refine J.nx ?_
  refine C.seq ?_
  refine C.rs ?_
  refine J.p rfl rfl rfl rfl (Y.fa0 fa64_0 rfl rfl) ?_
  refine J.r rfl rfl rfl rfl (Y.ldC 1 Try.underlying3 rfl rfl rfl rfl) ?_
  obtain ⟨t5, hC6, H⟩ := bind_some H
  refine J.call (us := []) (cap := []) rfl rfl rfl go34 (fun w hw => by have hcc := pick.calls a0_0 4 t5 hC6 w hw; exact hcc) (fun e w1 h1 => ?_)
  obtain ⟨rfl, hw17⟩ := h1
  refine ⟨_, _, rfl, hw17, ?_⟩
  refine J.p rfl rfl rfl rfl (Y.bin rfl rfl rfl) ?_
  refine J.nx ?_
  refine split2 H (fun c7 H => ?_) (fun c7 H => ?_)
  · refine C.condT (congrArg (fun b => some (Value.bool b)) (decide_eq_true c7)) ?_
    refine C.rs ?_
    refine J.p rfl rfl rfl rfl (Y.mv rfl) ?_
    refine J.p rfl rfl rfl rfl (Y.fa0 fa64_1 rfl rfl) ?_
    refine J.r rfl rfl rfl rfl (Y.ldC 1 Try.underlying3 rfl rfl rfl rfl) ?_
    obtain ⟨t8, hC9, H⟩ := bind_some H
    refine J.call (us := []) (cap := []) rfl rfl rfl go58 (fun w hw => by have hcc := keyOf.calls K a0_1 t8 hC9 w hw; exact hcc) (fun e w1 h1 => ?_)
    obtain ⟨rfl, hw10⟩ := h1
    refine ⟨_, _, rfl, hw10, ?_⟩
    refine J.p rfl rfl rfl rfl (Y.bld (cs := [.int .u64 a1, .int .i64 2, .string t8, .string ByteArray.empty]) rfl pl27 ti27 rfl rfl) ?_
    refine J.stA (us := [.int .u64 a1, .int .i64 2, .string t8, .string ByteArray.empty]) (L' := [.int .u64 a1, .int .i64 2, .string t8, .string ByteArray.empty]) ti27 rfl rfl rfl rfl rfl rfl ?_
    refine J.nx ?_
    refine C.ret ?_
    obtain rfl := Option.some.inj H
    refine T.th ?_
    exact ret_okG (rvs := [.cell 4 27]) (vs := [.agg #[.int .u64 a1, .int .i64 2, .string t8, .string ByteArray.empty]]) rfl ⟨RV.cellA (us := [.int .u64 a1, .int .i64 2, .string t8, .string ByteArray.empty]) 0 Try.underlying27 rfl ti27 rfl rfl rfl rfl, trivial⟩ (fun w h => ⟨rfl, (St.pick [] [_, _] h rfl)⟩)
  · refine C.condF (congrArg (fun b => some (Value.bool b)) (decide_eq_false c7)) ?_
    refine C.skip ?_
    refine N.nx ?_
    refine C.seq ?_
    refine C.drawn (fuel := 9) (ls := [false, false, false, false, false, false, false, false, false]) [] (cells g1 64 [.int .i64 a0_0, .int .i64 a0_1, .int .i64 a0_2, .int .i64 a0_3] :: G) mx rfl rfl ?_
    refine D.p (ls' := [true, false, false, false, false, false, false, false, false]) 0 rfl rfl rfl rfl (by kernel_rfl) rfl (Y.mv rfl) ?_
    refine D.p (ls' := [true, true, false, false, false, false, false, false, false]) 1 rfl rfl rfl rfl (by kernel_rfl) rfl (Y.fa0 fa64_1 rfl rfl) ?_
    refine D.r (ls' := [true, true, true, false, false, false, false, false, false]) 2 1 1 rfl rfl rfl rfl (by kernel_rfl) (by kernel_rfl) rfl rfl (Y.ldC 0 Try.underlying3 rfl rfl rfl rfl) ?_
    refine D.p (ls' := [true, true, true, false, true, false, false, false, false]) 4 rfl rfl rfl rfl (by kernel_rfl) rfl (Y.fa0 fa64_2 rfl rfl) ?_
    refine D.r (ls' := [true, true, true, false, true, true, false, false, false]) 5 1 1 rfl rfl rfl rfl (by kernel_rfl) (by kernel_rfl) rfl rfl (Y.ldC 0 Try.underlying3 rfl rfl rfl rfl) ?_
    refine D.any [3] (by kernel_rfl) rfl ⟨?_, trivial⟩
    refine DW.j (ls' := [true, true, true, true, true, true, false, false, false]) rfl rfl ?_
    obtain ⟨t11, hC12, H⟩ := bind_some H
    refine J.call (us := []) (cap := []) rfl rfl rfl go58 (fun w hw => by have hcc := keyOf.calls K a0_1 t11 hC12 w hw; exact hcc) (fun e w1 h1 => ?_)
    obtain ⟨rfl, hw16⟩ := h1
    refine ⟨_, _, rfl, hw16, ?_⟩
    refine J.nil ?_
    refine D.backK 1 rfl ?_
    refine D.any [6] (by kernel_rfl) rfl ⟨?_, trivial⟩
    refine DW.j (ls' := [true, true, true, true, true, true, true, false, false]) rfl rfl ?_
    obtain ⟨t13, hC14, H⟩ := bind_some H
    refine J.call (us := []) (cap := []) rfl rfl rfl go59 (fun w hw => by have hcc := valueOf.calls K a0_2 t13 hC14 w hw; exact hcc) (fun e w1 h1 => ?_)
    obtain ⟨rfl, hw15⟩ := h1
    refine ⟨_, _, rfl, hw15, ?_⟩
    refine J.nil ?_
    refine D.backK 1 rfl ?_
    refine D.p (ls' := [true, true, true, true, true, true, true, true, false]) 7 rfl rfl rfl rfl (by kernel_rfl) rfl (Y.bld (cs := [.int .u64 a1, .int .i64 1, .string t11, .string t13]) rfl pl27 ti27 rfl rfl) ?_
    refine D.any [8] (by kernel_rfl) rfl ⟨?_, trivial⟩
    refine DW.j (ls' := [true, true, true, true, true, true, true, true, true]) rfl rfl ?_
    refine J.stA (us := [.int .u64 a1, .int .i64 1, .string t11, .string t13]) (L' := [.int .u64 a1, .int .i64 1, .string t11, .string t13]) ti27 rfl rfl rfl rfl rfl rfl ?_
    refine J.nil ?_
    refine D.backK 1 rfl ?_
    refine D.nil (by kernel_rfl) ?_
    refine N.nx ?_
    refine C.ret ?_
    obtain rfl := Option.some.inj H
    exact ret_okG (rvs := [.cell 4 27]) (vs := [.agg #[.int .u64 a1, .int .i64 1, .string t11, .string t13]]) rfl ⟨RV.cellA (us := [.int .u64 a1, .int .i64 1, .string t11, .string t13]) 0 Try.underlying27 rfl ti27 rfl rfl rfl rfl, trivial⟩ (fun w h => ⟨rfl, (St.pick [] [_, _] h rfl)⟩)
/-! ### salvor/salvortop.framed: function 30 -/
def framed.f (K : Nat) (a0_0 : Int) (a0_1 : Int) (a0_2 : ByteArray) (a0_3 : ByteArray) : Option ((List Int)) := (fEncode.f K a0_1 a0_0 a0_1 a0_2 a0_3 0 0 0 0 ByteArray.empty 0 0 0 0).bind fun t3 => if t3.2 ≠ 0 then (some ([] : List Int)) else (some t3.1)
theorem framed.calls {B : Nat} {w0 : World} {G : List HP} (K : Nat) (a0_0 : Int) (a0_1 : Int) (a0_2 : ByteArray) (a0_3 : ByteArray) (r : (List Int)) (H : framed.f K a0_0 a0_1 a0_2 a0_3 = some r) (w : World) (hw : St B w0 (G) w) :
    Calls Try.prog 30 [.agg #[.int .u64 a0_0, .int .i64 a0_1, .string a0_2, .string a0_3]].toArray w (fun e w' => ∃ A0 c0, e = .returned (.slice A0 r.length c0) ∧ St B w0 (own 5 1 A0 c0 (r.map (Value.int .u8)) :: G) w') := by
  unfold framed.f at H
  refine calls_of (n := 16) (s := [(0, .agg #[.int .u64 a0_0, .int .i64 a0_1, .string a0_2, .string a0_3])]) Try.func30 rfl rfl rfl rfl ?_ hw
  refine C.rs ?_
  refine J.box (L := [.int .u64 a0_0, .int .i64 a0_1, .string a0_2, .string a0_3]) rfl rfl rfl (fun g1 => ?_)
  refine J.p rfl rfl rfl rfl (Y.asg rfl) ?_
  refine J.nx ?_
  refine C.rs ?_
  refine J.p rfl rfl rfl rfl (Y.fa0 fa27_1 rfl rfl) ?_
  refine J.r rfl rfl rfl rfl (Y.ldC 0 Try.underlying24 rfl rfl rfl rfl) ?_
  refine J.r rfl rfl rfl rfl (Y.ldCA (us := [.int .u64 a0_0, .int .i64 a0_1, .string a0_2, .string a0_3]) 0 Try.underlying27 rfl ti27 rfl rfl rfl rfl) ?_
  refine J.p rfl rfl rfl rfl (Y.bld (cs := [.int .i64 a0_1, .int .u64 a0_0, .int .i64 a0_1, .string a0_2, .string a0_3, .int .u64 0, .int .i64 0, .int .i64 0, .int .i64 0, .string ByteArray.empty, .int .i64 0, .int .i64 0, .int .i64 0, .int .u32 0]) rfl pl36 ti36 rfl rfl) ?_
  obtain ⟨t3, hC4, H⟩ := bind_some H
  refine J.call (us := []) (cap := []) rfl rfl rfl go18 (fun w hw => by have hcc := fEncode.calls K a0_1 a0_0 a0_1 a0_2 a0_3 0 0 0 0 ByteArray.empty 0 0 0 0 t3 hC4 w hw; exact hcc) (fun e w1 h1 => ?_)
  obtain ⟨A5, c6, rfl, hw10⟩ := h1
  refine ⟨_, _, rfl, hw10, ?_⟩
  refine J.p rfl rfl rfl rfl (Y.mv rfl) ?_
  refine J.p rfl rfl rfl rfl (Y.ext rfl rfl) ?_
  refine J.p rfl rfl rfl rfl (Y.ext rfl rfl) ?_
  refine J.p rfl rfl rfl rfl (Y.asg rfl) ?_
  refine J.p rfl rfl rfl rfl (Y.asg rfl) ?_
  refine J.nx ?_
  refine C.seq ?_
  refine C.rs ?_
  refine J.p rfl rfl rfl rfl (Y.mv rfl) ?_
  refine J.p rfl rfl rfl rfl (Y.bin rfl rfl rfl) ?_
  refine J.nx ?_
  refine split2 H (fun c8 H => ?_) (fun c8 H => ?_)
  · refine C.condT (congrArg (fun b => some (Value.bool b)) (decide_eq_true c8)) ?_
    refine C.rs ?_
    refine J.p rfl rfl rfl rfl (Y.asg rfl) ?_
    refine J.nx ?_
    refine C.ret ?_
    obtain rfl := Option.some.inj H
    refine T.th ?_
    exact ret_ok (ks := [2]) rfl rfl (fun w h => ⟨none, 0, rfl, (St.pick [0] [_, _, _] (h.nilOwn 5 1) rfl)⟩)
  · refine C.condF (congrArg (fun b => some (Value.bool b)) (decide_eq_false c8)) ?_
    refine C.skip ?_
    refine N.nx ?_
    refine C.rs ?_
    refine J.p rfl rfl rfl rfl (Y.mv rfl) ?_
    refine J.p rfl rfl rfl rfl (Y.asg rfl) ?_
    refine J.nx ?_
    refine C.ret ?_
    obtain rfl := Option.some.inj H
    exact ret_ok (ks := [2]) rfl rfl (fun w h => ⟨A5, c6, rfl, (St.pick [0] [_, _] h rfl)⟩)
/-! ### salvor/salvorlaw4.holds: function 26 -/
def holds.l1 (a0 : List Int) (a1 : Int) : Nat → (Int) → Option ((Bool) ⊕ (Unit))
  | 0, _ => none
  | k + 1, i26 => if i26 < (a0.length : Int) then (gd ((0 : Int) ≤ i26 ∧ i26 < (a0.length : Int)) (if (rd a0 i26) ≠ a1 then (some (.inl (false))) else (holds.l1 a0 a1 k (IntKind.wrap .i64 (i26 + 1))))) else (some (.inr ()))
def holds.f (K : Nat) (a0 : List Int) (a1 : Int) : Option (Bool) := thn (holds.l1 a0 a1 K 0) fun o13 => some true
theorem holds.calls {B : Nat} {w0 : World} {G : List HP} (K : Nat) (a0 : List Int) (a1 : Int) (Aa0 : Option Addr) (ca0 : Nat) (ha0 : RdG B w0 G Aa0 (a0.map (Value.int .u8))) (ka0 : a0.length ≤ ca0) (r : Bool) (H : holds.f K a0 a1 = some r) (w : World) (hw : St B w0 (G) w) :
    Calls Try.prog 26 [.slice Aa0 a0.length ca0, .int .u8 a1].toArray w (fun e w' => e = .returned (.bool r) ∧ St B w0 (G) w') := by
  unfold holds.f at H
  refine calls_of (n := 18) (s := [(0, .slice Aa0 a0.length ca0), (1, .int .u8 a1)]) Try.func26 rfl rfl rfl rfl ?_ hw
  refine C.rs ?_
  refine J.p rfl rfl rfl rfl (Y.asg rfl) ?_
  refine J.nx ?_
  refine C.seq ?_
  refine C.rs ?_
  refine J.p rfl rfl rfl rfl (Y.asg rfl) ?_
  refine J.nx ?_
  refine C.joinNR H (fun (o13 : Unit) (j14 : Unit) => []) (fun (o13 : Unit) (j14 : Unit) => G) (fun (o13 : Unit) (j14 : Unit) => True) (fun o11 H HK12 => ?_) (fun o13 j14 H _ => ?_)
  · refine C.blk ?_
    refine C.loop (fun (i : Nat × (Int) × (Unit)) => [(0, .slice Aa0 a0.length ca0), (1, .int .u8 a1), (5, .int .i64 i.2.1)]) (fun (i : Nat × (Int) × (Unit)) => G) (fun (i : Nat × (Int) × (Unit)) => holds.l1 a0 a1 i.1 i.2.1 = some o11 ∧ (True)) (fun i => i.1) (K, 0, ()) ⟨H, trivial⟩ (by exact ⟨rfl, rfl, rfl, trivial⟩) (by exact fun w h => h) ?_
    rintro ⟨k31, i26, j27⟩ ⟨H, _⟩
    replace H : holds.l1 a0 a1 k31 i26 = some o11 := H
    obtain ⟨k25, rfl⟩ : ∃ m, k31 = m + 1 := by cases k31 with | zero => exact absurd H (by simp [holds.l1]) | succ m => exact ⟨m, rfl⟩
    rw [holds.l1] at H
    refine C.at (s' := [(0, .slice Aa0 a0.length ca0), (1, .int .u8 a1), (5, .int .i64 i26)]) (G' := G) rfl rfl ?_
    refine C.seq ?_
    refine C.rs ?_
    refine J.p rfl rfl rfl rfl (Y.mv rfl) ?_
    refine J.p rfl rfl rfl rfl (Y.mv rfl) ?_
    refine J.p rfl rfl rfl rfl (Y.lenS Try.underlying22 rfl) ?_
    refine J.p rfl rfl rfl rfl (Y.bin rfl rfl rfl) ?_
    refine J.nx ?_
    refine split2 H (fun c28 H => ?_) (fun c28 H => ?_)
    · refine C.condT (congrArg (fun b => some (Value.bool b)) (decide_eq_true c28)) ?_
      refine C.skip ?_
      refine N.nx ?_
      refine C.seq ?_
      refine C.blk ?_
      refine C.rs ?_
      refine J.p rfl rfl rfl rfl (Y.mv rfl) ?_
      refine J.p rfl rfl rfl rfl (Y.mv rfl) ?_
      obtain ⟨p29, H⟩ := gd_some H
      refine J.el rfl rfl rfl Try.underlying22 ti5 Try.underlying5 rfl rfl rfl p29 ha0 ?_
      refine J.p rfl rfl rfl rfl (Y.mv rfl) ?_
      refine J.p rfl rfl rfl rfl (Y.bin rfl rfl rfl) ?_
      refine J.nx ?_
      refine split2 H (fun c30 H => ?_) (fun c30 H => ?_)
      · refine C.condT (congrArg (fun b => some (Value.bool b)) (decide_eq_true c30)) ?_
        refine C.rs ?_
        refine J.p rfl rfl rfl rfl (Y.asg rfl) ?_
        refine J.nx ?_
        refine C.ret ?_
        obtain rfl := Option.some.inj H
        obtain rfl := fin_inl HK12
        refine T.ib ?_
        refine T.th ?_
        refine T.th ?_
        refine T.ib ?_
        refine T.th ?_
        refine T.th ?_
        exact ret_ok (ks := [4]) rfl rfl (fun w h => ⟨rfl, h⟩)
      · refine C.condF (congrArg (fun b => some (Value.bool b)) (decide_eq_false c30)) ?_
        refine C.skip ?_
        refine N.ib ?_
        refine N.nx ?_
        refine C.reg ?_
        refine J.p rfl rfl rfl rfl (Y.mv rfl) ?_
        refine J.p rfl rfl rfl rfl (Y.bin rfl rfl rfl) ?_
        refine J.p rfl rfl rfl rfl (Y.asg rfl) ?_
        refine J.nil ?_
        exact N.again (k25, IntKind.wrap .i64 (i26 + 1), ()) ⟨H, trivial⟩ (Nat.lt_succ_self _) (by exact ⟨rfl, rfl, rfl, trivial⟩) (by exact fun w h => h)
    · refine C.condF (congrArg (fun b => some (Value.bool b)) (decide_eq_false c28)) ?_
      refine C.exit ?_
      refine X.th ?_
      refine X.th ?_
      refine X.hit ?_
      obtain rfl := Option.some.inj H
      exact N.meet ((), ()) ⟨fin_inr HK12, trivial⟩ (by exact trivial) (by exact fun w h => h)
  · refine N.at (s' := []) (G' := G) rfl rfl ?_
    refine N.nx ?_
    refine C.rs ?_
    refine J.p rfl rfl rfl rfl (Y.asg rfl) ?_
    refine J.nx ?_
    refine C.ret ?_
    obtain rfl := Option.some.inj H
    exact ret_ok (ks := [4]) rfl rfl (fun w h => ⟨rfl, h⟩)
end Go.Proofs.Ytakolnamobkkkaa
