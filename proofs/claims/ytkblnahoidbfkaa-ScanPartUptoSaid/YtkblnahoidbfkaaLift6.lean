/- Own text, printed by the lifting program: each Go function beside a plain function, and the proof that a call of the one comes to the other. Conditions: what came in can be read. -/
import Derived.Test.YtkblnahoidbfkaaLiftF
set_option linter.unusedVariables false
set_option linter.unusedSimpArgs false
set_option maxRecDepth 10000
set_option maxHeartbeats 4000000
namespace Go.Proofs.Ytkblnahoidbfkaa
open Go Go.Sx
theorem fa62_0 : FA Try.prog 62 0 0 := FA.of Try.underlying62 rfl ti3 (by decide) rfl
theorem fa62_1 : FA Try.prog 62 1 1 := FA.of Try.underlying62 rfl ti3 (by decide) rfl
theorem go13 : GoF Try.prog 13 := GoF.of Try.func13 (by kernel_rfl) (by kernel_rfl)
theorem go28 : GoF Try.prog 28 := GoF.of Try.func28 (by kernel_rfl) (by kernel_rfl)
theorem go30 : GoF Try.prog 30 := GoF.of Try.func30 (by kernel_rfl) (by kernel_rfl)
theorem go31 : GoF Try.prog 31 := GoF.of Try.func31 (by kernel_rfl) (by kernel_rfl)
theorem go32 : GoF Try.prog 32 := GoF.of Try.func32 (by kernel_rfl) (by kernel_rfl)
/-! ### salvor/salvorlaw5.ScanHurt: function 6 -/
def ScanHurt.l1 (K : Nat) (t24 : (List T62_)) (t10 : Int) (t30 : (List T62_)) : Nat → (Int) → Option ((Bool) ⊕ (Unit))
  | 0, _ => none
  | k + 1, i160 => if i160 < (t24.length : Int) then ((gd ((0 : Int) ≤ i160 ∧ i160 < (t24.length : Int)) (gd ((0 : Int) ≤ i160 ∧ i160 < (t24.length : Int)) (if ((rd t24 i160).1) ≤ t10 then (gd ((0 : Int) ≤ i160 ∧ i160 < (t24.length : Int)) (gd ((0 : Int) ≤ i160 ∧ i160 < (t24.length : Int)) (gd ((0 : Int) ≤ i160 ∧ i160 < (t24.length : Int)) (gd ((0 : Int) ≤ i160 ∧ i160 < (t24.length : Int)) (some (decide (t10 < (IntKind.wrap .i64 (((rd t24 i160).1) + ((rd t24 i160).2)))))))))) else (some false)))).bind fun o178 => gd ((0 : Int) ≤ i160 ∧ i160 < (t24.length : Int)) (gd ((0 : Int) ≤ i160 ∧ i160 < (t24.length : Int)) ((has.f K t30 ((rd t24 i160).1) ((rd t24 i160).2)).bind fun t198 => (if o178 = true then (some false) else (some (!t198))).bind fun o201 => if o201 = true then (some (.inl (false))) else (ScanHurt.l1 K t24 t10 t30 k (IntKind.wrap .i64 (i160 + 1)))))) else (some (.inr ()))
def ScanHurt.l2 (K : Nat) (t30 : (List T62_)) (t10 : Int) (t24 : (List T62_)) : Nat → (Int) → Option ((Bool) ⊕ (Unit))
  | 0, _ => none
  | k + 1, i334 => if i334 < (t30.length : Int) then ((gd ((0 : Int) ≤ i334 ∧ i334 < (t30.length : Int)) (gd ((0 : Int) ≤ i334 ∧ i334 < (t30.length : Int)) (if ((rd t30 i334).1) ≤ t10 then (gd ((0 : Int) ≤ i334 ∧ i334 < (t30.length : Int)) (gd ((0 : Int) ≤ i334 ∧ i334 < (t30.length : Int)) (gd ((0 : Int) ≤ i334 ∧ i334 < (t30.length : Int)) (gd ((0 : Int) ≤ i334 ∧ i334 < (t30.length : Int)) (some (decide (t10 < (IntKind.wrap .i64 (((rd t30 i334).1) + ((rd t30 i334).2)))))))))) else (some false)))).bind fun o352 => gd ((0 : Int) ≤ i334 ∧ i334 < (t30.length : Int)) (gd ((0 : Int) ≤ i334 ∧ i334 < (t30.length : Int)) ((has.f K t24 ((rd t30 i334).1) ((rd t30 i334).2)).bind fun t372 => (if o352 = true then (some false) else (some (!t372))).bind fun o375 => if o375 = true then (some (.inl (false))) else (ScanHurt.l2 K t30 t10 t24 k (IntKind.wrap .i64 (i334 + 1)))))) else (some (.inr ()))
def ScanHurt.f (K : Nat) (a0 : List Int) (a1 : Int) (a2 : Int) : Option (Bool) := (works.f K).bind fun t1 => (if (a0.length : Int) = 0 then (some true) else (some (!t1))).bind fun o4 => if o4 = true then (some t1) else ((lpick.f a1 (a0.length : Int)).bind fun t10 => (lent.f K a0).bind fun t12 => gd ((0 : Int) ≤ t10 ∧ t10 < (t12.1.length : Int)) (gd ((0 : Int) ≤ t10 ∧ t10 < (t12.1.length : Int)) (gd ((0 : Int) ≤ t10 ∧ t10 < (t12.1.length : Int)) (gd ((0 : Int) ≤ t10 ∧ t10 < ((t12.1.set (Int.toNat t10) (Sx.bits .xor .u8 (rd t12.1 t10) a2)).length : Int)) (if (rd (t12.1.set (Int.toNat t10) (Sx.bits .xor .u8 (rd t12.1 t10) a2)) t10) = 167 then (some true) else ((spots.f K a0).bind fun t24 => (spots.f K (t12.1.set (Int.toNat t10) (Sx.bits .xor .u8 (rd t12.1 t10) a2))).bind fun t30 => thn (ScanHurt.l1 K t24 t10 t30 K 0) fun o97 => thn (ScanHurt.l2 K t30 t10 t24 K 0) fun o271 => some true))))))
theorem ScanHurt.calls {B : Nat} {w0 : World} {G : List HP} (K : Nat) (a0 : List Int) (a1 : Int) (a2 : Int) (Aa0 : Option Addr) (ca0 : Nat) (ha0 : RdG B w0 G Aa0 (a0.map (Value.int .u8))) (ka0 : a0.length ≤ ca0) (r : Bool) (H : ScanHurt.f K a0 a1 a2 = some r) (w : World) (hw : St B w0 (G) w) :
    Calls Try.prog 6 [.slice Aa0 a0.length ca0, .int .i64 a1, .int .u8 a2].toArray w (fun e w' => e = .returned (.bool r) ∧ St B w0 (G) w') := by
  unfold ScanHurt.f at H
  refine calls_of (n := 131) (s := [(0, .slice Aa0 a0.length ca0), (1, .int .i64 a1), (2, .int .u8 a2)]) Try.func6 rfl rfl rfl rfl ?_ hw
  refine C.rs ?_
  refine J.p rfl rfl rfl rfl (Y.asg rfl) ?_
  refine J.nx ?_
  refine C.rs ?_
  obtain ⟨t1, hC2, H⟩ := bind_some H
  refine J.call (us := []) (cap := []) rfl rfl rfl go28 (fun w hw => by have hcc := works.calls K t1 hC2 w hw; exact hcc) (fun e w1 h1 => ?_)
  obtain ⟨rfl, hw387⟩ := h1
  refine ⟨_, _, rfl, hw387, ?_⟩
  refine J.p rfl rfl rfl rfl (Y.asg rfl) ?_
  refine J.nx ?_
  refine C.seq ?_
  refine C.rs ?_
  refine J.joinB H (fun (o4 : Bool) (j5 : Unit) => [(0, .slice Aa0 a0.length ca0), (1, .int .i64 a1), (2, .int .u8 a2), (7, .bool t1), (25, .bool o4)]) (fun (o4 : Bool) (j5 : Unit) => G) (fun (o4 : Bool) (j5 : Unit) => True) (fun o6 H HK7 => ?_) (fun o4 j5 H _ => ?_)
  · refine J.p rfl rfl rfl rfl (Y.mv rfl) ?_
    refine J.p rfl rfl rfl rfl (Y.lenS Try.underlying22 rfl) ?_
    refine J.p rfl rfl rfl rfl (Y.bin rfl rfl rfl) ?_
    refine J.p rfl rfl rfl rfl (Y.mv rfl) ?_
    refine split2 H (fun c8 H => ?_) (fun c8 H => ?_)
    · refine J.as (k := 22) rfl (congrArg Value.bool (decide_eq_true c8)) ?_
      refine J.skip rfl rfl ?_
      refine J.skip rfl rfl ?_
      refine J.p rfl rfl rfl rfl (Y.pickT rfl rfl) ?_
      refine J.nil ?_
      obtain rfl := Option.some.inj H
      exact N.meet (true, ()) ⟨HK7, trivial⟩ (by exact ⟨rfl, rfl, rfl, rfl, rfl, trivial⟩) (by exact fun w h => h)
    · refine J.as (k := 22) rfl (congrArg Value.bool (decide_eq_false c8)) ?_
      refine J.p rfl rfl rfl rfl (Y.mv rfl) ?_
      refine J.p rfl rfl rfl rfl (Y.notb rfl) ?_
      refine J.p rfl rfl rfl rfl (Y.pickF rfl rfl) ?_
      refine J.nil ?_
      obtain rfl := Option.some.inj H
      exact N.meet (!t1, ()) ⟨HK7, trivial⟩ (by exact ⟨rfl, rfl, rfl, rfl, rfl, trivial⟩) (by exact fun w h => h)
  · refine C.at (s' := [(0, .slice Aa0 a0.length ca0), (1, .int .i64 a1), (2, .int .u8 a2), (7, .bool t1), (25, .bool o4)]) (G' := G) rfl rfl ?_
    refine split2 H (fun c9 H => ?_) (fun c9 H => ?_)
    · refine C.condT (congrArg (fun b => some (Value.bool b)) (c9)) ?_
      refine C.rs ?_
      refine J.p rfl rfl rfl rfl (Y.mv rfl) ?_
      refine J.p rfl rfl rfl rfl (Y.asg rfl) ?_
      refine J.nx ?_
      refine C.ret ?_
      obtain rfl := Option.some.inj H
      refine T.th ?_
      exact ret_ok (ks := [6]) rfl rfl (fun w h => ⟨rfl, h⟩)
    · refine C.condF (congrArg (fun b => some (Value.bool b)) (nt c9)) ?_
      refine C.skip ?_
      refine N.nx ?_
      refine C.rs ?_
      refine J.p rfl rfl rfl rfl (Y.mv rfl) ?_
      refine J.p rfl rfl rfl rfl (Y.mv rfl) ?_
      refine J.p rfl rfl rfl rfl (Y.lenS Try.underlying22 rfl) ?_
      obtain ⟨t10, hC11, H⟩ := bind_some H
      refine J.call (us := []) (cap := []) rfl rfl rfl go30 (fun w hw => by have hcc := lpick.calls a1 (a0.length : Int) t10 hC11 w hw; exact hcc) (fun e w1 h1 => ?_)
      obtain ⟨rfl, hw386⟩ := h1
      refine ⟨_, _, rfl, hw386, ?_⟩
      refine J.p rfl rfl rfl rfl (Y.asg rfl) ?_
      refine J.nx ?_
      refine C.rs ?_
      refine J.p rfl rfl rfl rfl (Y.mv rfl) ?_
      obtain ⟨t12, hC13, H⟩ := bind_some H
      refine J.call (us := []) (cap := []) rfl rfl rfl go13 (fun w hw => by have hcc := lent.calls K a0 Aa0 ca0 ha0 ka0 t12 hC13 w hw; exact hcc) (fun e w1 h1 => ?_)
      obtain ⟨A14, c15, rfl, hw385⟩ := h1
      refine ⟨_, _, rfl, hw385, ?_⟩
      refine J.p rfl rfl rfl rfl (Y.asg rfl) ?_
      refine J.nx ?_
      refine C.rs ?_
      refine J.p rfl rfl rfl rfl (Y.mv rfl) ?_
      refine J.p rfl rfl rfl rfl (Y.mv rfl) ?_
      refine J.p rfl rfl rfl rfl (Y.mv rfl) ?_
      refine J.p rfl rfl rfl rfl (Y.mv rfl) ?_
      obtain ⟨p17, H⟩ := gd_some H
      refine J.el rfl rfl rfl Try.underlying22 ti5 Try.underlying5 rfl rfl rfl p17 (RdG.pre (RdG.own 0 rfl)) ?_
      refine J.p rfl rfl rfl rfl (Y.mv rfl) ?_
      refine J.p rfl rfl rfl rfl (Y.bin rfl rfl rfl) ?_
      obtain ⟨p20, H⟩ := gd_some H
      refine J.know ((RdG.pre (RdG.own 0 rfl)).some_ (j := Int.toNat t10) (by rw [List.length_map]; exact idx_lt p20)) (fun hh => ?_)
      obtain ⟨a18, ha19⟩ := hh
      refine J.p rfl rfl rfl rfl (Y.ixa Try.underlying22 ti5 rfl rfl p20 ha19) ?_
      obtain ⟨p21, H⟩ := gd_some H
      refine J.stoLz (enc := (Value.int .u8)) ti5 ha19 rfl rfl rfl p21 ?_
      refine J.as (k := 9) rfl (set_len t12.1 (Int.toNat t10) (Sx.bits .xor .u8 (rd t12.1 t10) a2)) ?_
      refine J.nx ?_
      refine C.seq ?_
      refine C.rs ?_
      refine J.p rfl rfl rfl rfl (Y.mv rfl) ?_
      refine J.p rfl rfl rfl rfl (Y.mv rfl) ?_
      obtain ⟨p22, H⟩ := gd_some H
      refine J.el rfl rfl rfl Try.underlying22 ti5 Try.underlying5 rfl rfl rfl p22 (RdG.pre (RdG.own 0 rfl)) ?_
      refine J.p rfl rfl rfl rfl (Y.bin rfl rfl rfl) ?_
      refine J.nx ?_
      refine split2 H (fun c23 H => ?_) (fun c23 H => ?_)
      · refine C.condT (congrArg (fun b => some (Value.bool b)) (decide_eq_true c23)) ?_
        refine C.rs ?_
        refine J.p rfl rfl rfl rfl (Y.asg rfl) ?_
        refine J.nx ?_
        refine C.ret ?_
        obtain rfl := Option.some.inj H
        refine T.th ?_
        exact ret_ok (ks := [6]) rfl rfl (fun w h => ⟨rfl, (St.pick [] [_] h rfl)⟩)
      · refine C.condF (congrArg (fun b => some (Value.bool b)) (decide_eq_false c23)) ?_
        refine C.skip ?_
        refine N.nx ?_
        refine C.rs ?_
        refine J.p rfl rfl rfl rfl (Y.mv rfl) ?_
        obtain ⟨t24, hC25, H⟩ := bind_some H
        refine J.call (us := []) (cap := []) rfl rfl rfl go31 (fun w hw => by have hcc := spots.calls K a0 Aa0 ca0 (ha0.suf [_] rfl) ka0 t24 hC25 w hw; exact hcc) (fun e w1 h1 => ?_)
        obtain ⟨A26, c27, rfl, hw384⟩ := h1
        refine ⟨_, _, rfl, hw384, ?_⟩
        refine J.p rfl rfl rfl rfl (Y.asg rfl) ?_
        refine J.nx ?_
        refine C.rs ?_
        refine J.p rfl rfl rfl rfl (Y.mv rfl) ?_
        refine J.know (own_leL 1 rfl) (fun hc29 => ?_)
        obtain ⟨t30, hC31, H⟩ := bind_some H
        refine J.call (us := []) (cap := []) rfl rfl rfl go31 (fun w hw => by have hcc := spots.calls K (t12.1.set (Int.toNat t10) (Sx.bits .xor .u8 (rd t12.1 t10) a2)) A14 c15 (RdG.pre (RdG.own 1 rfl)) (len_pre hc29) t30 hC31 w hw; exact hcc) (fun e w1 h1 => ?_)
        obtain ⟨A32, c33, rfl, hw383⟩ := h1
        refine ⟨_, _, rfl, hw383, ?_⟩
        refine J.p rfl rfl rfl rfl (Y.asg rfl) ?_
        refine J.nx ?_
        refine C.seq ?_
        refine C.rs ?_
        refine J.p rfl rfl rfl rfl (Y.asg rfl) ?_
        refine J.nx ?_
        refine C.joinNR H (fun (o97 : Unit) (j98 : Unit) => [(8, .int .i64 t10), (10, .slice A26 t24.length c27), (11, .slice A32 t30.length c33)]) (fun (o97 : Unit) (j98 : Unit) => own 62 2 A26 c27 (t24.flatMap encT62_) :: own 62 2 A32 c33 (t30.flatMap encT62_) :: G) (fun (o97 : Unit) (j98 : Unit) => True) (fun o95 H HK96 => ?_) (fun o97 j98 H _ => ?_)
        · refine C.blk ?_
          refine C.loop (fun (i : Nat × (Int) × (Unit)) => [(8, .int .i64 t10), (10, .slice A26 t24.length c27), (11, .slice A32 t30.length c33), (12, .int .i64 i.2.1)]) (fun (i : Nat × (Int) × (Unit)) => own 62 2 A26 c27 (t24.flatMap encT62_) :: own 62 2 A32 c33 (t30.flatMap encT62_) :: G) (fun (i : Nat × (Int) × (Unit)) => ScanHurt.l1 K t24 t10 t30 i.1 i.2.1 = some o95 ∧ (True)) (fun i => i.1) (K, 0, ()) ⟨H, trivial⟩ (by exact ⟨rfl, rfl, rfl, rfl, trivial⟩) (by exact fun w h => (St.pick [1, 0] [_, _, _] h rfl)) ?_
          rintro ⟨k208, i160, j161⟩ ⟨H, _⟩
          replace H : ScanHurt.l1 K t24 t10 t30 k208 i160 = some o95 := H
          obtain ⟨k159, rfl⟩ : ∃ m, k208 = m + 1 := by cases k208 with | zero => exact absurd H (by simp [ScanHurt.l1]) | succ m => exact ⟨m, rfl⟩
          rw [ScanHurt.l1] at H
          refine C.at (s' := [(8, .int .i64 t10), (10, .slice A26 t24.length c27), (11, .slice A32 t30.length c33), (12, .int .i64 i160)]) (G' := own 62 2 A26 c27 (t24.flatMap encT62_) :: own 62 2 A32 c33 (t30.flatMap encT62_) :: G) rfl rfl ?_
          refine C.seq ?_
          refine C.rs ?_
          refine J.p rfl rfl rfl rfl (Y.mv rfl) ?_
          refine J.p rfl rfl rfl rfl (Y.mv rfl) ?_
          refine J.p rfl rfl rfl rfl (Y.lenS Try.underlying59 rfl) ?_
          refine J.p rfl rfl rfl rfl (Y.bin rfl rfl rfl) ?_
          refine J.nx ?_
          refine split2 H (fun c162 H => ?_) (fun c162 H => ?_)
          · refine C.condT (congrArg (fun b => some (Value.bool b)) (decide_eq_true c162)) ?_
            refine C.skip ?_
            refine N.nx ?_
            refine C.seq ?_
            refine C.blk ?_
            refine C.joinB H (fun (o178 : Bool) (j179 : Unit) => [(8, .int .i64 t10), (10, .slice A26 t24.length c27), (11, .slice A32 t30.length c33), (12, .int .i64 i160), (13, .bool o178)]) (fun (o178 : Bool) (j179 : Unit) => own 62 2 A26 c27 (t24.flatMap encT62_) :: own 62 2 A32 c33 (t30.flatMap encT62_) :: G) (fun (o178 : Bool) (j179 : Unit) => True) (fun o176 H HK177 => ?_) (fun o178 j179 H _ => ?_)
            · refine C.drawn (fuel := 23) (ls := [false, false, false, false, false, false, false, false, false, false, false, false, false, false, false, false, false, false, false, false, false, false, false]) [] (own 62 2 A26 c27 (t24.flatMap encT62_) :: own 62 2 A32 c33 (t30.flatMap encT62_) :: G) mx rfl rfl ?_
              refine D.p (ls' := [true, false, false, false, false, false, false, false, false, false, false, false, false, false, false, false, false, false, false, false, false, false, false]) 0 rfl rfl rfl rfl (by kernel_rfl) rfl (Y.mv rfl) ?_
              refine D.p (ls' := [true, true, false, false, false, false, false, false, false, false, false, false, false, false, false, false, false, false, false, false, false, false, false]) 1 rfl rfl rfl rfl (by kernel_rfl) rfl (Y.mv rfl) ?_
              refine D.p (ls' := [true, true, true, false, false, false, false, false, false, false, false, false, false, false, false, false, false, false, false, false, false, false, false]) 2 rfl rfl rfl rfl (by kernel_rfl) rfl (Y.mv rfl) ?_
              obtain ⟨p182, H⟩ := gd_some H
              refine D.know (RdG.someM lenT62_ (by decide) (RdG.own 0 rfl) p182) (fun hh => ?_)
              obtain ⟨a180, ha181⟩ := hh
              refine D.p (ls' := [true, true, true, true, false, false, false, false, false, false, false, false, false, false, false, false, false, false, false, false, false, false, false]) 3 rfl rfl rfl rfl (by kernel_rfl) rfl (Y.ixa Try.underlying59 ti62 rfl rfl p182 ha181) ?_
              refine D.p (ls' := [true, true, true, true, true, false, false, false, false, false, false, false, false, false, false, false, false, false, false, false, false, false, false]) 4 rfl rfl rfl rfl (by kernel_rfl) rfl (Y.faA fa62_0 rfl) ?_
              obtain ⟨p183, H⟩ := gd_some H
              refine D.r (ls' := [true, true, true, true, true, true, false, false, false, false, false, false, false, false, false, false, false, false, false, false, false, false, false]) 5 1 0 rfl rfl rfl rfl (by kernel_rfl) (by kernel_rfl) rfl rfl (Y.ldF lenT62_ Try.underlying3 rfl rfl ha181 p183 (by decide) (RdG.own 0 rfl) rfl) ?_
              refine D.p (ls' := [true, true, true, true, true, true, true, false, false, false, false, false, false, false, false, false, false, false, false, false, false, false, false]) 6 rfl rfl rfl rfl (by kernel_rfl) rfl (Y.bin rfl rfl rfl) ?_
              refine D.p (ls' := [true, true, true, true, true, true, true, true, false, false, false, false, false, false, false, false, false, false, false, false, false, false, false]) 7 rfl rfl rfl rfl (by kernel_rfl) rfl (Y.mv rfl) ?_
              refine split2 H (fun c184 H => ?_) (fun c184 H => ?_)
              · refine D.as (k := 64) rfl (congrArg Value.bool (decide_eq_true c184)) ?_
                refine D.p (ls' := [true, true, true, true, true, true, true, true, true, false, false, false, false, false, false, false, false, false, false, false, false, false, false]) 8 rfl rfl rfl rfl (by kernel_rfl) rfl (Y.mv rfl) ?_
                refine D.p (ls' := [true, true, true, true, true, true, true, true, true, true, false, false, false, false, false, false, false, false, false, false, false, false, false]) 9 rfl rfl rfl rfl (by kernel_rfl) rfl (Y.mv rfl) ?_
                refine D.p (ls' := [true, true, true, true, true, true, true, true, true, true, true, false, false, false, false, false, false, false, false, false, false, false, false]) 10 rfl rfl rfl rfl (by kernel_rfl) rfl (Y.mv rfl) ?_
                obtain ⟨p187, H⟩ := gd_some H
                refine D.know (RdG.someM lenT62_ (by decide) (RdG.own 0 rfl) p187) (fun hh => ?_)
                obtain ⟨a185, ha186⟩ := hh
                refine D.p (ls' := [true, true, true, true, true, true, true, true, true, true, true, true, false, false, false, false, false, false, false, false, false, false, false]) 11 rfl rfl rfl rfl (by kernel_rfl) rfl (Y.ixa Try.underlying59 ti62 rfl rfl p187 ha186) ?_
                refine D.p (ls' := [true, true, true, true, true, true, true, true, true, true, true, true, true, false, false, false, false, false, false, false, false, false, false]) 12 rfl rfl rfl rfl (by kernel_rfl) rfl (Y.faA fa62_0 rfl) ?_
                obtain ⟨p188, H⟩ := gd_some H
                refine D.r (ls' := [true, true, true, true, true, true, true, true, true, true, true, true, true, true, false, false, false, false, false, false, false, false, false]) 13 1 0 rfl rfl rfl rfl (by kernel_rfl) (by kernel_rfl) rfl rfl (Y.ldF lenT62_ Try.underlying3 rfl rfl ha186 p188 (by decide) (RdG.own 0 rfl) rfl) ?_
                refine D.p (ls' := [true, true, true, true, true, true, true, true, true, true, true, true, true, true, true, false, false, false, false, false, false, false, false]) 14 rfl rfl rfl rfl (by kernel_rfl) rfl (Y.mv rfl) ?_
                refine D.p (ls' := [true, true, true, true, true, true, true, true, true, true, true, true, true, true, true, true, false, false, false, false, false, false, false]) 15 rfl rfl rfl rfl (by kernel_rfl) rfl (Y.mv rfl) ?_
                obtain ⟨p191, H⟩ := gd_some H
                refine D.know (RdG.someM lenT62_ (by decide) (RdG.own 0 rfl) p191) (fun hh => ?_)
                obtain ⟨a189, ha190⟩ := hh
                refine D.p (ls' := [true, true, true, true, true, true, true, true, true, true, true, true, true, true, true, true, true, false, false, false, false, false, false]) 16 rfl rfl rfl rfl (by kernel_rfl) rfl (Y.ixa Try.underlying59 ti62 rfl rfl p191 ha190) ?_
                refine D.p (ls' := [true, true, true, true, true, true, true, true, true, true, true, true, true, true, true, true, true, true, false, false, false, false, false]) 17 rfl rfl rfl rfl (by kernel_rfl) rfl (Y.faA fa62_1 rfl) ?_
                obtain ⟨p192, H⟩ := gd_some H
                refine D.r (ls' := [true, true, true, true, true, true, true, true, true, true, true, true, true, true, true, true, true, true, true, false, false, false, false]) 18 1 0 rfl rfl rfl rfl (by kernel_rfl) (by kernel_rfl) rfl rfl (Y.ldF lenT62_ Try.underlying3 rfl rfl ha190 p192 (by decide) (RdG.own 0 rfl) rfl) ?_
                refine D.p (ls' := [true, true, true, true, true, true, true, true, true, true, true, true, true, true, true, true, true, true, true, true, false, false, false]) 19 rfl rfl rfl rfl (by kernel_rfl) rfl (Y.bin rfl rfl rfl) ?_
                refine D.p (ls' := [true, true, true, true, true, true, true, true, true, true, true, true, true, true, true, true, true, true, true, true, true, false, false]) 20 rfl rfl rfl rfl (by kernel_rfl) rfl (Y.bin rfl rfl rfl) ?_
                refine D.p (ls' := [true, true, true, true, true, true, true, true, true, true, true, true, true, true, true, true, true, true, true, true, true, true, false]) 21 rfl rfl rfl rfl (by kernel_rfl) rfl (Y.pickT rfl rfl) ?_
                refine D.p (ls' := [true, true, true, true, true, true, true, true, true, true, true, true, true, true, true, true, true, true, true, true, true, true, true]) 22 rfl rfl rfl rfl (by kernel_rfl) rfl (Y.asg rfl) ?_
                refine D.nil (by kernel_rfl) ?_
                obtain rfl := Option.some.inj H
                exact N.meet (decide (t10 < (IntKind.wrap .i64 (((rd t24 i160).1) + ((rd t24 i160).2)))), ()) ⟨HK177, trivial⟩ (by exact ⟨rfl, rfl, rfl, rfl, rfl, trivial⟩) (by exact fun w h => h)
              · refine D.as (k := 64) rfl (congrArg Value.bool (decide_eq_false c184)) ?_
                refine D.off (ls' := [true, true, true, true, true, true, true, true, true, false, false, false, false, false, false, false, false, false, false, false, false, false, false]) 8 rfl rfl rfl rfl (by kernel_rfl) rfl ?_
                refine D.off (ls' := [true, true, true, true, true, true, true, true, true, true, false, false, false, false, false, false, false, false, false, false, false, false, false]) 9 rfl rfl rfl rfl (by kernel_rfl) rfl ?_
                refine D.off (ls' := [true, true, true, true, true, true, true, true, true, true, true, false, false, false, false, false, false, false, false, false, false, false, false]) 10 rfl rfl rfl rfl (by kernel_rfl) rfl ?_
                refine D.off (ls' := [true, true, true, true, true, true, true, true, true, true, true, true, false, false, false, false, false, false, false, false, false, false, false]) 11 rfl rfl rfl rfl (by kernel_rfl) rfl ?_
                refine D.off (ls' := [true, true, true, true, true, true, true, true, true, true, true, true, true, false, false, false, false, false, false, false, false, false, false]) 12 rfl rfl rfl rfl (by kernel_rfl) rfl ?_
                refine D.off (ls' := [true, true, true, true, true, true, true, true, true, true, true, true, true, true, false, false, false, false, false, false, false, false, false]) 13 rfl rfl rfl rfl (by kernel_rfl) rfl ?_
                refine D.off (ls' := [true, true, true, true, true, true, true, true, true, true, true, true, true, true, true, false, false, false, false, false, false, false, false]) 14 rfl rfl rfl rfl (by kernel_rfl) rfl ?_
                refine D.off (ls' := [true, true, true, true, true, true, true, true, true, true, true, true, true, true, true, true, false, false, false, false, false, false, false]) 15 rfl rfl rfl rfl (by kernel_rfl) rfl ?_
                refine D.off (ls' := [true, true, true, true, true, true, true, true, true, true, true, true, true, true, true, true, true, false, false, false, false, false, false]) 16 rfl rfl rfl rfl (by kernel_rfl) rfl ?_
                refine D.off (ls' := [true, true, true, true, true, true, true, true, true, true, true, true, true, true, true, true, true, true, false, false, false, false, false]) 17 rfl rfl rfl rfl (by kernel_rfl) rfl ?_
                refine D.off (ls' := [true, true, true, true, true, true, true, true, true, true, true, true, true, true, true, true, true, true, true, false, false, false, false]) 18 rfl rfl rfl rfl (by kernel_rfl) rfl ?_
                refine D.off (ls' := [true, true, true, true, true, true, true, true, true, true, true, true, true, true, true, true, true, true, true, true, false, false, false]) 19 rfl rfl rfl rfl (by kernel_rfl) rfl ?_
                refine D.off (ls' := [true, true, true, true, true, true, true, true, true, true, true, true, true, true, true, true, true, true, true, true, true, false, false]) 20 rfl rfl rfl rfl (by kernel_rfl) rfl ?_
                refine D.p (ls' := [true, true, true, true, true, true, true, true, true, true, true, true, true, true, true, true, true, true, true, true, true, true, false]) 21 rfl rfl rfl rfl (by kernel_rfl) rfl (Y.pickF rfl rfl) ?_
                refine D.p (ls' := [true, true, true, true, true, true, true, true, true, true, true, true, true, true, true, true, true, true, true, true, true, true, true]) 22 rfl rfl rfl rfl (by kernel_rfl) rfl (Y.asg rfl) ?_
                refine D.nil (by kernel_rfl) ?_
                obtain rfl := Option.some.inj H
                exact N.meet (false, ()) ⟨HK177, trivial⟩ (by exact ⟨rfl, rfl, rfl, rfl, rfl, trivial⟩) (by exact fun w h => h)
            · refine C.at (s' := [(8, .int .i64 t10), (10, .slice A26 t24.length c27), (11, .slice A32 t30.length c33), (12, .int .i64 i160), (13, .bool o178)]) (G' := own 62 2 A26 c27 (t24.flatMap encT62_) :: own 62 2 A32 c33 (t30.flatMap encT62_) :: G) rfl rfl ?_
              refine C.rs ?_
              refine J.p rfl rfl rfl rfl (Y.mv rfl) ?_
              refine J.p rfl rfl rfl rfl (Y.mv rfl) ?_
              refine J.p rfl rfl rfl rfl (Y.mv rfl) ?_
              obtain ⟨p195, H⟩ := gd_some H
              refine J.know (RdG.someM lenT62_ (by decide) (RdG.own 0 rfl) p195) (fun hh => ?_)
              obtain ⟨a193, ha194⟩ := hh
              refine J.p rfl rfl rfl rfl (Y.ixa Try.underlying59 ti62 rfl rfl p195 ha194) ?_
              obtain ⟨p196, H⟩ := gd_some H
              refine J.r rfl rfl rfl rfl (Y.ldM (us := [.int .i64 ((rd t24 i160).1), .int .i64 ((rd t24 i160).2)]) lenT62_ Try.underlying62 rfl ti62 rfl ha194 p196 (RdG.own 0 rfl) rfl) ?_
              refine J.know (own_leM lenT62_ (by decide) 1 rfl) (fun hc197 => ?_)
              obtain ⟨t198, hC199, H⟩ := bind_some H
              refine J.call (us := []) (cap := []) rfl rfl rfl go32 (fun w hw => by have hcc := has.calls K t30 ((rd t24 i160).1) ((rd t24 i160).2) A32 c33 (RdG.own 1 rfl) hc197 t198 hC199 w hw; exact hcc) (fun e w1 h1 => ?_)
              obtain ⟨rfl, hw207⟩ := h1
              refine ⟨_, _, rfl, hw207, ?_⟩
              refine J.p rfl rfl rfl rfl (Y.asg rfl) ?_
              refine J.nx ?_
              refine C.rs ?_
              refine J.joinB H (fun (o201 : Bool) (j202 : Unit) => [(8, .int .i64 t10), (10, .slice A26 t24.length c27), (11, .slice A32 t30.length c33), (12, .int .i64 i160), (90, .bool o201)]) (fun (o201 : Bool) (j202 : Unit) => own 62 2 A26 c27 (t24.flatMap encT62_) :: own 62 2 A32 c33 (t30.flatMap encT62_) :: G) (fun (o201 : Bool) (j202 : Unit) => True) (fun o203 H HK204 => ?_) (fun o201 j202 H _ => ?_)
              · refine J.p rfl rfl rfl rfl (Y.mv rfl) ?_
                refine J.p rfl rfl rfl rfl (Y.notb rfl) ?_
                refine J.p rfl rfl rfl rfl (Y.mv rfl) ?_
                refine split2 H (fun c205 H => ?_) (fun c205 H => ?_)
                · refine J.as (k := 87) rfl (congrArg Value.bool (congrArg Bool.not (c205))) ?_
                  refine J.skip rfl rfl ?_
                  refine J.skip rfl rfl ?_
                  refine J.p rfl rfl rfl rfl (Y.pickF rfl rfl) ?_
                  refine J.nil ?_
                  obtain rfl := Option.some.inj H
                  exact N.meet (false, ()) ⟨HK204, trivial⟩ (by exact ⟨rfl, rfl, rfl, rfl, rfl, trivial⟩) (by exact fun w h => h)
                · refine J.as (k := 87) rfl (congrArg Value.bool (congrArg Bool.not (nt c205))) ?_
                  refine J.p rfl rfl rfl rfl (Y.mv rfl) ?_
                  refine J.p rfl rfl rfl rfl (Y.notb rfl) ?_
                  refine J.p rfl rfl rfl rfl (Y.pickT rfl rfl) ?_
                  refine J.nil ?_
                  obtain rfl := Option.some.inj H
                  exact N.meet (!t198, ()) ⟨HK204, trivial⟩ (by exact ⟨rfl, rfl, rfl, rfl, rfl, trivial⟩) (by exact fun w h => h)
              · refine C.at (s' := [(8, .int .i64 t10), (10, .slice A26 t24.length c27), (11, .slice A32 t30.length c33), (12, .int .i64 i160), (90, .bool o201)]) (G' := own 62 2 A26 c27 (t24.flatMap encT62_) :: own 62 2 A32 c33 (t30.flatMap encT62_) :: G) rfl rfl ?_
                refine split2 H (fun c206 H => ?_) (fun c206 H => ?_)
                · refine C.condT (congrArg (fun b => some (Value.bool b)) (c206)) ?_
                  refine C.rs ?_
                  refine J.p rfl rfl rfl rfl (Y.asg rfl) ?_
                  refine J.nx ?_
                  refine C.ret ?_
                  obtain rfl := Option.some.inj H
                  obtain rfl := fin_inl HK96
                  refine T.ib ?_
                  refine T.th ?_
                  refine T.th ?_
                  refine T.ib ?_
                  refine T.th ?_
                  refine T.th ?_
                  exact ret_ok (ks := [6]) rfl rfl (fun w h => ⟨rfl, (St.pick [] [_, _] h rfl)⟩)
                · refine C.condF (congrArg (fun b => some (Value.bool b)) (nt c206)) ?_
                  refine C.skip ?_
                  refine N.ib ?_
                  refine N.nx ?_
                  refine C.reg ?_
                  refine J.p rfl rfl rfl rfl (Y.mv rfl) ?_
                  refine J.p rfl rfl rfl rfl (Y.bin rfl rfl rfl) ?_
                  refine J.p rfl rfl rfl rfl (Y.asg rfl) ?_
                  refine J.nil ?_
                  exact N.again (k159, IntKind.wrap .i64 (i160 + 1), ()) ⟨H, trivial⟩ (Nat.lt_succ_self _) (by exact ⟨rfl, rfl, rfl, rfl, trivial⟩) (by exact fun w h => h)
          · refine C.condF (congrArg (fun b => some (Value.bool b)) (decide_eq_false c162)) ?_
            refine C.exit ?_
            refine X.th ?_
            refine X.th ?_
            refine X.hit ?_
            obtain rfl := Option.some.inj H
            exact N.meet ((), ()) ⟨fin_inr HK96, trivial⟩ (by exact ⟨rfl, rfl, rfl, trivial⟩) (by exact fun w h => h)
        · refine N.at (s' := [(8, .int .i64 t10), (10, .slice A26 t24.length c27), (11, .slice A32 t30.length c33)]) (G' := own 62 2 A26 c27 (t24.flatMap encT62_) :: own 62 2 A32 c33 (t30.flatMap encT62_) :: G) rfl rfl ?_
          refine N.nx ?_
          refine C.seq ?_
          refine C.rs ?_
          refine J.p rfl rfl rfl rfl (Y.asg rfl) ?_
          refine J.nx ?_
          refine C.joinNR H (fun (o271 : Unit) (j272 : Unit) => []) (fun (o271 : Unit) (j272 : Unit) => G) (fun (o271 : Unit) (j272 : Unit) => True) (fun o269 H HK270 => ?_) (fun o271 j272 H _ => ?_)
          · refine C.blk ?_
            refine C.loop (fun (i : Nat × (Int) × (Unit)) => [(8, .int .i64 t10), (10, .slice A26 t24.length c27), (11, .slice A32 t30.length c33), (15, .int .i64 i.2.1)]) (fun (i : Nat × (Int) × (Unit)) => own 62 2 A26 c27 (t24.flatMap encT62_) :: own 62 2 A32 c33 (t30.flatMap encT62_) :: G) (fun (i : Nat × (Int) × (Unit)) => ScanHurt.l2 K t30 t10 t24 i.1 i.2.1 = some o269 ∧ (True)) (fun i => i.1) (K, 0, ()) ⟨H, trivial⟩ (by exact ⟨rfl, rfl, rfl, rfl, trivial⟩) (by exact fun w h => h) ?_
            rintro ⟨k382, i334, j335⟩ ⟨H, _⟩
            replace H : ScanHurt.l2 K t30 t10 t24 k382 i334 = some o269 := H
            obtain ⟨k333, rfl⟩ : ∃ m, k382 = m + 1 := by cases k382 with | zero => exact absurd H (by simp [ScanHurt.l2]) | succ m => exact ⟨m, rfl⟩
            rw [ScanHurt.l2] at H
            refine C.at (s' := [(8, .int .i64 t10), (10, .slice A26 t24.length c27), (11, .slice A32 t30.length c33), (15, .int .i64 i334)]) (G' := own 62 2 A26 c27 (t24.flatMap encT62_) :: own 62 2 A32 c33 (t30.flatMap encT62_) :: G) rfl rfl ?_
            refine C.seq ?_
            refine C.rs ?_
            refine J.p rfl rfl rfl rfl (Y.mv rfl) ?_
            refine J.p rfl rfl rfl rfl (Y.mv rfl) ?_
            refine J.p rfl rfl rfl rfl (Y.lenS Try.underlying59 rfl) ?_
            refine J.p rfl rfl rfl rfl (Y.bin rfl rfl rfl) ?_
            refine J.nx ?_
            refine split2 H (fun c336 H => ?_) (fun c336 H => ?_)
            · refine C.condT (congrArg (fun b => some (Value.bool b)) (decide_eq_true c336)) ?_
              refine C.skip ?_
              refine N.nx ?_
              refine C.seq ?_
              refine C.blk ?_
              refine C.joinB H (fun (o352 : Bool) (j353 : Unit) => [(8, .int .i64 t10), (10, .slice A26 t24.length c27), (11, .slice A32 t30.length c33), (15, .int .i64 i334), (16, .bool o352)]) (fun (o352 : Bool) (j353 : Unit) => own 62 2 A26 c27 (t24.flatMap encT62_) :: own 62 2 A32 c33 (t30.flatMap encT62_) :: G) (fun (o352 : Bool) (j353 : Unit) => True) (fun o350 H HK351 => ?_) (fun o352 j353 H _ => ?_)
              · refine C.drawn (fuel := 23) (ls := [false, false, false, false, false, false, false, false, false, false, false, false, false, false, false, false, false, false, false, false, false, false, false]) [] (own 62 2 A26 c27 (t24.flatMap encT62_) :: own 62 2 A32 c33 (t30.flatMap encT62_) :: G) mx rfl rfl ?_
                refine D.p (ls' := [true, false, false, false, false, false, false, false, false, false, false, false, false, false, false, false, false, false, false, false, false, false, false]) 0 rfl rfl rfl rfl (by kernel_rfl) rfl (Y.mv rfl) ?_
                refine D.p (ls' := [true, true, false, false, false, false, false, false, false, false, false, false, false, false, false, false, false, false, false, false, false, false, false]) 1 rfl rfl rfl rfl (by kernel_rfl) rfl (Y.mv rfl) ?_
                refine D.p (ls' := [true, true, true, false, false, false, false, false, false, false, false, false, false, false, false, false, false, false, false, false, false, false, false]) 2 rfl rfl rfl rfl (by kernel_rfl) rfl (Y.mv rfl) ?_
                obtain ⟨p356, H⟩ := gd_some H
                refine D.know (RdG.someM lenT62_ (by decide) (RdG.own 1 rfl) p356) (fun hh => ?_)
                obtain ⟨a354, ha355⟩ := hh
                refine D.p (ls' := [true, true, true, true, false, false, false, false, false, false, false, false, false, false, false, false, false, false, false, false, false, false, false]) 3 rfl rfl rfl rfl (by kernel_rfl) rfl (Y.ixa Try.underlying59 ti62 rfl rfl p356 ha355) ?_
                refine D.p (ls' := [true, true, true, true, true, false, false, false, false, false, false, false, false, false, false, false, false, false, false, false, false, false, false]) 4 rfl rfl rfl rfl (by kernel_rfl) rfl (Y.faA fa62_0 rfl) ?_
                obtain ⟨p357, H⟩ := gd_some H
                refine D.r (ls' := [true, true, true, true, true, true, false, false, false, false, false, false, false, false, false, false, false, false, false, false, false, false, false]) 5 1 0 rfl rfl rfl rfl (by kernel_rfl) (by kernel_rfl) rfl rfl (Y.ldF lenT62_ Try.underlying3 rfl rfl ha355 p357 (by decide) (RdG.own 1 rfl) rfl) ?_
                refine D.p (ls' := [true, true, true, true, true, true, true, false, false, false, false, false, false, false, false, false, false, false, false, false, false, false, false]) 6 rfl rfl rfl rfl (by kernel_rfl) rfl (Y.bin rfl rfl rfl) ?_
                refine D.p (ls' := [true, true, true, true, true, true, true, true, false, false, false, false, false, false, false, false, false, false, false, false, false, false, false]) 7 rfl rfl rfl rfl (by kernel_rfl) rfl (Y.mv rfl) ?_
                refine split2 H (fun c358 H => ?_) (fun c358 H => ?_)
                · refine D.as (k := 104) rfl (congrArg Value.bool (decide_eq_true c358)) ?_
                  refine D.p (ls' := [true, true, true, true, true, true, true, true, true, false, false, false, false, false, false, false, false, false, false, false, false, false, false]) 8 rfl rfl rfl rfl (by kernel_rfl) rfl (Y.mv rfl) ?_
                  refine D.p (ls' := [true, true, true, true, true, true, true, true, true, true, false, false, false, false, false, false, false, false, false, false, false, false, false]) 9 rfl rfl rfl rfl (by kernel_rfl) rfl (Y.mv rfl) ?_
                  refine D.p (ls' := [true, true, true, true, true, true, true, true, true, true, true, false, false, false, false, false, false, false, false, false, false, false, false]) 10 rfl rfl rfl rfl (by kernel_rfl) rfl (Y.mv rfl) ?_
                  obtain ⟨p361, H⟩ := gd_some H
                  refine D.know (RdG.someM lenT62_ (by decide) (RdG.own 1 rfl) p361) (fun hh => ?_)
                  obtain ⟨a359, ha360⟩ := hh
                  refine D.p (ls' := [true, true, true, true, true, true, true, true, true, true, true, true, false, false, false, false, false, false, false, false, false, false, false]) 11 rfl rfl rfl rfl (by kernel_rfl) rfl (Y.ixa Try.underlying59 ti62 rfl rfl p361 ha360) ?_
                  refine D.p (ls' := [true, true, true, true, true, true, true, true, true, true, true, true, true, false, false, false, false, false, false, false, false, false, false]) 12 rfl rfl rfl rfl (by kernel_rfl) rfl (Y.faA fa62_0 rfl) ?_
                  obtain ⟨p362, H⟩ := gd_some H
                  refine D.r (ls' := [true, true, true, true, true, true, true, true, true, true, true, true, true, true, false, false, false, false, false, false, false, false, false]) 13 1 0 rfl rfl rfl rfl (by kernel_rfl) (by kernel_rfl) rfl rfl (Y.ldF lenT62_ Try.underlying3 rfl rfl ha360 p362 (by decide) (RdG.own 1 rfl) rfl) ?_
                  refine D.p (ls' := [true, true, true, true, true, true, true, true, true, true, true, true, true, true, true, false, false, false, false, false, false, false, false]) 14 rfl rfl rfl rfl (by kernel_rfl) rfl (Y.mv rfl) ?_
                  refine D.p (ls' := [true, true, true, true, true, true, true, true, true, true, true, true, true, true, true, true, false, false, false, false, false, false, false]) 15 rfl rfl rfl rfl (by kernel_rfl) rfl (Y.mv rfl) ?_
                  obtain ⟨p365, H⟩ := gd_some H
                  refine D.know (RdG.someM lenT62_ (by decide) (RdG.own 1 rfl) p365) (fun hh => ?_)
                  obtain ⟨a363, ha364⟩ := hh
                  refine D.p (ls' := [true, true, true, true, true, true, true, true, true, true, true, true, true, true, true, true, true, false, false, false, false, false, false]) 16 rfl rfl rfl rfl (by kernel_rfl) rfl (Y.ixa Try.underlying59 ti62 rfl rfl p365 ha364) ?_
                  refine D.p (ls' := [true, true, true, true, true, true, true, true, true, true, true, true, true, true, true, true, true, true, false, false, false, false, false]) 17 rfl rfl rfl rfl (by kernel_rfl) rfl (Y.faA fa62_1 rfl) ?_
                  obtain ⟨p366, H⟩ := gd_some H
                  refine D.r (ls' := [true, true, true, true, true, true, true, true, true, true, true, true, true, true, true, true, true, true, true, false, false, false, false]) 18 1 0 rfl rfl rfl rfl (by kernel_rfl) (by kernel_rfl) rfl rfl (Y.ldF lenT62_ Try.underlying3 rfl rfl ha364 p366 (by decide) (RdG.own 1 rfl) rfl) ?_
                  refine D.p (ls' := [true, true, true, true, true, true, true, true, true, true, true, true, true, true, true, true, true, true, true, true, false, false, false]) 19 rfl rfl rfl rfl (by kernel_rfl) rfl (Y.bin rfl rfl rfl) ?_
                  refine D.p (ls' := [true, true, true, true, true, true, true, true, true, true, true, true, true, true, true, true, true, true, true, true, true, false, false]) 20 rfl rfl rfl rfl (by kernel_rfl) rfl (Y.bin rfl rfl rfl) ?_
                  refine D.p (ls' := [true, true, true, true, true, true, true, true, true, true, true, true, true, true, true, true, true, true, true, true, true, true, false]) 21 rfl rfl rfl rfl (by kernel_rfl) rfl (Y.pickT rfl rfl) ?_
                  refine D.p (ls' := [true, true, true, true, true, true, true, true, true, true, true, true, true, true, true, true, true, true, true, true, true, true, true]) 22 rfl rfl rfl rfl (by kernel_rfl) rfl (Y.asg rfl) ?_
                  refine D.nil (by kernel_rfl) ?_
                  obtain rfl := Option.some.inj H
                  exact N.meet (decide (t10 < (IntKind.wrap .i64 (((rd t30 i334).1) + ((rd t30 i334).2)))), ()) ⟨HK351, trivial⟩ (by exact ⟨rfl, rfl, rfl, rfl, rfl, trivial⟩) (by exact fun w h => h)
                · refine D.as (k := 104) rfl (congrArg Value.bool (decide_eq_false c358)) ?_
                  refine D.off (ls' := [true, true, true, true, true, true, true, true, true, false, false, false, false, false, false, false, false, false, false, false, false, false, false]) 8 rfl rfl rfl rfl (by kernel_rfl) rfl ?_
                  refine D.off (ls' := [true, true, true, true, true, true, true, true, true, true, false, false, false, false, false, false, false, false, false, false, false, false, false]) 9 rfl rfl rfl rfl (by kernel_rfl) rfl ?_
                  refine D.off (ls' := [true, true, true, true, true, true, true, true, true, true, true, false, false, false, false, false, false, false, false, false, false, false, false]) 10 rfl rfl rfl rfl (by kernel_rfl) rfl ?_
                  refine D.off (ls' := [true, true, true, true, true, true, true, true, true, true, true, true, false, false, false, false, false, false, false, false, false, false, false]) 11 rfl rfl rfl rfl (by kernel_rfl) rfl ?_
                  refine D.off (ls' := [true, true, true, true, true, true, true, true, true, true, true, true, true, false, false, false, false, false, false, false, false, false, false]) 12 rfl rfl rfl rfl (by kernel_rfl) rfl ?_
                  refine D.off (ls' := [true, true, true, true, true, true, true, true, true, true, true, true, true, true, false, false, false, false, false, false, false, false, false]) 13 rfl rfl rfl rfl (by kernel_rfl) rfl ?_
                  refine D.off (ls' := [true, true, true, true, true, true, true, true, true, true, true, true, true, true, true, false, false, false, false, false, false, false, false]) 14 rfl rfl rfl rfl (by kernel_rfl) rfl ?_
                  refine D.off (ls' := [true, true, true, true, true, true, true, true, true, true, true, true, true, true, true, true, false, false, false, false, false, false, false]) 15 rfl rfl rfl rfl (by kernel_rfl) rfl ?_
                  refine D.off (ls' := [true, true, true, true, true, true, true, true, true, true, true, true, true, true, true, true, true, false, false, false, false, false, false]) 16 rfl rfl rfl rfl (by kernel_rfl) rfl ?_
                  refine D.off (ls' := [true, true, true, true, true, true, true, true, true, true, true, true, true, true, true, true, true, true, false, false, false, false, false]) 17 rfl rfl rfl rfl (by kernel_rfl) rfl ?_
                  refine D.off (ls' := [true, true, true, true, true, true, true, true, true, true, true, true, true, true, true, true, true, true, true, false, false, false, false]) 18 rfl rfl rfl rfl (by kernel_rfl) rfl ?_
                  refine D.off (ls' := [true, true, true, true, true, true, true, true, true, true, true, true, true, true, true, true, true, true, true, true, false, false, false]) 19 rfl rfl rfl rfl (by kernel_rfl) rfl ?_
                  refine D.off (ls' := [true, true, true, true, true, true, true, true, true, true, true, true, true, true, true, true, true, true, true, true, true, false, false]) 20 rfl rfl rfl rfl (by kernel_rfl) rfl ?_
                  refine D.p (ls' := [true, true, true, true, true, true, true, true, true, true, true, true, true, true, true, true, true, true, true, true, true, true, false]) 21 rfl rfl rfl rfl (by kernel_rfl) rfl (Y.pickF rfl rfl) ?_
                  refine D.p (ls' := [true, true, true, true, true, true, true, true, true, true, true, true, true, true, true, true, true, true, true, true, true, true, true]) 22 rfl rfl rfl rfl (by kernel_rfl) rfl (Y.asg rfl) ?_
                  refine D.nil (by kernel_rfl) ?_
                  obtain rfl := Option.some.inj H
                  exact N.meet (false, ()) ⟨HK351, trivial⟩ (by exact ⟨rfl, rfl, rfl, rfl, rfl, trivial⟩) (by exact fun w h => h)
              · refine C.at (s' := [(8, .int .i64 t10), (10, .slice A26 t24.length c27), (11, .slice A32 t30.length c33), (15, .int .i64 i334), (16, .bool o352)]) (G' := own 62 2 A26 c27 (t24.flatMap encT62_) :: own 62 2 A32 c33 (t30.flatMap encT62_) :: G) rfl rfl ?_
                refine C.rs ?_
                refine J.p rfl rfl rfl rfl (Y.mv rfl) ?_
                refine J.p rfl rfl rfl rfl (Y.mv rfl) ?_
                refine J.p rfl rfl rfl rfl (Y.mv rfl) ?_
                obtain ⟨p369, H⟩ := gd_some H
                refine J.know (RdG.someM lenT62_ (by decide) (RdG.own 1 rfl) p369) (fun hh => ?_)
                obtain ⟨a367, ha368⟩ := hh
                refine J.p rfl rfl rfl rfl (Y.ixa Try.underlying59 ti62 rfl rfl p369 ha368) ?_
                obtain ⟨p370, H⟩ := gd_some H
                refine J.r rfl rfl rfl rfl (Y.ldM (us := [.int .i64 ((rd t30 i334).1), .int .i64 ((rd t30 i334).2)]) lenT62_ Try.underlying62 rfl ti62 rfl ha368 p370 (RdG.own 1 rfl) rfl) ?_
                refine J.know (own_leM lenT62_ (by decide) 0 rfl) (fun hc371 => ?_)
                obtain ⟨t372, hC373, H⟩ := bind_some H
                refine J.call (us := []) (cap := []) rfl rfl rfl go32 (fun w hw => by have hcc := has.calls K t24 ((rd t30 i334).1) ((rd t30 i334).2) A26 c27 (RdG.own 0 rfl) hc371 t372 hC373 w hw; exact hcc) (fun e w1 h1 => ?_)
                obtain ⟨rfl, hw381⟩ := h1
                refine ⟨_, _, rfl, hw381, ?_⟩
                refine J.p rfl rfl rfl rfl (Y.asg rfl) ?_
                refine J.nx ?_
                refine C.rs ?_
                refine J.joinB H (fun (o375 : Bool) (j376 : Unit) => [(8, .int .i64 t10), (10, .slice A26 t24.length c27), (11, .slice A32 t30.length c33), (15, .int .i64 i334), (130, .bool o375)]) (fun (o375 : Bool) (j376 : Unit) => own 62 2 A26 c27 (t24.flatMap encT62_) :: own 62 2 A32 c33 (t30.flatMap encT62_) :: G) (fun (o375 : Bool) (j376 : Unit) => True) (fun o377 H HK378 => ?_) (fun o375 j376 H _ => ?_)
                · refine J.p rfl rfl rfl rfl (Y.mv rfl) ?_
                  refine J.p rfl rfl rfl rfl (Y.notb rfl) ?_
                  refine J.p rfl rfl rfl rfl (Y.mv rfl) ?_
                  refine split2 H (fun c379 H => ?_) (fun c379 H => ?_)
                  · refine J.as (k := 127) rfl (congrArg Value.bool (congrArg Bool.not (c379))) ?_
                    refine J.skip rfl rfl ?_
                    refine J.skip rfl rfl ?_
                    refine J.p rfl rfl rfl rfl (Y.pickF rfl rfl) ?_
                    refine J.nil ?_
                    obtain rfl := Option.some.inj H
                    exact N.meet (false, ()) ⟨HK378, trivial⟩ (by exact ⟨rfl, rfl, rfl, rfl, rfl, trivial⟩) (by exact fun w h => h)
                  · refine J.as (k := 127) rfl (congrArg Value.bool (congrArg Bool.not (nt c379))) ?_
                    refine J.p rfl rfl rfl rfl (Y.mv rfl) ?_
                    refine J.p rfl rfl rfl rfl (Y.notb rfl) ?_
                    refine J.p rfl rfl rfl rfl (Y.pickT rfl rfl) ?_
                    refine J.nil ?_
                    obtain rfl := Option.some.inj H
                    exact N.meet (!t372, ()) ⟨HK378, trivial⟩ (by exact ⟨rfl, rfl, rfl, rfl, rfl, trivial⟩) (by exact fun w h => h)
                · refine C.at (s' := [(8, .int .i64 t10), (10, .slice A26 t24.length c27), (11, .slice A32 t30.length c33), (15, .int .i64 i334), (130, .bool o375)]) (G' := own 62 2 A26 c27 (t24.flatMap encT62_) :: own 62 2 A32 c33 (t30.flatMap encT62_) :: G) rfl rfl ?_
                  refine split2 H (fun c380 H => ?_) (fun c380 H => ?_)
                  · refine C.condT (congrArg (fun b => some (Value.bool b)) (c380)) ?_
                    refine C.rs ?_
                    refine J.p rfl rfl rfl rfl (Y.asg rfl) ?_
                    refine J.nx ?_
                    refine C.ret ?_
                    obtain rfl := Option.some.inj H
                    obtain rfl := fin_inl HK270
                    refine T.ib ?_
                    refine T.th ?_
                    refine T.th ?_
                    refine T.ib ?_
                    refine T.th ?_
                    refine T.th ?_
                    exact ret_ok (ks := [6]) rfl rfl (fun w h => ⟨rfl, (St.pick [] [_, _] h rfl)⟩)
                  · refine C.condF (congrArg (fun b => some (Value.bool b)) (nt c380)) ?_
                    refine C.skip ?_
                    refine N.ib ?_
                    refine N.nx ?_
                    refine C.reg ?_
                    refine J.p rfl rfl rfl rfl (Y.mv rfl) ?_
                    refine J.p rfl rfl rfl rfl (Y.bin rfl rfl rfl) ?_
                    refine J.p rfl rfl rfl rfl (Y.asg rfl) ?_
                    refine J.nil ?_
                    exact N.again (k333, IntKind.wrap .i64 (i334 + 1), ()) ⟨H, trivial⟩ (Nat.lt_succ_self _) (by exact ⟨rfl, rfl, rfl, rfl, trivial⟩) (by exact fun w h => h)
            · refine C.condF (congrArg (fun b => some (Value.bool b)) (decide_eq_false c336)) ?_
              refine C.exit ?_
              refine X.th ?_
              refine X.th ?_
              refine X.hit ?_
              obtain rfl := Option.some.inj H
              exact N.meet ((), ()) ⟨fin_inr HK270, trivial⟩ (by exact trivial) (by exact fun w h => (St.pick [] [_, _] h rfl))
          · refine N.at (s' := []) (G' := G) rfl rfl ?_
            refine N.nx ?_
            refine C.rs ?_
            refine J.p rfl rfl rfl rfl (Y.asg rfl) ?_
            refine J.nx ?_
            refine C.ret ?_
            obtain rfl := Option.some.inj H
            exact ret_ok (ks := [6]) rfl rfl (fun w h => ⟨rfl, h⟩)
end Go.Proofs.Ytkblnahoidbfkaa
