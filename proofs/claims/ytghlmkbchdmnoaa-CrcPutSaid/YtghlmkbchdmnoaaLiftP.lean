/- Own text, printed by the lifting program: each Go function beside a plain function, and the proof that a call of the one comes to the other. Conditions: what came in can be read. -/
import Derived.Test.YtghlmkbchdmnoaaLiftB
set_option linter.unusedVariables false
set_option linter.unusedSimpArgs false
set_option maxRecDepth 10000
set_option maxHeartbeats 4000000
namespace Go.Proofs.Ytghlmkbchdmnoaa
open Go Go.Sx

/-! ### salvor/salvorlaw1.CrcPut: function 5 -/
def CrcPut.l1 (o6 : Int) (a0 : List Int) (a1 : List Int) : Nat → ((List Int) × Int) → Option ((List Int))
  | 0, _ => none
  | k + 1, i80 => if i80.2 < o6 then (gd ((0 : Int) ≤ i80.2 ∧ i80.2 < (a0.length : Int)) (gd ((0 : Int) ≤ i80.2 ∧ i80.2 < (a0.length : Int)) (gd ((0 : Int) ≤ i80.2 ∧ i80.2 < (a1.length : Int)) (gd ((0 : Int) ≤ i80.2 ∧ i80.2 < (a1.length : Int)) (gd ((0 : Int) ≤ i80.2 ∧ i80.2 < (i80.1.length : Int)) (gd ((0 : Int) ≤ i80.2 ∧ i80.2 < (i80.1.length : Int)) (CrcPut.l1 o6 a0 a1 k ((i80.1.set (Int.toNat i80.2) (Sx.bits .xor .u8 (rd a0 i80.2) (rd a1 i80.2))), IntKind.wrap .i64 (i80.2 + 1))))))))) else (some i80.1)
def CrcPut.f (K : Nat) (a0 : List Int) (a1 : List Int) : Option (Bool) := (known.f K).bind fun t1 => (if (a1.length : Int) < (a0.length : Int) then (some (a1.length : Int)) else (some (a0.length : Int))).bind fun o6 => gd ((0 : Int) ≤ o6 ∧ (o6 : Int) ≤ o6 ∧ ((1 : Nat) : Int) * o6 ≤ 281474976710656) ((CrcPut.l1 o6 a0 a1 K ((List.replicate (Int.toNat o6) (0 : Int)), 0)).bind fun o45 => if t1 = true then (gd ((0 : Int) ≤ o6 ∧ (0 ≤ (Int.toNat o6) ∧ (Int.toNat o6) ≤ a0.length)) (gd ((0 : Int) ≤ o6 ∧ (0 ≤ (Int.toNat o6) ∧ (Int.toNat o6) ≤ a1.length)) ((Sum.f K [o45]).bind fun t104 => (Sum.f K [((a0.take (Int.toNat o6)).drop 0)]).bind fun t108 => (Sum.f K [((a1.take (Int.toNat o6)).drop 0)]).bind fun t112 => gd ((0 : Int) ≤ o6 ∧ (o6 : Int) ≤ o6 ∧ ((1 : Nat) : Int) * o6 ≤ 281474976710656) ((Sum.f K [(List.replicate (Int.toNat o6) (0 : Int))]).bind fun t121 => some (decide (t104 = (Sx.bits .xor .u32 (Sx.bits .xor .u32 t108 t112) t121))))))) else (some false))
theorem CrcPut.calls {B : Nat} {w0 : World} {G : List HP} (K : Nat) (a0 : List Int) (a1 : List Int) (Aa0 : Option Addr) (ca0 : Nat) (Aa1 : Option Addr) (ca1 : Nat) (ha0 : RdG B w0 G Aa0 (a0.map (Value.int .u8))) (ka0 : a0.length ≤ ca0) (ha1 : RdG B w0 G Aa1 (a1.map (Value.int .u8))) (ka1 : a1.length ≤ ca1) (r : Bool) (H : CrcPut.f K a0 a1 = some r) (w : World) (hw : St B w0 (G) w) :
    Calls Try.prog 5 [.slice Aa0 a0.length ca0, .slice Aa1 a1.length ca1].toArray w (fun e w' => e = .returned (.bool r) ∧ St B w0 (G) w') := by
  unfold CrcPut.f at H
  refine calls_of (n := 60) (s := [(0, .slice Aa0 a0.length ca0), (1, .slice Aa1 a1.length ca1)]) Try.func5 rfl rfl rfl rfl ?_ hw
  refine C.rs ?_
  refine J.p rfl rfl rfl rfl (Y.asg rfl) ?_
  refine J.nx ?_
  refine C.rs ?_
  obtain ⟨t1, hC2, H⟩ := bind_some H
  refine J.call (us := []) (cap := []) rfl rfl rfl go8 (fun w hw => by have hcc := known.calls K t1 hC2 w hw; exact hcc) (fun e w1 h1 => ?_)
  obtain ⟨rfl, hw749⟩ := h1
  refine ⟨_, _, rfl, hw749, ?_⟩
  refine J.p rfl rfl rfl rfl (Y.asg rfl) ?_
  refine J.nx ?_
  refine C.rs ?_
  refine J.p rfl rfl rfl rfl (Y.mv rfl) ?_
  refine J.p rfl rfl rfl rfl (Y.lenS Try.underlying26 rfl) ?_
  refine J.p rfl rfl rfl rfl (Y.asg rfl) ?_
  refine J.nx ?_
  refine C.seq ?_
  refine C.rs ?_
  refine J.p rfl rfl rfl rfl (Y.mv rfl) ?_
  refine J.p rfl rfl rfl rfl (Y.lenS Try.underlying26 rfl) ?_
  refine J.p rfl rfl rfl rfl (Y.mv rfl) ?_
  refine J.p rfl rfl rfl rfl (Y.bin rfl rfl rfl) ?_
  refine J.nx ?_
  refine C.joinN H (fun (o6 : Int) (j7 : Unit) => [(0, .slice Aa0 a0.length ca0), (1, .slice Aa1 a1.length ca1), (5, .bool t1), (6, .int .i64 o6)]) (fun (o6 : Int) (j7 : Unit) => G) (fun (o6 : Int) (j7 : Unit) => True) (fun o4 H HK5 => ?_) (fun o6 j7 H _ => ?_)
  · refine split2 H (fun c8 H => ?_) (fun c8 H => ?_)
    · refine C.condT (congrArg (fun b => some (Value.bool b)) (decide_eq_true c8)) ?_
      refine C.reg ?_
      refine J.p rfl rfl rfl rfl (Y.mv rfl) ?_
      refine J.p rfl rfl rfl rfl (Y.lenS Try.underlying26 rfl) ?_
      refine J.p rfl rfl rfl rfl (Y.asg rfl) ?_
      refine J.nil ?_
      obtain rfl := Option.some.inj H
      exact N.meet ((a1.length : Int), ()) ⟨HK5, trivial⟩ (by exact ⟨rfl, rfl, rfl, rfl, trivial⟩) (by exact fun w h => h)
    · refine C.condF (congrArg (fun b => some (Value.bool b)) (decide_eq_false c8)) ?_
      refine C.skip ?_
      obtain rfl := Option.some.inj H
      exact N.meet ((a0.length : Int), ()) ⟨HK5, trivial⟩ (by exact ⟨rfl, rfl, rfl, rfl, trivial⟩) (by exact fun w h => h)
  · refine N.at (s' := [(0, .slice Aa0 a0.length ca0), (1, .slice Aa1 a1.length ca1), (5, .bool t1), (6, .int .i64 o6)]) (G' := G) rfl rfl ?_
    refine N.nx ?_
    refine C.rs ?_
    refine J.p rfl rfl rfl rfl (Y.mv rfl) ?_
    obtain ⟨p10, H⟩ := gd_some H
    refine J.mkL (enc := (Value.int .u8)) (z := 0) rfl Try.underlying26 ti5 rfl rfl rfl p10 (by decide) (fun A9 => ?_)
    refine J.p rfl rfl rfl rfl (Y.asg rfl) ?_
    refine J.nx ?_
    refine C.seq ?_
    refine C.rs ?_
    refine J.p rfl rfl rfl rfl (Y.asg rfl) ?_
    refine J.nx ?_
    refine C.joinN H (fun (o45 : (List Int)) (j46 : (Option Addr) × Nat) => [(0, .slice Aa0 a0.length ca0), (1, .slice Aa1 a1.length ca1), (5, .bool t1), (6, .int .i64 o6), (7, .slice j46.1 o45.length j46.2)]) (fun (o45 : (List Int)) (j46 : (Option Addr) × Nat) => own 5 1 j46.1 j46.2 (o45.map (Value.int .u8)) :: G) (fun (o45 : (List Int)) (j46 : (Option Addr) × Nat) => True) (fun o43 H HK44 => ?_) (fun o45 j46 H _ => ?_)
    · refine C.blk ?_
      refine C.loop (fun (i : Nat × ((List Int) × Int) × ((Option Addr) × Nat)) => [(0, .slice Aa0 a0.length ca0), (1, .slice Aa1 a1.length ca1), (5, .bool t1), (6, .int .i64 o6), (7, .slice i.2.2.1 i.2.1.1.length i.2.2.2), (8, .int .i64 i.2.1.2)]) (fun (i : Nat × ((List Int) × Int) × ((Option Addr) × Nat)) => own 5 1 i.2.2.1 i.2.2.2 (i.2.1.1.map (Value.int .u8)) :: G) (fun (i : Nat × ((List Int) × Int) × ((Option Addr) × Nat)) => CrcPut.l1 o6 a0 a1 i.1 i.2.1 = some o43 ∧ (True)) (fun i => i.1) (K, ((List.replicate (Int.toNat o6) (0 : Int)), 0), (A9, (Int.toNat o6))) ⟨H, trivial⟩ (by exact ⟨rfl, rfl, rfl, rfl, rfl, rfl, trivial⟩) (by exact fun w h => h) ?_
      rintro ⟨k96, i80, j81⟩ ⟨H, _⟩
      replace H : CrcPut.l1 o6 a0 a1 k96 i80 = some o43 := H
      obtain ⟨k79, rfl⟩ : ∃ m, k96 = m + 1 := by cases k96 with | zero => exact absurd H (by simp [CrcPut.l1]) | succ m => exact ⟨m, rfl⟩
      rw [CrcPut.l1] at H
      refine C.at (s' := [(0, .slice Aa0 a0.length ca0), (1, .slice Aa1 a1.length ca1), (5, .bool t1), (6, .int .i64 o6), (7, .slice j81.1 i80.1.length j81.2), (8, .int .i64 i80.2)]) (G' := own 5 1 j81.1 j81.2 (i80.1.map (Value.int .u8)) :: G) rfl rfl ?_
      refine C.seq ?_
      refine C.rs ?_
      refine J.p rfl rfl rfl rfl (Y.mv rfl) ?_
      refine J.p rfl rfl rfl rfl (Y.mv rfl) ?_
      refine J.p rfl rfl rfl rfl (Y.bin rfl rfl rfl) ?_
      refine J.nx ?_
      refine split2 H (fun c83 H => ?_) (fun c83 H => ?_)
      · refine C.condT (congrArg (fun b => some (Value.bool b)) (decide_eq_true c83)) ?_
        refine C.skip ?_
        refine N.nx ?_
        refine C.seq ?_
        refine C.blk ?_
        refine C.drawn (fuel := 13) (ls := [false, false, false, false, false, false, false, false, false, false, false, false, false]) [] (G) mx rfl rfl ?_
        refine D.p (ls' := [true, false, false, false, false, false, false, false, false, false, false, false, false]) 0 rfl rfl rfl rfl (by kernel_rfl) rfl (Y.mv rfl) ?_
        refine D.p (ls' := [true, true, false, false, false, false, false, false, false, false, false, false, false]) 1 rfl rfl rfl rfl (by kernel_rfl) rfl (Y.mv rfl) ?_
        refine D.p (ls' := [true, true, true, false, false, false, false, false, false, false, false, false, false]) 2 rfl rfl rfl rfl (by kernel_rfl) rfl (Y.mv rfl) ?_
        refine D.p (ls' := [true, true, true, true, false, false, false, false, false, false, false, false, false]) 3 rfl rfl rfl rfl (by kernel_rfl) rfl (Y.mv rfl) ?_
        obtain ⟨p86, H⟩ := gd_some H
        refine D.know ((ha0.suf [_] rfl).some_ (j := Int.toNat i80.2) (by rw [List.length_map]; exact idx_lt p86)) (fun hh => ?_)
        obtain ⟨a84, ha85⟩ := hh
        refine D.p (ls' := [true, true, true, true, true, false, false, false, false, false, false, false, false]) 4 rfl rfl rfl rfl (by kernel_rfl) rfl (Y.ixa Try.underlying26 ti5 rfl rfl p86 ha85) ?_
        obtain ⟨p87, H⟩ := gd_some H
        refine D.r (ls' := [true, true, true, true, true, true, false, false, false, false, false, false, false]) 5 1 1 rfl rfl rfl rfl (by kernel_rfl) (by kernel_rfl) rfl rfl (Y.ldE Try.underlying5 rfl rfl ha85 p87 ha0) ?_
        refine D.p (ls' := [true, true, true, true, true, true, true, false, false, false, false, false, false]) 6 rfl rfl rfl rfl (by kernel_rfl) rfl (Y.mv rfl) ?_
        refine D.p (ls' := [true, true, true, true, true, true, true, true, false, false, false, false, false]) 7 rfl rfl rfl rfl (by kernel_rfl) rfl (Y.mv rfl) ?_
        obtain ⟨p90, H⟩ := gd_some H
        refine D.know ((ha1.suf [_] rfl).some_ (j := Int.toNat i80.2) (by rw [List.length_map]; exact idx_lt p90)) (fun hh => ?_)
        obtain ⟨a88, ha89⟩ := hh
        refine D.p (ls' := [true, true, true, true, true, true, true, true, true, false, false, false, false]) 8 rfl rfl rfl rfl (by kernel_rfl) rfl (Y.ixa Try.underlying26 ti5 rfl rfl p90 ha89) ?_
        obtain ⟨p91, H⟩ := gd_some H
        refine D.r (ls' := [true, true, true, true, true, true, true, true, true, true, false, false, false]) 9 1 1 rfl rfl rfl rfl (by kernel_rfl) (by kernel_rfl) rfl rfl (Y.ldE Try.underlying5 rfl rfl ha89 p91 ha1) ?_
        refine D.p (ls' := [true, true, true, true, true, true, true, true, true, true, true, false, false]) 10 rfl rfl rfl rfl (by kernel_rfl) rfl (Y.bin rfl rfl rfl) ?_
        obtain ⟨p94, H⟩ := gd_some H
        refine D.know ((RdG.own 0 rfl).some_ (j := Int.toNat i80.2) (by rw [List.length_map]; exact idx_lt p94)) (fun hh => ?_)
        obtain ⟨a92, ha93⟩ := hh
        refine D.p (ls' := [true, true, true, true, true, true, true, true, true, true, true, true, false]) 11 rfl rfl rfl rfl (by kernel_rfl) rfl (Y.ixa Try.underlying26 ti5 rfl rfl p94 ha93) ?_
        refine D.any [12] (by kernel_rfl) rfl ⟨?_, trivial⟩
        refine DW.j (ls' := [true, true, true, true, true, true, true, true, true, true, true, true, true]) rfl rfl ?_
        obtain ⟨p95, H⟩ := gd_some H
        refine J.stoL (enc := (Value.int .u8)) ti5 ha93 rfl rfl rfl p95 ?_
        refine J.as (k := 7) rfl (set_len i80.1 (Int.toNat i80.2) (Sx.bits .xor .u8 (rd a0 i80.2) (rd a1 i80.2))) ?_
        refine J.nil ?_
        refine D.backK 1 rfl ?_
        refine D.nil (by kernel_rfl) ?_
        refine N.ib ?_
        refine N.nx ?_
        refine C.reg ?_
        refine J.p rfl rfl rfl rfl (Y.mv rfl) ?_
        refine J.p rfl rfl rfl rfl (Y.bin rfl rfl rfl) ?_
        refine J.p rfl rfl rfl rfl (Y.asg rfl) ?_
        refine J.nil ?_
        exact N.again (k79, ((i80.1.set (Int.toNat i80.2) (Sx.bits .xor .u8 (rd a0 i80.2) (rd a1 i80.2))), IntKind.wrap .i64 (i80.2 + 1)), (j81.1, j81.2)) ⟨H, trivial⟩ (Nat.lt_succ_self _) (by exact ⟨rfl, rfl, rfl, rfl, rfl, rfl, trivial⟩) (by exact fun w h => h)
      · refine C.condF (congrArg (fun b => some (Value.bool b)) (decide_eq_false c83)) ?_
        refine C.exit ?_
        refine X.th ?_
        refine X.th ?_
        refine X.hit ?_
        obtain rfl := Option.some.inj H
        exact N.meet (i80.1, (j81.1, j81.2)) ⟨HK44, trivial⟩ (by exact ⟨rfl, rfl, rfl, rfl, rfl, trivial⟩) (by exact fun w h => h)
    · refine N.at (s' := [(0, .slice Aa0 a0.length ca0), (1, .slice Aa1 a1.length ca1), (5, .bool t1), (6, .int .i64 o6), (7, .slice j46.1 o45.length j46.2)]) (G' := own 5 1 j46.1 j46.2 (o45.map (Value.int .u8)) :: G) rfl rfl ?_
      refine N.nx ?_
      refine C.seq ?_
      refine C.drawn (fuel := 24) (ls := [false, false, false, false, false, false, false, false, false, false, false, false, false, false, false, false, false, false, false, false, false, false, false, false]) [] (own 5 1 j46.1 j46.2 (o45.map (Value.int .u8)) :: G) mx rfl rfl ?_
      refine D.p (ls' := [true, false, false, false, false, false, false, false, false, false, false, false, false, false, false, false, false, false, false, false, false, false, false, false]) 0 rfl rfl rfl rfl (by kernel_rfl) rfl (Y.mv rfl) ?_
      refine D.p (ls' := [true, true, false, false, false, false, false, false, false, false, false, false, false, false, false, false, false, false, false, false, false, false, false, false]) 1 rfl rfl rfl rfl (by kernel_rfl) rfl (Y.mv rfl) ?_
      refine split2 H (fun c97 H => ?_) (fun c97 H => ?_)
      · refine D.as (k := 38) rfl (congrArg Value.bool (c97)) ?_
        refine D.p (ls' := [true, true, true, false, false, false, false, false, false, false, false, false, false, false, false, false, false, false, false, false, false, false, false, false]) 2 rfl rfl rfl rfl (by kernel_rfl) rfl (Y.mv rfl) ?_
        refine D.p (ls' := [true, true, true, false, false, true, false, false, false, false, false, false, false, false, false, false, false, false, false, false, false, false, false, false]) 5 rfl rfl rfl rfl (by kernel_rfl) rfl (Y.mv rfl) ?_
        refine D.p (ls' := [true, true, true, false, false, true, true, false, false, false, false, false, false, false, false, false, false, false, false, false, false, false, false, false]) 6 rfl rfl rfl rfl (by kernel_rfl) rfl (Y.mv rfl) ?_
        obtain ⟨p98, H⟩ := gd_some H
        refine D.p (ls' := [true, true, true, false, false, true, true, true, false, false, false, false, false, false, false, false, false, false, false, false, false, false, false, false]) 7 rfl rfl rfl rfl (by kernel_rfl) rfl (Y.slcL Try.underlying26 ti5 rfl bnd.no (bnd.yes rfl p98.1) p98.2 ka0) ?_
        refine D.p (ls' := [true, true, true, false, false, true, true, true, false, false, true, false, false, false, false, false, false, false, false, false, false, false, false, false]) 10 rfl rfl rfl rfl (by kernel_rfl) rfl (Y.mv rfl) ?_
        refine D.p (ls' := [true, true, true, false, false, true, true, true, false, false, true, true, false, false, false, false, false, false, false, false, false, false, false, false]) 11 rfl rfl rfl rfl (by kernel_rfl) rfl (Y.mv rfl) ?_
        obtain ⟨p99, H⟩ := gd_some H
        refine D.p (ls' := [true, true, true, false, false, true, true, true, false, false, true, true, true, false, false, false, false, false, false, false, false, false, false, false]) 12 rfl rfl rfl rfl (by kernel_rfl) rfl (Y.slcL Try.underlying26 ti5 rfl bnd.no (bnd.yes rfl p99.1) p99.2 ka1) ?_
        refine D.p (ls' := [true, true, true, false, false, true, true, true, false, false, true, true, true, false, false, false, true, false, false, false, false, false, false, false]) 16 rfl rfl rfl rfl (by kernel_rfl) rfl (Y.mv rfl) ?_
        obtain ⟨t104, hC105, H⟩ := bind_some H
        obtain ⟨t108, hC109, H⟩ := bind_some H
        obtain ⟨t112, hC113, H⟩ := bind_some H
        obtain ⟨p115, H⟩ := gd_some H
        obtain ⟨t121, hC122, H⟩ := bind_some H
        refine D.share (fun (i : (Option Addr) × (Option Addr) × (Option Addr) × (Option Addr) × (Option Addr)) => [(4, .bool (decide (t104 = (Sx.bits .xor .u32 (Sx.bits .xor .u32 t108 t112) t121))))]) (fun (i : (Option Addr) × (Option Addr) × (Option Addr) × (Option Addr) × (Option Addr)) => own 26 1 i.1 1 [.slice j46.1 o45.length j46.2] :: own 26 1 i.2.1 1 [.slice (subA 1 Aa0 ca0 0) ((a0.take (Int.toNat o6)).drop 0).length (ca0 - 0)] :: own 26 1 i.2.2.1 1 [.slice (subA 1 Aa1 ca1 0) ((a1.take (Int.toNat o6)).drop 0).length (ca1 - 0)] :: own 5 1 i.2.2.2.1 (Int.toNat o6) ((List.replicate (Int.toNat o6) (0 : Int)).map (Value.int .u8)) :: own 26 1 i.2.2.2.2 1 [.slice i.2.2.2.1 (List.replicate (Int.toNat o6) (0 : Int)).length (Int.toNat o6)] :: own 5 1 j46.1 j46.2 (o45.map (Value.int .u8)) :: G) 0 [true, true, true, true, true, true, true, true, true, true, true, true, true, true, true, true, true, true, true, true, true, true, true, true] (fun i => ?_) (fun hD704 => ?_)
        · obtain ⟨A199, A319, A439, A535, A559⟩ := i
          refine D.to (s' := [(4, .bool (decide (t104 = (Sx.bits .xor .u32 (Sx.bits .xor .u32 t108 t112) t121))))]) (G' := own 26 1 A199 1 [.slice j46.1 o45.length j46.2] :: own 26 1 A319 1 [.slice (subA 1 Aa0 ca0 0) ((a0.take (Int.toNat o6)).drop 0).length (ca0 - 0)] :: own 26 1 A439 1 [.slice (subA 1 Aa1 ca1 0) ((a1.take (Int.toNat o6)).drop 0).length (ca1 - 0)] :: own 5 1 A535 (Int.toNat o6) ((List.replicate (Int.toNat o6) (0 : Int)).map (Value.int .u8)) :: own 26 1 A559 1 [.slice A535 (List.replicate (Int.toNat o6) (0 : Int)).length (Int.toNat o6)] :: own 5 1 j46.1 j46.2 (o45.map (Value.int .u8)) :: G) (by exact ⟨rfl, trivial⟩) (fun w h => h) ?_
          refine D.nil (by kernel_rfl) ?_
          refine N.nx ?_
          refine C.ret ?_
          obtain rfl := Option.some.inj H
          exact ret_ok (ks := [4]) rfl rfl (fun w h => ⟨rfl, (St.pick [] [_, _, _, _, _, _] h rfl)⟩)
        refine D.share (fun (i : (Option Addr) × (Option Addr) × (Option Addr) × (Option Addr) × (Option Addr)) => [(38, .bool true), (41, .int .u32 t104), (52, .int .u32 (Sx.bits .xor .u32 t108 t112)), (55, .slice i.1 1 1)]) (fun (i : (Option Addr) × (Option Addr) × (Option Addr) × (Option Addr) × (Option Addr)) => own 26 1 i.2.1 1 [.slice j46.1 o45.length j46.2] :: own 26 1 i.2.2.1 1 [.slice (subA 1 Aa0 ca0 0) ((a0.take (Int.toNat o6)).drop 0).length (ca0 - 0)] :: own 26 1 i.2.2.2.1 1 [.slice (subA 1 Aa1 ca1 0) ((a1.take (Int.toNat o6)).drop 0).length (ca1 - 0)] :: own 5 1 i.2.2.2.2 (Int.toNat o6) ((List.replicate (Int.toNat o6) (0 : Int)).map (Value.int .u8)) :: own 26 1 i.1 1 [.slice i.2.2.2.2 (List.replicate (Int.toNat o6) (0 : Int)).length (Int.toNat o6)] :: own 5 1 j46.1 j46.2 (o45.map (Value.int .u8)) :: G) 5 [true, true, true, true, true, true, true, true, true, true, true, true, true, true, true, true, true, true, true, false, false, false, false, false] (fun i => ?_) (fun hD705 => ?_)
        · obtain ⟨A559, A199, A319, A439, A535⟩ := i
          refine D.to (s' := [(38, .bool true), (41, .int .u32 t104), (52, .int .u32 (Sx.bits .xor .u32 t108 t112)), (55, .slice A559 1 1)]) (G' := own 26 1 A199 1 [.slice j46.1 o45.length j46.2] :: own 26 1 A319 1 [.slice (subA 1 Aa0 ca0 0) ((a0.take (Int.toNat o6)).drop 0).length (ca0 - 0)] :: own 26 1 A439 1 [.slice (subA 1 Aa1 ca1 0) ((a1.take (Int.toNat o6)).drop 0).length (ca1 - 0)] :: own 5 1 A535 (Int.toNat o6) ((List.replicate (Int.toNat o6) (0 : Int)).map (Value.int .u8)) :: own 26 1 A559 1 [.slice A535 (List.replicate (Int.toNat o6) (0 : Int)).length (Int.toNat o6)] :: own 5 1 j46.1 j46.2 (o45.map (Value.int .u8)) :: G) (by exact ⟨rfl, rfl, rfl, rfl, trivial⟩) (fun w h => h) ?_
          refine D.any [19] (by kernel_rfl) rfl ⟨?_, trivial⟩
          refine DW.j (ls' := [true, true, true, true, true, true, true, true, true, true, true, true, true, true, true, true, true, true, true, true, false, false, false, false]) rfl rfl ?_
          refine J.want rfl ?_
          refine J.know (own_leL 3 rfl) (fun hc583 => ?_)
          refine J.call (us := []) (cap := []) rfl rfl rfl go18 (fun w hw => by have hcc := Sum.calls K [(List.replicate (Int.toNat o6) (0 : Int))] A559 1 [.slice A535 (List.replicate (Int.toNat o6) (0 : Int)).length (Int.toNat o6)] (RdG.own 4 rfl) (VV.cons (RdG.own 3 rfl) hc583 VV.nil) (Nat.le_refl _) t121 hC122 w hw; exact hcc) (fun e w1 h1 => ?_)
          obtain ⟨rfl, hw679⟩ := h1
          refine ⟨_, _, rfl, hw679, ?_⟩
          refine J.nil ?_
          refine D.backK 5 rfl ?_
          refine D.p (ls' := [true, true, true, true, true, true, true, true, true, true, true, true, true, true, true, true, true, true, true, true, true, false, false, false]) 20 rfl rfl rfl rfl (by kernel_rfl) rfl (Y.bin rfl rfl rfl) ?_
          refine D.p (ls' := [true, true, true, true, true, true, true, true, true, true, true, true, true, true, true, true, true, true, true, true, true, true, false, false]) 21 rfl rfl rfl rfl (by kernel_rfl) rfl (Y.bin rfl rfl rfl) ?_
          refine D.p (ls' := [true, true, true, true, true, true, true, true, true, true, true, true, true, true, true, true, true, true, true, true, true, true, true, false]) 22 rfl rfl rfl rfl (by kernel_rfl) rfl (Y.pickT rfl rfl) ?_
          refine D.p (ls' := [true, true, true, true, true, true, true, true, true, true, true, true, true, true, true, true, true, true, true, true, true, true, true, true]) 23 rfl rfl rfl rfl (by kernel_rfl) rfl (Y.asg rfl) ?_
          exact D.to (by exact ⟨rfl, trivial⟩) (fun w h => h) (hD704 (A199, A319, A439, A535, A559))
        refine D.share (fun (i : (Option Addr) × (Option Addr) × (Option Addr) × (Option Addr)) => [(38, .bool true), (41, .int .u32 t104), (52, .int .u32 (Sx.bits .xor .u32 t108 t112)), (54, .slice i.1 (List.replicate (Int.toNat o6) (0 : Int)).length (Int.toNat o6))]) (fun (i : (Option Addr) × (Option Addr) × (Option Addr) × (Option Addr)) => own 26 1 i.2.1 1 [.slice j46.1 o45.length j46.2] :: own 26 1 i.2.2.1 1 [.slice (subA 1 Aa0 ca0 0) ((a0.take (Int.toNat o6)).drop 0).length (ca0 - 0)] :: own 26 1 i.2.2.2 1 [.slice (subA 1 Aa1 ca1 0) ((a1.take (Int.toNat o6)).drop 0).length (ca1 - 0)] :: own 5 1 i.1 (Int.toNat o6) ((List.replicate (Int.toNat o6) (0 : Int)).map (Value.int .u8)) :: own 5 1 j46.1 j46.2 (o45.map (Value.int .u8)) :: G) 6 [true, true, true, true, true, true, true, true, true, true, true, true, true, true, true, true, true, true, false, false, false, false, false, false] (fun i => ?_) (fun hD706 => ?_)
        · obtain ⟨A535, A199, A319, A439⟩ := i
          refine D.to (s' := [(38, .bool true), (41, .int .u32 t104), (52, .int .u32 (Sx.bits .xor .u32 t108 t112)), (54, .slice A535 (List.replicate (Int.toNat o6) (0 : Int)).length (Int.toNat o6))]) (G' := own 26 1 A199 1 [.slice j46.1 o45.length j46.2] :: own 26 1 A319 1 [.slice (subA 1 Aa0 ca0 0) ((a0.take (Int.toNat o6)).drop 0).length (ca0 - 0)] :: own 26 1 A439 1 [.slice (subA 1 Aa1 ca1 0) ((a1.take (Int.toNat o6)).drop 0).length (ca1 - 0)] :: own 5 1 A535 (Int.toNat o6) ((List.replicate (Int.toNat o6) (0 : Int)).map (Value.int .u8)) :: own 5 1 j46.1 j46.2 (o45.map (Value.int .u8)) :: G) (by exact ⟨rfl, rfl, rfl, rfl, trivial⟩) (fun w h => h) ?_
          refine D.any [18] (by kernel_rfl) rfl ⟨?_, trivial⟩
          refine DW.j (ls' := [true, true, true, true, true, true, true, true, true, true, true, true, true, true, true, true, true, true, true, false, false, false, false, false]) rfl rfl ?_
          refine J.want rfl ?_
          refine J.know (own_leL 3 rfl) (fun hc560 => ?_)
          refine J.bsV (L := [.slice A535 (List.replicate (Int.toNat o6) (0 : Int)).length (Int.toNat o6)]) rfl Try.underlying23 ti26 rfl rfl rfl rfl rfl (fun A559 => ?_)
          refine J.nil ?_
          refine D.backK 5 rfl ?_
          exact D.to (by exact ⟨rfl, rfl, rfl, rfl, trivial⟩) (fun w h => (St.pick [1, 2, 3, 4, 0, 5] [_, _, _, _, _, _] h rfl)) (hD705 (A559, A199, A319, A439, A535))
        refine D.share (fun (i : (Option Addr) × (Option Addr) × (Option Addr)) => [(38, .bool true), (41, .int .u32 t104), (52, .int .u32 (Sx.bits .xor .u32 t108 t112)), (53, .int .i64 o6)]) (fun (i : (Option Addr) × (Option Addr) × (Option Addr)) => own 26 1 i.1 1 [.slice j46.1 o45.length j46.2] :: own 26 1 i.2.1 1 [.slice (subA 1 Aa0 ca0 0) ((a0.take (Int.toNat o6)).drop 0).length (ca0 - 0)] :: own 26 1 i.2.2 1 [.slice (subA 1 Aa1 ca1 0) ((a1.take (Int.toNat o6)).drop 0).length (ca1 - 0)] :: own 5 1 j46.1 j46.2 (o45.map (Value.int .u8)) :: G) 7 [true, true, true, true, true, true, true, true, true, true, true, true, true, true, true, true, true, false, false, false, false, false, false, false] (fun i => ?_) (fun hD707 => ?_)
        · obtain ⟨A199, A319, A439⟩ := i
          refine D.to (s' := [(38, .bool true), (41, .int .u32 t104), (52, .int .u32 (Sx.bits .xor .u32 t108 t112)), (53, .int .i64 o6)]) (G' := own 26 1 A199 1 [.slice j46.1 o45.length j46.2] :: own 26 1 A319 1 [.slice (subA 1 Aa0 ca0 0) ((a0.take (Int.toNat o6)).drop 0).length (ca0 - 0)] :: own 26 1 A439 1 [.slice (subA 1 Aa1 ca1 0) ((a1.take (Int.toNat o6)).drop 0).length (ca1 - 0)] :: own 5 1 j46.1 j46.2 (o45.map (Value.int .u8)) :: G) (by exact ⟨rfl, rfl, rfl, rfl, trivial⟩) (fun w h => h) ?_
          refine D.any [17] (by kernel_rfl) rfl ⟨?_, trivial⟩
          refine DW.j (ls' := [true, true, true, true, true, true, true, true, true, true, true, true, true, true, true, true, true, true, false, false, false, false, false, false]) rfl rfl ?_
          refine J.want rfl ?_
          refine J.mkL (enc := (Value.int .u8)) (z := 0) rfl Try.underlying26 ti5 rfl rfl rfl p115 (by decide) (fun A535 => ?_)
          refine J.nil ?_
          refine D.backK 4 rfl ?_
          exact D.to (by exact ⟨rfl, rfl, rfl, rfl, trivial⟩) (fun w h => (St.pick [1, 2, 3, 0, 4] [_, _, _, _, _] h rfl)) (hD706 (A535, A199, A319, A439))
        refine D.share (fun (i : (Option Addr) × (Option Addr) × (Option Addr) × (Option Addr) × (Option Addr)) => [(38, .bool true), (41, .int .u32 t104), (46, .int .u32 t108), (50, .slice i.1 1 1), (55, .slice i.2.1 1 1)]) (fun (i : (Option Addr) × (Option Addr) × (Option Addr) × (Option Addr) × (Option Addr)) => own 26 1 i.2.2.1 1 [.slice j46.1 o45.length j46.2] :: own 26 1 i.2.2.2.1 1 [.slice (subA 1 Aa0 ca0 0) ((a0.take (Int.toNat o6)).drop 0).length (ca0 - 0)] :: own 26 1 i.1 1 [.slice (subA 1 Aa1 ca1 0) ((a1.take (Int.toNat o6)).drop 0).length (ca1 - 0)] :: own 5 1 i.2.2.2.2 (Int.toNat o6) ((List.replicate (Int.toNat o6) (0 : Int)).map (Value.int .u8)) :: own 26 1 i.2.1 1 [.slice i.2.2.2.2 (List.replicate (Int.toNat o6) (0 : Int)).length (Int.toNat o6)] :: own 5 1 j46.1 j46.2 (o45.map (Value.int .u8)) :: G) 7 [true, true, true, true, true, true, true, true, true, true, true, true, true, true, false, false, true, true, true, false, false, false, false, false] (fun i => ?_) (fun hD708 => ?_)
        · obtain ⟨A439, A559, A199, A319, A535⟩ := i
          refine D.to (s' := [(38, .bool true), (41, .int .u32 t104), (46, .int .u32 t108), (50, .slice A439 1 1), (55, .slice A559 1 1)]) (G' := own 26 1 A199 1 [.slice j46.1 o45.length j46.2] :: own 26 1 A319 1 [.slice (subA 1 Aa0 ca0 0) ((a0.take (Int.toNat o6)).drop 0).length (ca0 - 0)] :: own 26 1 A439 1 [.slice (subA 1 Aa1 ca1 0) ((a1.take (Int.toNat o6)).drop 0).length (ca1 - 0)] :: own 5 1 A535 (Int.toNat o6) ((List.replicate (Int.toNat o6) (0 : Int)).map (Value.int .u8)) :: own 26 1 A559 1 [.slice A535 (List.replicate (Int.toNat o6) (0 : Int)).length (Int.toNat o6)] :: own 5 1 j46.1 j46.2 (o45.map (Value.int .u8)) :: G) (by exact ⟨rfl, rfl, rfl, rfl, rfl, trivial⟩) (fun w h => h) ?_
          refine D.any [14] (by kernel_rfl) rfl ⟨?_, trivial⟩
          refine DW.j (ls' := [true, true, true, true, true, true, true, true, true, true, true, true, true, true, true, false, true, true, true, false, false, false, false, false]) rfl rfl ?_
          refine J.want rfl ?_
          refine J.call (us := []) (cap := []) rfl rfl rfl go18 (fun w hw => by have hcc := Sum.calls K [((a1.take (Int.toNat o6)).drop 0)] A439 1 [.slice (subA 1 Aa1 ca1 0) ((a1.take (Int.toNat o6)).drop 0).length (ca1 - 0)] (RdG.own 2 rfl) (VV.cons (RdG.subL (l := 0) (h := (Int.toNat o6)) (ha1.suf [_, _, _, _, _, _] rfl) ka1) (hc_sub ka1) VV.nil) (Nat.le_refl _) t112 hC113 w hw; exact hcc) (fun e w1 h1 => ?_)
          obtain ⟨rfl, hw487⟩ := h1
          refine ⟨_, _, rfl, hw487, ?_⟩
          refine J.nil ?_
          refine D.backK 5 rfl ?_
          refine D.p (ls' := [true, true, true, true, true, true, true, true, true, true, true, true, true, true, true, true, true, true, true, false, false, false, false, false]) 15 rfl rfl rfl rfl (by kernel_rfl) rfl (Y.bin rfl rfl rfl) ?_
          exact D.to (by exact ⟨rfl, rfl, rfl, rfl, trivial⟩) (fun w h => h) (hD705 (A559, A199, A319, A439, A535))
        refine D.share (fun (i : (Option Addr) × (Option Addr) × (Option Addr) × (Option Addr)) => [(38, .bool true), (41, .int .u32 t104), (46, .int .u32 t108), (50, .slice i.1 1 1), (54, .slice i.2.1 (List.replicate (Int.toNat o6) (0 : Int)).length (Int.toNat o6))]) (fun (i : (Option Addr) × (Option Addr) × (Option Addr) × (Option Addr)) => own 26 1 i.2.2.1 1 [.slice j46.1 o45.length j46.2] :: own 26 1 i.2.2.2 1 [.slice (subA 1 Aa0 ca0 0) ((a0.take (Int.toNat o6)).drop 0).length (ca0 - 0)] :: own 26 1 i.1 1 [.slice (subA 1 Aa1 ca1 0) ((a1.take (Int.toNat o6)).drop 0).length (ca1 - 0)] :: own 5 1 i.2.1 (Int.toNat o6) ((List.replicate (Int.toNat o6) (0 : Int)).map (Value.int .u8)) :: own 5 1 j46.1 j46.2 (o45.map (Value.int .u8)) :: G) 8 [true, true, true, true, true, true, true, true, true, true, true, true, true, true, false, false, true, true, false, false, false, false, false, false] (fun i => ?_) (fun hD709 => ?_)
        · obtain ⟨A439, A535, A199, A319⟩ := i
          refine D.to (s' := [(38, .bool true), (41, .int .u32 t104), (46, .int .u32 t108), (50, .slice A439 1 1), (54, .slice A535 (List.replicate (Int.toNat o6) (0 : Int)).length (Int.toNat o6))]) (G' := own 26 1 A199 1 [.slice j46.1 o45.length j46.2] :: own 26 1 A319 1 [.slice (subA 1 Aa0 ca0 0) ((a0.take (Int.toNat o6)).drop 0).length (ca0 - 0)] :: own 26 1 A439 1 [.slice (subA 1 Aa1 ca1 0) ((a1.take (Int.toNat o6)).drop 0).length (ca1 - 0)] :: own 5 1 A535 (Int.toNat o6) ((List.replicate (Int.toNat o6) (0 : Int)).map (Value.int .u8)) :: own 5 1 j46.1 j46.2 (o45.map (Value.int .u8)) :: G) (by exact ⟨rfl, rfl, rfl, rfl, rfl, trivial⟩) (fun w h => h) ?_
          refine D.any [14, 18] (by kernel_rfl) rfl ⟨?_, ?_, trivial⟩
          · refine DW.j (ls' := [true, true, true, true, true, true, true, true, true, true, true, true, true, true, true, false, true, true, false, false, false, false, false, false]) rfl rfl ?_
            refine J.want rfl ?_
            refine J.call (us := []) (cap := []) rfl rfl rfl go18 (fun w hw => by have hcc := Sum.calls K [((a1.take (Int.toNat o6)).drop 0)] A439 1 [.slice (subA 1 Aa1 ca1 0) ((a1.take (Int.toNat o6)).drop 0).length (ca1 - 0)] (RdG.own 2 rfl) (VV.cons (RdG.subL (l := 0) (h := (Int.toNat o6)) (ha1.suf [_, _, _, _, _] rfl) ka1) (hc_sub ka1) VV.nil) (Nat.le_refl _) t112 hC113 w hw; exact hcc) (fun e w1 h1 => ?_)
            obtain ⟨rfl, hw487⟩ := h1
            refine ⟨_, _, rfl, hw487, ?_⟩
            refine J.nil ?_
            refine D.backK 4 rfl ?_
            refine D.p (ls' := [true, true, true, true, true, true, true, true, true, true, true, true, true, true, true, true, true, true, false, false, false, false, false, false]) 15 rfl rfl rfl rfl (by kernel_rfl) rfl (Y.bin rfl rfl rfl) ?_
            exact D.to (by exact ⟨rfl, rfl, rfl, rfl, trivial⟩) (fun w h => h) (hD706 (A535, A199, A319, A439))
          · refine DW.j (ls' := [true, true, true, true, true, true, true, true, true, true, true, true, true, true, false, false, true, true, true, false, false, false, false, false]) rfl rfl ?_
            refine J.want rfl ?_
            refine J.know (own_leL 3 rfl) (fun hc560 => ?_)
            refine J.bsV (L := [.slice A535 (List.replicate (Int.toNat o6) (0 : Int)).length (Int.toNat o6)]) rfl Try.underlying23 ti26 rfl rfl rfl rfl rfl (fun A559 => ?_)
            refine J.nil ?_
            refine D.backK 5 rfl ?_
            exact D.to (by exact ⟨rfl, rfl, rfl, rfl, rfl, trivial⟩) (fun w h => (St.pick [1, 2, 3, 4, 0, 5] [_, _, _, _, _, _] h rfl)) (hD708 (A439, A559, A199, A319, A535))
        refine D.share (fun (i : (Option Addr) × (Option Addr) × (Option Addr) × (Option Addr)) => [(38, .bool true), (41, .int .u32 t104), (46, .int .u32 t108), (49, .slice (subA 1 Aa1 ca1 0) ((a1.take (Int.toNat o6)).drop 0).length (ca1 - 0)), (55, .slice i.1 1 1)]) (fun (i : (Option Addr) × (Option Addr) × (Option Addr) × (Option Addr)) => own 26 1 i.2.1 1 [.slice j46.1 o45.length j46.2] :: own 26 1 i.2.2.1 1 [.slice (subA 1 Aa0 ca0 0) ((a0.take (Int.toNat o6)).drop 0).length (ca0 - 0)] :: own 5 1 i.2.2.2 (Int.toNat o6) ((List.replicate (Int.toNat o6) (0 : Int)).map (Value.int .u8)) :: own 26 1 i.1 1 [.slice i.2.2.2 (List.replicate (Int.toNat o6) (0 : Int)).length (Int.toNat o6)] :: own 5 1 j46.1 j46.2 (o45.map (Value.int .u8)) :: G) 8 [true, true, true, true, true, true, true, true, true, true, true, true, true, false, false, false, true, true, true, false, false, false, false, false] (fun i => ?_) (fun hD710 => ?_)
        · obtain ⟨A559, A199, A319, A535⟩ := i
          refine D.to (s' := [(38, .bool true), (41, .int .u32 t104), (46, .int .u32 t108), (49, .slice (subA 1 Aa1 ca1 0) ((a1.take (Int.toNat o6)).drop 0).length (ca1 - 0)), (55, .slice A559 1 1)]) (G' := own 26 1 A199 1 [.slice j46.1 o45.length j46.2] :: own 26 1 A319 1 [.slice (subA 1 Aa0 ca0 0) ((a0.take (Int.toNat o6)).drop 0).length (ca0 - 0)] :: own 5 1 A535 (Int.toNat o6) ((List.replicate (Int.toNat o6) (0 : Int)).map (Value.int .u8)) :: own 26 1 A559 1 [.slice A535 (List.replicate (Int.toNat o6) (0 : Int)).length (Int.toNat o6)] :: own 5 1 j46.1 j46.2 (o45.map (Value.int .u8)) :: G) (by exact ⟨rfl, rfl, rfl, rfl, rfl, trivial⟩) (fun w h => h) ?_
          refine D.any [13] (by kernel_rfl) rfl ⟨?_, trivial⟩
          refine DW.j (ls' := [true, true, true, true, true, true, true, true, true, true, true, true, true, true, false, false, true, true, true, false, false, false, false, false]) rfl rfl ?_
          refine J.want rfl ?_
          refine J.bsV (L := [.slice (subA 1 Aa1 ca1 0) ((a1.take (Int.toNat o6)).drop 0).length (ca1 - 0)]) rfl Try.underlying23 ti26 rfl rfl rfl rfl rfl (fun A439 => ?_)
          refine J.nil ?_
          refine D.backK 5 rfl ?_
          exact D.to (by exact ⟨rfl, rfl, rfl, rfl, rfl, trivial⟩) (fun w h => (St.pick [1, 2, 0, 3, 4, 5] [_, _, _, _, _, _] h rfl)) (hD708 (A439, A559, A199, A319, A535))
        refine D.share (fun (i : (Option Addr) × (Option Addr) × (Option Addr) × (Option Addr) × (Option Addr)) => [(38, .bool true), (41, .int .u32 t104), (45, .slice i.1 1 1), (50, .slice i.2.1 1 1), (55, .slice i.2.2.1 1 1)]) (fun (i : (Option Addr) × (Option Addr) × (Option Addr) × (Option Addr) × (Option Addr)) => own 26 1 i.2.2.2.1 1 [.slice j46.1 o45.length j46.2] :: own 26 1 i.1 1 [.slice (subA 1 Aa0 ca0 0) ((a0.take (Int.toNat o6)).drop 0).length (ca0 - 0)] :: own 26 1 i.2.1 1 [.slice (subA 1 Aa1 ca1 0) ((a1.take (Int.toNat o6)).drop 0).length (ca1 - 0)] :: own 5 1 i.2.2.2.2 (Int.toNat o6) ((List.replicate (Int.toNat o6) (0 : Int)).map (Value.int .u8)) :: own 26 1 i.2.2.1 1 [.slice i.2.2.2.2 (List.replicate (Int.toNat o6) (0 : Int)).length (Int.toNat o6)] :: own 5 1 j46.1 j46.2 (o45.map (Value.int .u8)) :: G) 8 [true, true, true, true, true, true, true, true, true, false, true, true, true, true, false, false, true, true, true, false, false, false, false, false] (fun i => ?_) (fun hD711 => ?_)
        · obtain ⟨A319, A439, A559, A199, A535⟩ := i
          refine D.to (s' := [(38, .bool true), (41, .int .u32 t104), (45, .slice A319 1 1), (50, .slice A439 1 1), (55, .slice A559 1 1)]) (G' := own 26 1 A199 1 [.slice j46.1 o45.length j46.2] :: own 26 1 A319 1 [.slice (subA 1 Aa0 ca0 0) ((a0.take (Int.toNat o6)).drop 0).length (ca0 - 0)] :: own 26 1 A439 1 [.slice (subA 1 Aa1 ca1 0) ((a1.take (Int.toNat o6)).drop 0).length (ca1 - 0)] :: own 5 1 A535 (Int.toNat o6) ((List.replicate (Int.toNat o6) (0 : Int)).map (Value.int .u8)) :: own 26 1 A559 1 [.slice A535 (List.replicate (Int.toNat o6) (0 : Int)).length (Int.toNat o6)] :: own 5 1 j46.1 j46.2 (o45.map (Value.int .u8)) :: G) (by exact ⟨rfl, rfl, rfl, rfl, rfl, trivial⟩) (fun w h => h) ?_
          refine D.any [9] (by kernel_rfl) rfl ⟨?_, trivial⟩
          refine DW.j (ls' := [true, true, true, true, true, true, true, true, true, true, true, true, true, true, false, false, true, true, true, false, false, false, false, false]) rfl rfl ?_
          refine J.want rfl ?_
          refine J.call (us := []) (cap := []) rfl rfl rfl go18 (fun w hw => by have hcc := Sum.calls K [((a0.take (Int.toNat o6)).drop 0)] A319 1 [.slice (subA 1 Aa0 ca0 0) ((a0.take (Int.toNat o6)).drop 0).length (ca0 - 0)] (RdG.own 1 rfl) (VV.cons (RdG.subL (l := 0) (h := (Int.toNat o6)) (ha0.suf [_, _, _, _, _, _] rfl) ka0) (hc_sub ka0) VV.nil) (Nat.le_refl _) t108 hC109 w hw; exact hcc) (fun e w1 h1 => ?_)
          obtain ⟨rfl, hw343⟩ := h1
          refine ⟨_, _, rfl, hw343, ?_⟩
          refine J.nil ?_
          refine D.backK 5 rfl ?_
          exact D.to (by exact ⟨rfl, rfl, rfl, rfl, rfl, trivial⟩) (fun w h => h) (hD708 (A439, A559, A199, A319, A535))
        refine D.share (fun (i : (Option Addr) × (Option Addr) × (Option Addr)) => [(38, .bool true), (41, .int .u32 t104), (46, .int .u32 t108), (50, .slice i.1 1 1), (53, .int .i64 o6)]) (fun (i : (Option Addr) × (Option Addr) × (Option Addr)) => own 26 1 i.2.1 1 [.slice j46.1 o45.length j46.2] :: own 26 1 i.2.2 1 [.slice (subA 1 Aa0 ca0 0) ((a0.take (Int.toNat o6)).drop 0).length (ca0 - 0)] :: own 26 1 i.1 1 [.slice (subA 1 Aa1 ca1 0) ((a1.take (Int.toNat o6)).drop 0).length (ca1 - 0)] :: own 5 1 j46.1 j46.2 (o45.map (Value.int .u8)) :: G) 9 [true, true, true, true, true, true, true, true, true, true, true, true, true, true, false, false, true, false, false, false, false, false, false, false] (fun i => ?_) (fun hD712 => ?_)
        · obtain ⟨A439, A199, A319⟩ := i
          refine D.to (s' := [(38, .bool true), (41, .int .u32 t104), (46, .int .u32 t108), (50, .slice A439 1 1), (53, .int .i64 o6)]) (G' := own 26 1 A199 1 [.slice j46.1 o45.length j46.2] :: own 26 1 A319 1 [.slice (subA 1 Aa0 ca0 0) ((a0.take (Int.toNat o6)).drop 0).length (ca0 - 0)] :: own 26 1 A439 1 [.slice (subA 1 Aa1 ca1 0) ((a1.take (Int.toNat o6)).drop 0).length (ca1 - 0)] :: own 5 1 j46.1 j46.2 (o45.map (Value.int .u8)) :: G) (by exact ⟨rfl, rfl, rfl, rfl, rfl, trivial⟩) (fun w h => h) ?_
          refine D.any [14, 17] (by kernel_rfl) rfl ⟨?_, ?_, trivial⟩
          · refine DW.j (ls' := [true, true, true, true, true, true, true, true, true, true, true, true, true, true, true, false, true, false, false, false, false, false, false, false]) rfl rfl ?_
            refine J.want rfl ?_
            refine J.call (us := []) (cap := []) rfl rfl rfl go18 (fun w hw => by have hcc := Sum.calls K [((a1.take (Int.toNat o6)).drop 0)] A439 1 [.slice (subA 1 Aa1 ca1 0) ((a1.take (Int.toNat o6)).drop 0).length (ca1 - 0)] (RdG.own 2 rfl) (VV.cons (RdG.subL (l := 0) (h := (Int.toNat o6)) (ha1.suf [_, _, _, _] rfl) ka1) (hc_sub ka1) VV.nil) (Nat.le_refl _) t112 hC113 w hw; exact hcc) (fun e w1 h1 => ?_)
            obtain ⟨rfl, hw487⟩ := h1
            refine ⟨_, _, rfl, hw487, ?_⟩
            refine J.nil ?_
            refine D.backK 3 rfl ?_
            refine D.p (ls' := [true, true, true, true, true, true, true, true, true, true, true, true, true, true, true, true, true, false, false, false, false, false, false, false]) 15 rfl rfl rfl rfl (by kernel_rfl) rfl (Y.bin rfl rfl rfl) ?_
            exact D.to (by exact ⟨rfl, rfl, rfl, rfl, trivial⟩) (fun w h => h) (hD707 (A199, A319, A439))
          · refine DW.j (ls' := [true, true, true, true, true, true, true, true, true, true, true, true, true, true, false, false, true, true, false, false, false, false, false, false]) rfl rfl ?_
            refine J.want rfl ?_
            refine J.mkL (enc := (Value.int .u8)) (z := 0) rfl Try.underlying26 ti5 rfl rfl rfl p115 (by decide) (fun A535 => ?_)
            refine J.nil ?_
            refine D.backK 4 rfl ?_
            exact D.to (by exact ⟨rfl, rfl, rfl, rfl, rfl, trivial⟩) (fun w h => (St.pick [1, 2, 3, 0, 4] [_, _, _, _, _] h rfl)) (hD709 (A439, A535, A199, A319))
        refine D.share (fun (i : (Option Addr) × (Option Addr) × (Option Addr)) => [(38, .bool true), (41, .int .u32 t104), (46, .int .u32 t108), (49, .slice (subA 1 Aa1 ca1 0) ((a1.take (Int.toNat o6)).drop 0).length (ca1 - 0)), (54, .slice i.1 (List.replicate (Int.toNat o6) (0 : Int)).length (Int.toNat o6))]) (fun (i : (Option Addr) × (Option Addr) × (Option Addr)) => own 26 1 i.2.1 1 [.slice j46.1 o45.length j46.2] :: own 26 1 i.2.2 1 [.slice (subA 1 Aa0 ca0 0) ((a0.take (Int.toNat o6)).drop 0).length (ca0 - 0)] :: own 5 1 i.1 (Int.toNat o6) ((List.replicate (Int.toNat o6) (0 : Int)).map (Value.int .u8)) :: own 5 1 j46.1 j46.2 (o45.map (Value.int .u8)) :: G) 9 [true, true, true, true, true, true, true, true, true, true, true, true, true, false, false, false, true, true, false, false, false, false, false, false] (fun i => ?_) (fun hD713 => ?_)
        · obtain ⟨A535, A199, A319⟩ := i
          refine D.to (s' := [(38, .bool true), (41, .int .u32 t104), (46, .int .u32 t108), (49, .slice (subA 1 Aa1 ca1 0) ((a1.take (Int.toNat o6)).drop 0).length (ca1 - 0)), (54, .slice A535 (List.replicate (Int.toNat o6) (0 : Int)).length (Int.toNat o6))]) (G' := own 26 1 A199 1 [.slice j46.1 o45.length j46.2] :: own 26 1 A319 1 [.slice (subA 1 Aa0 ca0 0) ((a0.take (Int.toNat o6)).drop 0).length (ca0 - 0)] :: own 5 1 A535 (Int.toNat o6) ((List.replicate (Int.toNat o6) (0 : Int)).map (Value.int .u8)) :: own 5 1 j46.1 j46.2 (o45.map (Value.int .u8)) :: G) (by exact ⟨rfl, rfl, rfl, rfl, rfl, trivial⟩) (fun w h => h) ?_
          refine D.any [13, 18] (by kernel_rfl) rfl ⟨?_, ?_, trivial⟩
          · refine DW.j (ls' := [true, true, true, true, true, true, true, true, true, true, true, true, true, true, false, false, true, true, false, false, false, false, false, false]) rfl rfl ?_
            refine J.want rfl ?_
            refine J.bsV (L := [.slice (subA 1 Aa1 ca1 0) ((a1.take (Int.toNat o6)).drop 0).length (ca1 - 0)]) rfl Try.underlying23 ti26 rfl rfl rfl rfl rfl (fun A439 => ?_)
            refine J.nil ?_
            refine D.backK 4 rfl ?_
            exact D.to (by exact ⟨rfl, rfl, rfl, rfl, rfl, trivial⟩) (fun w h => (St.pick [1, 2, 0, 3, 4] [_, _, _, _, _] h rfl)) (hD709 (A439, A535, A199, A319))
          · refine DW.j (ls' := [true, true, true, true, true, true, true, true, true, true, true, true, true, false, false, false, true, true, true, false, false, false, false, false]) rfl rfl ?_
            refine J.want rfl ?_
            refine J.know (own_leL 2 rfl) (fun hc560 => ?_)
            refine J.bsV (L := [.slice A535 (List.replicate (Int.toNat o6) (0 : Int)).length (Int.toNat o6)]) rfl Try.underlying23 ti26 rfl rfl rfl rfl rfl (fun A559 => ?_)
            refine J.nil ?_
            refine D.backK 4 rfl ?_
            exact D.to (by exact ⟨rfl, rfl, rfl, rfl, rfl, trivial⟩) (fun w h => (St.pick [1, 2, 3, 0, 4] [_, _, _, _, _] h rfl)) (hD710 (A559, A199, A319, A535))
        refine D.share (fun (i : (Option Addr) × (Option Addr) × (Option Addr) × (Option Addr)) => [(38, .bool true), (41, .int .u32 t104), (45, .slice i.1 1 1), (50, .slice i.2.1 1 1), (54, .slice i.2.2.1 (List.replicate (Int.toNat o6) (0 : Int)).length (Int.toNat o6))]) (fun (i : (Option Addr) × (Option Addr) × (Option Addr) × (Option Addr)) => own 26 1 i.2.2.2 1 [.slice j46.1 o45.length j46.2] :: own 26 1 i.1 1 [.slice (subA 1 Aa0 ca0 0) ((a0.take (Int.toNat o6)).drop 0).length (ca0 - 0)] :: own 26 1 i.2.1 1 [.slice (subA 1 Aa1 ca1 0) ((a1.take (Int.toNat o6)).drop 0).length (ca1 - 0)] :: own 5 1 i.2.2.1 (Int.toNat o6) ((List.replicate (Int.toNat o6) (0 : Int)).map (Value.int .u8)) :: own 5 1 j46.1 j46.2 (o45.map (Value.int .u8)) :: G) 9 [true, true, true, true, true, true, true, true, true, false, true, true, true, true, false, false, true, true, false, false, false, false, false, false] (fun i => ?_) (fun hD714 => ?_)
        · obtain ⟨A319, A439, A535, A199⟩ := i
          refine D.to (s' := [(38, .bool true), (41, .int .u32 t104), (45, .slice A319 1 1), (50, .slice A439 1 1), (54, .slice A535 (List.replicate (Int.toNat o6) (0 : Int)).length (Int.toNat o6))]) (G' := own 26 1 A199 1 [.slice j46.1 o45.length j46.2] :: own 26 1 A319 1 [.slice (subA 1 Aa0 ca0 0) ((a0.take (Int.toNat o6)).drop 0).length (ca0 - 0)] :: own 26 1 A439 1 [.slice (subA 1 Aa1 ca1 0) ((a1.take (Int.toNat o6)).drop 0).length (ca1 - 0)] :: own 5 1 A535 (Int.toNat o6) ((List.replicate (Int.toNat o6) (0 : Int)).map (Value.int .u8)) :: own 5 1 j46.1 j46.2 (o45.map (Value.int .u8)) :: G) (by exact ⟨rfl, rfl, rfl, rfl, rfl, trivial⟩) (fun w h => h) ?_
          refine D.any [9, 18] (by kernel_rfl) rfl ⟨?_, ?_, trivial⟩
          · refine DW.j (ls' := [true, true, true, true, true, true, true, true, true, true, true, true, true, true, false, false, true, true, false, false, false, false, false, false]) rfl rfl ?_
            refine J.want rfl ?_
            refine J.call (us := []) (cap := []) rfl rfl rfl go18 (fun w hw => by have hcc := Sum.calls K [((a0.take (Int.toNat o6)).drop 0)] A319 1 [.slice (subA 1 Aa0 ca0 0) ((a0.take (Int.toNat o6)).drop 0).length (ca0 - 0)] (RdG.own 1 rfl) (VV.cons (RdG.subL (l := 0) (h := (Int.toNat o6)) (ha0.suf [_, _, _, _, _] rfl) ka0) (hc_sub ka0) VV.nil) (Nat.le_refl _) t108 hC109 w hw; exact hcc) (fun e w1 h1 => ?_)
            obtain ⟨rfl, hw343⟩ := h1
            refine ⟨_, _, rfl, hw343, ?_⟩
            refine J.nil ?_
            refine D.backK 4 rfl ?_
            exact D.to (by exact ⟨rfl, rfl, rfl, rfl, rfl, trivial⟩) (fun w h => h) (hD709 (A439, A535, A199, A319))
          · refine DW.j (ls' := [true, true, true, true, true, true, true, true, true, false, true, true, true, true, false, false, true, true, true, false, false, false, false, false]) rfl rfl ?_
            refine J.want rfl ?_
            refine J.know (own_leL 3 rfl) (fun hc560 => ?_)
            refine J.bsV (L := [.slice A535 (List.replicate (Int.toNat o6) (0 : Int)).length (Int.toNat o6)]) rfl Try.underlying23 ti26 rfl rfl rfl rfl rfl (fun A559 => ?_)
            refine J.nil ?_
            refine D.backK 5 rfl ?_
            exact D.to (by exact ⟨rfl, rfl, rfl, rfl, rfl, trivial⟩) (fun w h => (St.pick [1, 2, 3, 4, 0, 5] [_, _, _, _, _, _] h rfl)) (hD711 (A319, A439, A559, A199, A535))
        refine D.share (fun (i : (Option Addr) × (Option Addr) × (Option Addr) × (Option Addr)) => [(38, .bool true), (41, .int .u32 t104), (45, .slice i.1 1 1), (49, .slice (subA 1 Aa1 ca1 0) ((a1.take (Int.toNat o6)).drop 0).length (ca1 - 0)), (55, .slice i.2.1 1 1)]) (fun (i : (Option Addr) × (Option Addr) × (Option Addr) × (Option Addr)) => own 26 1 i.2.2.1 1 [.slice j46.1 o45.length j46.2] :: own 26 1 i.1 1 [.slice (subA 1 Aa0 ca0 0) ((a0.take (Int.toNat o6)).drop 0).length (ca0 - 0)] :: own 5 1 i.2.2.2 (Int.toNat o6) ((List.replicate (Int.toNat o6) (0 : Int)).map (Value.int .u8)) :: own 26 1 i.2.1 1 [.slice i.2.2.2 (List.replicate (Int.toNat o6) (0 : Int)).length (Int.toNat o6)] :: own 5 1 j46.1 j46.2 (o45.map (Value.int .u8)) :: G) 9 [true, true, true, true, true, true, true, true, true, false, true, true, true, false, false, false, true, true, true, false, false, false, false, false] (fun i => ?_) (fun hD715 => ?_)
        · obtain ⟨A319, A559, A199, A535⟩ := i
          refine D.to (s' := [(38, .bool true), (41, .int .u32 t104), (45, .slice A319 1 1), (49, .slice (subA 1 Aa1 ca1 0) ((a1.take (Int.toNat o6)).drop 0).length (ca1 - 0)), (55, .slice A559 1 1)]) (G' := own 26 1 A199 1 [.slice j46.1 o45.length j46.2] :: own 26 1 A319 1 [.slice (subA 1 Aa0 ca0 0) ((a0.take (Int.toNat o6)).drop 0).length (ca0 - 0)] :: own 5 1 A535 (Int.toNat o6) ((List.replicate (Int.toNat o6) (0 : Int)).map (Value.int .u8)) :: own 26 1 A559 1 [.slice A535 (List.replicate (Int.toNat o6) (0 : Int)).length (Int.toNat o6)] :: own 5 1 j46.1 j46.2 (o45.map (Value.int .u8)) :: G) (by exact ⟨rfl, rfl, rfl, rfl, rfl, trivial⟩) (fun w h => h) ?_
          refine D.any [9, 13] (by kernel_rfl) rfl ⟨?_, ?_, trivial⟩
          · refine DW.j (ls' := [true, true, true, true, true, true, true, true, true, true, true, true, true, false, false, false, true, true, true, false, false, false, false, false]) rfl rfl ?_
            refine J.want rfl ?_
            refine J.call (us := []) (cap := []) rfl rfl rfl go18 (fun w hw => by have hcc := Sum.calls K [((a0.take (Int.toNat o6)).drop 0)] A319 1 [.slice (subA 1 Aa0 ca0 0) ((a0.take (Int.toNat o6)).drop 0).length (ca0 - 0)] (RdG.own 1 rfl) (VV.cons (RdG.subL (l := 0) (h := (Int.toNat o6)) (ha0.suf [_, _, _, _, _] rfl) ka0) (hc_sub ka0) VV.nil) (Nat.le_refl _) t108 hC109 w hw; exact hcc) (fun e w1 h1 => ?_)
            obtain ⟨rfl, hw343⟩ := h1
            refine ⟨_, _, rfl, hw343, ?_⟩
            refine J.nil ?_
            refine D.backK 4 rfl ?_
            exact D.to (by exact ⟨rfl, rfl, rfl, rfl, rfl, trivial⟩) (fun w h => h) (hD710 (A559, A199, A319, A535))
          · refine DW.j (ls' := [true, true, true, true, true, true, true, true, true, false, true, true, true, true, false, false, true, true, true, false, false, false, false, false]) rfl rfl ?_
            refine J.want rfl ?_
            refine J.bsV (L := [.slice (subA 1 Aa1 ca1 0) ((a1.take (Int.toNat o6)).drop 0).length (ca1 - 0)]) rfl Try.underlying23 ti26 rfl rfl rfl rfl rfl (fun A439 => ?_)
            refine J.nil ?_
            refine D.backK 5 rfl ?_
            exact D.to (by exact ⟨rfl, rfl, rfl, rfl, rfl, trivial⟩) (fun w h => (St.pick [1, 2, 0, 3, 4, 5] [_, _, _, _, _, _] h rfl)) (hD711 (A319, A439, A559, A199, A535))
        refine D.share (fun (i : (Option Addr) × (Option Addr) × (Option Addr) × (Option Addr)) => [(38, .bool true), (41, .int .u32 t104), (44, .slice (subA 1 Aa0 ca0 0) ((a0.take (Int.toNat o6)).drop 0).length (ca0 - 0)), (50, .slice i.1 1 1), (55, .slice i.2.1 1 1)]) (fun (i : (Option Addr) × (Option Addr) × (Option Addr) × (Option Addr)) => own 26 1 i.2.2.1 1 [.slice j46.1 o45.length j46.2] :: own 26 1 i.1 1 [.slice (subA 1 Aa1 ca1 0) ((a1.take (Int.toNat o6)).drop 0).length (ca1 - 0)] :: own 5 1 i.2.2.2 (Int.toNat o6) ((List.replicate (Int.toNat o6) (0 : Int)).map (Value.int .u8)) :: own 26 1 i.2.1 1 [.slice i.2.2.2 (List.replicate (Int.toNat o6) (0 : Int)).length (Int.toNat o6)] :: own 5 1 j46.1 j46.2 (o45.map (Value.int .u8)) :: G) 9 [true, true, true, true, true, true, true, true, false, false, true, true, true, true, false, false, true, true, true, false, false, false, false, false] (fun i => ?_) (fun hD716 => ?_)
        · obtain ⟨A439, A559, A199, A535⟩ := i
          refine D.to (s' := [(38, .bool true), (41, .int .u32 t104), (44, .slice (subA 1 Aa0 ca0 0) ((a0.take (Int.toNat o6)).drop 0).length (ca0 - 0)), (50, .slice A439 1 1), (55, .slice A559 1 1)]) (G' := own 26 1 A199 1 [.slice j46.1 o45.length j46.2] :: own 26 1 A439 1 [.slice (subA 1 Aa1 ca1 0) ((a1.take (Int.toNat o6)).drop 0).length (ca1 - 0)] :: own 5 1 A535 (Int.toNat o6) ((List.replicate (Int.toNat o6) (0 : Int)).map (Value.int .u8)) :: own 26 1 A559 1 [.slice A535 (List.replicate (Int.toNat o6) (0 : Int)).length (Int.toNat o6)] :: own 5 1 j46.1 j46.2 (o45.map (Value.int .u8)) :: G) (by exact ⟨rfl, rfl, rfl, rfl, rfl, trivial⟩) (fun w h => h) ?_
          refine D.any [8] (by kernel_rfl) rfl ⟨?_, trivial⟩
          refine DW.j (ls' := [true, true, true, true, true, true, true, true, true, false, true, true, true, true, false, false, true, true, true, false, false, false, false, false]) rfl rfl ?_
          refine J.want rfl ?_
          refine J.bsV (L := [.slice (subA 1 Aa0 ca0 0) ((a0.take (Int.toNat o6)).drop 0).length (ca0 - 0)]) rfl Try.underlying23 ti26 rfl rfl rfl rfl rfl (fun A319 => ?_)
          refine J.nil ?_
          refine D.backK 5 rfl ?_
          exact D.to (by exact ⟨rfl, rfl, rfl, rfl, rfl, trivial⟩) (fun w h => (St.pick [1, 0, 2, 3, 4, 5] [_, _, _, _, _, _] h rfl)) (hD711 (A319, A439, A559, A199, A535))
        refine D.share (fun (i : (Option Addr) × (Option Addr) × (Option Addr) × (Option Addr) × (Option Addr)) => [(38, .bool true), (40, .slice i.1 1 1), (45, .slice i.2.1 1 1), (50, .slice i.2.2.1 1 1), (55, .slice i.2.2.2.1 1 1)]) (fun (i : (Option Addr) × (Option Addr) × (Option Addr) × (Option Addr) × (Option Addr)) => own 26 1 i.1 1 [.slice j46.1 o45.length j46.2] :: own 26 1 i.2.1 1 [.slice (subA 1 Aa0 ca0 0) ((a0.take (Int.toNat o6)).drop 0).length (ca0 - 0)] :: own 26 1 i.2.2.1 1 [.slice (subA 1 Aa1 ca1 0) ((a1.take (Int.toNat o6)).drop 0).length (ca1 - 0)] :: own 5 1 i.2.2.2.2 (Int.toNat o6) ((List.replicate (Int.toNat o6) (0 : Int)).map (Value.int .u8)) :: own 26 1 i.2.2.2.1 1 [.slice i.2.2.2.2 (List.replicate (Int.toNat o6) (0 : Int)).length (Int.toNat o6)] :: own 5 1 j46.1 j46.2 (o45.map (Value.int .u8)) :: G) 9 [true, true, true, true, false, true, true, true, true, false, true, true, true, true, false, false, true, true, true, false, false, false, false, false] (fun i => ?_) (fun hD717 => ?_)
        · obtain ⟨A199, A319, A439, A559, A535⟩ := i
          refine D.to (s' := [(38, .bool true), (40, .slice A199 1 1), (45, .slice A319 1 1), (50, .slice A439 1 1), (55, .slice A559 1 1)]) (G' := own 26 1 A199 1 [.slice j46.1 o45.length j46.2] :: own 26 1 A319 1 [.slice (subA 1 Aa0 ca0 0) ((a0.take (Int.toNat o6)).drop 0).length (ca0 - 0)] :: own 26 1 A439 1 [.slice (subA 1 Aa1 ca1 0) ((a1.take (Int.toNat o6)).drop 0).length (ca1 - 0)] :: own 5 1 A535 (Int.toNat o6) ((List.replicate (Int.toNat o6) (0 : Int)).map (Value.int .u8)) :: own 26 1 A559 1 [.slice A535 (List.replicate (Int.toNat o6) (0 : Int)).length (Int.toNat o6)] :: own 5 1 j46.1 j46.2 (o45.map (Value.int .u8)) :: G) (by exact ⟨rfl, rfl, rfl, rfl, rfl, trivial⟩) (fun w h => h) ?_
          refine D.any [4] (by kernel_rfl) rfl ⟨?_, trivial⟩
          refine DW.j (ls' := [true, true, true, true, true, true, true, true, true, false, true, true, true, true, false, false, true, true, true, false, false, false, false, false]) rfl rfl ?_
          refine J.want rfl ?_
          refine J.know (own_leL 5 rfl) (fun hc223 => ?_)
          refine J.call (us := []) (cap := []) rfl rfl rfl go18 (fun w hw => by have hcc := Sum.calls K [o45] A199 1 [.slice j46.1 o45.length j46.2] (RdG.own 0 rfl) (VV.cons (RdG.own 5 rfl) hc223 VV.nil) (Nat.le_refl _) t104 hC105 w hw; exact hcc) (fun e w1 h1 => ?_)
          obtain ⟨rfl, hw224⟩ := h1
          refine ⟨_, _, rfl, hw224, ?_⟩
          refine J.nil ?_
          refine D.backK 5 rfl ?_
          exact D.to (by exact ⟨rfl, rfl, rfl, rfl, rfl, trivial⟩) (fun w h => h) (hD711 (A319, A439, A559, A199, A535))
        refine D.share (fun (i : (Option Addr) × (Option Addr)) => [(38, .bool true), (41, .int .u32 t104), (46, .int .u32 t108), (49, .slice (subA 1 Aa1 ca1 0) ((a1.take (Int.toNat o6)).drop 0).length (ca1 - 0)), (53, .int .i64 o6)]) (fun (i : (Option Addr) × (Option Addr)) => own 26 1 i.1 1 [.slice j46.1 o45.length j46.2] :: own 26 1 i.2 1 [.slice (subA 1 Aa0 ca0 0) ((a0.take (Int.toNat o6)).drop 0).length (ca0 - 0)] :: own 5 1 j46.1 j46.2 (o45.map (Value.int .u8)) :: G) 10 [true, true, true, true, true, true, true, true, true, true, true, true, true, false, false, false, true, false, false, false, false, false, false, false] (fun i => ?_) (fun hD718 => ?_)
        · obtain ⟨A199, A319⟩ := i
          refine D.to (s' := [(38, .bool true), (41, .int .u32 t104), (46, .int .u32 t108), (49, .slice (subA 1 Aa1 ca1 0) ((a1.take (Int.toNat o6)).drop 0).length (ca1 - 0)), (53, .int .i64 o6)]) (G' := own 26 1 A199 1 [.slice j46.1 o45.length j46.2] :: own 26 1 A319 1 [.slice (subA 1 Aa0 ca0 0) ((a0.take (Int.toNat o6)).drop 0).length (ca0 - 0)] :: own 5 1 j46.1 j46.2 (o45.map (Value.int .u8)) :: G) (by exact ⟨rfl, rfl, rfl, rfl, rfl, trivial⟩) (fun w h => h) ?_
          refine D.any [13, 17] (by kernel_rfl) rfl ⟨?_, ?_, trivial⟩
          · refine DW.j (ls' := [true, true, true, true, true, true, true, true, true, true, true, true, true, true, false, false, true, false, false, false, false, false, false, false]) rfl rfl ?_
            refine J.want rfl ?_
            refine J.bsV (L := [.slice (subA 1 Aa1 ca1 0) ((a1.take (Int.toNat o6)).drop 0).length (ca1 - 0)]) rfl Try.underlying23 ti26 rfl rfl rfl rfl rfl (fun A439 => ?_)
            refine J.nil ?_
            refine D.backK 3 rfl ?_
            exact D.to (by exact ⟨rfl, rfl, rfl, rfl, rfl, trivial⟩) (fun w h => (St.pick [1, 2, 0, 3] [_, _, _, _] h rfl)) (hD712 (A439, A199, A319))
          · refine DW.j (ls' := [true, true, true, true, true, true, true, true, true, true, true, true, true, false, false, false, true, true, false, false, false, false, false, false]) rfl rfl ?_
            refine J.want rfl ?_
            refine J.mkL (enc := (Value.int .u8)) (z := 0) rfl Try.underlying26 ti5 rfl rfl rfl p115 (by decide) (fun A535 => ?_)
            refine J.nil ?_
            refine D.backK 3 rfl ?_
            exact D.to (by exact ⟨rfl, rfl, rfl, rfl, rfl, trivial⟩) (fun w h => (St.pick [1, 2, 0, 3] [_, _, _, _] h rfl)) (hD713 (A535, A199, A319))
        refine D.share (fun (i : (Option Addr) × (Option Addr) × (Option Addr)) => [(38, .bool true), (41, .int .u32 t104), (45, .slice i.1 1 1), (50, .slice i.2.1 1 1), (53, .int .i64 o6)]) (fun (i : (Option Addr) × (Option Addr) × (Option Addr)) => own 26 1 i.2.2 1 [.slice j46.1 o45.length j46.2] :: own 26 1 i.1 1 [.slice (subA 1 Aa0 ca0 0) ((a0.take (Int.toNat o6)).drop 0).length (ca0 - 0)] :: own 26 1 i.2.1 1 [.slice (subA 1 Aa1 ca1 0) ((a1.take (Int.toNat o6)).drop 0).length (ca1 - 0)] :: own 5 1 j46.1 j46.2 (o45.map (Value.int .u8)) :: G) 10 [true, true, true, true, true, true, true, true, true, false, true, true, true, true, false, false, true, false, false, false, false, false, false, false] (fun i => ?_) (fun hD719 => ?_)
        · obtain ⟨A319, A439, A199⟩ := i
          refine D.to (s' := [(38, .bool true), (41, .int .u32 t104), (45, .slice A319 1 1), (50, .slice A439 1 1), (53, .int .i64 o6)]) (G' := own 26 1 A199 1 [.slice j46.1 o45.length j46.2] :: own 26 1 A319 1 [.slice (subA 1 Aa0 ca0 0) ((a0.take (Int.toNat o6)).drop 0).length (ca0 - 0)] :: own 26 1 A439 1 [.slice (subA 1 Aa1 ca1 0) ((a1.take (Int.toNat o6)).drop 0).length (ca1 - 0)] :: own 5 1 j46.1 j46.2 (o45.map (Value.int .u8)) :: G) (by exact ⟨rfl, rfl, rfl, rfl, rfl, trivial⟩) (fun w h => h) ?_
          refine D.any [9, 17] (by kernel_rfl) rfl ⟨?_, ?_, trivial⟩
          · refine DW.j (ls' := [true, true, true, true, true, true, true, true, true, true, true, true, true, true, false, false, true, false, false, false, false, false, false, false]) rfl rfl ?_
            refine J.want rfl ?_
            refine J.call (us := []) (cap := []) rfl rfl rfl go18 (fun w hw => by have hcc := Sum.calls K [((a0.take (Int.toNat o6)).drop 0)] A319 1 [.slice (subA 1 Aa0 ca0 0) ((a0.take (Int.toNat o6)).drop 0).length (ca0 - 0)] (RdG.own 1 rfl) (VV.cons (RdG.subL (l := 0) (h := (Int.toNat o6)) (ha0.suf [_, _, _, _] rfl) ka0) (hc_sub ka0) VV.nil) (Nat.le_refl _) t108 hC109 w hw; exact hcc) (fun e w1 h1 => ?_)
            obtain ⟨rfl, hw343⟩ := h1
            refine ⟨_, _, rfl, hw343, ?_⟩
            refine J.nil ?_
            refine D.backK 3 rfl ?_
            exact D.to (by exact ⟨rfl, rfl, rfl, rfl, rfl, trivial⟩) (fun w h => h) (hD712 (A439, A199, A319))
          · refine DW.j (ls' := [true, true, true, true, true, true, true, true, true, false, true, true, true, true, false, false, true, true, false, false, false, false, false, false]) rfl rfl ?_
            refine J.want rfl ?_
            refine J.mkL (enc := (Value.int .u8)) (z := 0) rfl Try.underlying26 ti5 rfl rfl rfl p115 (by decide) (fun A535 => ?_)
            refine J.nil ?_
            refine D.backK 4 rfl ?_
            exact D.to (by exact ⟨rfl, rfl, rfl, rfl, rfl, trivial⟩) (fun w h => (St.pick [1, 2, 3, 0, 4] [_, _, _, _, _] h rfl)) (hD714 (A319, A439, A535, A199))
        refine D.share (fun (i : (Option Addr) × (Option Addr) × (Option Addr)) => [(38, .bool true), (41, .int .u32 t104), (45, .slice i.1 1 1), (49, .slice (subA 1 Aa1 ca1 0) ((a1.take (Int.toNat o6)).drop 0).length (ca1 - 0)), (54, .slice i.2.1 (List.replicate (Int.toNat o6) (0 : Int)).length (Int.toNat o6))]) (fun (i : (Option Addr) × (Option Addr) × (Option Addr)) => own 26 1 i.2.2 1 [.slice j46.1 o45.length j46.2] :: own 26 1 i.1 1 [.slice (subA 1 Aa0 ca0 0) ((a0.take (Int.toNat o6)).drop 0).length (ca0 - 0)] :: own 5 1 i.2.1 (Int.toNat o6) ((List.replicate (Int.toNat o6) (0 : Int)).map (Value.int .u8)) :: own 5 1 j46.1 j46.2 (o45.map (Value.int .u8)) :: G) 10 [true, true, true, true, true, true, true, true, true, false, true, true, true, false, false, false, true, true, false, false, false, false, false, false] (fun i => ?_) (fun hD720 => ?_)
        · obtain ⟨A319, A535, A199⟩ := i
          refine D.to (s' := [(38, .bool true), (41, .int .u32 t104), (45, .slice A319 1 1), (49, .slice (subA 1 Aa1 ca1 0) ((a1.take (Int.toNat o6)).drop 0).length (ca1 - 0)), (54, .slice A535 (List.replicate (Int.toNat o6) (0 : Int)).length (Int.toNat o6))]) (G' := own 26 1 A199 1 [.slice j46.1 o45.length j46.2] :: own 26 1 A319 1 [.slice (subA 1 Aa0 ca0 0) ((a0.take (Int.toNat o6)).drop 0).length (ca0 - 0)] :: own 5 1 A535 (Int.toNat o6) ((List.replicate (Int.toNat o6) (0 : Int)).map (Value.int .u8)) :: own 5 1 j46.1 j46.2 (o45.map (Value.int .u8)) :: G) (by exact ⟨rfl, rfl, rfl, rfl, rfl, trivial⟩) (fun w h => h) ?_
          refine D.any [9, 13, 18] (by kernel_rfl) rfl ⟨?_, ?_, ?_, trivial⟩
          · refine DW.j (ls' := [true, true, true, true, true, true, true, true, true, true, true, true, true, false, false, false, true, true, false, false, false, false, false, false]) rfl rfl ?_
            refine J.want rfl ?_
            refine J.call (us := []) (cap := []) rfl rfl rfl go18 (fun w hw => by have hcc := Sum.calls K [((a0.take (Int.toNat o6)).drop 0)] A319 1 [.slice (subA 1 Aa0 ca0 0) ((a0.take (Int.toNat o6)).drop 0).length (ca0 - 0)] (RdG.own 1 rfl) (VV.cons (RdG.subL (l := 0) (h := (Int.toNat o6)) (ha0.suf [_, _, _, _] rfl) ka0) (hc_sub ka0) VV.nil) (Nat.le_refl _) t108 hC109 w hw; exact hcc) (fun e w1 h1 => ?_)
            obtain ⟨rfl, hw343⟩ := h1
            refine ⟨_, _, rfl, hw343, ?_⟩
            refine J.nil ?_
            refine D.backK 3 rfl ?_
            exact D.to (by exact ⟨rfl, rfl, rfl, rfl, rfl, trivial⟩) (fun w h => h) (hD713 (A535, A199, A319))
          · refine DW.j (ls' := [true, true, true, true, true, true, true, true, true, false, true, true, true, true, false, false, true, true, false, false, false, false, false, false]) rfl rfl ?_
            refine J.want rfl ?_
            refine J.bsV (L := [.slice (subA 1 Aa1 ca1 0) ((a1.take (Int.toNat o6)).drop 0).length (ca1 - 0)]) rfl Try.underlying23 ti26 rfl rfl rfl rfl rfl (fun A439 => ?_)
            refine J.nil ?_
            refine D.backK 4 rfl ?_
            exact D.to (by exact ⟨rfl, rfl, rfl, rfl, rfl, trivial⟩) (fun w h => (St.pick [1, 2, 0, 3, 4] [_, _, _, _, _] h rfl)) (hD714 (A319, A439, A535, A199))
          · refine DW.j (ls' := [true, true, true, true, true, true, true, true, true, false, true, true, true, false, false, false, true, true, true, false, false, false, false, false]) rfl rfl ?_
            refine J.want rfl ?_
            refine J.know (own_leL 2 rfl) (fun hc560 => ?_)
            refine J.bsV (L := [.slice A535 (List.replicate (Int.toNat o6) (0 : Int)).length (Int.toNat o6)]) rfl Try.underlying23 ti26 rfl rfl rfl rfl rfl (fun A559 => ?_)
            refine J.nil ?_
            refine D.backK 4 rfl ?_
            exact D.to (by exact ⟨rfl, rfl, rfl, rfl, rfl, trivial⟩) (fun w h => (St.pick [1, 2, 3, 0, 4] [_, _, _, _, _] h rfl)) (hD715 (A319, A559, A199, A535))
        refine D.share (fun (i : (Option Addr) × (Option Addr) × (Option Addr)) => [(38, .bool true), (41, .int .u32 t104), (44, .slice (subA 1 Aa0 ca0 0) ((a0.take (Int.toNat o6)).drop 0).length (ca0 - 0)), (50, .slice i.1 1 1), (54, .slice i.2.1 (List.replicate (Int.toNat o6) (0 : Int)).length (Int.toNat o6))]) (fun (i : (Option Addr) × (Option Addr) × (Option Addr)) => own 26 1 i.2.2 1 [.slice j46.1 o45.length j46.2] :: own 26 1 i.1 1 [.slice (subA 1 Aa1 ca1 0) ((a1.take (Int.toNat o6)).drop 0).length (ca1 - 0)] :: own 5 1 i.2.1 (Int.toNat o6) ((List.replicate (Int.toNat o6) (0 : Int)).map (Value.int .u8)) :: own 5 1 j46.1 j46.2 (o45.map (Value.int .u8)) :: G) 10 [true, true, true, true, true, true, true, true, false, false, true, true, true, true, false, false, true, true, false, false, false, false, false, false] (fun i => ?_) (fun hD721 => ?_)
        · obtain ⟨A439, A535, A199⟩ := i
          refine D.to (s' := [(38, .bool true), (41, .int .u32 t104), (44, .slice (subA 1 Aa0 ca0 0) ((a0.take (Int.toNat o6)).drop 0).length (ca0 - 0)), (50, .slice A439 1 1), (54, .slice A535 (List.replicate (Int.toNat o6) (0 : Int)).length (Int.toNat o6))]) (G' := own 26 1 A199 1 [.slice j46.1 o45.length j46.2] :: own 26 1 A439 1 [.slice (subA 1 Aa1 ca1 0) ((a1.take (Int.toNat o6)).drop 0).length (ca1 - 0)] :: own 5 1 A535 (Int.toNat o6) ((List.replicate (Int.toNat o6) (0 : Int)).map (Value.int .u8)) :: own 5 1 j46.1 j46.2 (o45.map (Value.int .u8)) :: G) (by exact ⟨rfl, rfl, rfl, rfl, rfl, trivial⟩) (fun w h => h) ?_
          refine D.any [8, 18] (by kernel_rfl) rfl ⟨?_, ?_, trivial⟩
          · refine DW.j (ls' := [true, true, true, true, true, true, true, true, true, false, true, true, true, true, false, false, true, true, false, false, false, false, false, false]) rfl rfl ?_
            refine J.want rfl ?_
            refine J.bsV (L := [.slice (subA 1 Aa0 ca0 0) ((a0.take (Int.toNat o6)).drop 0).length (ca0 - 0)]) rfl Try.underlying23 ti26 rfl rfl rfl rfl rfl (fun A319 => ?_)
            refine J.nil ?_
            refine D.backK 4 rfl ?_
            exact D.to (by exact ⟨rfl, rfl, rfl, rfl, rfl, trivial⟩) (fun w h => (St.pick [1, 0, 2, 3, 4] [_, _, _, _, _] h rfl)) (hD714 (A319, A439, A535, A199))
          · refine DW.j (ls' := [true, true, true, true, true, true, true, true, false, false, true, true, true, true, false, false, true, true, true, false, false, false, false, false]) rfl rfl ?_
            refine J.want rfl ?_
            refine J.know (own_leL 2 rfl) (fun hc560 => ?_)
            refine J.bsV (L := [.slice A535 (List.replicate (Int.toNat o6) (0 : Int)).length (Int.toNat o6)]) rfl Try.underlying23 ti26 rfl rfl rfl rfl rfl (fun A559 => ?_)
            refine J.nil ?_
            refine D.backK 4 rfl ?_
            exact D.to (by exact ⟨rfl, rfl, rfl, rfl, rfl, trivial⟩) (fun w h => (St.pick [1, 2, 3, 0, 4] [_, _, _, _, _] h rfl)) (hD716 (A439, A559, A199, A535))
        refine D.share (fun (i : (Option Addr) × (Option Addr) × (Option Addr)) => [(38, .bool true), (41, .int .u32 t104), (44, .slice (subA 1 Aa0 ca0 0) ((a0.take (Int.toNat o6)).drop 0).length (ca0 - 0)), (49, .slice (subA 1 Aa1 ca1 0) ((a1.take (Int.toNat o6)).drop 0).length (ca1 - 0)), (55, .slice i.1 1 1)]) (fun (i : (Option Addr) × (Option Addr) × (Option Addr)) => own 26 1 i.2.1 1 [.slice j46.1 o45.length j46.2] :: own 5 1 i.2.2 (Int.toNat o6) ((List.replicate (Int.toNat o6) (0 : Int)).map (Value.int .u8)) :: own 26 1 i.1 1 [.slice i.2.2 (List.replicate (Int.toNat o6) (0 : Int)).length (Int.toNat o6)] :: own 5 1 j46.1 j46.2 (o45.map (Value.int .u8)) :: G) 10 [true, true, true, true, true, true, true, true, false, false, true, true, true, false, false, false, true, true, true, false, false, false, false, false] (fun i => ?_) (fun hD722 => ?_)
        · obtain ⟨A559, A199, A535⟩ := i
          refine D.to (s' := [(38, .bool true), (41, .int .u32 t104), (44, .slice (subA 1 Aa0 ca0 0) ((a0.take (Int.toNat o6)).drop 0).length (ca0 - 0)), (49, .slice (subA 1 Aa1 ca1 0) ((a1.take (Int.toNat o6)).drop 0).length (ca1 - 0)), (55, .slice A559 1 1)]) (G' := own 26 1 A199 1 [.slice j46.1 o45.length j46.2] :: own 5 1 A535 (Int.toNat o6) ((List.replicate (Int.toNat o6) (0 : Int)).map (Value.int .u8)) :: own 26 1 A559 1 [.slice A535 (List.replicate (Int.toNat o6) (0 : Int)).length (Int.toNat o6)] :: own 5 1 j46.1 j46.2 (o45.map (Value.int .u8)) :: G) (by exact ⟨rfl, rfl, rfl, rfl, rfl, trivial⟩) (fun w h => h) ?_
          refine D.any [8, 13] (by kernel_rfl) rfl ⟨?_, ?_, trivial⟩
          · refine DW.j (ls' := [true, true, true, true, true, true, true, true, true, false, true, true, true, false, false, false, true, true, true, false, false, false, false, false]) rfl rfl ?_
            refine J.want rfl ?_
            refine J.bsV (L := [.slice (subA 1 Aa0 ca0 0) ((a0.take (Int.toNat o6)).drop 0).length (ca0 - 0)]) rfl Try.underlying23 ti26 rfl rfl rfl rfl rfl (fun A319 => ?_)
            refine J.nil ?_
            refine D.backK 4 rfl ?_
            exact D.to (by exact ⟨rfl, rfl, rfl, rfl, rfl, trivial⟩) (fun w h => (St.pick [1, 0, 2, 3, 4] [_, _, _, _, _] h rfl)) (hD715 (A319, A559, A199, A535))
          · refine DW.j (ls' := [true, true, true, true, true, true, true, true, false, false, true, true, true, true, false, false, true, true, true, false, false, false, false, false]) rfl rfl ?_
            refine J.want rfl ?_
            refine J.bsV (L := [.slice (subA 1 Aa1 ca1 0) ((a1.take (Int.toNat o6)).drop 0).length (ca1 - 0)]) rfl Try.underlying23 ti26 rfl rfl rfl rfl rfl (fun A439 => ?_)
            refine J.nil ?_
            refine D.backK 4 rfl ?_
            exact D.to (by exact ⟨rfl, rfl, rfl, rfl, rfl, trivial⟩) (fun w h => (St.pick [1, 0, 2, 3, 4] [_, _, _, _, _] h rfl)) (hD716 (A439, A559, A199, A535))
        refine D.share (fun (i : (Option Addr) × (Option Addr) × (Option Addr) × (Option Addr)) => [(38, .bool true), (40, .slice i.1 1 1), (45, .slice i.2.1 1 1), (50, .slice i.2.2.1 1 1), (54, .slice i.2.2.2 (List.replicate (Int.toNat o6) (0 : Int)).length (Int.toNat o6))]) (fun (i : (Option Addr) × (Option Addr) × (Option Addr) × (Option Addr)) => own 26 1 i.1 1 [.slice j46.1 o45.length j46.2] :: own 26 1 i.2.1 1 [.slice (subA 1 Aa0 ca0 0) ((a0.take (Int.toNat o6)).drop 0).length (ca0 - 0)] :: own 26 1 i.2.2.1 1 [.slice (subA 1 Aa1 ca1 0) ((a1.take (Int.toNat o6)).drop 0).length (ca1 - 0)] :: own 5 1 i.2.2.2 (Int.toNat o6) ((List.replicate (Int.toNat o6) (0 : Int)).map (Value.int .u8)) :: own 5 1 j46.1 j46.2 (o45.map (Value.int .u8)) :: G) 10 [true, true, true, true, false, true, true, true, true, false, true, true, true, true, false, false, true, true, false, false, false, false, false, false] (fun i => ?_) (fun hD723 => ?_)
        · obtain ⟨A199, A319, A439, A535⟩ := i
          refine D.to (s' := [(38, .bool true), (40, .slice A199 1 1), (45, .slice A319 1 1), (50, .slice A439 1 1), (54, .slice A535 (List.replicate (Int.toNat o6) (0 : Int)).length (Int.toNat o6))]) (G' := own 26 1 A199 1 [.slice j46.1 o45.length j46.2] :: own 26 1 A319 1 [.slice (subA 1 Aa0 ca0 0) ((a0.take (Int.toNat o6)).drop 0).length (ca0 - 0)] :: own 26 1 A439 1 [.slice (subA 1 Aa1 ca1 0) ((a1.take (Int.toNat o6)).drop 0).length (ca1 - 0)] :: own 5 1 A535 (Int.toNat o6) ((List.replicate (Int.toNat o6) (0 : Int)).map (Value.int .u8)) :: own 5 1 j46.1 j46.2 (o45.map (Value.int .u8)) :: G) (by exact ⟨rfl, rfl, rfl, rfl, rfl, trivial⟩) (fun w h => h) ?_
          refine D.any [4, 18] (by kernel_rfl) rfl ⟨?_, ?_, trivial⟩
          · refine DW.j (ls' := [true, true, true, true, true, true, true, true, true, false, true, true, true, true, false, false, true, true, false, false, false, false, false, false]) rfl rfl ?_
            refine J.want rfl ?_
            refine J.know (own_leL 4 rfl) (fun hc223 => ?_)
            refine J.call (us := []) (cap := []) rfl rfl rfl go18 (fun w hw => by have hcc := Sum.calls K [o45] A199 1 [.slice j46.1 o45.length j46.2] (RdG.own 0 rfl) (VV.cons (RdG.own 4 rfl) hc223 VV.nil) (Nat.le_refl _) t104 hC105 w hw; exact hcc) (fun e w1 h1 => ?_)
            obtain ⟨rfl, hw224⟩ := h1
            refine ⟨_, _, rfl, hw224, ?_⟩
            refine J.nil ?_
            refine D.backK 4 rfl ?_
            exact D.to (by exact ⟨rfl, rfl, rfl, rfl, rfl, trivial⟩) (fun w h => h) (hD714 (A319, A439, A535, A199))
          · refine DW.j (ls' := [true, true, true, true, false, true, true, true, true, false, true, true, true, true, false, false, true, true, true, false, false, false, false, false]) rfl rfl ?_
            refine J.want rfl ?_
            refine J.know (own_leL 3 rfl) (fun hc560 => ?_)
            refine J.bsV (L := [.slice A535 (List.replicate (Int.toNat o6) (0 : Int)).length (Int.toNat o6)]) rfl Try.underlying23 ti26 rfl rfl rfl rfl rfl (fun A559 => ?_)
            refine J.nil ?_
            refine D.backK 5 rfl ?_
            exact D.to (by exact ⟨rfl, rfl, rfl, rfl, rfl, trivial⟩) (fun w h => (St.pick [1, 2, 3, 4, 0, 5] [_, _, _, _, _, _] h rfl)) (hD717 (A199, A319, A439, A559, A535))
        refine D.share (fun (i : (Option Addr) × (Option Addr) × (Option Addr) × (Option Addr)) => [(38, .bool true), (40, .slice i.1 1 1), (45, .slice i.2.1 1 1), (49, .slice (subA 1 Aa1 ca1 0) ((a1.take (Int.toNat o6)).drop 0).length (ca1 - 0)), (55, .slice i.2.2.1 1 1)]) (fun (i : (Option Addr) × (Option Addr) × (Option Addr) × (Option Addr)) => own 26 1 i.1 1 [.slice j46.1 o45.length j46.2] :: own 26 1 i.2.1 1 [.slice (subA 1 Aa0 ca0 0) ((a0.take (Int.toNat o6)).drop 0).length (ca0 - 0)] :: own 5 1 i.2.2.2 (Int.toNat o6) ((List.replicate (Int.toNat o6) (0 : Int)).map (Value.int .u8)) :: own 26 1 i.2.2.1 1 [.slice i.2.2.2 (List.replicate (Int.toNat o6) (0 : Int)).length (Int.toNat o6)] :: own 5 1 j46.1 j46.2 (o45.map (Value.int .u8)) :: G) 10 [true, true, true, true, false, true, true, true, true, false, true, true, true, false, false, false, true, true, true, false, false, false, false, false] (fun i => ?_) (fun hD724 => ?_)
        · obtain ⟨A199, A319, A559, A535⟩ := i
          refine D.to (s' := [(38, .bool true), (40, .slice A199 1 1), (45, .slice A319 1 1), (49, .slice (subA 1 Aa1 ca1 0) ((a1.take (Int.toNat o6)).drop 0).length (ca1 - 0)), (55, .slice A559 1 1)]) (G' := own 26 1 A199 1 [.slice j46.1 o45.length j46.2] :: own 26 1 A319 1 [.slice (subA 1 Aa0 ca0 0) ((a0.take (Int.toNat o6)).drop 0).length (ca0 - 0)] :: own 5 1 A535 (Int.toNat o6) ((List.replicate (Int.toNat o6) (0 : Int)).map (Value.int .u8)) :: own 26 1 A559 1 [.slice A535 (List.replicate (Int.toNat o6) (0 : Int)).length (Int.toNat o6)] :: own 5 1 j46.1 j46.2 (o45.map (Value.int .u8)) :: G) (by exact ⟨rfl, rfl, rfl, rfl, rfl, trivial⟩) (fun w h => h) ?_
          refine D.any [4, 13] (by kernel_rfl) rfl ⟨?_, ?_, trivial⟩
          · refine DW.j (ls' := [true, true, true, true, true, true, true, true, true, false, true, true, true, false, false, false, true, true, true, false, false, false, false, false]) rfl rfl ?_
            refine J.want rfl ?_
            refine J.know (own_leL 4 rfl) (fun hc223 => ?_)
            refine J.call (us := []) (cap := []) rfl rfl rfl go18 (fun w hw => by have hcc := Sum.calls K [o45] A199 1 [.slice j46.1 o45.length j46.2] (RdG.own 0 rfl) (VV.cons (RdG.own 4 rfl) hc223 VV.nil) (Nat.le_refl _) t104 hC105 w hw; exact hcc) (fun e w1 h1 => ?_)
            obtain ⟨rfl, hw224⟩ := h1
            refine ⟨_, _, rfl, hw224, ?_⟩
            refine J.nil ?_
            refine D.backK 4 rfl ?_
            exact D.to (by exact ⟨rfl, rfl, rfl, rfl, rfl, trivial⟩) (fun w h => h) (hD715 (A319, A559, A199, A535))
          · refine DW.j (ls' := [true, true, true, true, false, true, true, true, true, false, true, true, true, true, false, false, true, true, true, false, false, false, false, false]) rfl rfl ?_
            refine J.want rfl ?_
            refine J.bsV (L := [.slice (subA 1 Aa1 ca1 0) ((a1.take (Int.toNat o6)).drop 0).length (ca1 - 0)]) rfl Try.underlying23 ti26 rfl rfl rfl rfl rfl (fun A439 => ?_)
            refine J.nil ?_
            refine D.backK 5 rfl ?_
            exact D.to (by exact ⟨rfl, rfl, rfl, rfl, rfl, trivial⟩) (fun w h => (St.pick [1, 2, 0, 3, 4, 5] [_, _, _, _, _, _] h rfl)) (hD717 (A199, A319, A439, A559, A535))
        refine D.share (fun (i : (Option Addr) × (Option Addr) × (Option Addr) × (Option Addr)) => [(38, .bool true), (40, .slice i.1 1 1), (44, .slice (subA 1 Aa0 ca0 0) ((a0.take (Int.toNat o6)).drop 0).length (ca0 - 0)), (50, .slice i.2.1 1 1), (55, .slice i.2.2.1 1 1)]) (fun (i : (Option Addr) × (Option Addr) × (Option Addr) × (Option Addr)) => own 26 1 i.1 1 [.slice j46.1 o45.length j46.2] :: own 26 1 i.2.1 1 [.slice (subA 1 Aa1 ca1 0) ((a1.take (Int.toNat o6)).drop 0).length (ca1 - 0)] :: own 5 1 i.2.2.2 (Int.toNat o6) ((List.replicate (Int.toNat o6) (0 : Int)).map (Value.int .u8)) :: own 26 1 i.2.2.1 1 [.slice i.2.2.2 (List.replicate (Int.toNat o6) (0 : Int)).length (Int.toNat o6)] :: own 5 1 j46.1 j46.2 (o45.map (Value.int .u8)) :: G) 10 [true, true, true, true, false, true, true, true, false, false, true, true, true, true, false, false, true, true, true, false, false, false, false, false] (fun i => ?_) (fun hD725 => ?_)
        · obtain ⟨A199, A439, A559, A535⟩ := i
          refine D.to (s' := [(38, .bool true), (40, .slice A199 1 1), (44, .slice (subA 1 Aa0 ca0 0) ((a0.take (Int.toNat o6)).drop 0).length (ca0 - 0)), (50, .slice A439 1 1), (55, .slice A559 1 1)]) (G' := own 26 1 A199 1 [.slice j46.1 o45.length j46.2] :: own 26 1 A439 1 [.slice (subA 1 Aa1 ca1 0) ((a1.take (Int.toNat o6)).drop 0).length (ca1 - 0)] :: own 5 1 A535 (Int.toNat o6) ((List.replicate (Int.toNat o6) (0 : Int)).map (Value.int .u8)) :: own 26 1 A559 1 [.slice A535 (List.replicate (Int.toNat o6) (0 : Int)).length (Int.toNat o6)] :: own 5 1 j46.1 j46.2 (o45.map (Value.int .u8)) :: G) (by exact ⟨rfl, rfl, rfl, rfl, rfl, trivial⟩) (fun w h => h) ?_
          refine D.any [4, 8] (by kernel_rfl) rfl ⟨?_, ?_, trivial⟩
          · refine DW.j (ls' := [true, true, true, true, true, true, true, true, false, false, true, true, true, true, false, false, true, true, true, false, false, false, false, false]) rfl rfl ?_
            refine J.want rfl ?_
            refine J.know (own_leL 4 rfl) (fun hc223 => ?_)
            refine J.call (us := []) (cap := []) rfl rfl rfl go18 (fun w hw => by have hcc := Sum.calls K [o45] A199 1 [.slice j46.1 o45.length j46.2] (RdG.own 0 rfl) (VV.cons (RdG.own 4 rfl) hc223 VV.nil) (Nat.le_refl _) t104 hC105 w hw; exact hcc) (fun e w1 h1 => ?_)
            obtain ⟨rfl, hw224⟩ := h1
            refine ⟨_, _, rfl, hw224, ?_⟩
            refine J.nil ?_
            refine D.backK 4 rfl ?_
            exact D.to (by exact ⟨rfl, rfl, rfl, rfl, rfl, trivial⟩) (fun w h => h) (hD716 (A439, A559, A199, A535))
          · refine DW.j (ls' := [true, true, true, true, false, true, true, true, true, false, true, true, true, true, false, false, true, true, true, false, false, false, false, false]) rfl rfl ?_
            refine J.want rfl ?_
            refine J.bsV (L := [.slice (subA 1 Aa0 ca0 0) ((a0.take (Int.toNat o6)).drop 0).length (ca0 - 0)]) rfl Try.underlying23 ti26 rfl rfl rfl rfl rfl (fun A319 => ?_)
            refine J.nil ?_
            refine D.backK 5 rfl ?_
            exact D.to (by exact ⟨rfl, rfl, rfl, rfl, rfl, trivial⟩) (fun w h => (St.pick [1, 0, 2, 3, 4, 5] [_, _, _, _, _, _] h rfl)) (hD717 (A199, A319, A439, A559, A535))
        refine D.share (fun (i : (Option Addr) × (Option Addr) × (Option Addr) × (Option Addr)) => [(38, .bool true), (39, .slice j46.1 o45.length j46.2), (45, .slice i.1 1 1), (50, .slice i.2.1 1 1), (55, .slice i.2.2.1 1 1)]) (fun (i : (Option Addr) × (Option Addr) × (Option Addr) × (Option Addr)) => own 26 1 i.1 1 [.slice (subA 1 Aa0 ca0 0) ((a0.take (Int.toNat o6)).drop 0).length (ca0 - 0)] :: own 26 1 i.2.1 1 [.slice (subA 1 Aa1 ca1 0) ((a1.take (Int.toNat o6)).drop 0).length (ca1 - 0)] :: own 5 1 i.2.2.2 (Int.toNat o6) ((List.replicate (Int.toNat o6) (0 : Int)).map (Value.int .u8)) :: own 26 1 i.2.2.1 1 [.slice i.2.2.2 (List.replicate (Int.toNat o6) (0 : Int)).length (Int.toNat o6)] :: own 5 1 j46.1 j46.2 (o45.map (Value.int .u8)) :: G) 10 [true, true, true, false, false, true, true, true, true, false, true, true, true, true, false, false, true, true, true, false, false, false, false, false] (fun i => ?_) (fun hD726 => ?_)
        · obtain ⟨A319, A439, A559, A535⟩ := i
          refine D.to (s' := [(38, .bool true), (39, .slice j46.1 o45.length j46.2), (45, .slice A319 1 1), (50, .slice A439 1 1), (55, .slice A559 1 1)]) (G' := own 26 1 A319 1 [.slice (subA 1 Aa0 ca0 0) ((a0.take (Int.toNat o6)).drop 0).length (ca0 - 0)] :: own 26 1 A439 1 [.slice (subA 1 Aa1 ca1 0) ((a1.take (Int.toNat o6)).drop 0).length (ca1 - 0)] :: own 5 1 A535 (Int.toNat o6) ((List.replicate (Int.toNat o6) (0 : Int)).map (Value.int .u8)) :: own 26 1 A559 1 [.slice A535 (List.replicate (Int.toNat o6) (0 : Int)).length (Int.toNat o6)] :: own 5 1 j46.1 j46.2 (o45.map (Value.int .u8)) :: G) (by exact ⟨rfl, rfl, rfl, rfl, rfl, trivial⟩) (fun w h => h) ?_
          refine D.any [3] (by kernel_rfl) rfl ⟨?_, trivial⟩
          refine DW.j (ls' := [true, true, true, true, false, true, true, true, true, false, true, true, true, true, false, false, true, true, true, false, false, false, false, false]) rfl rfl ?_
          refine J.want rfl ?_
          refine J.know (own_leL 4 rfl) (fun hc200 => ?_)
          refine J.bsV (L := [.slice j46.1 o45.length j46.2]) rfl Try.underlying23 ti26 rfl rfl rfl rfl rfl (fun A199 => ?_)
          refine J.nil ?_
          refine D.backK 5 rfl ?_
          exact D.to (by exact ⟨rfl, rfl, rfl, rfl, rfl, trivial⟩) (fun w h => h) (hD717 (A199, A319, A439, A559, A535))
        refine D.share (fun (i : (Option Addr) × (Option Addr)) => [(38, .bool true), (41, .int .u32 t104), (45, .slice i.1 1 1), (49, .slice (subA 1 Aa1 ca1 0) ((a1.take (Int.toNat o6)).drop 0).length (ca1 - 0)), (53, .int .i64 o6)]) (fun (i : (Option Addr) × (Option Addr)) => own 26 1 i.2 1 [.slice j46.1 o45.length j46.2] :: own 26 1 i.1 1 [.slice (subA 1 Aa0 ca0 0) ((a0.take (Int.toNat o6)).drop 0).length (ca0 - 0)] :: own 5 1 j46.1 j46.2 (o45.map (Value.int .u8)) :: G) 11 [true, true, true, true, true, true, true, true, true, false, true, true, true, false, false, false, true, false, false, false, false, false, false, false] (fun i => ?_) (fun hD727 => ?_)
        · obtain ⟨A319, A199⟩ := i
          refine D.to (s' := [(38, .bool true), (41, .int .u32 t104), (45, .slice A319 1 1), (49, .slice (subA 1 Aa1 ca1 0) ((a1.take (Int.toNat o6)).drop 0).length (ca1 - 0)), (53, .int .i64 o6)]) (G' := own 26 1 A199 1 [.slice j46.1 o45.length j46.2] :: own 26 1 A319 1 [.slice (subA 1 Aa0 ca0 0) ((a0.take (Int.toNat o6)).drop 0).length (ca0 - 0)] :: own 5 1 j46.1 j46.2 (o45.map (Value.int .u8)) :: G) (by exact ⟨rfl, rfl, rfl, rfl, rfl, trivial⟩) (fun w h => h) ?_
          refine D.any [9, 13, 17] (by kernel_rfl) rfl ⟨?_, ?_, ?_, trivial⟩
          · refine DW.j (ls' := [true, true, true, true, true, true, true, true, true, true, true, true, true, false, false, false, true, false, false, false, false, false, false, false]) rfl rfl ?_
            refine J.want rfl ?_
            refine J.call (us := []) (cap := []) rfl rfl rfl go18 (fun w hw => by have hcc := Sum.calls K [((a0.take (Int.toNat o6)).drop 0)] A319 1 [.slice (subA 1 Aa0 ca0 0) ((a0.take (Int.toNat o6)).drop 0).length (ca0 - 0)] (RdG.own 1 rfl) (VV.cons (RdG.subL (l := 0) (h := (Int.toNat o6)) (ha0.suf [_, _, _] rfl) ka0) (hc_sub ka0) VV.nil) (Nat.le_refl _) t108 hC109 w hw; exact hcc) (fun e w1 h1 => ?_)
            obtain ⟨rfl, hw343⟩ := h1
            refine ⟨_, _, rfl, hw343, ?_⟩
            refine J.nil ?_
            refine D.backK 2 rfl ?_
            exact D.to (by exact ⟨rfl, rfl, rfl, rfl, rfl, trivial⟩) (fun w h => h) (hD718 (A199, A319))
          · refine DW.j (ls' := [true, true, true, true, true, true, true, true, true, false, true, true, true, true, false, false, true, false, false, false, false, false, false, false]) rfl rfl ?_
            refine J.want rfl ?_
            refine J.bsV (L := [.slice (subA 1 Aa1 ca1 0) ((a1.take (Int.toNat o6)).drop 0).length (ca1 - 0)]) rfl Try.underlying23 ti26 rfl rfl rfl rfl rfl (fun A439 => ?_)
            refine J.nil ?_
            refine D.backK 3 rfl ?_
            exact D.to (by exact ⟨rfl, rfl, rfl, rfl, rfl, trivial⟩) (fun w h => (St.pick [1, 2, 0, 3] [_, _, _, _] h rfl)) (hD719 (A319, A439, A199))
          · refine DW.j (ls' := [true, true, true, true, true, true, true, true, true, false, true, true, true, false, false, false, true, true, false, false, false, false, false, false]) rfl rfl ?_
            refine J.want rfl ?_
            refine J.mkL (enc := (Value.int .u8)) (z := 0) rfl Try.underlying26 ti5 rfl rfl rfl p115 (by decide) (fun A535 => ?_)
            refine J.nil ?_
            refine D.backK 3 rfl ?_
            exact D.to (by exact ⟨rfl, rfl, rfl, rfl, rfl, trivial⟩) (fun w h => (St.pick [1, 2, 0, 3] [_, _, _, _] h rfl)) (hD720 (A319, A535, A199))
        refine D.share (fun (i : (Option Addr) × (Option Addr)) => [(38, .bool true), (41, .int .u32 t104), (44, .slice (subA 1 Aa0 ca0 0) ((a0.take (Int.toNat o6)).drop 0).length (ca0 - 0)), (50, .slice i.1 1 1), (53, .int .i64 o6)]) (fun (i : (Option Addr) × (Option Addr)) => own 26 1 i.2 1 [.slice j46.1 o45.length j46.2] :: own 26 1 i.1 1 [.slice (subA 1 Aa1 ca1 0) ((a1.take (Int.toNat o6)).drop 0).length (ca1 - 0)] :: own 5 1 j46.1 j46.2 (o45.map (Value.int .u8)) :: G) 11 [true, true, true, true, true, true, true, true, false, false, true, true, true, true, false, false, true, false, false, false, false, false, false, false] (fun i => ?_) (fun hD728 => ?_)
        · obtain ⟨A439, A199⟩ := i
          refine D.to (s' := [(38, .bool true), (41, .int .u32 t104), (44, .slice (subA 1 Aa0 ca0 0) ((a0.take (Int.toNat o6)).drop 0).length (ca0 - 0)), (50, .slice A439 1 1), (53, .int .i64 o6)]) (G' := own 26 1 A199 1 [.slice j46.1 o45.length j46.2] :: own 26 1 A439 1 [.slice (subA 1 Aa1 ca1 0) ((a1.take (Int.toNat o6)).drop 0).length (ca1 - 0)] :: own 5 1 j46.1 j46.2 (o45.map (Value.int .u8)) :: G) (by exact ⟨rfl, rfl, rfl, rfl, rfl, trivial⟩) (fun w h => h) ?_
          refine D.any [8, 17] (by kernel_rfl) rfl ⟨?_, ?_, trivial⟩
          · refine DW.j (ls' := [true, true, true, true, true, true, true, true, true, false, true, true, true, true, false, false, true, false, false, false, false, false, false, false]) rfl rfl ?_
            refine J.want rfl ?_
            refine J.bsV (L := [.slice (subA 1 Aa0 ca0 0) ((a0.take (Int.toNat o6)).drop 0).length (ca0 - 0)]) rfl Try.underlying23 ti26 rfl rfl rfl rfl rfl (fun A319 => ?_)
            refine J.nil ?_
            refine D.backK 3 rfl ?_
            exact D.to (by exact ⟨rfl, rfl, rfl, rfl, rfl, trivial⟩) (fun w h => (St.pick [1, 0, 2, 3] [_, _, _, _] h rfl)) (hD719 (A319, A439, A199))
          · refine DW.j (ls' := [true, true, true, true, true, true, true, true, false, false, true, true, true, true, false, false, true, true, false, false, false, false, false, false]) rfl rfl ?_
            refine J.want rfl ?_
            refine J.mkL (enc := (Value.int .u8)) (z := 0) rfl Try.underlying26 ti5 rfl rfl rfl p115 (by decide) (fun A535 => ?_)
            refine J.nil ?_
            refine D.backK 3 rfl ?_
            exact D.to (by exact ⟨rfl, rfl, rfl, rfl, rfl, trivial⟩) (fun w h => (St.pick [1, 2, 0, 3] [_, _, _, _] h rfl)) (hD721 (A439, A535, A199))
        refine D.share (fun (i : (Option Addr) × (Option Addr)) => [(38, .bool true), (41, .int .u32 t104), (44, .slice (subA 1 Aa0 ca0 0) ((a0.take (Int.toNat o6)).drop 0).length (ca0 - 0)), (49, .slice (subA 1 Aa1 ca1 0) ((a1.take (Int.toNat o6)).drop 0).length (ca1 - 0)), (54, .slice i.1 (List.replicate (Int.toNat o6) (0 : Int)).length (Int.toNat o6))]) (fun (i : (Option Addr) × (Option Addr)) => own 26 1 i.2 1 [.slice j46.1 o45.length j46.2] :: own 5 1 i.1 (Int.toNat o6) ((List.replicate (Int.toNat o6) (0 : Int)).map (Value.int .u8)) :: own 5 1 j46.1 j46.2 (o45.map (Value.int .u8)) :: G) 11 [true, true, true, true, true, true, true, true, false, false, true, true, true, false, false, false, true, true, false, false, false, false, false, false] (fun i => ?_) (fun hD729 => ?_)
        · obtain ⟨A535, A199⟩ := i
          refine D.to (s' := [(38, .bool true), (41, .int .u32 t104), (44, .slice (subA 1 Aa0 ca0 0) ((a0.take (Int.toNat o6)).drop 0).length (ca0 - 0)), (49, .slice (subA 1 Aa1 ca1 0) ((a1.take (Int.toNat o6)).drop 0).length (ca1 - 0)), (54, .slice A535 (List.replicate (Int.toNat o6) (0 : Int)).length (Int.toNat o6))]) (G' := own 26 1 A199 1 [.slice j46.1 o45.length j46.2] :: own 5 1 A535 (Int.toNat o6) ((List.replicate (Int.toNat o6) (0 : Int)).map (Value.int .u8)) :: own 5 1 j46.1 j46.2 (o45.map (Value.int .u8)) :: G) (by exact ⟨rfl, rfl, rfl, rfl, rfl, trivial⟩) (fun w h => h) ?_
          refine D.any [8, 13, 18] (by kernel_rfl) rfl ⟨?_, ?_, ?_, trivial⟩
          · refine DW.j (ls' := [true, true, true, true, true, true, true, true, true, false, true, true, true, false, false, false, true, true, false, false, false, false, false, false]) rfl rfl ?_
            refine J.want rfl ?_
            refine J.bsV (L := [.slice (subA 1 Aa0 ca0 0) ((a0.take (Int.toNat o6)).drop 0).length (ca0 - 0)]) rfl Try.underlying23 ti26 rfl rfl rfl rfl rfl (fun A319 => ?_)
            refine J.nil ?_
            refine D.backK 3 rfl ?_
            exact D.to (by exact ⟨rfl, rfl, rfl, rfl, rfl, trivial⟩) (fun w h => (St.pick [1, 0, 2, 3] [_, _, _, _] h rfl)) (hD720 (A319, A535, A199))
          · refine DW.j (ls' := [true, true, true, true, true, true, true, true, false, false, true, true, true, true, false, false, true, true, false, false, false, false, false, false]) rfl rfl ?_
            refine J.want rfl ?_
            refine J.bsV (L := [.slice (subA 1 Aa1 ca1 0) ((a1.take (Int.toNat o6)).drop 0).length (ca1 - 0)]) rfl Try.underlying23 ti26 rfl rfl rfl rfl rfl (fun A439 => ?_)
            refine J.nil ?_
            refine D.backK 3 rfl ?_
            exact D.to (by exact ⟨rfl, rfl, rfl, rfl, rfl, trivial⟩) (fun w h => (St.pick [1, 0, 2, 3] [_, _, _, _] h rfl)) (hD721 (A439, A535, A199))
          · refine DW.j (ls' := [true, true, true, true, true, true, true, true, false, false, true, true, true, false, false, false, true, true, true, false, false, false, false, false]) rfl rfl ?_
            refine J.want rfl ?_
            refine J.know (own_leL 1 rfl) (fun hc560 => ?_)
            refine J.bsV (L := [.slice A535 (List.replicate (Int.toNat o6) (0 : Int)).length (Int.toNat o6)]) rfl Try.underlying23 ti26 rfl rfl rfl rfl rfl (fun A559 => ?_)
            refine J.nil ?_
            refine D.backK 3 rfl ?_
            exact D.to (by exact ⟨rfl, rfl, rfl, rfl, rfl, trivial⟩) (fun w h => (St.pick [1, 2, 0, 3] [_, _, _, _] h rfl)) (hD722 (A559, A199, A535))
        refine D.share (fun (i : (Option Addr) × (Option Addr) × (Option Addr)) => [(38, .bool true), (40, .slice i.1 1 1), (45, .slice i.2.1 1 1), (50, .slice i.2.2 1 1), (53, .int .i64 o6)]) (fun (i : (Option Addr) × (Option Addr) × (Option Addr)) => own 26 1 i.1 1 [.slice j46.1 o45.length j46.2] :: own 26 1 i.2.1 1 [.slice (subA 1 Aa0 ca0 0) ((a0.take (Int.toNat o6)).drop 0).length (ca0 - 0)] :: own 26 1 i.2.2 1 [.slice (subA 1 Aa1 ca1 0) ((a1.take (Int.toNat o6)).drop 0).length (ca1 - 0)] :: own 5 1 j46.1 j46.2 (o45.map (Value.int .u8)) :: G) 11 [true, true, true, true, false, true, true, true, true, false, true, true, true, true, false, false, true, false, false, false, false, false, false, false] (fun i => ?_) (fun hD730 => ?_)
        · obtain ⟨A199, A319, A439⟩ := i
          refine D.to (s' := [(38, .bool true), (40, .slice A199 1 1), (45, .slice A319 1 1), (50, .slice A439 1 1), (53, .int .i64 o6)]) (G' := own 26 1 A199 1 [.slice j46.1 o45.length j46.2] :: own 26 1 A319 1 [.slice (subA 1 Aa0 ca0 0) ((a0.take (Int.toNat o6)).drop 0).length (ca0 - 0)] :: own 26 1 A439 1 [.slice (subA 1 Aa1 ca1 0) ((a1.take (Int.toNat o6)).drop 0).length (ca1 - 0)] :: own 5 1 j46.1 j46.2 (o45.map (Value.int .u8)) :: G) (by exact ⟨rfl, rfl, rfl, rfl, rfl, trivial⟩) (fun w h => h) ?_
          refine D.any [4, 17] (by kernel_rfl) rfl ⟨?_, ?_, trivial⟩
          · refine DW.j (ls' := [true, true, true, true, true, true, true, true, true, false, true, true, true, true, false, false, true, false, false, false, false, false, false, false]) rfl rfl ?_
            refine J.want rfl ?_
            refine J.know (own_leL 3 rfl) (fun hc223 => ?_)
            refine J.call (us := []) (cap := []) rfl rfl rfl go18 (fun w hw => by have hcc := Sum.calls K [o45] A199 1 [.slice j46.1 o45.length j46.2] (RdG.own 0 rfl) (VV.cons (RdG.own 3 rfl) hc223 VV.nil) (Nat.le_refl _) t104 hC105 w hw; exact hcc) (fun e w1 h1 => ?_)
            obtain ⟨rfl, hw224⟩ := h1
            refine ⟨_, _, rfl, hw224, ?_⟩
            refine J.nil ?_
            refine D.backK 3 rfl ?_
            exact D.to (by exact ⟨rfl, rfl, rfl, rfl, rfl, trivial⟩) (fun w h => h) (hD719 (A319, A439, A199))
          · refine DW.j (ls' := [true, true, true, true, false, true, true, true, true, false, true, true, true, true, false, false, true, true, false, false, false, false, false, false]) rfl rfl ?_
            refine J.want rfl ?_
            refine J.mkL (enc := (Value.int .u8)) (z := 0) rfl Try.underlying26 ti5 rfl rfl rfl p115 (by decide) (fun A535 => ?_)
            refine J.nil ?_
            refine D.backK 4 rfl ?_
            exact D.to (by exact ⟨rfl, rfl, rfl, rfl, rfl, trivial⟩) (fun w h => (St.pick [1, 2, 3, 0, 4] [_, _, _, _, _] h rfl)) (hD723 (A199, A319, A439, A535))
        refine D.share (fun (i : (Option Addr) × (Option Addr) × (Option Addr)) => [(38, .bool true), (40, .slice i.1 1 1), (45, .slice i.2.1 1 1), (49, .slice (subA 1 Aa1 ca1 0) ((a1.take (Int.toNat o6)).drop 0).length (ca1 - 0)), (54, .slice i.2.2 (List.replicate (Int.toNat o6) (0 : Int)).length (Int.toNat o6))]) (fun (i : (Option Addr) × (Option Addr) × (Option Addr)) => own 26 1 i.1 1 [.slice j46.1 o45.length j46.2] :: own 26 1 i.2.1 1 [.slice (subA 1 Aa0 ca0 0) ((a0.take (Int.toNat o6)).drop 0).length (ca0 - 0)] :: own 5 1 i.2.2 (Int.toNat o6) ((List.replicate (Int.toNat o6) (0 : Int)).map (Value.int .u8)) :: own 5 1 j46.1 j46.2 (o45.map (Value.int .u8)) :: G) 11 [true, true, true, true, false, true, true, true, true, false, true, true, true, false, false, false, true, true, false, false, false, false, false, false] (fun i => ?_) (fun hD731 => ?_)
        · obtain ⟨A199, A319, A535⟩ := i
          refine D.to (s' := [(38, .bool true), (40, .slice A199 1 1), (45, .slice A319 1 1), (49, .slice (subA 1 Aa1 ca1 0) ((a1.take (Int.toNat o6)).drop 0).length (ca1 - 0)), (54, .slice A535 (List.replicate (Int.toNat o6) (0 : Int)).length (Int.toNat o6))]) (G' := own 26 1 A199 1 [.slice j46.1 o45.length j46.2] :: own 26 1 A319 1 [.slice (subA 1 Aa0 ca0 0) ((a0.take (Int.toNat o6)).drop 0).length (ca0 - 0)] :: own 5 1 A535 (Int.toNat o6) ((List.replicate (Int.toNat o6) (0 : Int)).map (Value.int .u8)) :: own 5 1 j46.1 j46.2 (o45.map (Value.int .u8)) :: G) (by exact ⟨rfl, rfl, rfl, rfl, rfl, trivial⟩) (fun w h => h) ?_
          refine D.any [4, 13, 18] (by kernel_rfl) rfl ⟨?_, ?_, ?_, trivial⟩
          · refine DW.j (ls' := [true, true, true, true, true, true, true, true, true, false, true, true, true, false, false, false, true, true, false, false, false, false, false, false]) rfl rfl ?_
            refine J.want rfl ?_
            refine J.know (own_leL 3 rfl) (fun hc223 => ?_)
            refine J.call (us := []) (cap := []) rfl rfl rfl go18 (fun w hw => by have hcc := Sum.calls K [o45] A199 1 [.slice j46.1 o45.length j46.2] (RdG.own 0 rfl) (VV.cons (RdG.own 3 rfl) hc223 VV.nil) (Nat.le_refl _) t104 hC105 w hw; exact hcc) (fun e w1 h1 => ?_)
            obtain ⟨rfl, hw224⟩ := h1
            refine ⟨_, _, rfl, hw224, ?_⟩
            refine J.nil ?_
            refine D.backK 3 rfl ?_
            exact D.to (by exact ⟨rfl, rfl, rfl, rfl, rfl, trivial⟩) (fun w h => h) (hD720 (A319, A535, A199))
          · refine DW.j (ls' := [true, true, true, true, false, true, true, true, true, false, true, true, true, true, false, false, true, true, false, false, false, false, false, false]) rfl rfl ?_
            refine J.want rfl ?_
            refine J.bsV (L := [.slice (subA 1 Aa1 ca1 0) ((a1.take (Int.toNat o6)).drop 0).length (ca1 - 0)]) rfl Try.underlying23 ti26 rfl rfl rfl rfl rfl (fun A439 => ?_)
            refine J.nil ?_
            refine D.backK 4 rfl ?_
            exact D.to (by exact ⟨rfl, rfl, rfl, rfl, rfl, trivial⟩) (fun w h => (St.pick [1, 2, 0, 3, 4] [_, _, _, _, _] h rfl)) (hD723 (A199, A319, A439, A535))
          · refine DW.j (ls' := [true, true, true, true, false, true, true, true, true, false, true, true, true, false, false, false, true, true, true, false, false, false, false, false]) rfl rfl ?_
            refine J.want rfl ?_
            refine J.know (own_leL 2 rfl) (fun hc560 => ?_)
            refine J.bsV (L := [.slice A535 (List.replicate (Int.toNat o6) (0 : Int)).length (Int.toNat o6)]) rfl Try.underlying23 ti26 rfl rfl rfl rfl rfl (fun A559 => ?_)
            refine J.nil ?_
            refine D.backK 4 rfl ?_
            exact D.to (by exact ⟨rfl, rfl, rfl, rfl, rfl, trivial⟩) (fun w h => (St.pick [1, 2, 3, 0, 4] [_, _, _, _, _] h rfl)) (hD724 (A199, A319, A559, A535))
        refine D.share (fun (i : (Option Addr) × (Option Addr) × (Option Addr)) => [(38, .bool true), (40, .slice i.1 1 1), (44, .slice (subA 1 Aa0 ca0 0) ((a0.take (Int.toNat o6)).drop 0).length (ca0 - 0)), (50, .slice i.2.1 1 1), (54, .slice i.2.2 (List.replicate (Int.toNat o6) (0 : Int)).length (Int.toNat o6))]) (fun (i : (Option Addr) × (Option Addr) × (Option Addr)) => own 26 1 i.1 1 [.slice j46.1 o45.length j46.2] :: own 26 1 i.2.1 1 [.slice (subA 1 Aa1 ca1 0) ((a1.take (Int.toNat o6)).drop 0).length (ca1 - 0)] :: own 5 1 i.2.2 (Int.toNat o6) ((List.replicate (Int.toNat o6) (0 : Int)).map (Value.int .u8)) :: own 5 1 j46.1 j46.2 (o45.map (Value.int .u8)) :: G) 11 [true, true, true, true, false, true, true, true, false, false, true, true, true, true, false, false, true, true, false, false, false, false, false, false] (fun i => ?_) (fun hD732 => ?_)
        · obtain ⟨A199, A439, A535⟩ := i
          refine D.to (s' := [(38, .bool true), (40, .slice A199 1 1), (44, .slice (subA 1 Aa0 ca0 0) ((a0.take (Int.toNat o6)).drop 0).length (ca0 - 0)), (50, .slice A439 1 1), (54, .slice A535 (List.replicate (Int.toNat o6) (0 : Int)).length (Int.toNat o6))]) (G' := own 26 1 A199 1 [.slice j46.1 o45.length j46.2] :: own 26 1 A439 1 [.slice (subA 1 Aa1 ca1 0) ((a1.take (Int.toNat o6)).drop 0).length (ca1 - 0)] :: own 5 1 A535 (Int.toNat o6) ((List.replicate (Int.toNat o6) (0 : Int)).map (Value.int .u8)) :: own 5 1 j46.1 j46.2 (o45.map (Value.int .u8)) :: G) (by exact ⟨rfl, rfl, rfl, rfl, rfl, trivial⟩) (fun w h => h) ?_
          refine D.any [4, 8, 18] (by kernel_rfl) rfl ⟨?_, ?_, ?_, trivial⟩
          · refine DW.j (ls' := [true, true, true, true, true, true, true, true, false, false, true, true, true, true, false, false, true, true, false, false, false, false, false, false]) rfl rfl ?_
            refine J.want rfl ?_
            refine J.know (own_leL 3 rfl) (fun hc223 => ?_)
            refine J.call (us := []) (cap := []) rfl rfl rfl go18 (fun w hw => by have hcc := Sum.calls K [o45] A199 1 [.slice j46.1 o45.length j46.2] (RdG.own 0 rfl) (VV.cons (RdG.own 3 rfl) hc223 VV.nil) (Nat.le_refl _) t104 hC105 w hw; exact hcc) (fun e w1 h1 => ?_)
            obtain ⟨rfl, hw224⟩ := h1
            refine ⟨_, _, rfl, hw224, ?_⟩
            refine J.nil ?_
            refine D.backK 3 rfl ?_
            exact D.to (by exact ⟨rfl, rfl, rfl, rfl, rfl, trivial⟩) (fun w h => h) (hD721 (A439, A535, A199))
          · refine DW.j (ls' := [true, true, true, true, false, true, true, true, true, false, true, true, true, true, false, false, true, true, false, false, false, false, false, false]) rfl rfl ?_
            refine J.want rfl ?_
            refine J.bsV (L := [.slice (subA 1 Aa0 ca0 0) ((a0.take (Int.toNat o6)).drop 0).length (ca0 - 0)]) rfl Try.underlying23 ti26 rfl rfl rfl rfl rfl (fun A319 => ?_)
            refine J.nil ?_
            refine D.backK 4 rfl ?_
            exact D.to (by exact ⟨rfl, rfl, rfl, rfl, rfl, trivial⟩) (fun w h => (St.pick [1, 0, 2, 3, 4] [_, _, _, _, _] h rfl)) (hD723 (A199, A319, A439, A535))
          · refine DW.j (ls' := [true, true, true, true, false, true, true, true, false, false, true, true, true, true, false, false, true, true, true, false, false, false, false, false]) rfl rfl ?_
            refine J.want rfl ?_
            refine J.know (own_leL 2 rfl) (fun hc560 => ?_)
            refine J.bsV (L := [.slice A535 (List.replicate (Int.toNat o6) (0 : Int)).length (Int.toNat o6)]) rfl Try.underlying23 ti26 rfl rfl rfl rfl rfl (fun A559 => ?_)
            refine J.nil ?_
            refine D.backK 4 rfl ?_
            exact D.to (by exact ⟨rfl, rfl, rfl, rfl, rfl, trivial⟩) (fun w h => (St.pick [1, 2, 3, 0, 4] [_, _, _, _, _] h rfl)) (hD725 (A199, A439, A559, A535))
        refine D.share (fun (i : (Option Addr) × (Option Addr) × (Option Addr)) => [(38, .bool true), (40, .slice i.1 1 1), (44, .slice (subA 1 Aa0 ca0 0) ((a0.take (Int.toNat o6)).drop 0).length (ca0 - 0)), (49, .slice (subA 1 Aa1 ca1 0) ((a1.take (Int.toNat o6)).drop 0).length (ca1 - 0)), (55, .slice i.2.1 1 1)]) (fun (i : (Option Addr) × (Option Addr) × (Option Addr)) => own 26 1 i.1 1 [.slice j46.1 o45.length j46.2] :: own 5 1 i.2.2 (Int.toNat o6) ((List.replicate (Int.toNat o6) (0 : Int)).map (Value.int .u8)) :: own 26 1 i.2.1 1 [.slice i.2.2 (List.replicate (Int.toNat o6) (0 : Int)).length (Int.toNat o6)] :: own 5 1 j46.1 j46.2 (o45.map (Value.int .u8)) :: G) 11 [true, true, true, true, false, true, true, true, false, false, true, true, true, false, false, false, true, true, true, false, false, false, false, false] (fun i => ?_) (fun hD733 => ?_)
        · obtain ⟨A199, A559, A535⟩ := i
          refine D.to (s' := [(38, .bool true), (40, .slice A199 1 1), (44, .slice (subA 1 Aa0 ca0 0) ((a0.take (Int.toNat o6)).drop 0).length (ca0 - 0)), (49, .slice (subA 1 Aa1 ca1 0) ((a1.take (Int.toNat o6)).drop 0).length (ca1 - 0)), (55, .slice A559 1 1)]) (G' := own 26 1 A199 1 [.slice j46.1 o45.length j46.2] :: own 5 1 A535 (Int.toNat o6) ((List.replicate (Int.toNat o6) (0 : Int)).map (Value.int .u8)) :: own 26 1 A559 1 [.slice A535 (List.replicate (Int.toNat o6) (0 : Int)).length (Int.toNat o6)] :: own 5 1 j46.1 j46.2 (o45.map (Value.int .u8)) :: G) (by exact ⟨rfl, rfl, rfl, rfl, rfl, trivial⟩) (fun w h => h) ?_
          refine D.any [4, 8, 13] (by kernel_rfl) rfl ⟨?_, ?_, ?_, trivial⟩
          · refine DW.j (ls' := [true, true, true, true, true, true, true, true, false, false, true, true, true, false, false, false, true, true, true, false, false, false, false, false]) rfl rfl ?_
            refine J.want rfl ?_
            refine J.know (own_leL 3 rfl) (fun hc223 => ?_)
            refine J.call (us := []) (cap := []) rfl rfl rfl go18 (fun w hw => by have hcc := Sum.calls K [o45] A199 1 [.slice j46.1 o45.length j46.2] (RdG.own 0 rfl) (VV.cons (RdG.own 3 rfl) hc223 VV.nil) (Nat.le_refl _) t104 hC105 w hw; exact hcc) (fun e w1 h1 => ?_)
            obtain ⟨rfl, hw224⟩ := h1
            refine ⟨_, _, rfl, hw224, ?_⟩
            refine J.nil ?_
            refine D.backK 3 rfl ?_
            exact D.to (by exact ⟨rfl, rfl, rfl, rfl, rfl, trivial⟩) (fun w h => h) (hD722 (A559, A199, A535))
          · refine DW.j (ls' := [true, true, true, true, false, true, true, true, true, false, true, true, true, false, false, false, true, true, true, false, false, false, false, false]) rfl rfl ?_
            refine J.want rfl ?_
            refine J.bsV (L := [.slice (subA 1 Aa0 ca0 0) ((a0.take (Int.toNat o6)).drop 0).length (ca0 - 0)]) rfl Try.underlying23 ti26 rfl rfl rfl rfl rfl (fun A319 => ?_)
            refine J.nil ?_
            refine D.backK 4 rfl ?_
            exact D.to (by exact ⟨rfl, rfl, rfl, rfl, rfl, trivial⟩) (fun w h => (St.pick [1, 0, 2, 3, 4] [_, _, _, _, _] h rfl)) (hD724 (A199, A319, A559, A535))
          · refine DW.j (ls' := [true, true, true, true, false, true, true, true, false, false, true, true, true, true, false, false, true, true, true, false, false, false, false, false]) rfl rfl ?_
            refine J.want rfl ?_
            refine J.bsV (L := [.slice (subA 1 Aa1 ca1 0) ((a1.take (Int.toNat o6)).drop 0).length (ca1 - 0)]) rfl Try.underlying23 ti26 rfl rfl rfl rfl rfl (fun A439 => ?_)
            refine J.nil ?_
            refine D.backK 4 rfl ?_
            exact D.to (by exact ⟨rfl, rfl, rfl, rfl, rfl, trivial⟩) (fun w h => (St.pick [1, 0, 2, 3, 4] [_, _, _, _, _] h rfl)) (hD725 (A199, A439, A559, A535))
        refine D.share (fun (i : (Option Addr) × (Option Addr) × (Option Addr)) => [(38, .bool true), (39, .slice j46.1 o45.length j46.2), (45, .slice i.1 1 1), (50, .slice i.2.1 1 1), (54, .slice i.2.2 (List.replicate (Int.toNat o6) (0 : Int)).length (Int.toNat o6))]) (fun (i : (Option Addr) × (Option Addr) × (Option Addr)) => own 26 1 i.1 1 [.slice (subA 1 Aa0 ca0 0) ((a0.take (Int.toNat o6)).drop 0).length (ca0 - 0)] :: own 26 1 i.2.1 1 [.slice (subA 1 Aa1 ca1 0) ((a1.take (Int.toNat o6)).drop 0).length (ca1 - 0)] :: own 5 1 i.2.2 (Int.toNat o6) ((List.replicate (Int.toNat o6) (0 : Int)).map (Value.int .u8)) :: own 5 1 j46.1 j46.2 (o45.map (Value.int .u8)) :: G) 11 [true, true, true, false, false, true, true, true, true, false, true, true, true, true, false, false, true, true, false, false, false, false, false, false] (fun i => ?_) (fun hD734 => ?_)
        · obtain ⟨A319, A439, A535⟩ := i
          refine D.to (s' := [(38, .bool true), (39, .slice j46.1 o45.length j46.2), (45, .slice A319 1 1), (50, .slice A439 1 1), (54, .slice A535 (List.replicate (Int.toNat o6) (0 : Int)).length (Int.toNat o6))]) (G' := own 26 1 A319 1 [.slice (subA 1 Aa0 ca0 0) ((a0.take (Int.toNat o6)).drop 0).length (ca0 - 0)] :: own 26 1 A439 1 [.slice (subA 1 Aa1 ca1 0) ((a1.take (Int.toNat o6)).drop 0).length (ca1 - 0)] :: own 5 1 A535 (Int.toNat o6) ((List.replicate (Int.toNat o6) (0 : Int)).map (Value.int .u8)) :: own 5 1 j46.1 j46.2 (o45.map (Value.int .u8)) :: G) (by exact ⟨rfl, rfl, rfl, rfl, rfl, trivial⟩) (fun w h => h) ?_
          refine D.any [3, 18] (by kernel_rfl) rfl ⟨?_, ?_, trivial⟩
          · refine DW.j (ls' := [true, true, true, true, false, true, true, true, true, false, true, true, true, true, false, false, true, true, false, false, false, false, false, false]) rfl rfl ?_
            refine J.want rfl ?_
            refine J.know (own_leL 3 rfl) (fun hc200 => ?_)
            refine J.bsV (L := [.slice j46.1 o45.length j46.2]) rfl Try.underlying23 ti26 rfl rfl rfl rfl rfl (fun A199 => ?_)
            refine J.nil ?_
            refine D.backK 4 rfl ?_
            exact D.to (by exact ⟨rfl, rfl, rfl, rfl, rfl, trivial⟩) (fun w h => h) (hD723 (A199, A319, A439, A535))
          · refine DW.j (ls' := [true, true, true, false, false, true, true, true, true, false, true, true, true, true, false, false, true, true, true, false, false, false, false, false]) rfl rfl ?_
            refine J.want rfl ?_
            refine J.know (own_leL 2 rfl) (fun hc560 => ?_)
            refine J.bsV (L := [.slice A535 (List.replicate (Int.toNat o6) (0 : Int)).length (Int.toNat o6)]) rfl Try.underlying23 ti26 rfl rfl rfl rfl rfl (fun A559 => ?_)
            refine J.nil ?_
            refine D.backK 4 rfl ?_
            exact D.to (by exact ⟨rfl, rfl, rfl, rfl, rfl, trivial⟩) (fun w h => (St.pick [1, 2, 3, 0, 4] [_, _, _, _, _] h rfl)) (hD726 (A319, A439, A559, A535))
        refine D.share (fun (i : (Option Addr) × (Option Addr) × (Option Addr)) => [(38, .bool true), (39, .slice j46.1 o45.length j46.2), (45, .slice i.1 1 1), (49, .slice (subA 1 Aa1 ca1 0) ((a1.take (Int.toNat o6)).drop 0).length (ca1 - 0)), (55, .slice i.2.1 1 1)]) (fun (i : (Option Addr) × (Option Addr) × (Option Addr)) => own 26 1 i.1 1 [.slice (subA 1 Aa0 ca0 0) ((a0.take (Int.toNat o6)).drop 0).length (ca0 - 0)] :: own 5 1 i.2.2 (Int.toNat o6) ((List.replicate (Int.toNat o6) (0 : Int)).map (Value.int .u8)) :: own 26 1 i.2.1 1 [.slice i.2.2 (List.replicate (Int.toNat o6) (0 : Int)).length (Int.toNat o6)] :: own 5 1 j46.1 j46.2 (o45.map (Value.int .u8)) :: G) 11 [true, true, true, false, false, true, true, true, true, false, true, true, true, false, false, false, true, true, true, false, false, false, false, false] (fun i => ?_) (fun hD735 => ?_)
        · obtain ⟨A319, A559, A535⟩ := i
          refine D.to (s' := [(38, .bool true), (39, .slice j46.1 o45.length j46.2), (45, .slice A319 1 1), (49, .slice (subA 1 Aa1 ca1 0) ((a1.take (Int.toNat o6)).drop 0).length (ca1 - 0)), (55, .slice A559 1 1)]) (G' := own 26 1 A319 1 [.slice (subA 1 Aa0 ca0 0) ((a0.take (Int.toNat o6)).drop 0).length (ca0 - 0)] :: own 5 1 A535 (Int.toNat o6) ((List.replicate (Int.toNat o6) (0 : Int)).map (Value.int .u8)) :: own 26 1 A559 1 [.slice A535 (List.replicate (Int.toNat o6) (0 : Int)).length (Int.toNat o6)] :: own 5 1 j46.1 j46.2 (o45.map (Value.int .u8)) :: G) (by exact ⟨rfl, rfl, rfl, rfl, rfl, trivial⟩) (fun w h => h) ?_
          refine D.any [3, 13] (by kernel_rfl) rfl ⟨?_, ?_, trivial⟩
          · refine DW.j (ls' := [true, true, true, true, false, true, true, true, true, false, true, true, true, false, false, false, true, true, true, false, false, false, false, false]) rfl rfl ?_
            refine J.want rfl ?_
            refine J.know (own_leL 3 rfl) (fun hc200 => ?_)
            refine J.bsV (L := [.slice j46.1 o45.length j46.2]) rfl Try.underlying23 ti26 rfl rfl rfl rfl rfl (fun A199 => ?_)
            refine J.nil ?_
            refine D.backK 4 rfl ?_
            exact D.to (by exact ⟨rfl, rfl, rfl, rfl, rfl, trivial⟩) (fun w h => h) (hD724 (A199, A319, A559, A535))
          · refine DW.j (ls' := [true, true, true, false, false, true, true, true, true, false, true, true, true, true, false, false, true, true, true, false, false, false, false, false]) rfl rfl ?_
            refine J.want rfl ?_
            refine J.bsV (L := [.slice (subA 1 Aa1 ca1 0) ((a1.take (Int.toNat o6)).drop 0).length (ca1 - 0)]) rfl Try.underlying23 ti26 rfl rfl rfl rfl rfl (fun A439 => ?_)
            refine J.nil ?_
            refine D.backK 4 rfl ?_
            exact D.to (by exact ⟨rfl, rfl, rfl, rfl, rfl, trivial⟩) (fun w h => (St.pick [1, 0, 2, 3, 4] [_, _, _, _, _] h rfl)) (hD726 (A319, A439, A559, A535))
        refine D.share (fun (i : (Option Addr) × (Option Addr) × (Option Addr)) => [(38, .bool true), (39, .slice j46.1 o45.length j46.2), (44, .slice (subA 1 Aa0 ca0 0) ((a0.take (Int.toNat o6)).drop 0).length (ca0 - 0)), (50, .slice i.1 1 1), (55, .slice i.2.1 1 1)]) (fun (i : (Option Addr) × (Option Addr) × (Option Addr)) => own 26 1 i.1 1 [.slice (subA 1 Aa1 ca1 0) ((a1.take (Int.toNat o6)).drop 0).length (ca1 - 0)] :: own 5 1 i.2.2 (Int.toNat o6) ((List.replicate (Int.toNat o6) (0 : Int)).map (Value.int .u8)) :: own 26 1 i.2.1 1 [.slice i.2.2 (List.replicate (Int.toNat o6) (0 : Int)).length (Int.toNat o6)] :: own 5 1 j46.1 j46.2 (o45.map (Value.int .u8)) :: G) 11 [true, true, true, false, false, true, true, true, false, false, true, true, true, true, false, false, true, true, true, false, false, false, false, false] (fun i => ?_) (fun hD736 => ?_)
        · obtain ⟨A439, A559, A535⟩ := i
          refine D.to (s' := [(38, .bool true), (39, .slice j46.1 o45.length j46.2), (44, .slice (subA 1 Aa0 ca0 0) ((a0.take (Int.toNat o6)).drop 0).length (ca0 - 0)), (50, .slice A439 1 1), (55, .slice A559 1 1)]) (G' := own 26 1 A439 1 [.slice (subA 1 Aa1 ca1 0) ((a1.take (Int.toNat o6)).drop 0).length (ca1 - 0)] :: own 5 1 A535 (Int.toNat o6) ((List.replicate (Int.toNat o6) (0 : Int)).map (Value.int .u8)) :: own 26 1 A559 1 [.slice A535 (List.replicate (Int.toNat o6) (0 : Int)).length (Int.toNat o6)] :: own 5 1 j46.1 j46.2 (o45.map (Value.int .u8)) :: G) (by exact ⟨rfl, rfl, rfl, rfl, rfl, trivial⟩) (fun w h => h) ?_
          refine D.any [3, 8] (by kernel_rfl) rfl ⟨?_, ?_, trivial⟩
          · refine DW.j (ls' := [true, true, true, true, false, true, true, true, false, false, true, true, true, true, false, false, true, true, true, false, false, false, false, false]) rfl rfl ?_
            refine J.want rfl ?_
            refine J.know (own_leL 3 rfl) (fun hc200 => ?_)
            refine J.bsV (L := [.slice j46.1 o45.length j46.2]) rfl Try.underlying23 ti26 rfl rfl rfl rfl rfl (fun A199 => ?_)
            refine J.nil ?_
            refine D.backK 4 rfl ?_
            exact D.to (by exact ⟨rfl, rfl, rfl, rfl, rfl, trivial⟩) (fun w h => h) (hD725 (A199, A439, A559, A535))
          · refine DW.j (ls' := [true, true, true, false, false, true, true, true, true, false, true, true, true, true, false, false, true, true, true, false, false, false, false, false]) rfl rfl ?_
            refine J.want rfl ?_
            refine J.bsV (L := [.slice (subA 1 Aa0 ca0 0) ((a0.take (Int.toNat o6)).drop 0).length (ca0 - 0)]) rfl Try.underlying23 ti26 rfl rfl rfl rfl rfl (fun A319 => ?_)
            refine J.nil ?_
            refine D.backK 4 rfl ?_
            exact D.to (by exact ⟨rfl, rfl, rfl, rfl, rfl, trivial⟩) (fun w h => h) (hD726 (A319, A439, A559, A535))
        refine D.share (fun (i : (Option Addr)) => [(38, .bool true), (41, .int .u32 t104), (44, .slice (subA 1 Aa0 ca0 0) ((a0.take (Int.toNat o6)).drop 0).length (ca0 - 0)), (49, .slice (subA 1 Aa1 ca1 0) ((a1.take (Int.toNat o6)).drop 0).length (ca1 - 0)), (53, .int .i64 o6)]) (fun (i : (Option Addr)) => own 26 1 i 1 [.slice j46.1 o45.length j46.2] :: own 5 1 j46.1 j46.2 (o45.map (Value.int .u8)) :: G) 12 [true, true, true, true, true, true, true, true, false, false, true, true, true, false, false, false, true, false, false, false, false, false, false, false] (fun A199 => ?_) (fun hD737 => ?_)
        · refine D.to (s' := [(38, .bool true), (41, .int .u32 t104), (44, .slice (subA 1 Aa0 ca0 0) ((a0.take (Int.toNat o6)).drop 0).length (ca0 - 0)), (49, .slice (subA 1 Aa1 ca1 0) ((a1.take (Int.toNat o6)).drop 0).length (ca1 - 0)), (53, .int .i64 o6)]) (G' := own 26 1 A199 1 [.slice j46.1 o45.length j46.2] :: own 5 1 j46.1 j46.2 (o45.map (Value.int .u8)) :: G) (by exact ⟨rfl, rfl, rfl, rfl, rfl, trivial⟩) (fun w h => h) ?_
          refine D.any [8, 13, 17] (by kernel_rfl) rfl ⟨?_, ?_, ?_, trivial⟩
          · refine DW.j (ls' := [true, true, true, true, true, true, true, true, true, false, true, true, true, false, false, false, true, false, false, false, false, false, false, false]) rfl rfl ?_
            refine J.want rfl ?_
            refine J.bsV (L := [.slice (subA 1 Aa0 ca0 0) ((a0.take (Int.toNat o6)).drop 0).length (ca0 - 0)]) rfl Try.underlying23 ti26 rfl rfl rfl rfl rfl (fun A319 => ?_)
            refine J.nil ?_
            refine D.backK 2 rfl ?_
            exact D.to (by exact ⟨rfl, rfl, rfl, rfl, rfl, trivial⟩) (fun w h => (St.pick [1, 0, 2] [_, _, _] h rfl)) (hD727 (A319, A199))
          · refine DW.j (ls' := [true, true, true, true, true, true, true, true, false, false, true, true, true, true, false, false, true, false, false, false, false, false, false, false]) rfl rfl ?_
            refine J.want rfl ?_
            refine J.bsV (L := [.slice (subA 1 Aa1 ca1 0) ((a1.take (Int.toNat o6)).drop 0).length (ca1 - 0)]) rfl Try.underlying23 ti26 rfl rfl rfl rfl rfl (fun A439 => ?_)
            refine J.nil ?_
            refine D.backK 2 rfl ?_
            exact D.to (by exact ⟨rfl, rfl, rfl, rfl, rfl, trivial⟩) (fun w h => (St.pick [1, 0, 2] [_, _, _] h rfl)) (hD728 (A439, A199))
          · refine DW.j (ls' := [true, true, true, true, true, true, true, true, false, false, true, true, true, false, false, false, true, true, false, false, false, false, false, false]) rfl rfl ?_
            refine J.want rfl ?_
            refine J.mkL (enc := (Value.int .u8)) (z := 0) rfl Try.underlying26 ti5 rfl rfl rfl p115 (by decide) (fun A535 => ?_)
            refine J.nil ?_
            refine D.backK 2 rfl ?_
            exact D.to (by exact ⟨rfl, rfl, rfl, rfl, rfl, trivial⟩) (fun w h => (St.pick [1, 0, 2] [_, _, _] h rfl)) (hD729 (A535, A199))
        refine D.share (fun (i : (Option Addr) × (Option Addr)) => [(38, .bool true), (40, .slice i.1 1 1), (45, .slice i.2 1 1), (49, .slice (subA 1 Aa1 ca1 0) ((a1.take (Int.toNat o6)).drop 0).length (ca1 - 0)), (53, .int .i64 o6)]) (fun (i : (Option Addr) × (Option Addr)) => own 26 1 i.1 1 [.slice j46.1 o45.length j46.2] :: own 26 1 i.2 1 [.slice (subA 1 Aa0 ca0 0) ((a0.take (Int.toNat o6)).drop 0).length (ca0 - 0)] :: own 5 1 j46.1 j46.2 (o45.map (Value.int .u8)) :: G) 12 [true, true, true, true, false, true, true, true, true, false, true, true, true, false, false, false, true, false, false, false, false, false, false, false] (fun i => ?_) (fun hD738 => ?_)
        · obtain ⟨A199, A319⟩ := i
          refine D.to (s' := [(38, .bool true), (40, .slice A199 1 1), (45, .slice A319 1 1), (49, .slice (subA 1 Aa1 ca1 0) ((a1.take (Int.toNat o6)).drop 0).length (ca1 - 0)), (53, .int .i64 o6)]) (G' := own 26 1 A199 1 [.slice j46.1 o45.length j46.2] :: own 26 1 A319 1 [.slice (subA 1 Aa0 ca0 0) ((a0.take (Int.toNat o6)).drop 0).length (ca0 - 0)] :: own 5 1 j46.1 j46.2 (o45.map (Value.int .u8)) :: G) (by exact ⟨rfl, rfl, rfl, rfl, rfl, trivial⟩) (fun w h => h) ?_
          refine D.any [4, 13, 17] (by kernel_rfl) rfl ⟨?_, ?_, ?_, trivial⟩
          · refine DW.j (ls' := [true, true, true, true, true, true, true, true, true, false, true, true, true, false, false, false, true, false, false, false, false, false, false, false]) rfl rfl ?_
            refine J.want rfl ?_
            refine J.know (own_leL 2 rfl) (fun hc223 => ?_)
            refine J.call (us := []) (cap := []) rfl rfl rfl go18 (fun w hw => by have hcc := Sum.calls K [o45] A199 1 [.slice j46.1 o45.length j46.2] (RdG.own 0 rfl) (VV.cons (RdG.own 2 rfl) hc223 VV.nil) (Nat.le_refl _) t104 hC105 w hw; exact hcc) (fun e w1 h1 => ?_)
            obtain ⟨rfl, hw224⟩ := h1
            refine ⟨_, _, rfl, hw224, ?_⟩
            refine J.nil ?_
            refine D.backK 2 rfl ?_
            exact D.to (by exact ⟨rfl, rfl, rfl, rfl, rfl, trivial⟩) (fun w h => h) (hD727 (A319, A199))
          · refine DW.j (ls' := [true, true, true, true, false, true, true, true, true, false, true, true, true, true, false, false, true, false, false, false, false, false, false, false]) rfl rfl ?_
            refine J.want rfl ?_
            refine J.bsV (L := [.slice (subA 1 Aa1 ca1 0) ((a1.take (Int.toNat o6)).drop 0).length (ca1 - 0)]) rfl Try.underlying23 ti26 rfl rfl rfl rfl rfl (fun A439 => ?_)
            refine J.nil ?_
            refine D.backK 3 rfl ?_
            exact D.to (by exact ⟨rfl, rfl, rfl, rfl, rfl, trivial⟩) (fun w h => (St.pick [1, 2, 0, 3] [_, _, _, _] h rfl)) (hD730 (A199, A319, A439))
          · refine DW.j (ls' := [true, true, true, true, false, true, true, true, true, false, true, true, true, false, false, false, true, true, false, false, false, false, false, false]) rfl rfl ?_
            refine J.want rfl ?_
            refine J.mkL (enc := (Value.int .u8)) (z := 0) rfl Try.underlying26 ti5 rfl rfl rfl p115 (by decide) (fun A535 => ?_)
            refine J.nil ?_
            refine D.backK 3 rfl ?_
            exact D.to (by exact ⟨rfl, rfl, rfl, rfl, rfl, trivial⟩) (fun w h => (St.pick [1, 2, 0, 3] [_, _, _, _] h rfl)) (hD731 (A199, A319, A535))
        refine D.share (fun (i : (Option Addr) × (Option Addr)) => [(38, .bool true), (40, .slice i.1 1 1), (44, .slice (subA 1 Aa0 ca0 0) ((a0.take (Int.toNat o6)).drop 0).length (ca0 - 0)), (50, .slice i.2 1 1), (53, .int .i64 o6)]) (fun (i : (Option Addr) × (Option Addr)) => own 26 1 i.1 1 [.slice j46.1 o45.length j46.2] :: own 26 1 i.2 1 [.slice (subA 1 Aa1 ca1 0) ((a1.take (Int.toNat o6)).drop 0).length (ca1 - 0)] :: own 5 1 j46.1 j46.2 (o45.map (Value.int .u8)) :: G) 12 [true, true, true, true, false, true, true, true, false, false, true, true, true, true, false, false, true, false, false, false, false, false, false, false] (fun i => ?_) (fun hD739 => ?_)
        · obtain ⟨A199, A439⟩ := i
          refine D.to (s' := [(38, .bool true), (40, .slice A199 1 1), (44, .slice (subA 1 Aa0 ca0 0) ((a0.take (Int.toNat o6)).drop 0).length (ca0 - 0)), (50, .slice A439 1 1), (53, .int .i64 o6)]) (G' := own 26 1 A199 1 [.slice j46.1 o45.length j46.2] :: own 26 1 A439 1 [.slice (subA 1 Aa1 ca1 0) ((a1.take (Int.toNat o6)).drop 0).length (ca1 - 0)] :: own 5 1 j46.1 j46.2 (o45.map (Value.int .u8)) :: G) (by exact ⟨rfl, rfl, rfl, rfl, rfl, trivial⟩) (fun w h => h) ?_
          refine D.any [4, 8, 17] (by kernel_rfl) rfl ⟨?_, ?_, ?_, trivial⟩
          · refine DW.j (ls' := [true, true, true, true, true, true, true, true, false, false, true, true, true, true, false, false, true, false, false, false, false, false, false, false]) rfl rfl ?_
            refine J.want rfl ?_
            refine J.know (own_leL 2 rfl) (fun hc223 => ?_)
            refine J.call (us := []) (cap := []) rfl rfl rfl go18 (fun w hw => by have hcc := Sum.calls K [o45] A199 1 [.slice j46.1 o45.length j46.2] (RdG.own 0 rfl) (VV.cons (RdG.own 2 rfl) hc223 VV.nil) (Nat.le_refl _) t104 hC105 w hw; exact hcc) (fun e w1 h1 => ?_)
            obtain ⟨rfl, hw224⟩ := h1
            refine ⟨_, _, rfl, hw224, ?_⟩
            refine J.nil ?_
            refine D.backK 2 rfl ?_
            exact D.to (by exact ⟨rfl, rfl, rfl, rfl, rfl, trivial⟩) (fun w h => h) (hD728 (A439, A199))
          · refine DW.j (ls' := [true, true, true, true, false, true, true, true, true, false, true, true, true, true, false, false, true, false, false, false, false, false, false, false]) rfl rfl ?_
            refine J.want rfl ?_
            refine J.bsV (L := [.slice (subA 1 Aa0 ca0 0) ((a0.take (Int.toNat o6)).drop 0).length (ca0 - 0)]) rfl Try.underlying23 ti26 rfl rfl rfl rfl rfl (fun A319 => ?_)
            refine J.nil ?_
            refine D.backK 3 rfl ?_
            exact D.to (by exact ⟨rfl, rfl, rfl, rfl, rfl, trivial⟩) (fun w h => (St.pick [1, 0, 2, 3] [_, _, _, _] h rfl)) (hD730 (A199, A319, A439))
          · refine DW.j (ls' := [true, true, true, true, false, true, true, true, false, false, true, true, true, true, false, false, true, true, false, false, false, false, false, false]) rfl rfl ?_
            refine J.want rfl ?_
            refine J.mkL (enc := (Value.int .u8)) (z := 0) rfl Try.underlying26 ti5 rfl rfl rfl p115 (by decide) (fun A535 => ?_)
            refine J.nil ?_
            refine D.backK 3 rfl ?_
            exact D.to (by exact ⟨rfl, rfl, rfl, rfl, rfl, trivial⟩) (fun w h => (St.pick [1, 2, 0, 3] [_, _, _, _] h rfl)) (hD732 (A199, A439, A535))
        refine D.share (fun (i : (Option Addr) × (Option Addr)) => [(38, .bool true), (40, .slice i.1 1 1), (44, .slice (subA 1 Aa0 ca0 0) ((a0.take (Int.toNat o6)).drop 0).length (ca0 - 0)), (49, .slice (subA 1 Aa1 ca1 0) ((a1.take (Int.toNat o6)).drop 0).length (ca1 - 0)), (54, .slice i.2 (List.replicate (Int.toNat o6) (0 : Int)).length (Int.toNat o6))]) (fun (i : (Option Addr) × (Option Addr)) => own 26 1 i.1 1 [.slice j46.1 o45.length j46.2] :: own 5 1 i.2 (Int.toNat o6) ((List.replicate (Int.toNat o6) (0 : Int)).map (Value.int .u8)) :: own 5 1 j46.1 j46.2 (o45.map (Value.int .u8)) :: G) 12 [true, true, true, true, false, true, true, true, false, false, true, true, true, false, false, false, true, true, false, false, false, false, false, false] (fun i => ?_) (fun hD740 => ?_)
        · obtain ⟨A199, A535⟩ := i
          refine D.to (s' := [(38, .bool true), (40, .slice A199 1 1), (44, .slice (subA 1 Aa0 ca0 0) ((a0.take (Int.toNat o6)).drop 0).length (ca0 - 0)), (49, .slice (subA 1 Aa1 ca1 0) ((a1.take (Int.toNat o6)).drop 0).length (ca1 - 0)), (54, .slice A535 (List.replicate (Int.toNat o6) (0 : Int)).length (Int.toNat o6))]) (G' := own 26 1 A199 1 [.slice j46.1 o45.length j46.2] :: own 5 1 A535 (Int.toNat o6) ((List.replicate (Int.toNat o6) (0 : Int)).map (Value.int .u8)) :: own 5 1 j46.1 j46.2 (o45.map (Value.int .u8)) :: G) (by exact ⟨rfl, rfl, rfl, rfl, rfl, trivial⟩) (fun w h => h) ?_
          refine D.any [4, 8, 13, 18] (by kernel_rfl) rfl ⟨?_, ?_, ?_, ?_, trivial⟩
          · refine DW.j (ls' := [true, true, true, true, true, true, true, true, false, false, true, true, true, false, false, false, true, true, false, false, false, false, false, false]) rfl rfl ?_
            refine J.want rfl ?_
            refine J.know (own_leL 2 rfl) (fun hc223 => ?_)
            refine J.call (us := []) (cap := []) rfl rfl rfl go18 (fun w hw => by have hcc := Sum.calls K [o45] A199 1 [.slice j46.1 o45.length j46.2] (RdG.own 0 rfl) (VV.cons (RdG.own 2 rfl) hc223 VV.nil) (Nat.le_refl _) t104 hC105 w hw; exact hcc) (fun e w1 h1 => ?_)
            obtain ⟨rfl, hw224⟩ := h1
            refine ⟨_, _, rfl, hw224, ?_⟩
            refine J.nil ?_
            refine D.backK 2 rfl ?_
            exact D.to (by exact ⟨rfl, rfl, rfl, rfl, rfl, trivial⟩) (fun w h => h) (hD729 (A535, A199))
          · refine DW.j (ls' := [true, true, true, true, false, true, true, true, true, false, true, true, true, false, false, false, true, true, false, false, false, false, false, false]) rfl rfl ?_
            refine J.want rfl ?_
            refine J.bsV (L := [.slice (subA 1 Aa0 ca0 0) ((a0.take (Int.toNat o6)).drop 0).length (ca0 - 0)]) rfl Try.underlying23 ti26 rfl rfl rfl rfl rfl (fun A319 => ?_)
            refine J.nil ?_
            refine D.backK 3 rfl ?_
            exact D.to (by exact ⟨rfl, rfl, rfl, rfl, rfl, trivial⟩) (fun w h => (St.pick [1, 0, 2, 3] [_, _, _, _] h rfl)) (hD731 (A199, A319, A535))
          · refine DW.j (ls' := [true, true, true, true, false, true, true, true, false, false, true, true, true, true, false, false, true, true, false, false, false, false, false, false]) rfl rfl ?_
            refine J.want rfl ?_
            refine J.bsV (L := [.slice (subA 1 Aa1 ca1 0) ((a1.take (Int.toNat o6)).drop 0).length (ca1 - 0)]) rfl Try.underlying23 ti26 rfl rfl rfl rfl rfl (fun A439 => ?_)
            refine J.nil ?_
            refine D.backK 3 rfl ?_
            exact D.to (by exact ⟨rfl, rfl, rfl, rfl, rfl, trivial⟩) (fun w h => (St.pick [1, 0, 2, 3] [_, _, _, _] h rfl)) (hD732 (A199, A439, A535))
          · refine DW.j (ls' := [true, true, true, true, false, true, true, true, false, false, true, true, true, false, false, false, true, true, true, false, false, false, false, false]) rfl rfl ?_
            refine J.want rfl ?_
            refine J.know (own_leL 1 rfl) (fun hc560 => ?_)
            refine J.bsV (L := [.slice A535 (List.replicate (Int.toNat o6) (0 : Int)).length (Int.toNat o6)]) rfl Try.underlying23 ti26 rfl rfl rfl rfl rfl (fun A559 => ?_)
            refine J.nil ?_
            refine D.backK 3 rfl ?_
            exact D.to (by exact ⟨rfl, rfl, rfl, rfl, rfl, trivial⟩) (fun w h => (St.pick [1, 2, 0, 3] [_, _, _, _] h rfl)) (hD733 (A199, A559, A535))
        refine D.share (fun (i : (Option Addr) × (Option Addr)) => [(38, .bool true), (39, .slice j46.1 o45.length j46.2), (45, .slice i.1 1 1), (50, .slice i.2 1 1), (53, .int .i64 o6)]) (fun (i : (Option Addr) × (Option Addr)) => own 26 1 i.1 1 [.slice (subA 1 Aa0 ca0 0) ((a0.take (Int.toNat o6)).drop 0).length (ca0 - 0)] :: own 26 1 i.2 1 [.slice (subA 1 Aa1 ca1 0) ((a1.take (Int.toNat o6)).drop 0).length (ca1 - 0)] :: own 5 1 j46.1 j46.2 (o45.map (Value.int .u8)) :: G) 12 [true, true, true, false, false, true, true, true, true, false, true, true, true, true, false, false, true, false, false, false, false, false, false, false] (fun i => ?_) (fun hD741 => ?_)
        · obtain ⟨A319, A439⟩ := i
          refine D.to (s' := [(38, .bool true), (39, .slice j46.1 o45.length j46.2), (45, .slice A319 1 1), (50, .slice A439 1 1), (53, .int .i64 o6)]) (G' := own 26 1 A319 1 [.slice (subA 1 Aa0 ca0 0) ((a0.take (Int.toNat o6)).drop 0).length (ca0 - 0)] :: own 26 1 A439 1 [.slice (subA 1 Aa1 ca1 0) ((a1.take (Int.toNat o6)).drop 0).length (ca1 - 0)] :: own 5 1 j46.1 j46.2 (o45.map (Value.int .u8)) :: G) (by exact ⟨rfl, rfl, rfl, rfl, rfl, trivial⟩) (fun w h => h) ?_
          refine D.any [3, 17] (by kernel_rfl) rfl ⟨?_, ?_, trivial⟩
          · refine DW.j (ls' := [true, true, true, true, false, true, true, true, true, false, true, true, true, true, false, false, true, false, false, false, false, false, false, false]) rfl rfl ?_
            refine J.want rfl ?_
            refine J.know (own_leL 2 rfl) (fun hc200 => ?_)
            refine J.bsV (L := [.slice j46.1 o45.length j46.2]) rfl Try.underlying23 ti26 rfl rfl rfl rfl rfl (fun A199 => ?_)
            refine J.nil ?_
            refine D.backK 3 rfl ?_
            exact D.to (by exact ⟨rfl, rfl, rfl, rfl, rfl, trivial⟩) (fun w h => h) (hD730 (A199, A319, A439))
          · refine DW.j (ls' := [true, true, true, false, false, true, true, true, true, false, true, true, true, true, false, false, true, true, false, false, false, false, false, false]) rfl rfl ?_
            refine J.want rfl ?_
            refine J.mkL (enc := (Value.int .u8)) (z := 0) rfl Try.underlying26 ti5 rfl rfl rfl p115 (by decide) (fun A535 => ?_)
            refine J.nil ?_
            refine D.backK 3 rfl ?_
            exact D.to (by exact ⟨rfl, rfl, rfl, rfl, rfl, trivial⟩) (fun w h => (St.pick [1, 2, 0, 3] [_, _, _, _] h rfl)) (hD734 (A319, A439, A535))
        refine D.share (fun (i : (Option Addr) × (Option Addr)) => [(38, .bool true), (39, .slice j46.1 o45.length j46.2), (45, .slice i.1 1 1), (49, .slice (subA 1 Aa1 ca1 0) ((a1.take (Int.toNat o6)).drop 0).length (ca1 - 0)), (54, .slice i.2 (List.replicate (Int.toNat o6) (0 : Int)).length (Int.toNat o6))]) (fun (i : (Option Addr) × (Option Addr)) => own 26 1 i.1 1 [.slice (subA 1 Aa0 ca0 0) ((a0.take (Int.toNat o6)).drop 0).length (ca0 - 0)] :: own 5 1 i.2 (Int.toNat o6) ((List.replicate (Int.toNat o6) (0 : Int)).map (Value.int .u8)) :: own 5 1 j46.1 j46.2 (o45.map (Value.int .u8)) :: G) 12 [true, true, true, false, false, true, true, true, true, false, true, true, true, false, false, false, true, true, false, false, false, false, false, false] (fun i => ?_) (fun hD742 => ?_)
        · obtain ⟨A319, A535⟩ := i
          refine D.to (s' := [(38, .bool true), (39, .slice j46.1 o45.length j46.2), (45, .slice A319 1 1), (49, .slice (subA 1 Aa1 ca1 0) ((a1.take (Int.toNat o6)).drop 0).length (ca1 - 0)), (54, .slice A535 (List.replicate (Int.toNat o6) (0 : Int)).length (Int.toNat o6))]) (G' := own 26 1 A319 1 [.slice (subA 1 Aa0 ca0 0) ((a0.take (Int.toNat o6)).drop 0).length (ca0 - 0)] :: own 5 1 A535 (Int.toNat o6) ((List.replicate (Int.toNat o6) (0 : Int)).map (Value.int .u8)) :: own 5 1 j46.1 j46.2 (o45.map (Value.int .u8)) :: G) (by exact ⟨rfl, rfl, rfl, rfl, rfl, trivial⟩) (fun w h => h) ?_
          refine D.any [3, 13, 18] (by kernel_rfl) rfl ⟨?_, ?_, ?_, trivial⟩
          · refine DW.j (ls' := [true, true, true, true, false, true, true, true, true, false, true, true, true, false, false, false, true, true, false, false, false, false, false, false]) rfl rfl ?_
            refine J.want rfl ?_
            refine J.know (own_leL 2 rfl) (fun hc200 => ?_)
            refine J.bsV (L := [.slice j46.1 o45.length j46.2]) rfl Try.underlying23 ti26 rfl rfl rfl rfl rfl (fun A199 => ?_)
            refine J.nil ?_
            refine D.backK 3 rfl ?_
            exact D.to (by exact ⟨rfl, rfl, rfl, rfl, rfl, trivial⟩) (fun w h => h) (hD731 (A199, A319, A535))
          · refine DW.j (ls' := [true, true, true, false, false, true, true, true, true, false, true, true, true, true, false, false, true, true, false, false, false, false, false, false]) rfl rfl ?_
            refine J.want rfl ?_
            refine J.bsV (L := [.slice (subA 1 Aa1 ca1 0) ((a1.take (Int.toNat o6)).drop 0).length (ca1 - 0)]) rfl Try.underlying23 ti26 rfl rfl rfl rfl rfl (fun A439 => ?_)
            refine J.nil ?_
            refine D.backK 3 rfl ?_
            exact D.to (by exact ⟨rfl, rfl, rfl, rfl, rfl, trivial⟩) (fun w h => (St.pick [1, 0, 2, 3] [_, _, _, _] h rfl)) (hD734 (A319, A439, A535))
          · refine DW.j (ls' := [true, true, true, false, false, true, true, true, true, false, true, true, true, false, false, false, true, true, true, false, false, false, false, false]) rfl rfl ?_
            refine J.want rfl ?_
            refine J.know (own_leL 1 rfl) (fun hc560 => ?_)
            refine J.bsV (L := [.slice A535 (List.replicate (Int.toNat o6) (0 : Int)).length (Int.toNat o6)]) rfl Try.underlying23 ti26 rfl rfl rfl rfl rfl (fun A559 => ?_)
            refine J.nil ?_
            refine D.backK 3 rfl ?_
            exact D.to (by exact ⟨rfl, rfl, rfl, rfl, rfl, trivial⟩) (fun w h => (St.pick [1, 2, 0, 3] [_, _, _, _] h rfl)) (hD735 (A319, A559, A535))
        refine D.share (fun (i : (Option Addr) × (Option Addr)) => [(38, .bool true), (39, .slice j46.1 o45.length j46.2), (44, .slice (subA 1 Aa0 ca0 0) ((a0.take (Int.toNat o6)).drop 0).length (ca0 - 0)), (50, .slice i.1 1 1), (54, .slice i.2 (List.replicate (Int.toNat o6) (0 : Int)).length (Int.toNat o6))]) (fun (i : (Option Addr) × (Option Addr)) => own 26 1 i.1 1 [.slice (subA 1 Aa1 ca1 0) ((a1.take (Int.toNat o6)).drop 0).length (ca1 - 0)] :: own 5 1 i.2 (Int.toNat o6) ((List.replicate (Int.toNat o6) (0 : Int)).map (Value.int .u8)) :: own 5 1 j46.1 j46.2 (o45.map (Value.int .u8)) :: G) 12 [true, true, true, false, false, true, true, true, false, false, true, true, true, true, false, false, true, true, false, false, false, false, false, false] (fun i => ?_) (fun hD743 => ?_)
        · obtain ⟨A439, A535⟩ := i
          refine D.to (s' := [(38, .bool true), (39, .slice j46.1 o45.length j46.2), (44, .slice (subA 1 Aa0 ca0 0) ((a0.take (Int.toNat o6)).drop 0).length (ca0 - 0)), (50, .slice A439 1 1), (54, .slice A535 (List.replicate (Int.toNat o6) (0 : Int)).length (Int.toNat o6))]) (G' := own 26 1 A439 1 [.slice (subA 1 Aa1 ca1 0) ((a1.take (Int.toNat o6)).drop 0).length (ca1 - 0)] :: own 5 1 A535 (Int.toNat o6) ((List.replicate (Int.toNat o6) (0 : Int)).map (Value.int .u8)) :: own 5 1 j46.1 j46.2 (o45.map (Value.int .u8)) :: G) (by exact ⟨rfl, rfl, rfl, rfl, rfl, trivial⟩) (fun w h => h) ?_
          refine D.any [3, 8, 18] (by kernel_rfl) rfl ⟨?_, ?_, ?_, trivial⟩
          · refine DW.j (ls' := [true, true, true, true, false, true, true, true, false, false, true, true, true, true, false, false, true, true, false, false, false, false, false, false]) rfl rfl ?_
            refine J.want rfl ?_
            refine J.know (own_leL 2 rfl) (fun hc200 => ?_)
            refine J.bsV (L := [.slice j46.1 o45.length j46.2]) rfl Try.underlying23 ti26 rfl rfl rfl rfl rfl (fun A199 => ?_)
            refine J.nil ?_
            refine D.backK 3 rfl ?_
            exact D.to (by exact ⟨rfl, rfl, rfl, rfl, rfl, trivial⟩) (fun w h => h) (hD732 (A199, A439, A535))
          · refine DW.j (ls' := [true, true, true, false, false, true, true, true, true, false, true, true, true, true, false, false, true, true, false, false, false, false, false, false]) rfl rfl ?_
            refine J.want rfl ?_
            refine J.bsV (L := [.slice (subA 1 Aa0 ca0 0) ((a0.take (Int.toNat o6)).drop 0).length (ca0 - 0)]) rfl Try.underlying23 ti26 rfl rfl rfl rfl rfl (fun A319 => ?_)
            refine J.nil ?_
            refine D.backK 3 rfl ?_
            exact D.to (by exact ⟨rfl, rfl, rfl, rfl, rfl, trivial⟩) (fun w h => h) (hD734 (A319, A439, A535))
          · refine DW.j (ls' := [true, true, true, false, false, true, true, true, false, false, true, true, true, true, false, false, true, true, true, false, false, false, false, false]) rfl rfl ?_
            refine J.want rfl ?_
            refine J.know (own_leL 1 rfl) (fun hc560 => ?_)
            refine J.bsV (L := [.slice A535 (List.replicate (Int.toNat o6) (0 : Int)).length (Int.toNat o6)]) rfl Try.underlying23 ti26 rfl rfl rfl rfl rfl (fun A559 => ?_)
            refine J.nil ?_
            refine D.backK 3 rfl ?_
            exact D.to (by exact ⟨rfl, rfl, rfl, rfl, rfl, trivial⟩) (fun w h => (St.pick [1, 2, 0, 3] [_, _, _, _] h rfl)) (hD736 (A439, A559, A535))
        refine D.share (fun (i : (Option Addr) × (Option Addr)) => [(38, .bool true), (39, .slice j46.1 o45.length j46.2), (44, .slice (subA 1 Aa0 ca0 0) ((a0.take (Int.toNat o6)).drop 0).length (ca0 - 0)), (49, .slice (subA 1 Aa1 ca1 0) ((a1.take (Int.toNat o6)).drop 0).length (ca1 - 0)), (55, .slice i.1 1 1)]) (fun (i : (Option Addr) × (Option Addr)) => own 5 1 i.2 (Int.toNat o6) ((List.replicate (Int.toNat o6) (0 : Int)).map (Value.int .u8)) :: own 26 1 i.1 1 [.slice i.2 (List.replicate (Int.toNat o6) (0 : Int)).length (Int.toNat o6)] :: own 5 1 j46.1 j46.2 (o45.map (Value.int .u8)) :: G) 12 [true, true, true, false, false, true, true, true, false, false, true, true, true, false, false, false, true, true, true, false, false, false, false, false] (fun i => ?_) (fun hD744 => ?_)
        · obtain ⟨A559, A535⟩ := i
          refine D.to (s' := [(38, .bool true), (39, .slice j46.1 o45.length j46.2), (44, .slice (subA 1 Aa0 ca0 0) ((a0.take (Int.toNat o6)).drop 0).length (ca0 - 0)), (49, .slice (subA 1 Aa1 ca1 0) ((a1.take (Int.toNat o6)).drop 0).length (ca1 - 0)), (55, .slice A559 1 1)]) (G' := own 5 1 A535 (Int.toNat o6) ((List.replicate (Int.toNat o6) (0 : Int)).map (Value.int .u8)) :: own 26 1 A559 1 [.slice A535 (List.replicate (Int.toNat o6) (0 : Int)).length (Int.toNat o6)] :: own 5 1 j46.1 j46.2 (o45.map (Value.int .u8)) :: G) (by exact ⟨rfl, rfl, rfl, rfl, rfl, trivial⟩) (fun w h => h) ?_
          refine D.any [3, 8, 13] (by kernel_rfl) rfl ⟨?_, ?_, ?_, trivial⟩
          · refine DW.j (ls' := [true, true, true, true, false, true, true, true, false, false, true, true, true, false, false, false, true, true, true, false, false, false, false, false]) rfl rfl ?_
            refine J.want rfl ?_
            refine J.know (own_leL 2 rfl) (fun hc200 => ?_)
            refine J.bsV (L := [.slice j46.1 o45.length j46.2]) rfl Try.underlying23 ti26 rfl rfl rfl rfl rfl (fun A199 => ?_)
            refine J.nil ?_
            refine D.backK 3 rfl ?_
            exact D.to (by exact ⟨rfl, rfl, rfl, rfl, rfl, trivial⟩) (fun w h => h) (hD733 (A199, A559, A535))
          · refine DW.j (ls' := [true, true, true, false, false, true, true, true, true, false, true, true, true, false, false, false, true, true, true, false, false, false, false, false]) rfl rfl ?_
            refine J.want rfl ?_
            refine J.bsV (L := [.slice (subA 1 Aa0 ca0 0) ((a0.take (Int.toNat o6)).drop 0).length (ca0 - 0)]) rfl Try.underlying23 ti26 rfl rfl rfl rfl rfl (fun A319 => ?_)
            refine J.nil ?_
            refine D.backK 3 rfl ?_
            exact D.to (by exact ⟨rfl, rfl, rfl, rfl, rfl, trivial⟩) (fun w h => h) (hD735 (A319, A559, A535))
          · refine DW.j (ls' := [true, true, true, false, false, true, true, true, false, false, true, true, true, true, false, false, true, true, true, false, false, false, false, false]) rfl rfl ?_
            refine J.want rfl ?_
            refine J.bsV (L := [.slice (subA 1 Aa1 ca1 0) ((a1.take (Int.toNat o6)).drop 0).length (ca1 - 0)]) rfl Try.underlying23 ti26 rfl rfl rfl rfl rfl (fun A439 => ?_)
            refine J.nil ?_
            refine D.backK 3 rfl ?_
            exact D.to (by exact ⟨rfl, rfl, rfl, rfl, rfl, trivial⟩) (fun w h => h) (hD736 (A439, A559, A535))
        refine D.share (fun (i : (Option Addr)) => [(38, .bool true), (40, .slice i 1 1), (44, .slice (subA 1 Aa0 ca0 0) ((a0.take (Int.toNat o6)).drop 0).length (ca0 - 0)), (49, .slice (subA 1 Aa1 ca1 0) ((a1.take (Int.toNat o6)).drop 0).length (ca1 - 0)), (53, .int .i64 o6)]) (fun (i : (Option Addr)) => own 26 1 i 1 [.slice j46.1 o45.length j46.2] :: own 5 1 j46.1 j46.2 (o45.map (Value.int .u8)) :: G) 13 [true, true, true, true, false, true, true, true, false, false, true, true, true, false, false, false, true, false, false, false, false, false, false, false] (fun A199 => ?_) (fun hD745 => ?_)
        · refine D.to (s' := [(38, .bool true), (40, .slice A199 1 1), (44, .slice (subA 1 Aa0 ca0 0) ((a0.take (Int.toNat o6)).drop 0).length (ca0 - 0)), (49, .slice (subA 1 Aa1 ca1 0) ((a1.take (Int.toNat o6)).drop 0).length (ca1 - 0)), (53, .int .i64 o6)]) (G' := own 26 1 A199 1 [.slice j46.1 o45.length j46.2] :: own 5 1 j46.1 j46.2 (o45.map (Value.int .u8)) :: G) (by exact ⟨rfl, rfl, rfl, rfl, rfl, trivial⟩) (fun w h => h) ?_
          refine D.any [4, 8, 13, 17] (by kernel_rfl) rfl ⟨?_, ?_, ?_, ?_, trivial⟩
          · refine DW.j (ls' := [true, true, true, true, true, true, true, true, false, false, true, true, true, false, false, false, true, false, false, false, false, false, false, false]) rfl rfl ?_
            refine J.want rfl ?_
            refine J.know (own_leL 1 rfl) (fun hc223 => ?_)
            refine J.call (us := []) (cap := []) rfl rfl rfl go18 (fun w hw => by have hcc := Sum.calls K [o45] A199 1 [.slice j46.1 o45.length j46.2] (RdG.own 0 rfl) (VV.cons (RdG.own 1 rfl) hc223 VV.nil) (Nat.le_refl _) t104 hC105 w hw; exact hcc) (fun e w1 h1 => ?_)
            obtain ⟨rfl, hw224⟩ := h1
            refine ⟨_, _, rfl, hw224, ?_⟩
            refine J.nil ?_
            refine D.backK 1 rfl ?_
            exact D.to (by exact ⟨rfl, rfl, rfl, rfl, rfl, trivial⟩) (fun w h => h) (hD737 A199)
          · refine DW.j (ls' := [true, true, true, true, false, true, true, true, true, false, true, true, true, false, false, false, true, false, false, false, false, false, false, false]) rfl rfl ?_
            refine J.want rfl ?_
            refine J.bsV (L := [.slice (subA 1 Aa0 ca0 0) ((a0.take (Int.toNat o6)).drop 0).length (ca0 - 0)]) rfl Try.underlying23 ti26 rfl rfl rfl rfl rfl (fun A319 => ?_)
            refine J.nil ?_
            refine D.backK 2 rfl ?_
            exact D.to (by exact ⟨rfl, rfl, rfl, rfl, rfl, trivial⟩) (fun w h => (St.pick [1, 0, 2] [_, _, _] h rfl)) (hD738 (A199, A319))
          · refine DW.j (ls' := [true, true, true, true, false, true, true, true, false, false, true, true, true, true, false, false, true, false, false, false, false, false, false, false]) rfl rfl ?_
            refine J.want rfl ?_
            refine J.bsV (L := [.slice (subA 1 Aa1 ca1 0) ((a1.take (Int.toNat o6)).drop 0).length (ca1 - 0)]) rfl Try.underlying23 ti26 rfl rfl rfl rfl rfl (fun A439 => ?_)
            refine J.nil ?_
            refine D.backK 2 rfl ?_
            exact D.to (by exact ⟨rfl, rfl, rfl, rfl, rfl, trivial⟩) (fun w h => (St.pick [1, 0, 2] [_, _, _] h rfl)) (hD739 (A199, A439))
          · refine DW.j (ls' := [true, true, true, true, false, true, true, true, false, false, true, true, true, false, false, false, true, true, false, false, false, false, false, false]) rfl rfl ?_
            refine J.want rfl ?_
            refine J.mkL (enc := (Value.int .u8)) (z := 0) rfl Try.underlying26 ti5 rfl rfl rfl p115 (by decide) (fun A535 => ?_)
            refine J.nil ?_
            refine D.backK 2 rfl ?_
            exact D.to (by exact ⟨rfl, rfl, rfl, rfl, rfl, trivial⟩) (fun w h => (St.pick [1, 0, 2] [_, _, _] h rfl)) (hD740 (A199, A535))
        refine D.share (fun (i : (Option Addr)) => [(38, .bool true), (39, .slice j46.1 o45.length j46.2), (45, .slice i 1 1), (49, .slice (subA 1 Aa1 ca1 0) ((a1.take (Int.toNat o6)).drop 0).length (ca1 - 0)), (53, .int .i64 o6)]) (fun (i : (Option Addr)) => own 26 1 i 1 [.slice (subA 1 Aa0 ca0 0) ((a0.take (Int.toNat o6)).drop 0).length (ca0 - 0)] :: own 5 1 j46.1 j46.2 (o45.map (Value.int .u8)) :: G) 13 [true, true, true, false, false, true, true, true, true, false, true, true, true, false, false, false, true, false, false, false, false, false, false, false] (fun A319 => ?_) (fun hD746 => ?_)
        · refine D.to (s' := [(38, .bool true), (39, .slice j46.1 o45.length j46.2), (45, .slice A319 1 1), (49, .slice (subA 1 Aa1 ca1 0) ((a1.take (Int.toNat o6)).drop 0).length (ca1 - 0)), (53, .int .i64 o6)]) (G' := own 26 1 A319 1 [.slice (subA 1 Aa0 ca0 0) ((a0.take (Int.toNat o6)).drop 0).length (ca0 - 0)] :: own 5 1 j46.1 j46.2 (o45.map (Value.int .u8)) :: G) (by exact ⟨rfl, rfl, rfl, rfl, rfl, trivial⟩) (fun w h => h) ?_
          refine D.any [3, 13, 17] (by kernel_rfl) rfl ⟨?_, ?_, ?_, trivial⟩
          · refine DW.j (ls' := [true, true, true, true, false, true, true, true, true, false, true, true, true, false, false, false, true, false, false, false, false, false, false, false]) rfl rfl ?_
            refine J.want rfl ?_
            refine J.know (own_leL 1 rfl) (fun hc200 => ?_)
            refine J.bsV (L := [.slice j46.1 o45.length j46.2]) rfl Try.underlying23 ti26 rfl rfl rfl rfl rfl (fun A199 => ?_)
            refine J.nil ?_
            refine D.backK 2 rfl ?_
            exact D.to (by exact ⟨rfl, rfl, rfl, rfl, rfl, trivial⟩) (fun w h => h) (hD738 (A199, A319))
          · refine DW.j (ls' := [true, true, true, false, false, true, true, true, true, false, true, true, true, true, false, false, true, false, false, false, false, false, false, false]) rfl rfl ?_
            refine J.want rfl ?_
            refine J.bsV (L := [.slice (subA 1 Aa1 ca1 0) ((a1.take (Int.toNat o6)).drop 0).length (ca1 - 0)]) rfl Try.underlying23 ti26 rfl rfl rfl rfl rfl (fun A439 => ?_)
            refine J.nil ?_
            refine D.backK 2 rfl ?_
            exact D.to (by exact ⟨rfl, rfl, rfl, rfl, rfl, trivial⟩) (fun w h => (St.pick [1, 0, 2] [_, _, _] h rfl)) (hD741 (A319, A439))
          · refine DW.j (ls' := [true, true, true, false, false, true, true, true, true, false, true, true, true, false, false, false, true, true, false, false, false, false, false, false]) rfl rfl ?_
            refine J.want rfl ?_
            refine J.mkL (enc := (Value.int .u8)) (z := 0) rfl Try.underlying26 ti5 rfl rfl rfl p115 (by decide) (fun A535 => ?_)
            refine J.nil ?_
            refine D.backK 2 rfl ?_
            exact D.to (by exact ⟨rfl, rfl, rfl, rfl, rfl, trivial⟩) (fun w h => (St.pick [1, 0, 2] [_, _, _] h rfl)) (hD742 (A319, A535))
        refine D.share (fun (i : (Option Addr)) => [(38, .bool true), (39, .slice j46.1 o45.length j46.2), (44, .slice (subA 1 Aa0 ca0 0) ((a0.take (Int.toNat o6)).drop 0).length (ca0 - 0)), (50, .slice i 1 1), (53, .int .i64 o6)]) (fun (i : (Option Addr)) => own 26 1 i 1 [.slice (subA 1 Aa1 ca1 0) ((a1.take (Int.toNat o6)).drop 0).length (ca1 - 0)] :: own 5 1 j46.1 j46.2 (o45.map (Value.int .u8)) :: G) 13 [true, true, true, false, false, true, true, true, false, false, true, true, true, true, false, false, true, false, false, false, false, false, false, false] (fun A439 => ?_) (fun hD747 => ?_)
        · refine D.to (s' := [(38, .bool true), (39, .slice j46.1 o45.length j46.2), (44, .slice (subA 1 Aa0 ca0 0) ((a0.take (Int.toNat o6)).drop 0).length (ca0 - 0)), (50, .slice A439 1 1), (53, .int .i64 o6)]) (G' := own 26 1 A439 1 [.slice (subA 1 Aa1 ca1 0) ((a1.take (Int.toNat o6)).drop 0).length (ca1 - 0)] :: own 5 1 j46.1 j46.2 (o45.map (Value.int .u8)) :: G) (by exact ⟨rfl, rfl, rfl, rfl, rfl, trivial⟩) (fun w h => h) ?_
          refine D.any [3, 8, 17] (by kernel_rfl) rfl ⟨?_, ?_, ?_, trivial⟩
          · refine DW.j (ls' := [true, true, true, true, false, true, true, true, false, false, true, true, true, true, false, false, true, false, false, false, false, false, false, false]) rfl rfl ?_
            refine J.want rfl ?_
            refine J.know (own_leL 1 rfl) (fun hc200 => ?_)
            refine J.bsV (L := [.slice j46.1 o45.length j46.2]) rfl Try.underlying23 ti26 rfl rfl rfl rfl rfl (fun A199 => ?_)
            refine J.nil ?_
            refine D.backK 2 rfl ?_
            exact D.to (by exact ⟨rfl, rfl, rfl, rfl, rfl, trivial⟩) (fun w h => h) (hD739 (A199, A439))
          · refine DW.j (ls' := [true, true, true, false, false, true, true, true, true, false, true, true, true, true, false, false, true, false, false, false, false, false, false, false]) rfl rfl ?_
            refine J.want rfl ?_
            refine J.bsV (L := [.slice (subA 1 Aa0 ca0 0) ((a0.take (Int.toNat o6)).drop 0).length (ca0 - 0)]) rfl Try.underlying23 ti26 rfl rfl rfl rfl rfl (fun A319 => ?_)
            refine J.nil ?_
            refine D.backK 2 rfl ?_
            exact D.to (by exact ⟨rfl, rfl, rfl, rfl, rfl, trivial⟩) (fun w h => h) (hD741 (A319, A439))
          · refine DW.j (ls' := [true, true, true, false, false, true, true, true, false, false, true, true, true, true, false, false, true, true, false, false, false, false, false, false]) rfl rfl ?_
            refine J.want rfl ?_
            refine J.mkL (enc := (Value.int .u8)) (z := 0) rfl Try.underlying26 ti5 rfl rfl rfl p115 (by decide) (fun A535 => ?_)
            refine J.nil ?_
            refine D.backK 2 rfl ?_
            exact D.to (by exact ⟨rfl, rfl, rfl, rfl, rfl, trivial⟩) (fun w h => (St.pick [1, 0, 2] [_, _, _] h rfl)) (hD743 (A439, A535))
        refine D.share (fun (i : (Option Addr)) => [(38, .bool true), (39, .slice j46.1 o45.length j46.2), (44, .slice (subA 1 Aa0 ca0 0) ((a0.take (Int.toNat o6)).drop 0).length (ca0 - 0)), (49, .slice (subA 1 Aa1 ca1 0) ((a1.take (Int.toNat o6)).drop 0).length (ca1 - 0)), (54, .slice i (List.replicate (Int.toNat o6) (0 : Int)).length (Int.toNat o6))]) (fun (i : (Option Addr)) => own 5 1 i (Int.toNat o6) ((List.replicate (Int.toNat o6) (0 : Int)).map (Value.int .u8)) :: own 5 1 j46.1 j46.2 (o45.map (Value.int .u8)) :: G) 13 [true, true, true, false, false, true, true, true, false, false, true, true, true, false, false, false, true, true, false, false, false, false, false, false] (fun A535 => ?_) (fun hD748 => ?_)
        · refine D.to (s' := [(38, .bool true), (39, .slice j46.1 o45.length j46.2), (44, .slice (subA 1 Aa0 ca0 0) ((a0.take (Int.toNat o6)).drop 0).length (ca0 - 0)), (49, .slice (subA 1 Aa1 ca1 0) ((a1.take (Int.toNat o6)).drop 0).length (ca1 - 0)), (54, .slice A535 (List.replicate (Int.toNat o6) (0 : Int)).length (Int.toNat o6))]) (G' := own 5 1 A535 (Int.toNat o6) ((List.replicate (Int.toNat o6) (0 : Int)).map (Value.int .u8)) :: own 5 1 j46.1 j46.2 (o45.map (Value.int .u8)) :: G) (by exact ⟨rfl, rfl, rfl, rfl, rfl, trivial⟩) (fun w h => h) ?_
          refine D.any [3, 8, 13, 18] (by kernel_rfl) rfl ⟨?_, ?_, ?_, ?_, trivial⟩
          · refine DW.j (ls' := [true, true, true, true, false, true, true, true, false, false, true, true, true, false, false, false, true, true, false, false, false, false, false, false]) rfl rfl ?_
            refine J.want rfl ?_
            refine J.know (own_leL 1 rfl) (fun hc200 => ?_)
            refine J.bsV (L := [.slice j46.1 o45.length j46.2]) rfl Try.underlying23 ti26 rfl rfl rfl rfl rfl (fun A199 => ?_)
            refine J.nil ?_
            refine D.backK 2 rfl ?_
            exact D.to (by exact ⟨rfl, rfl, rfl, rfl, rfl, trivial⟩) (fun w h => h) (hD740 (A199, A535))
          · refine DW.j (ls' := [true, true, true, false, false, true, true, true, true, false, true, true, true, false, false, false, true, true, false, false, false, false, false, false]) rfl rfl ?_
            refine J.want rfl ?_
            refine J.bsV (L := [.slice (subA 1 Aa0 ca0 0) ((a0.take (Int.toNat o6)).drop 0).length (ca0 - 0)]) rfl Try.underlying23 ti26 rfl rfl rfl rfl rfl (fun A319 => ?_)
            refine J.nil ?_
            refine D.backK 2 rfl ?_
            exact D.to (by exact ⟨rfl, rfl, rfl, rfl, rfl, trivial⟩) (fun w h => h) (hD742 (A319, A535))
          · refine DW.j (ls' := [true, true, true, false, false, true, true, true, false, false, true, true, true, true, false, false, true, true, false, false, false, false, false, false]) rfl rfl ?_
            refine J.want rfl ?_
            refine J.bsV (L := [.slice (subA 1 Aa1 ca1 0) ((a1.take (Int.toNat o6)).drop 0).length (ca1 - 0)]) rfl Try.underlying23 ti26 rfl rfl rfl rfl rfl (fun A439 => ?_)
            refine J.nil ?_
            refine D.backK 2 rfl ?_
            exact D.to (by exact ⟨rfl, rfl, rfl, rfl, rfl, trivial⟩) (fun w h => h) (hD743 (A439, A535))
          · refine DW.j (ls' := [true, true, true, false, false, true, true, true, false, false, true, true, true, false, false, false, true, true, true, false, false, false, false, false]) rfl rfl ?_
            refine J.want rfl ?_
            refine J.know (own_leL 0 rfl) (fun hc560 => ?_)
            refine J.bsV (L := [.slice A535 (List.replicate (Int.toNat o6) (0 : Int)).length (Int.toNat o6)]) rfl Try.underlying23 ti26 rfl rfl rfl rfl rfl (fun A559 => ?_)
            refine J.nil ?_
            refine D.backK 2 rfl ?_
            exact D.to (by exact ⟨rfl, rfl, rfl, rfl, rfl, trivial⟩) (fun w h => (St.pick [1, 0, 2] [_, _, _] h rfl)) (hD744 (A559, A535))
        refine D.any [3, 8, 13, 17] (by kernel_rfl) rfl ⟨?_, ?_, ?_, ?_, trivial⟩
        · refine DW.j (ls' := [true, true, true, true, false, true, true, true, false, false, true, true, true, false, false, false, true, false, false, false, false, false, false, false]) rfl rfl ?_
          refine J.want rfl ?_
          refine J.know (own_leL 0 rfl) (fun hc200 => ?_)
          refine J.bsV (L := [.slice j46.1 o45.length j46.2]) rfl Try.underlying23 ti26 rfl rfl rfl rfl rfl (fun A199 => ?_)
          refine J.nil ?_
          refine D.backK 1 rfl ?_
          exact D.to (by exact ⟨rfl, rfl, rfl, rfl, rfl, trivial⟩) (fun w h => h) (hD745 A199)
        · refine DW.j (ls' := [true, true, true, false, false, true, true, true, true, false, true, true, true, false, false, false, true, false, false, false, false, false, false, false]) rfl rfl ?_
          refine J.want rfl ?_
          refine J.bsV (L := [.slice (subA 1 Aa0 ca0 0) ((a0.take (Int.toNat o6)).drop 0).length (ca0 - 0)]) rfl Try.underlying23 ti26 rfl rfl rfl rfl rfl (fun A319 => ?_)
          refine J.nil ?_
          refine D.backK 1 rfl ?_
          exact D.to (by exact ⟨rfl, rfl, rfl, rfl, rfl, trivial⟩) (fun w h => h) (hD746 A319)
        · refine DW.j (ls' := [true, true, true, false, false, true, true, true, false, false, true, true, true, true, false, false, true, false, false, false, false, false, false, false]) rfl rfl ?_
          refine J.want rfl ?_
          refine J.bsV (L := [.slice (subA 1 Aa1 ca1 0) ((a1.take (Int.toNat o6)).drop 0).length (ca1 - 0)]) rfl Try.underlying23 ti26 rfl rfl rfl rfl rfl (fun A439 => ?_)
          refine J.nil ?_
          refine D.backK 1 rfl ?_
          exact D.to (by exact ⟨rfl, rfl, rfl, rfl, rfl, trivial⟩) (fun w h => h) (hD747 A439)
        · refine DW.j (ls' := [true, true, true, false, false, true, true, true, false, false, true, true, true, false, false, false, true, true, false, false, false, false, false, false]) rfl rfl ?_
          refine J.want rfl ?_
          refine J.mkL (enc := (Value.int .u8)) (z := 0) rfl Try.underlying26 ti5 rfl rfl rfl p115 (by decide) (fun A535 => ?_)
          refine J.nil ?_
          refine D.backK 1 rfl ?_
          exact D.to (by exact ⟨rfl, rfl, rfl, rfl, rfl, trivial⟩) (fun w h => h) (hD748 A535)
      · refine D.as (k := 38) rfl (congrArg Value.bool (nt c97)) ?_
        refine D.off (ls' := [true, true, true, false, false, false, false, false, false, false, false, false, false, false, false, false, false, false, false, false, false, false, false, false]) 2 rfl rfl rfl rfl (by kernel_rfl) rfl ?_
        refine D.off (ls' := [true, true, true, true, false, false, false, false, false, false, false, false, false, false, false, false, false, false, false, false, false, false, false, false]) 3 rfl rfl rfl rfl (by kernel_rfl) rfl ?_
        refine D.off (ls' := [true, true, true, true, true, false, false, false, false, false, false, false, false, false, false, false, false, false, false, false, false, false, false, false]) 4 rfl rfl rfl rfl (by kernel_rfl) rfl ?_
        refine D.off (ls' := [true, true, true, true, true, true, false, false, false, false, false, false, false, false, false, false, false, false, false, false, false, false, false, false]) 5 rfl rfl rfl rfl (by kernel_rfl) rfl ?_
        refine D.off (ls' := [true, true, true, true, true, true, true, false, false, false, false, false, false, false, false, false, false, false, false, false, false, false, false, false]) 6 rfl rfl rfl rfl (by kernel_rfl) rfl ?_
        refine D.off (ls' := [true, true, true, true, true, true, true, true, false, false, false, false, false, false, false, false, false, false, false, false, false, false, false, false]) 7 rfl rfl rfl rfl (by kernel_rfl) rfl ?_
        refine D.off (ls' := [true, true, true, true, true, true, true, true, true, false, false, false, false, false, false, false, false, false, false, false, false, false, false, false]) 8 rfl rfl rfl rfl (by kernel_rfl) rfl ?_
        refine D.off (ls' := [true, true, true, true, true, true, true, true, true, true, false, false, false, false, false, false, false, false, false, false, false, false, false, false]) 9 rfl rfl rfl rfl (by kernel_rfl) rfl ?_
        refine D.off (ls' := [true, true, true, true, true, true, true, true, true, true, true, false, false, false, false, false, false, false, false, false, false, false, false, false]) 10 rfl rfl rfl rfl (by kernel_rfl) rfl ?_
        refine D.off (ls' := [true, true, true, true, true, true, true, true, true, true, true, true, false, false, false, false, false, false, false, false, false, false, false, false]) 11 rfl rfl rfl rfl (by kernel_rfl) rfl ?_
        refine D.off (ls' := [true, true, true, true, true, true, true, true, true, true, true, true, true, false, false, false, false, false, false, false, false, false, false, false]) 12 rfl rfl rfl rfl (by kernel_rfl) rfl ?_
        refine D.off (ls' := [true, true, true, true, true, true, true, true, true, true, true, true, true, true, false, false, false, false, false, false, false, false, false, false]) 13 rfl rfl rfl rfl (by kernel_rfl) rfl ?_
        refine D.off (ls' := [true, true, true, true, true, true, true, true, true, true, true, true, true, true, true, false, false, false, false, false, false, false, false, false]) 14 rfl rfl rfl rfl (by kernel_rfl) rfl ?_
        refine D.off (ls' := [true, true, true, true, true, true, true, true, true, true, true, true, true, true, true, true, false, false, false, false, false, false, false, false]) 15 rfl rfl rfl rfl (by kernel_rfl) rfl ?_
        refine D.off (ls' := [true, true, true, true, true, true, true, true, true, true, true, true, true, true, true, true, true, false, false, false, false, false, false, false]) 16 rfl rfl rfl rfl (by kernel_rfl) rfl ?_
        refine D.off (ls' := [true, true, true, true, true, true, true, true, true, true, true, true, true, true, true, true, true, true, false, false, false, false, false, false]) 17 rfl rfl rfl rfl (by kernel_rfl) rfl ?_
        refine D.off (ls' := [true, true, true, true, true, true, true, true, true, true, true, true, true, true, true, true, true, true, true, false, false, false, false, false]) 18 rfl rfl rfl rfl (by kernel_rfl) rfl ?_
        refine D.off (ls' := [true, true, true, true, true, true, true, true, true, true, true, true, true, true, true, true, true, true, true, true, false, false, false, false]) 19 rfl rfl rfl rfl (by kernel_rfl) rfl ?_
        refine D.off (ls' := [true, true, true, true, true, true, true, true, true, true, true, true, true, true, true, true, true, true, true, true, true, false, false, false]) 20 rfl rfl rfl rfl (by kernel_rfl) rfl ?_
        refine D.off (ls' := [true, true, true, true, true, true, true, true, true, true, true, true, true, true, true, true, true, true, true, true, true, true, false, false]) 21 rfl rfl rfl rfl (by kernel_rfl) rfl ?_
        refine D.p (ls' := [true, true, true, true, true, true, true, true, true, true, true, true, true, true, true, true, true, true, true, true, true, true, true, false]) 22 rfl rfl rfl rfl (by kernel_rfl) rfl (Y.pickF rfl rfl) ?_
        refine D.p (ls' := [true, true, true, true, true, true, true, true, true, true, true, true, true, true, true, true, true, true, true, true, true, true, true, true]) 23 rfl rfl rfl rfl (by kernel_rfl) rfl (Y.asg rfl) ?_
        refine D.nil (by kernel_rfl) ?_
        refine N.nx ?_
        refine C.ret ?_
        obtain rfl := Option.some.inj H
        exact ret_ok (ks := [4]) rfl rfl (fun w h => ⟨rfl, (St.pick [] [_] h rfl)⟩)
end Go.Proofs.Ytghlmkbchdmnoaa
