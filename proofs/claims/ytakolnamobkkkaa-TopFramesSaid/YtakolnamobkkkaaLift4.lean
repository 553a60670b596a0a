/- Own text, printed by the lifting program: each Go function beside a plain function, and the proof that a call of the one comes to the other. Conditions: what came in can be read. -/
import Derived.Test.YtakolnamobkkkaaLiftB
set_option linter.unusedVariables false
set_option linter.unusedSimpArgs false
set_option maxRecDepth 10000
set_option maxHeartbeats 4000000
namespace Go.Proofs.Ytakolnamobkkkaa
open Go Go.Sx
theorem go14 : GoF Try.prog 14 := GoF.of Try.func14 (by kernel_rfl) (by kernel_rfl)
/-! ### salvor/salvorlaw4.FrameBack: function 4 -/
def FrameBack.l1 (t5 : (List Int) × Int) : Nat → (Int) → Option ((Bool) ⊕ (Unit))
  | 0, _ => none
  | k + 1, i71 => if i71 < (t5.1.length : Int) then (gd ((0 : Int) ≤ i71 ∧ i71 < (t5.1.length : Int)) (if (rd t5.1 i71) = 167 then (some (.inl (false))) else (FrameBack.l1 t5 k (IntKind.wrap .i64 (i71 + 1))))) else (some (.inr ()))
def FrameBack.f (K : Nat) (a0_0 : Int) (a0_1 : Int) (a0_2 : Int) (a0_3 : ByteArray) (a0_4 : ByteArray) (a0_5 : Int) (a0_6 : Int) (a0_7 : Int) (a0_8 : Int) (a0_9 : ByteArray) (a0_10 : Int) (a0_11 : Int) (a0_12 : Int) (a0_13 : Int) (a1 : List Int) (a2 : List Int) : Option (Bool) := (known.f K).bind fun t3 => (fEncode.f K a0_0 a0_1 a0_2 a0_3 a0_4 a0_5 a0_6 a0_7 a0_8 a0_9 a0_10 a0_11 a0_12 a0_13).bind fun t5 => if t5.2 ≠ 0 then (if t3 = true then (some (decide ((t5.1.length : Int) = 0))) else (some false)) else (gd ((([] : List Int).length + a1.length) * 1 ≤ 140737488355328) (gd (((([] : List Int) ++ a1).length + t5.1.length) * 1 ≤ 140737488355328) (gd ((((([] : List Int) ++ a1) ++ t5.1).length + a2.length) * 1 ≤ 140737488355328) ((fDecode.f K (((([] : List Int) ++ a1) ++ t5.1) ++ a2) (a1.length : Int)).bind fun t26 => (if (t5.1.length : Int) = 0 then (some true) else (gd ((0 : Int) ≤ 0 ∧ 0 < (t5.1.length : Int)) (gd ((0 : Int) ≤ 0 ∧ 0 < (t5.1.length : Int)) (some (decide ((rd t5.1 0) ≠ 167)))))).bind fun o35 => if o35 = true then (some false) else (thn (FrameBack.l1 t5 K 1) fun o57 => if t3 = true then (if t26.1 = a0_0 ∧ (t26.2.1 = a0_1 ∧ t26.2.2.1 = a0_2 ∧ t26.2.2.2.1 = a0_3 ∧ t26.2.2.2.2.1 = a0_4 ∧ True) ∧ (t26.2.2.2.2.2.1 = a0_5 ∧ t26.2.2.2.2.2.2.1 = a0_6 ∧ t26.2.2.2.2.2.2.2.1 = a0_7 ∧ t26.2.2.2.2.2.2.2.2.1 = a0_8 ∧ t26.2.2.2.2.2.2.2.2.2.1 = a0_9 ∧ True) ∧ (t26.2.2.2.2.2.2.2.2.2.2.1 = a0_10 ∧ (t26.2.2.2.2.2.2.2.2.2.2.2.1 = a0_11 ∧ t26.2.2.2.2.2.2.2.2.2.2.2.2.1 = a0_12 ∧ t26.2.2.2.2.2.2.2.2.2.2.2.2.2.1 = a0_13 ∧ True) ∧ True) ∧ True then (if t26.2.2.2.2.2.2.2.2.2.2.2.2.2.2.1 = (t5.1.length : Int) then (some (decide (t26.2.2.2.2.2.2.2.2.2.2.2.2.2.2.2 = 0))) else (some false)) else (some false)) else (some false))))))
theorem FrameBack.calls {B : Nat} {w0 : World} {G : List HP} (K : Nat) (a0_0 : Int) (a0_1 : Int) (a0_2 : Int) (a0_3 : ByteArray) (a0_4 : ByteArray) (a0_5 : Int) (a0_6 : Int) (a0_7 : Int) (a0_8 : Int) (a0_9 : ByteArray) (a0_10 : Int) (a0_11 : Int) (a0_12 : Int) (a0_13 : Int) (a1 : List Int) (a2 : List Int) (Aa1 : Option Addr) (ca1 : Nat) (Aa2 : Option Addr) (ca2 : Nat) (ha1 : RdG B w0 G Aa1 (a1.map (Value.int .u8))) (ka1 : a1.length ≤ ca1) (ha2 : RdG B w0 G Aa2 (a2.map (Value.int .u8))) (ka2 : a2.length ≤ ca2) (r : Bool) (H : FrameBack.f K a0_0 a0_1 a0_2 a0_3 a0_4 a0_5 a0_6 a0_7 a0_8 a0_9 a0_10 a0_11 a0_12 a0_13 a1 a2 = some r) (w : World) (hw : St B w0 (G) w) :
    Calls Try.prog 4 [.agg #[.int .i64 a0_0, .int .u64 a0_1, .int .i64 a0_2, .string a0_3, .string a0_4, .int .u64 a0_5, .int .i64 a0_6, .int .i64 a0_7, .int .i64 a0_8, .string a0_9, .int .i64 a0_10, .int .i64 a0_11, .int .i64 a0_12, .int .u32 a0_13], .slice Aa1 a1.length ca1, .slice Aa2 a2.length ca2].toArray w (fun e w' => e = .returned (.bool r) ∧ St B w0 (G) w') := by
  unfold FrameBack.f at H
  refine calls_of (n := 82) (s := [(0, .agg #[.int .i64 a0_0, .int .u64 a0_1, .int .i64 a0_2, .string a0_3, .string a0_4, .int .u64 a0_5, .int .i64 a0_6, .int .i64 a0_7, .int .i64 a0_8, .string a0_9, .int .i64 a0_10, .int .i64 a0_11, .int .i64 a0_12, .int .u32 a0_13]), (1, .slice Aa1 a1.length ca1), (2, .slice Aa2 a2.length ca2)]) Try.func4 rfl rfl rfl rfl ?_ hw
  refine C.rs ?_
  refine J.box (L := [.int .i64 a0_0, .int .u64 a0_1, .int .i64 a0_2, .string a0_3, .string a0_4, .int .u64 a0_5, .int .i64 a0_6, .int .i64 a0_7, .int .i64 a0_8, .string a0_9, .int .i64 a0_10, .int .i64 a0_11, .int .i64 a0_12, .int .u32 a0_13]) rfl rfl rfl (fun g1 => ?_)
  refine J.p rfl rfl rfl rfl (Y.asg rfl) ?_
  refine J.nx ?_
  refine C.rs ?_
  obtain ⟨t3, hC4, H⟩ := bind_some H
  refine J.call (us := []) (cap := []) rfl rfl rfl go14 (fun w hw => by have hcc := known.calls K t3 hC4 w hw; exact hcc) (fun e w1 h1 => ?_)
  obtain ⟨rfl, hw82⟩ := h1
  refine ⟨_, _, rfl, hw82, ?_⟩
  refine J.p rfl rfl rfl rfl (Y.asg rfl) ?_
  refine J.nx ?_
  refine C.rs ?_
  refine J.r rfl rfl rfl rfl (Y.ldCA (us := [.int .i64 a0_0, .int .u64 a0_1, .int .i64 a0_2, .string a0_3, .string a0_4, .int .u64 a0_5, .int .i64 a0_6, .int .i64 a0_7, .int .i64 a0_8, .string a0_9, .int .i64 a0_10, .int .i64 a0_11, .int .i64 a0_12, .int .u32 a0_13]) 0 Try.underlying36 rfl ti36 rfl rfl rfl rfl) ?_
  obtain ⟨t5, hC6, H⟩ := bind_some H
  refine J.call (us := []) (cap := []) rfl rfl rfl go18 (fun w hw => by have hcc := fEncode.calls K a0_0 a0_1 a0_2 a0_3 a0_4 a0_5 a0_6 a0_7 a0_8 a0_9 a0_10 a0_11 a0_12 a0_13 t5 hC6 w hw; exact hcc) (fun e w1 h1 => ?_)
  obtain ⟨A7, c8, rfl, hw81⟩ := h1
  refine ⟨_, _, rfl, hw81, ?_⟩
  refine J.p rfl rfl rfl rfl (Y.mv rfl) ?_
  refine J.p rfl rfl rfl rfl (Y.ext rfl rfl) ?_
  refine J.p rfl rfl rfl rfl (Y.ext rfl rfl) ?_
  refine J.p rfl rfl rfl rfl (Y.asg rfl) ?_
  refine J.p rfl rfl rfl rfl (Y.asg rfl) ?_
  refine J.nx ?_
  refine C.seq ?_
  refine C.rs ?_
  refine J.p rfl rfl rfl rfl (Y.mv rfl) ?_
  refine J.p rfl rfl rfl rfl (Y.bin rfl rfl rfl) ?_
  refine J.nx ?_
  refine split2 H (fun c10 H => ?_) (fun c10 H => ?_)
  · refine C.condT (congrArg (fun b => some (Value.bool b)) (decide_eq_true c10)) ?_
    refine C.rs ?_
    refine J.p rfl rfl rfl rfl (Y.mv rfl) ?_
    refine J.p rfl rfl rfl rfl (Y.mv rfl) ?_
    refine split2 H (fun c11 H => ?_) (fun c11 H => ?_)
    · refine J.as (k := 24) rfl (congrArg Value.bool (c11)) ?_
      refine J.p rfl rfl rfl rfl (Y.mv rfl) ?_
      refine J.p rfl rfl rfl rfl (Y.lenS Try.underlying22 rfl) ?_
      refine J.p rfl rfl rfl rfl (Y.bin rfl rfl rfl) ?_
      refine J.p rfl rfl rfl rfl (Y.pickT rfl rfl) ?_
      refine J.p rfl rfl rfl rfl (Y.asg rfl) ?_
      refine J.nx ?_
      refine C.ret ?_
      obtain rfl := Option.some.inj H
      refine T.th ?_
      exact ret_ok (ks := [6]) rfl rfl (fun w h => ⟨rfl, (St.pick [] [_, _] h rfl)⟩)
    · refine J.as (k := 24) rfl (congrArg Value.bool (nt c11)) ?_
      refine J.skip rfl rfl ?_
      refine J.skip rfl rfl ?_
      refine J.skip rfl rfl ?_
      refine J.p rfl rfl rfl rfl (Y.pickF rfl rfl) ?_
      refine J.p rfl rfl rfl rfl (Y.asg rfl) ?_
      refine J.nx ?_
      refine C.ret ?_
      obtain rfl := Option.some.inj H
      refine T.th ?_
      exact ret_ok (ks := [6]) rfl rfl (fun w h => ⟨rfl, (St.pick [] [_, _] h rfl)⟩)
  · refine C.condF (congrArg (fun b => some (Value.bool b)) (decide_eq_false c10)) ?_
    refine C.skip ?_
    refine N.nx ?_
    refine C.rs ?_
    refine J.p rfl rfl rfl rfl (Y.asg rfl) ?_
    refine J.nx ?_
    refine C.rs ?_
    refine J.p rfl rfl rfl rfl (Y.mv rfl) ?_
    refine J.p rfl rfl rfl rfl (Y.mv rfl) ?_
    refine J.nilOwn 5 1 ?_
    obtain ⟨p15, H⟩ := gd_some H
    refine J.appL (enc := (Value.int .u8)) (xs := ([] : List Int)) (ys := a1) rfl Try.underlying22 ti5 rfl (by decide) rfl rfl (fun _ => rfl) (ha1.suf [_, _, _] rfl) p15 (fun A13 c14 => ?_)
    refine J.p rfl rfl rfl rfl (Y.asg rfl) ?_
    refine J.nx ?_
    refine C.rs ?_
    refine J.p rfl rfl rfl rfl (Y.mv rfl) ?_
    refine J.p rfl rfl rfl rfl (Y.mv rfl) ?_
    obtain ⟨p19, H⟩ := gd_some H
    refine J.appL (enc := (Value.int .u8)) (xs := (([] : List Int) ++ a1)) (ys := t5.1) rfl Try.underlying22 ti5 rfl (by decide) rfl rfl (fun _ => rfl) (RdG.own 1 rfl) p19 (fun A17 c18 => ?_)
    refine J.p rfl rfl rfl rfl (Y.asg rfl) ?_
    refine J.nx ?_
    refine C.rs ?_
    refine J.p rfl rfl rfl rfl (Y.mv rfl) ?_
    refine J.p rfl rfl rfl rfl (Y.mv rfl) ?_
    obtain ⟨p23, H⟩ := gd_some H
    refine J.appL (enc := (Value.int .u8)) (xs := ((([] : List Int) ++ a1) ++ t5.1)) (ys := a2) rfl Try.underlying22 ti5 rfl (by decide) rfl rfl (fun _ => rfl) (ha2.suf [_, _, _] rfl) p23 (fun A21 c22 => ?_)
    refine J.p rfl rfl rfl rfl (Y.asg rfl) ?_
    refine J.nx ?_
    refine C.rs ?_
    refine J.p rfl rfl rfl rfl (Y.mv rfl) ?_
    refine J.p rfl rfl rfl rfl (Y.mv rfl) ?_
    refine J.p rfl rfl rfl rfl (Y.lenS Try.underlying22 rfl) ?_
    refine J.know (own_leL 0 rfl) (fun hc25 => ?_)
    obtain ⟨t26, hC27, H⟩ := bind_some H
    refine J.call (us := []) (cap := []) rfl rfl rfl go15 (fun w hw => by have hcc := fDecode.calls K (((([] : List Int) ++ a1) ++ t5.1) ++ a2) (a1.length : Int) A21 c22 (RdG.own 0 rfl) hc25 t26 hC27 w hw; exact hcc) (fun e w1 h1 => ?_)
    obtain ⟨rfl, hw80⟩ := h1
    refine ⟨_, _, rfl, hw80, ?_⟩
    refine J.p rfl rfl rfl rfl (Y.mv rfl) ?_
    refine J.p rfl rfl rfl rfl (Y.ext rfl rfl) ?_
    refine J.p rfl rfl rfl rfl (Y.ext rfl rfl) ?_
    refine J.p rfl rfl rfl rfl (Y.ext rfl rfl) ?_
    refine J.alloc (L := [.int .i64 0, .int .u64 0, .int .i64 0, .string ByteArray.empty, .string ByteArray.empty, .int .u64 0, .int .i64 0, .int .i64 0, .int .i64 0, .string ByteArray.empty, .int .i64 0, .int .i64 0, .int .i64 0, .int .u32 0]) rfl ti36 rfl (fun g28 => ?_)
    refine J.stA (us := [.int .i64 t26.1, .int .u64 t26.2.1, .int .i64 t26.2.2.1, .string t26.2.2.2.1, .string t26.2.2.2.2.1, .int .u64 t26.2.2.2.2.2.1, .int .i64 t26.2.2.2.2.2.2.1, .int .i64 t26.2.2.2.2.2.2.2.1, .int .i64 t26.2.2.2.2.2.2.2.2.1, .string t26.2.2.2.2.2.2.2.2.2.1, .int .i64 t26.2.2.2.2.2.2.2.2.2.2.1, .int .i64 t26.2.2.2.2.2.2.2.2.2.2.2.1, .int .i64 t26.2.2.2.2.2.2.2.2.2.2.2.2.1, .int .u32 t26.2.2.2.2.2.2.2.2.2.2.2.2.2.1]) (L' := [.int .i64 t26.1, .int .u64 t26.2.1, .int .i64 t26.2.2.1, .string t26.2.2.2.1, .string t26.2.2.2.2.1, .int .u64 t26.2.2.2.2.2.1, .int .i64 t26.2.2.2.2.2.2.1, .int .i64 t26.2.2.2.2.2.2.2.1, .int .i64 t26.2.2.2.2.2.2.2.2.1, .string t26.2.2.2.2.2.2.2.2.2.1, .int .i64 t26.2.2.2.2.2.2.2.2.2.2.1, .int .i64 t26.2.2.2.2.2.2.2.2.2.2.2.1, .int .i64 t26.2.2.2.2.2.2.2.2.2.2.2.2.1, .int .u32 t26.2.2.2.2.2.2.2.2.2.2.2.2.2.1]) ti36 rfl rfl rfl rfl rfl rfl ?_
    refine J.p rfl rfl rfl rfl (Y.asg rfl) ?_
    refine J.p rfl rfl rfl rfl (Y.asg rfl) ?_
    refine J.nx ?_
    refine C.seq ?_
    refine C.rs ?_
    refine J.joinB H (fun (o35 : Bool) (j36 : Unit) => [(3, .pointer (some ⟨g1, 0, none⟩)), (7, .bool t3), (8, .slice A7 t5.1.length c8), (11, .pointer (some ⟨g28, 0, none⟩)), (12, .int .i64 t26.2.2.2.2.2.2.2.2.2.2.2.2.2.2.1), (13, .int .i64 t26.2.2.2.2.2.2.2.2.2.2.2.2.2.2.2), (54, .bool o35)]) (fun (o35 : Bool) (j36 : Unit) => cells g1 36 [.int .i64 a0_0, .int .u64 a0_1, .int .i64 a0_2, .string a0_3, .string a0_4, .int .u64 a0_5, .int .i64 a0_6, .int .i64 a0_7, .int .i64 a0_8, .string a0_9, .int .i64 a0_10, .int .i64 a0_11, .int .i64 a0_12, .int .u32 a0_13] :: own 5 1 A7 c8 (t5.1.map (Value.int .u8)) :: cells g28 36 [.int .i64 t26.1, .int .u64 t26.2.1, .int .i64 t26.2.2.1, .string t26.2.2.2.1, .string t26.2.2.2.2.1, .int .u64 t26.2.2.2.2.2.1, .int .i64 t26.2.2.2.2.2.2.1, .int .i64 t26.2.2.2.2.2.2.2.1, .int .i64 t26.2.2.2.2.2.2.2.2.1, .string t26.2.2.2.2.2.2.2.2.2.1, .int .i64 t26.2.2.2.2.2.2.2.2.2.2.1, .int .i64 t26.2.2.2.2.2.2.2.2.2.2.2.1, .int .i64 t26.2.2.2.2.2.2.2.2.2.2.2.2.1, .int .u32 t26.2.2.2.2.2.2.2.2.2.2.2.2.2.1] :: G) (fun (o35 : Bool) (j36 : Unit) => True) (fun o37 H HK38 => ?_) (fun o35 j36 H _ => ?_)
    · refine J.p rfl rfl rfl rfl (Y.mv rfl) ?_
      refine J.p rfl rfl rfl rfl (Y.lenS Try.underlying22 rfl) ?_
      refine J.p rfl rfl rfl rfl (Y.bin rfl rfl rfl) ?_
      refine J.p rfl rfl rfl rfl (Y.mv rfl) ?_
      refine split2 H (fun c39 H => ?_) (fun c39 H => ?_)
      · refine J.as (k := 49) rfl (congrArg Value.bool (decide_eq_true c39)) ?_
        refine J.skip rfl rfl ?_
        refine J.skip rfl rfl ?_
        refine J.skip rfl rfl ?_
        refine J.skip rfl rfl ?_
        refine J.p rfl rfl rfl rfl (Y.pickT rfl rfl) ?_
        refine J.nil ?_
        obtain rfl := Option.some.inj H
        exact N.meet (true, ()) ⟨HK38, trivial⟩ (by exact ⟨rfl, rfl, rfl, rfl, rfl, rfl, rfl, trivial⟩) (by exact fun w h => (St.pick [3, 2, 0] [_, _, _, _] h rfl))
      · refine J.as (k := 49) rfl (congrArg Value.bool (decide_eq_false c39)) ?_
        refine J.p rfl rfl rfl rfl (Y.mv rfl) ?_
        obtain ⟨p42, H⟩ := gd_some H
        refine J.know ((RdG.own 2 rfl).some_ (j := Int.toNat 0) (by rw [List.length_map]; exact idx_lt p42)) (fun hh => ?_)
        obtain ⟨a40, ha41⟩ := hh
        refine J.p rfl rfl rfl rfl (Y.ixa Try.underlying22 ti5 rfl rfl p42 ha41) ?_
        obtain ⟨p43, H⟩ := gd_some H
        refine J.r rfl rfl rfl rfl (Y.ldE Try.underlying5 rfl rfl ha41 p43 (RdG.own 2 rfl)) ?_
        refine J.p rfl rfl rfl rfl (Y.bin rfl rfl rfl) ?_
        refine J.p rfl rfl rfl rfl (Y.pickF rfl rfl) ?_
        refine J.nil ?_
        obtain rfl := Option.some.inj H
        exact N.meet (decide ((rd t5.1 0) ≠ 167), ()) ⟨HK38, trivial⟩ (by exact ⟨rfl, rfl, rfl, rfl, rfl, rfl, rfl, trivial⟩) (by exact fun w h => (St.pick [3, 2, 0] [_, _, _, _] h rfl))
    · refine C.at (s' := [(3, .pointer (some ⟨g1, 0, none⟩)), (7, .bool t3), (8, .slice A7 t5.1.length c8), (11, .pointer (some ⟨g28, 0, none⟩)), (12, .int .i64 t26.2.2.2.2.2.2.2.2.2.2.2.2.2.2.1), (13, .int .i64 t26.2.2.2.2.2.2.2.2.2.2.2.2.2.2.2), (54, .bool o35)]) (G' := cells g1 36 [.int .i64 a0_0, .int .u64 a0_1, .int .i64 a0_2, .string a0_3, .string a0_4, .int .u64 a0_5, .int .i64 a0_6, .int .i64 a0_7, .int .i64 a0_8, .string a0_9, .int .i64 a0_10, .int .i64 a0_11, .int .i64 a0_12, .int .u32 a0_13] :: own 5 1 A7 c8 (t5.1.map (Value.int .u8)) :: cells g28 36 [.int .i64 t26.1, .int .u64 t26.2.1, .int .i64 t26.2.2.1, .string t26.2.2.2.1, .string t26.2.2.2.2.1, .int .u64 t26.2.2.2.2.2.1, .int .i64 t26.2.2.2.2.2.2.1, .int .i64 t26.2.2.2.2.2.2.2.1, .int .i64 t26.2.2.2.2.2.2.2.2.1, .string t26.2.2.2.2.2.2.2.2.2.1, .int .i64 t26.2.2.2.2.2.2.2.2.2.2.1, .int .i64 t26.2.2.2.2.2.2.2.2.2.2.2.1, .int .i64 t26.2.2.2.2.2.2.2.2.2.2.2.2.1, .int .u32 t26.2.2.2.2.2.2.2.2.2.2.2.2.2.1] :: G) rfl rfl ?_
      refine split2 H (fun c44 H => ?_) (fun c44 H => ?_)
      · refine C.condT (congrArg (fun b => some (Value.bool b)) (c44)) ?_
        refine C.rs ?_
        refine J.p rfl rfl rfl rfl (Y.asg rfl) ?_
        refine J.nx ?_
        refine C.ret ?_
        obtain rfl := Option.some.inj H
        refine T.th ?_
        exact ret_ok (ks := [6]) rfl rfl (fun w h => ⟨rfl, (St.pick [] [_, _, _] h rfl)⟩)
      · refine C.condF (congrArg (fun b => some (Value.bool b)) (nt c44)) ?_
        refine C.skip ?_
        refine N.nx ?_
        refine C.seq ?_
        refine C.rs ?_
        refine J.p rfl rfl rfl rfl (Y.asg rfl) ?_
        refine J.nx ?_
        refine C.joinNR H (fun (o57 : Unit) (j58 : Unit) => [(3, .pointer (some ⟨g1, 0, none⟩)), (7, .bool t3), (8, .slice A7 t5.1.length c8), (11, .pointer (some ⟨g28, 0, none⟩)), (12, .int .i64 t26.2.2.2.2.2.2.2.2.2.2.2.2.2.2.1), (13, .int .i64 t26.2.2.2.2.2.2.2.2.2.2.2.2.2.2.2)]) (fun (o57 : Unit) (j58 : Unit) => cells g1 36 [.int .i64 a0_0, .int .u64 a0_1, .int .i64 a0_2, .string a0_3, .string a0_4, .int .u64 a0_5, .int .i64 a0_6, .int .i64 a0_7, .int .i64 a0_8, .string a0_9, .int .i64 a0_10, .int .i64 a0_11, .int .i64 a0_12, .int .u32 a0_13] :: own 5 1 A7 c8 (t5.1.map (Value.int .u8)) :: cells g28 36 [.int .i64 t26.1, .int .u64 t26.2.1, .int .i64 t26.2.2.1, .string t26.2.2.2.1, .string t26.2.2.2.2.1, .int .u64 t26.2.2.2.2.2.1, .int .i64 t26.2.2.2.2.2.2.1, .int .i64 t26.2.2.2.2.2.2.2.1, .int .i64 t26.2.2.2.2.2.2.2.2.1, .string t26.2.2.2.2.2.2.2.2.2.1, .int .i64 t26.2.2.2.2.2.2.2.2.2.2.1, .int .i64 t26.2.2.2.2.2.2.2.2.2.2.2.1, .int .i64 t26.2.2.2.2.2.2.2.2.2.2.2.2.1, .int .u32 t26.2.2.2.2.2.2.2.2.2.2.2.2.2.1] :: G) (fun (o57 : Unit) (j58 : Unit) => True) (fun o55 H HK56 => ?_) (fun o57 j58 H _ => ?_)
        · refine C.blk ?_
          refine C.loop (fun (i : Nat × (Int) × (Unit)) => [(3, .pointer (some ⟨g1, 0, none⟩)), (7, .bool t3), (8, .slice A7 t5.1.length c8), (11, .pointer (some ⟨g28, 0, none⟩)), (12, .int .i64 t26.2.2.2.2.2.2.2.2.2.2.2.2.2.2.1), (13, .int .i64 t26.2.2.2.2.2.2.2.2.2.2.2.2.2.2.2), (14, .int .i64 i.2.1)]) (fun (i : Nat × (Int) × (Unit)) => cells g1 36 [.int .i64 a0_0, .int .u64 a0_1, .int .i64 a0_2, .string a0_3, .string a0_4, .int .u64 a0_5, .int .i64 a0_6, .int .i64 a0_7, .int .i64 a0_8, .string a0_9, .int .i64 a0_10, .int .i64 a0_11, .int .i64 a0_12, .int .u32 a0_13] :: own 5 1 A7 c8 (t5.1.map (Value.int .u8)) :: cells g28 36 [.int .i64 t26.1, .int .u64 t26.2.1, .int .i64 t26.2.2.1, .string t26.2.2.2.1, .string t26.2.2.2.2.1, .int .u64 t26.2.2.2.2.2.1, .int .i64 t26.2.2.2.2.2.2.1, .int .i64 t26.2.2.2.2.2.2.2.1, .int .i64 t26.2.2.2.2.2.2.2.2.1, .string t26.2.2.2.2.2.2.2.2.2.1, .int .i64 t26.2.2.2.2.2.2.2.2.2.2.1, .int .i64 t26.2.2.2.2.2.2.2.2.2.2.2.1, .int .i64 t26.2.2.2.2.2.2.2.2.2.2.2.2.1, .int .u32 t26.2.2.2.2.2.2.2.2.2.2.2.2.2.1] :: G) (fun (i : Nat × (Int) × (Unit)) => FrameBack.l1 t5 i.1 i.2.1 = some o55 ∧ (True)) (fun i => i.1) (K, 1, ()) ⟨H, trivial⟩ (by exact ⟨rfl, rfl, rfl, rfl, rfl, rfl, rfl, trivial⟩) (by exact fun w h => h) ?_
          rintro ⟨k76, i71, j72⟩ ⟨H, _⟩
          replace H : FrameBack.l1 t5 k76 i71 = some o55 := H
          obtain ⟨k70, rfl⟩ : ∃ m, k76 = m + 1 := by cases k76 with | zero => exact absurd H (by simp [FrameBack.l1]) | succ m => exact ⟨m, rfl⟩
          rw [FrameBack.l1] at H
          refine C.at (s' := [(3, .pointer (some ⟨g1, 0, none⟩)), (7, .bool t3), (8, .slice A7 t5.1.length c8), (11, .pointer (some ⟨g28, 0, none⟩)), (12, .int .i64 t26.2.2.2.2.2.2.2.2.2.2.2.2.2.2.1), (13, .int .i64 t26.2.2.2.2.2.2.2.2.2.2.2.2.2.2.2), (14, .int .i64 i71)]) (G' := cells g1 36 [.int .i64 a0_0, .int .u64 a0_1, .int .i64 a0_2, .string a0_3, .string a0_4, .int .u64 a0_5, .int .i64 a0_6, .int .i64 a0_7, .int .i64 a0_8, .string a0_9, .int .i64 a0_10, .int .i64 a0_11, .int .i64 a0_12, .int .u32 a0_13] :: own 5 1 A7 c8 (t5.1.map (Value.int .u8)) :: cells g28 36 [.int .i64 t26.1, .int .u64 t26.2.1, .int .i64 t26.2.2.1, .string t26.2.2.2.1, .string t26.2.2.2.2.1, .int .u64 t26.2.2.2.2.2.1, .int .i64 t26.2.2.2.2.2.2.1, .int .i64 t26.2.2.2.2.2.2.2.1, .int .i64 t26.2.2.2.2.2.2.2.2.1, .string t26.2.2.2.2.2.2.2.2.2.1, .int .i64 t26.2.2.2.2.2.2.2.2.2.2.1, .int .i64 t26.2.2.2.2.2.2.2.2.2.2.2.1, .int .i64 t26.2.2.2.2.2.2.2.2.2.2.2.2.1, .int .u32 t26.2.2.2.2.2.2.2.2.2.2.2.2.2.1] :: G) rfl rfl ?_
          refine C.seq ?_
          refine C.rs ?_
          refine J.p rfl rfl rfl rfl (Y.mv rfl) ?_
          refine J.p rfl rfl rfl rfl (Y.mv rfl) ?_
          refine J.p rfl rfl rfl rfl (Y.lenS Try.underlying22 rfl) ?_
          refine J.p rfl rfl rfl rfl (Y.bin rfl rfl rfl) ?_
          refine J.nx ?_
          refine split2 H (fun c73 H => ?_) (fun c73 H => ?_)
          · refine C.condT (congrArg (fun b => some (Value.bool b)) (decide_eq_true c73)) ?_
            refine C.skip ?_
            refine N.nx ?_
            refine C.seq ?_
            refine C.blk ?_
            refine C.rs ?_
            refine J.p rfl rfl rfl rfl (Y.mv rfl) ?_
            refine J.p rfl rfl rfl rfl (Y.mv rfl) ?_
            obtain ⟨p74, H⟩ := gd_some H
            refine J.el rfl rfl rfl Try.underlying22 ti5 Try.underlying5 rfl rfl rfl p74 (RdG.own 1 rfl) ?_
            refine J.p rfl rfl rfl rfl (Y.bin rfl rfl rfl) ?_
            refine J.nx ?_
            refine split2 H (fun c75 H => ?_) (fun c75 H => ?_)
            · refine C.condT (congrArg (fun b => some (Value.bool b)) (decide_eq_true c75)) ?_
              refine C.rs ?_
              refine J.p rfl rfl rfl rfl (Y.asg rfl) ?_
              refine J.nx ?_
              refine C.ret ?_
              obtain rfl := Option.some.inj H
              obtain rfl := fin_inl HK56
              refine T.ib ?_
              refine T.th ?_
              refine T.th ?_
              refine T.ib ?_
              refine T.th ?_
              refine T.th ?_
              exact ret_ok (ks := [6]) rfl rfl (fun w h => ⟨rfl, (St.pick [] [_, _, _] h rfl)⟩)
            · refine C.condF (congrArg (fun b => some (Value.bool b)) (decide_eq_false c75)) ?_
              refine C.skip ?_
              refine N.ib ?_
              refine N.nx ?_
              refine C.reg ?_
              refine J.p rfl rfl rfl rfl (Y.mv rfl) ?_
              refine J.p rfl rfl rfl rfl (Y.bin rfl rfl rfl) ?_
              refine J.p rfl rfl rfl rfl (Y.asg rfl) ?_
              refine J.nil ?_
              exact N.again (k70, IntKind.wrap .i64 (i71 + 1), ()) ⟨H, trivial⟩ (Nat.lt_succ_self _) (by exact ⟨rfl, rfl, rfl, rfl, rfl, rfl, rfl, trivial⟩) (by exact fun w h => h)
          · refine C.condF (congrArg (fun b => some (Value.bool b)) (decide_eq_false c73)) ?_
            refine C.exit ?_
            refine X.th ?_
            refine X.th ?_
            refine X.hit ?_
            obtain rfl := Option.some.inj H
            exact N.meet ((), ()) ⟨fin_inr HK56, trivial⟩ (by exact ⟨rfl, rfl, rfl, rfl, rfl, rfl, trivial⟩) (by exact fun w h => h)
        · refine N.at (s' := [(3, .pointer (some ⟨g1, 0, none⟩)), (7, .bool t3), (8, .slice A7 t5.1.length c8), (11, .pointer (some ⟨g28, 0, none⟩)), (12, .int .i64 t26.2.2.2.2.2.2.2.2.2.2.2.2.2.2.1), (13, .int .i64 t26.2.2.2.2.2.2.2.2.2.2.2.2.2.2.2)]) (G' := cells g1 36 [.int .i64 a0_0, .int .u64 a0_1, .int .i64 a0_2, .string a0_3, .string a0_4, .int .u64 a0_5, .int .i64 a0_6, .int .i64 a0_7, .int .i64 a0_8, .string a0_9, .int .i64 a0_10, .int .i64 a0_11, .int .i64 a0_12, .int .u32 a0_13] :: own 5 1 A7 c8 (t5.1.map (Value.int .u8)) :: cells g28 36 [.int .i64 t26.1, .int .u64 t26.2.1, .int .i64 t26.2.2.1, .string t26.2.2.2.1, .string t26.2.2.2.2.1, .int .u64 t26.2.2.2.2.2.1, .int .i64 t26.2.2.2.2.2.2.1, .int .i64 t26.2.2.2.2.2.2.2.1, .int .i64 t26.2.2.2.2.2.2.2.2.1, .string t26.2.2.2.2.2.2.2.2.2.1, .int .i64 t26.2.2.2.2.2.2.2.2.2.2.1, .int .i64 t26.2.2.2.2.2.2.2.2.2.2.2.1, .int .i64 t26.2.2.2.2.2.2.2.2.2.2.2.2.1, .int .u32 t26.2.2.2.2.2.2.2.2.2.2.2.2.2.1] :: G) rfl rfl ?_
          refine N.nx ?_
          refine C.rs ?_
          refine J.p rfl rfl rfl rfl (Y.mv rfl) ?_
          refine J.p rfl rfl rfl rfl (Y.mv rfl) ?_
          refine split2 H (fun c77 H => ?_) (fun c77 H => ?_)
          · refine J.as (k := 67) rfl (congrArg Value.bool (c77)) ?_
            refine J.r rfl rfl rfl rfl (Y.ldCA (us := [.int .i64 t26.1, .int .u64 t26.2.1, .int .i64 t26.2.2.1, .string t26.2.2.2.1, .string t26.2.2.2.2.1, .int .u64 t26.2.2.2.2.2.1, .int .i64 t26.2.2.2.2.2.2.1, .int .i64 t26.2.2.2.2.2.2.2.1, .int .i64 t26.2.2.2.2.2.2.2.2.1, .string t26.2.2.2.2.2.2.2.2.2.1, .int .i64 t26.2.2.2.2.2.2.2.2.2.2.1, .int .i64 t26.2.2.2.2.2.2.2.2.2.2.2.1, .int .i64 t26.2.2.2.2.2.2.2.2.2.2.2.2.1, .int .u32 t26.2.2.2.2.2.2.2.2.2.2.2.2.2.1]) 2 Try.underlying36 rfl ti36 rfl rfl rfl rfl) ?_
            refine J.r rfl rfl rfl rfl (Y.ldCA (us := [.int .i64 a0_0, .int .u64 a0_1, .int .i64 a0_2, .string a0_3, .string a0_4, .int .u64 a0_5, .int .i64 a0_6, .int .i64 a0_7, .int .i64 a0_8, .string a0_9, .int .i64 a0_10, .int .i64 a0_11, .int .i64 a0_12, .int .u32 a0_13]) 0 Try.underlying36 rfl ti36 rfl rfl rfl rfl) ?_
            refine J.p rfl rfl rfl rfl (Y.eqst Try.eqGuardType36 rfl (EqV.struct Try.underlying36 Try.stoodInHeld36 (EqFs.cons rfl (part_one (v := .int .i64 t26.1) Try.underlying24 rfl (by kernel_rfl)) (part_one (v := .int .i64 a0_0) Try.underlying24 rfl (by kernel_rfl)) (EqV.int 2 Try.underlying24) (EqFs.cons rfl (part_agg (us := #[.int .u64 t26.2.1, .int .i64 t26.2.2.1, .string t26.2.2.2.1, .string t26.2.2.2.2.1]) Try.underlying27 rfl ti27 (by kernel_rfl)) (part_agg (us := #[.int .u64 a0_1, .int .i64 a0_2, .string a0_3, .string a0_4]) Try.underlying27 rfl ti27 (by kernel_rfl)) (EqV.struct Try.underlying27 Try.stoodInHeld27 (EqFs.cons rfl (part_one (v := .int .u64 t26.2.1) Try.underlying25 rfl (by kernel_rfl)) (part_one (v := .int .u64 a0_1) Try.underlying25 rfl (by kernel_rfl)) (EqV.int 1 Try.underlying25) (EqFs.cons rfl (part_one (v := .int .i64 t26.2.2.1) Try.underlying24 rfl (by kernel_rfl)) (part_one (v := .int .i64 a0_2) Try.underlying24 rfl (by kernel_rfl)) (EqV.int 1 Try.underlying24) (EqFs.cons rfl (part_one (v := .string t26.2.2.2.1) Try.underlying9 rfl (by kernel_rfl)) (part_one (v := .string a0_3) Try.underlying9 rfl (by kernel_rfl)) (EqV.str 1 Try.underlying9) (EqFs.cons rfl (part_one (v := .string t26.2.2.2.2.1) Try.underlying9 rfl (by kernel_rfl)) (part_one (v := .string a0_4) Try.underlying9 rfl (by kernel_rfl)) (EqV.str 1 Try.underlying9) EqFs.nil))))) (EqFs.cons rfl (part_agg (us := #[.int .u64 t26.2.2.2.2.2.1, .int .i64 t26.2.2.2.2.2.2.1, .int .i64 t26.2.2.2.2.2.2.2.1, .int .i64 t26.2.2.2.2.2.2.2.2.1, .string t26.2.2.2.2.2.2.2.2.2.1]) Try.underlying29 rfl ti29 (by kernel_rfl)) (part_agg (us := #[.int .u64 a0_5, .int .i64 a0_6, .int .i64 a0_7, .int .i64 a0_8, .string a0_9]) Try.underlying29 rfl ti29 (by kernel_rfl)) (EqV.struct Try.underlying29 Try.stoodInHeld29 (EqFs.cons rfl (part_one (v := .int .u64 t26.2.2.2.2.2.1) Try.underlying25 rfl (by kernel_rfl)) (part_one (v := .int .u64 a0_5) Try.underlying25 rfl (by kernel_rfl)) (EqV.int 1 Try.underlying25) (EqFs.cons rfl (part_one (v := .int .i64 t26.2.2.2.2.2.2.1) Try.underlying24 rfl (by kernel_rfl)) (part_one (v := .int .i64 a0_6) Try.underlying24 rfl (by kernel_rfl)) (EqV.int 1 Try.underlying24) (EqFs.cons rfl (part_one (v := .int .i64 t26.2.2.2.2.2.2.2.1) Try.underlying3 rfl (by kernel_rfl)) (part_one (v := .int .i64 a0_7) Try.underlying3 rfl (by kernel_rfl)) (EqV.int 1 Try.underlying3) (EqFs.cons rfl (part_one (v := .int .i64 t26.2.2.2.2.2.2.2.2.1) Try.underlying3 rfl (by kernel_rfl)) (part_one (v := .int .i64 a0_8) Try.underlying3 rfl (by kernel_rfl)) (EqV.int 1 Try.underlying3) (EqFs.cons rfl (part_one (v := .string t26.2.2.2.2.2.2.2.2.2.1) Try.underlying9 rfl (by kernel_rfl)) (part_one (v := .string a0_9) Try.underlying9 rfl (by kernel_rfl)) (EqV.str 1 Try.underlying9) EqFs.nil)))))) (EqFs.cons rfl (part_agg (us := #[.int .i64 t26.2.2.2.2.2.2.2.2.2.2.1, .int .i64 t26.2.2.2.2.2.2.2.2.2.2.2.1, .int .i64 t26.2.2.2.2.2.2.2.2.2.2.2.2.1, .int .u32 t26.2.2.2.2.2.2.2.2.2.2.2.2.2.1]) Try.underlying34 rfl ti34 (by kernel_rfl)) (part_agg (us := #[.int .i64 a0_10, .int .i64 a0_11, .int .i64 a0_12, .int .u32 a0_13]) Try.underlying34 rfl ti34 (by kernel_rfl)) (EqV.struct Try.underlying34 Try.stoodInHeld34 (EqFs.cons rfl (part_one (v := .int .i64 t26.2.2.2.2.2.2.2.2.2.2.1) Try.underlying3 rfl (by kernel_rfl)) (part_one (v := .int .i64 a0_10) Try.underlying3 rfl (by kernel_rfl)) (EqV.int 1 Try.underlying3) (EqFs.cons rfl (part_agg (us := #[.int .i64 t26.2.2.2.2.2.2.2.2.2.2.2.1, .int .i64 t26.2.2.2.2.2.2.2.2.2.2.2.2.1, .int .u32 t26.2.2.2.2.2.2.2.2.2.2.2.2.2.1]) Try.underlying32 rfl ti32 (by kernel_rfl)) (part_agg (us := #[.int .i64 a0_11, .int .i64 a0_12, .int .u32 a0_13]) Try.underlying32 rfl ti32 (by kernel_rfl)) (EqV.struct Try.underlying32 Try.stoodInHeld32 (EqFs.cons rfl (part_one (v := .int .i64 t26.2.2.2.2.2.2.2.2.2.2.2.1) Try.underlying3 rfl (by kernel_rfl)) (part_one (v := .int .i64 a0_11) Try.underlying3 rfl (by kernel_rfl)) (EqV.int 0 Try.underlying3) (EqFs.cons rfl (part_one (v := .int .i64 t26.2.2.2.2.2.2.2.2.2.2.2.2.1) Try.underlying3 rfl (by kernel_rfl)) (part_one (v := .int .i64 a0_12) Try.underlying3 rfl (by kernel_rfl)) (EqV.int 0 Try.underlying3) (EqFs.cons rfl (part_one (v := .int .u32 t26.2.2.2.2.2.2.2.2.2.2.2.2.2.1) Try.underlying30 rfl (by kernel_rfl)) (part_one (v := .int .u32 a0_13) Try.underlying30 rfl (by kernel_rfl)) (EqV.int 0 Try.underlying30) EqFs.nil)))) EqFs.nil))) EqFs.nil))))) rfl rfl) ?_
            refine J.p rfl rfl rfl rfl (Y.pickT rfl rfl) ?_
            refine J.p rfl rfl rfl rfl (Y.mv rfl) ?_
            refine split2 H (fun c78 H => ?_) (fun c78 H => ?_)
            · refine J.as (k := 72) rfl (congrArg Value.bool (decide_eq_true c78)) ?_
              refine J.p rfl rfl rfl rfl (Y.mv rfl) ?_
              refine J.p rfl rfl rfl rfl (Y.mv rfl) ?_
              refine J.p rfl rfl rfl rfl (Y.lenS Try.underlying22 rfl) ?_
              refine J.p rfl rfl rfl rfl (Y.bin rfl rfl rfl) ?_
              refine J.p rfl rfl rfl rfl (Y.pickT rfl rfl) ?_
              refine J.p rfl rfl rfl rfl (Y.mv rfl) ?_
              refine split2 H (fun c79 H => ?_) (fun c79 H => ?_)
              · refine J.as (k := 78) rfl (congrArg Value.bool (decide_eq_true c79)) ?_
                refine J.p rfl rfl rfl rfl (Y.mv rfl) ?_
                refine J.p rfl rfl rfl rfl (Y.bin rfl rfl rfl) ?_
                refine J.p rfl rfl rfl rfl (Y.pickT rfl rfl) ?_
                refine J.p rfl rfl rfl rfl (Y.asg rfl) ?_
                refine J.nx ?_
                refine C.ret ?_
                obtain rfl := Option.some.inj H
                exact ret_ok (ks := [6]) rfl rfl (fun w h => ⟨rfl, (St.pick [] [_, _, _] h rfl)⟩)
              · refine J.as (k := 78) rfl (congrArg Value.bool (decide_eq_false c79)) ?_
                refine J.skip rfl rfl ?_
                refine J.skip rfl rfl ?_
                refine J.p rfl rfl rfl rfl (Y.pickF rfl rfl) ?_
                refine J.p rfl rfl rfl rfl (Y.asg rfl) ?_
                refine J.nx ?_
                refine C.ret ?_
                obtain rfl := Option.some.inj H
                exact ret_ok (ks := [6]) rfl rfl (fun w h => ⟨rfl, (St.pick [] [_, _, _] h rfl)⟩)
            · refine J.as (k := 72) rfl (congrArg Value.bool (decide_eq_false c78)) ?_
              refine J.skip rfl rfl ?_
              refine J.skip rfl rfl ?_
              refine J.skip rfl rfl ?_
              refine J.skip rfl rfl ?_
              refine J.p rfl rfl rfl rfl (Y.pickF rfl rfl) ?_
              refine J.p rfl rfl rfl rfl (Y.mv rfl) ?_
              refine J.skip rfl rfl ?_
              refine J.skip rfl rfl ?_
              refine J.p rfl rfl rfl rfl (Y.pickF rfl rfl) ?_
              refine J.p rfl rfl rfl rfl (Y.asg rfl) ?_
              refine J.nx ?_
              refine C.ret ?_
              obtain rfl := Option.some.inj H
              exact ret_ok (ks := [6]) rfl rfl (fun w h => ⟨rfl, (St.pick [] [_, _, _] h rfl)⟩)
          · refine J.as (k := 67) rfl (congrArg Value.bool (nt c77)) ?_
            refine J.skip rfl rfl ?_
            refine J.skip rfl rfl ?_
            refine J.skip rfl rfl ?_
            refine J.p rfl rfl rfl rfl (Y.pickF rfl rfl) ?_
            refine J.p rfl rfl rfl rfl (Y.mv rfl) ?_
            refine J.skip rfl rfl ?_
            refine J.skip rfl rfl ?_
            refine J.skip rfl rfl ?_
            refine J.skip rfl rfl ?_
            refine J.p rfl rfl rfl rfl (Y.pickF rfl rfl) ?_
            refine J.p rfl rfl rfl rfl (Y.mv rfl) ?_
            refine J.skip rfl rfl ?_
            refine J.skip rfl rfl ?_
            refine J.p rfl rfl rfl rfl (Y.pickF rfl rfl) ?_
            refine J.p rfl rfl rfl rfl (Y.asg rfl) ?_
            refine J.nx ?_
            refine C.ret ?_
            obtain rfl := Option.some.inj H
            exact ret_ok (ks := [6]) rfl rfl (fun w h => ⟨rfl, (St.pick [] [_, _, _] h rfl)⟩)
end Go.Proofs.Ytakolnamobkkkaa
