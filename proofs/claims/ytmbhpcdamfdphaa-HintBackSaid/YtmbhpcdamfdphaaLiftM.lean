/- Own text, printed by the lifting program: each Go function beside a plain function, and the proof that a call of the one comes to the other. Conditions: what came in can be read. -/
import Derived.Test.YtmbhpcdamfdphaaLiftH
set_option linter.unusedVariables false
set_option linter.unusedSimpArgs false
set_option maxRecDepth 10000
set_option maxHeartbeats 4000000
namespace Go.Proofs.Ytmbhpcdamfdphaa
open Go Go.Sx
abbrev T50_ := Int × Int × ByteArray × ByteArray
abbrev encT50_ (x : T50_) : List Value := [.int .u64 x.1, .int .i64 x.2.1, .string x.2.2.1, .string x.2.2.2]
theorem lenT50_ : ∀ x : T50_, (encT50_ x).length = 4 := fun _ => rfl
theorem oneT50_ : ∀ (x : T50_), ∀ u ∈ encT50_ x, u.oneCell' = true := by intro x u hu; simp only [List.mem_cons, List.not_mem_nil, or_false] at hu; rcases hu with rfl | rfl | rfl | rfl <;> rfl
theorem fa84_0 : FA Try.prog 84 0 0 := FA.of Try.underlying84 rfl ti54 (by decide) rfl
theorem go13 : GoF Try.prog 13 := GoF.of Try.func13 (by kernel_rfl) (by kernel_rfl)
theorem go17 : GoF Try.prog 17 := GoF.of Try.func17 (by kernel_rfl) (by kernel_rfl)
theorem go20 : GoF Try.prog 20 := GoF.of Try.func20 (by kernel_rfl) (by kernel_rfl)
theorem go24 : GoF Try.prog 24 := GoF.of Try.func24 (by kernel_rfl) (by kernel_rfl)
theorem go27 : GoF Try.prog 27 := GoF.of Try.func27 (by kernel_rfl) (by kernel_rfl)
theorem go34 : GoF Try.prog 34 := GoF.of Try.func34 (by kernel_rfl) (by kernel_rfl)
theorem go35 : GoF Try.prog 35 := GoF.of Try.func35 (by kernel_rfl) (by kernel_rfl)
/-! ### salvor/salvorlaw10.record: function 34 -/
def record.f (K : Nat) : Option ((List Int)) := (fOf.f 7 1 (⟨#[107]⟩ : ByteArray) (⟨#[118]⟩ : ByteArray)).bind fun t1 => (fEncode.f K t1.1 t1.2.1 t1.2.2.1 t1.2.2.2.1 t1.2.2.2.2.1 t1.2.2.2.2.2.1 t1.2.2.2.2.2.2.1 t1.2.2.2.2.2.2.2.1 t1.2.2.2.2.2.2.2.2.1 t1.2.2.2.2.2.2.2.2.2.1 t1.2.2.2.2.2.2.2.2.2.2.1 t1.2.2.2.2.2.2.2.2.2.2.2.1 t1.2.2.2.2.2.2.2.2.2.2.2.2.1 t1.2.2.2.2.2.2.2.2.2.2.2.2.2).bind fun t3 => some t3.1
theorem record.calls {B : Nat} {w0 : World} {G : List HP} (K : Nat) (r : (List Int)) (H : record.f K = some r) (w : World) (hw : St B w0 (G) w) :
    Calls Try.prog 34 [].toArray w (fun e w' => ∃ A0 c0, e = .returned (.slice A0 r.length c0) ∧ St B w0 (own 5 1 A0 c0 (r.map (Value.int .u8)) :: G) w') := by
  unfold record.f at H
  refine calls_of (n := 10) (s := []) Try.func34 rfl rfl rfl rfl ?_ hw
  refine C.rs ?_
  refine J.p rfl rfl rfl rfl (Y.asg rfl) ?_
  refine J.nx ?_
  refine C.rs ?_
  refine J.p rfl rfl rfl rfl (Y.bld (cs := [.int .u64 7, .int .i64 1, .string (⟨#[107]⟩ : ByteArray), .string (⟨#[118]⟩ : ByteArray)]) rfl pl50 ti50 rfl (by kernel_rfl)) ?_
  obtain ⟨t1, hC2, H⟩ := bind_some H
  refine J.call (us := []) (cap := []) rfl rfl rfl go27 (fun w hw => by have hcc := fOf.calls 7 1 (⟨#[107]⟩ : ByteArray) (⟨#[118]⟩ : ByteArray) t1 hC2 w hw; exact hcc) (fun e w1 h1 => ?_)
  obtain ⟨rfl, hw9⟩ := h1
  refine ⟨_, _, rfl, hw9, ?_⟩
  obtain ⟨t3, hC4, H⟩ := bind_some H
  refine J.call (us := []) (cap := []) rfl rfl rfl go22 (fun w hw => by have hcc := fEncode.calls K t1.1 t1.2.1 t1.2.2.1 t1.2.2.2.1 t1.2.2.2.2.1 t1.2.2.2.2.2.1 t1.2.2.2.2.2.2.1 t1.2.2.2.2.2.2.2.1 t1.2.2.2.2.2.2.2.2.1 t1.2.2.2.2.2.2.2.2.2.1 t1.2.2.2.2.2.2.2.2.2.2.1 t1.2.2.2.2.2.2.2.2.2.2.2.1 t1.2.2.2.2.2.2.2.2.2.2.2.2.1 t1.2.2.2.2.2.2.2.2.2.2.2.2.2 t3 hC4 w hw; exact hcc) (fun e w1 h1 => ?_)
  obtain ⟨A5, c6, rfl, hw8⟩ := h1
  refine ⟨_, _, rfl, hw8, ?_⟩
  refine J.p rfl rfl rfl rfl (Y.mv rfl) ?_
  refine J.p rfl rfl rfl rfl (Y.ext rfl rfl) ?_
  refine J.p rfl rfl rfl rfl (Y.ext rfl rfl) ?_
  refine J.p rfl rfl rfl rfl (Y.asg rfl) ?_
  refine J.p rfl rfl rfl rfl (Y.asg rfl) ?_
  refine J.nx ?_
  refine C.rs ?_
  refine J.p rfl rfl rfl rfl (Y.mv rfl) ?_
  refine J.p rfl rfl rfl rfl (Y.asg rfl) ?_
  refine J.nx ?_
  refine C.ret ?_
  obtain rfl := Option.some.inj H
  exact ret_ok (ks := [0]) rfl rfl (fun w h => ⟨A5, c6, rfl, h⟩)
/-! ### salvor/salvorlaw10.sum: function 35 -/
def sum_.f (K : Nat) (a0 : List Int) : Option (Int) := (sRecords.f K a0 [4]).bind fun t3 => if (t3.length : Int) ≠ 1 then (some 0) else (gd ((0 : Int) ≤ 0 ∧ 0 < (t3.length : Int)) (gd ((0 : Int) ≤ 0 ∧ 0 < (t3.length : Int)) (some ((rd t3 0).2.2.2.2.2.2.2.2.2.2.2.2.2.1))))
theorem sum_.calls {B : Nat} {w0 : World} {G : List HP} (K : Nat) (a0 : List Int) (Aa0 : Option Addr) (ca0 : Nat) (ha0 : RdG B w0 G Aa0 (a0.map (Value.int .u8))) (ka0 : a0.length ≤ ca0) (r : Int) (H : sum_.f K a0 = some r) (w : World) (hw : St B w0 (G) w) :
    Calls Try.prog 35 [.slice Aa0 a0.length ca0].toArray w (fun e w' => e = .returned (.int .u32 r) ∧ St B w0 (G) w') := by
  unfold sum_.f at H
  refine calls_of (n := 17) (s := [(0, .slice Aa0 a0.length ca0)]) Try.func35 rfl rfl rfl rfl ?_ hw
  refine C.rs ?_
  refine J.p rfl rfl rfl rfl (Y.asg rfl) ?_
  refine J.nx ?_
  refine C.rs ?_
  refine J.p rfl rfl rfl rfl (Y.mv rfl) ?_
  refine J.bsL (enc := (Value.int .i64)) (xs := [4]) rfl Try.underlying96 ti42 rfl rfl rfl rfl rfl (fun A1 => ?_)
  obtain ⟨t3, hC4, H⟩ := bind_some H
  refine J.call (us := []) (cap := []) rfl rfl rfl go24 (fun w hw => by have hcc := sRecords.calls K a0 [4] Aa0 ca0 A1 1 (ha0.suf [_] rfl) ka0 (RdG.own 0 rfl) (show [4].length ≤ 1 from Nat.le_refl _) t3 hC4 w hw; exact hcc) (fun e w1 h1 => ?_)
  obtain ⟨A5, c6, rfl, hw13⟩ := h1
  refine ⟨_, _, rfl, hw13, ?_⟩
  refine J.p rfl rfl rfl rfl (Y.asg rfl) ?_
  refine J.nx ?_
  refine C.seq ?_
  refine C.rs ?_
  refine J.p rfl rfl rfl rfl (Y.mv rfl) ?_
  refine J.p rfl rfl rfl rfl (Y.lenS Try.underlying56 rfl) ?_
  refine J.p rfl rfl rfl rfl (Y.bin rfl rfl rfl) ?_
  refine J.nx ?_
  refine split2 H (fun c8 H => ?_) (fun c8 H => ?_)
  · refine C.condT (congrArg (fun b => some (Value.bool b)) (decide_eq_true c8)) ?_
    refine C.rs ?_
    refine J.p rfl rfl rfl rfl (Y.asg rfl) ?_
    refine J.nx ?_
    refine C.ret ?_
    obtain rfl := Option.some.inj H
    refine T.th ?_
    exact ret_ok (ks := [2]) rfl rfl (fun w h => ⟨rfl, (St.pick [] [_, _] h rfl)⟩)
  · refine C.condF (congrArg (fun b => some (Value.bool b)) (decide_eq_false c8)) ?_
    refine C.skip ?_
    refine N.nx ?_
    refine C.rs ?_
    refine J.p rfl rfl rfl rfl (Y.mv rfl) ?_
    obtain ⟨p11, H⟩ := gd_some H
    refine J.know (RdG.someM lenT84_ (by decide) (RdG.own 0 rfl) p11) (fun hh => ?_)
    obtain ⟨a9, ha10⟩ := hh
    refine J.p rfl rfl rfl rfl (Y.ixa Try.underlying56 ti84 rfl rfl p11 ha10) ?_
    refine J.p rfl rfl rfl rfl (Y.faA fa84_0 rfl) ?_
    refine J.p rfl rfl rfl rfl (Y.faA2 (o2 := 10) fa54_3 rfl rfl) ?_
    refine J.p rfl rfl rfl rfl (Y.faA2 (o2 := 11) fa52_1 rfl rfl) ?_
    refine J.p rfl rfl rfl rfl (Y.faA2 (o2 := 13) fa35_2 rfl rfl) ?_
    obtain ⟨p12, H⟩ := gd_some H
    refine J.r rfl rfl rfl rfl (Y.ldF lenT84_ Try.underlying33 rfl rfl ha10 p12 (by decide) (RdG.own 0 rfl) rfl) ?_
    refine J.p rfl rfl rfl rfl (Y.asg rfl) ?_
    refine J.nx ?_
    refine C.ret ?_
    obtain rfl := Option.some.inj H
    exact ret_ok (ks := [2]) rfl rfl (fun w h => ⟨rfl, (St.pick [] [_, _] h rfl)⟩)
/-! ### salvor/salvorlaw10.known: function 11 -/
def known.f (K : Nat) : Option (Bool) := (record.f K).bind fun t1 => (hOf.f K t1).bind fun t7 => (sum_.f K t7.1).bind fun t13 => (hLoad.f K t7.1 14 1 t13).bind fun t16 => (hCheck.f K t1 7 1 0 14 (⟨#[107]⟩ : ByteArray)).bind fun t24 => if (t1.length : Int) = 14 then (if t7.2 = 0 then (if t16.2 = 1 then (if (t16.1.length : Int) = 1 then (gd ((0 : Int) ≤ 0 ∧ 0 < (t16.1.length : Int)) (gd ((0 : Int) ≤ 0 ∧ 0 < (t16.1.length : Int)) (if ((rd t16.1 0).1) = 7 ∧ ((rd t16.1 0).2.1) = 1 ∧ ((rd t16.1 0).2.2.1) = 0 ∧ ((rd t16.1 0).2.2.2.1) = 14 ∧ ((rd t16.1 0).2.2.2.2) = (⟨#[107]⟩ : ByteArray) ∧ True then (some t24) else (some false)))) else (some false)) else (some false)) else (some false)) else (some false)
theorem known.calls {B : Nat} {w0 : World} {G : List HP} (K : Nat) (r : Bool) (H : known.f K = some r) (w : World) (hw : St B w0 (G) w) :
    Calls Try.prog 11 [].toArray w (fun e w' => e = .returned (.bool r) ∧ St B w0 (G) w') := by
  unfold known.f at H
  refine calls_of (n := 52) (s := []) Try.func11 rfl rfl rfl rfl ?_ hw
  refine C.rs ?_
  refine J.p rfl rfl rfl rfl (Y.asg rfl) ?_
  refine J.nx ?_
  refine C.rs ?_
  obtain ⟨t1, hC2, H⟩ := bind_some H
  refine J.call (us := []) (cap := []) rfl rfl rfl go34 (fun w hw => by have hcc := record.calls K t1 hC2 w hw; exact hcc) (fun e w1 h1 => ?_)
  obtain ⟨A3, c4, rfl, hw39⟩ := h1
  refine ⟨_, _, rfl, hw39, ?_⟩
  refine J.p rfl rfl rfl rfl (Y.asg rfl) ?_
  refine J.nx ?_
  refine C.rs ?_
  refine J.p rfl rfl rfl rfl (Y.mv rfl) ?_
  refine J.know (own_leL 0 rfl) (fun hc6 => ?_)
  obtain ⟨t7, hC8, H⟩ := bind_some H
  refine J.call (us := []) (cap := []) rfl rfl rfl go13 (fun w hw => by have hcc := hOf.calls K t1 A3 c4 (RdG.own 0 rfl) hc6 t7 hC8 w hw; exact hcc) (fun e w1 h1 => ?_)
  obtain ⟨A9, c10, rfl, hw38⟩ := h1
  refine ⟨_, _, rfl, hw38, ?_⟩
  refine J.p rfl rfl rfl rfl (Y.mv rfl) ?_
  refine J.p rfl rfl rfl rfl (Y.ext rfl rfl) ?_
  refine J.p rfl rfl rfl rfl (Y.ext rfl rfl) ?_
  refine J.p rfl rfl rfl rfl (Y.asg rfl) ?_
  refine J.p rfl rfl rfl rfl (Y.asg rfl) ?_
  refine J.nx ?_
  refine C.rs ?_
  refine J.p rfl rfl rfl rfl (Y.mv rfl) ?_
  refine J.p rfl rfl rfl rfl (Y.mv rfl) ?_
  refine J.know (own_leL 0 rfl) (fun hc12 => ?_)
  obtain ⟨t13, hC14, H⟩ := bind_some H
  refine J.call (us := []) (cap := []) rfl rfl rfl go35 (fun w hw => by have hcc := sum_.calls K t7.1 A9 c10 (RdG.own 0 rfl) hc12 t13 hC14 w hw; exact hcc) (fun e w1 h1 => ?_)
  obtain ⟨rfl, hw37⟩ := h1
  refine ⟨_, _, rfl, hw37, ?_⟩
  refine J.p rfl rfl rfl rfl (Y.bld (cs := [.int .i64 14, .int .i64 1, .int .u32 t13]) rfl pl35 ti35 rfl (by kernel_rfl)) ?_
  refine J.know (own_leL 0 rfl) (fun hc15 => ?_)
  obtain ⟨t16, hC17, H⟩ := bind_some H
  refine J.call (us := []) (cap := []) rfl rfl rfl go17 (fun w hw => by have hcc := hLoad.calls K t7.1 14 1 t13 A9 c10 (RdG.own 0 rfl) hc15 t16 hC17 w hw; exact hcc) (fun e w1 h1 => ?_)
  obtain ⟨A18, c19, rfl, hw36⟩ := h1
  refine ⟨_, _, rfl, hw36, ?_⟩
  refine J.p rfl rfl rfl rfl (Y.mv rfl) ?_
  refine J.p rfl rfl rfl rfl (Y.ext rfl rfl) ?_
  refine J.p rfl rfl rfl rfl (Y.ext rfl rfl) ?_
  refine J.p rfl rfl rfl rfl (Y.asg rfl) ?_
  refine J.p rfl rfl rfl rfl (Y.asg rfl) ?_
  refine J.nx ?_
  refine C.rs ?_
  refine J.p rfl rfl rfl rfl (Y.bld (cs := [.int .u64 7, .int .i64 1, .int .i64 0, .int .i64 14, .string (⟨#[107]⟩ : ByteArray)]) rfl pl44 ti44 rfl (by kernel_rfl)) ?_
  refine J.alloc (L := [.int .u64 0, .int .i64 0, .int .i64 0, .int .i64 0, .string ByteArray.empty]) rfl ti44 rfl (fun g21 => ?_)
  refine J.stA (us := [.int .u64 7, .int .i64 1, .int .i64 0, .int .i64 14, .string (⟨#[107]⟩ : ByteArray)]) (L' := [.int .u64 7, .int .i64 1, .int .i64 0, .int .i64 14, .string (⟨#[107]⟩ : ByteArray)]) ti44 rfl rfl rfl rfl rfl rfl ?_
  refine J.nx ?_
  refine C.rs ?_
  refine J.p rfl rfl rfl rfl (Y.mv rfl) ?_
  refine J.r rfl rfl rfl rfl (Y.ldCA (us := [.int .u64 7, .int .i64 1, .int .i64 0, .int .i64 14, .string (⟨#[107]⟩ : ByteArray)]) 0 Try.underlying44 rfl ti44 rfl rfl rfl rfl) ?_
  refine J.know (own_leL 3 rfl) (fun hc23 => ?_)
  obtain ⟨t24, hC25, H⟩ := bind_some H
  refine J.call (us := []) (cap := []) rfl rfl rfl go20 (fun w hw => by have hcc := hCheck.calls K t1 7 1 0 14 (⟨#[107]⟩ : ByteArray) A3 c4 (RdG.own 3 rfl) hc23 t24 hC25 w hw; exact hcc) (fun e w1 h1 => ?_)
  obtain ⟨rfl, hw35⟩ := h1
  refine ⟨_, _, rfl, hw35, ?_⟩
  refine J.p rfl rfl rfl rfl (Y.asg rfl) ?_
  refine J.nx ?_
  refine C.seq ?_
  refine C.drawn (fuel := 27) (ls := [false, false, false, false, false, false, false, false, false, false, false, false, false, false, false, false, false, false, false, false, false, false, false, false, false, false, false]) [] (cells g21 44 [.int .u64 7, .int .i64 1, .int .i64 0, .int .i64 14, .string (⟨#[107]⟩ : ByteArray)] :: own 44 5 A18 c19 (t16.1.flatMap encT44_) :: own 5 1 A9 c10 (t7.1.map (Value.int .u8)) :: own 5 1 A3 c4 (t1.map (Value.int .u8)) :: G) mx rfl rfl ?_
  refine D.p (ls' := [true, false, false, false, false, false, false, false, false, false, false, false, false, false, false, false, false, false, false, false, false, false, false, false, false, false, false]) 0 rfl rfl rfl rfl (by kernel_rfl) rfl (Y.mv rfl) ?_
  refine D.p (ls' := [true, true, false, false, false, false, false, false, false, false, false, false, false, false, false, false, false, false, false, false, false, false, false, false, false, false, false]) 1 rfl rfl rfl rfl (by kernel_rfl) rfl (Y.lenS Try.underlying22 rfl) ?_
  refine D.p (ls' := [true, true, true, false, false, false, false, false, false, false, false, false, false, false, false, false, false, false, false, false, false, false, false, false, false, false, false]) 2 rfl rfl rfl rfl (by kernel_rfl) rfl (Y.bin rfl rfl rfl) ?_
  refine D.p (ls' := [true, true, true, true, false, false, false, false, false, false, false, false, false, false, false, false, false, false, false, false, false, false, false, false, false, false, false]) 3 rfl rfl rfl rfl (by kernel_rfl) rfl (Y.mv rfl) ?_
  refine split2 H (fun c26 H => ?_) (fun c26 H => ?_)
  · refine D.as (k := 29) rfl (congrArg Value.bool (decide_eq_true c26)) ?_
    refine D.p (ls' := [true, true, true, true, true, false, false, false, false, false, false, false, false, false, false, false, false, false, false, false, false, false, false, false, false, false, false]) 4 rfl rfl rfl rfl (by kernel_rfl) rfl (Y.mv rfl) ?_
    refine D.p (ls' := [true, true, true, true, true, true, false, false, false, false, false, false, false, false, false, false, false, false, false, false, false, false, false, false, false, false, false]) 5 rfl rfl rfl rfl (by kernel_rfl) rfl (Y.bin rfl rfl rfl) ?_
    refine D.p (ls' := [true, true, true, true, true, true, true, false, false, false, false, false, false, false, false, false, false, false, false, false, false, false, false, false, false, false, false]) 6 rfl rfl rfl rfl (by kernel_rfl) rfl (Y.pickT rfl rfl) ?_
    refine D.p (ls' := [true, true, true, true, true, true, true, true, false, false, false, false, false, false, false, false, false, false, false, false, false, false, false, false, false, false, false]) 7 rfl rfl rfl rfl (by kernel_rfl) rfl (Y.mv rfl) ?_
    refine split2 H (fun c27 H => ?_) (fun c27 H => ?_)
    · refine D.as (k := 33) rfl (congrArg Value.bool (decide_eq_true c27)) ?_
      refine D.p (ls' := [true, true, true, true, true, true, true, true, true, false, false, false, false, false, false, false, false, false, false, false, false, false, false, false, false, false, false]) 8 rfl rfl rfl rfl (by kernel_rfl) rfl (Y.mv rfl) ?_
      refine D.p (ls' := [true, true, true, true, true, true, true, true, true, true, false, false, false, false, false, false, false, false, false, false, false, false, false, false, false, false, false]) 9 rfl rfl rfl rfl (by kernel_rfl) rfl (Y.bin rfl rfl rfl) ?_
      refine D.p (ls' := [true, true, true, true, true, true, true, true, true, true, true, false, false, false, false, false, false, false, false, false, false, false, false, false, false, false, false]) 10 rfl rfl rfl rfl (by kernel_rfl) rfl (Y.pickT rfl rfl) ?_
      refine D.p (ls' := [true, true, true, true, true, true, true, true, true, true, true, true, false, false, false, false, false, false, false, false, false, false, false, false, false, false, false]) 11 rfl rfl rfl rfl (by kernel_rfl) rfl (Y.mv rfl) ?_
      refine split2 H (fun c28 H => ?_) (fun c28 H => ?_)
      · refine D.as (k := 37) rfl (congrArg Value.bool (decide_eq_true c28)) ?_
        refine D.p (ls' := [true, true, true, true, true, true, true, true, true, true, true, true, true, false, false, false, false, false, false, false, false, false, false, false, false, false, false]) 12 rfl rfl rfl rfl (by kernel_rfl) rfl (Y.mv rfl) ?_
        refine D.p (ls' := [true, true, true, true, true, true, true, true, true, true, true, true, true, true, false, false, false, false, false, false, false, false, false, false, false, false, false]) 13 rfl rfl rfl rfl (by kernel_rfl) rfl (Y.lenS Try.underlying36 rfl) ?_
        refine D.p (ls' := [true, true, true, true, true, true, true, true, true, true, true, true, true, true, true, false, false, false, false, false, false, false, false, false, false, false, false]) 14 rfl rfl rfl rfl (by kernel_rfl) rfl (Y.bin rfl rfl rfl) ?_
        refine D.p (ls' := [true, true, true, true, true, true, true, true, true, true, true, true, true, true, true, true, false, false, false, false, false, false, false, false, false, false, false]) 15 rfl rfl rfl rfl (by kernel_rfl) rfl (Y.pickT rfl rfl) ?_
        refine D.p (ls' := [true, true, true, true, true, true, true, true, true, true, true, true, true, true, true, true, true, false, false, false, false, false, false, false, false, false, false]) 16 rfl rfl rfl rfl (by kernel_rfl) rfl (Y.mv rfl) ?_
        refine split2 H (fun c29 H => ?_) (fun c29 H => ?_)
        · refine D.as (k := 42) rfl (congrArg Value.bool (decide_eq_true c29)) ?_
          refine D.p (ls' := [true, true, true, true, true, true, true, true, true, true, true, true, true, true, true, true, true, true, false, false, false, false, false, false, false, false, false]) 17 rfl rfl rfl rfl (by kernel_rfl) rfl (Y.mv rfl) ?_
          obtain ⟨p32, H⟩ := gd_some H
          refine D.know (RdG.someM lenT44_ (by decide) (RdG.own 1 rfl) p32) (fun hh => ?_)
          obtain ⟨a30, ha31⟩ := hh
          refine D.p (ls' := [true, true, true, true, true, true, true, true, true, true, true, true, true, true, true, true, true, true, true, false, false, false, false, false, false, false, false]) 18 rfl rfl rfl rfl (by kernel_rfl) rfl (Y.ixa Try.underlying36 ti44 rfl rfl p32 ha31) ?_
          obtain ⟨p33, H⟩ := gd_some H
          refine D.r (ls' := [true, true, true, true, true, true, true, true, true, true, true, true, true, true, true, true, true, true, true, true, false, false, false, false, false, false, false]) 19 1 0 rfl rfl rfl rfl (by kernel_rfl) (by kernel_rfl) rfl rfl (Y.ldM (us := [.int .u64 ((rd t16.1 0).1), .int .i64 ((rd t16.1 0).2.1), .int .i64 ((rd t16.1 0).2.2.1), .int .i64 ((rd t16.1 0).2.2.2.1), .string ((rd t16.1 0).2.2.2.2)]) lenT44_ Try.underlying44 rfl ti44 rfl ha31 p33 (RdG.own 1 rfl) rfl) ?_
          refine D.r (ls' := [true, true, true, true, true, true, true, true, true, true, true, true, true, true, true, true, true, true, true, true, true, false, false, false, false, false, false]) 20 1 0 rfl rfl rfl rfl (by kernel_rfl) (by kernel_rfl) rfl rfl (Y.ldCA (us := [.int .u64 7, .int .i64 1, .int .i64 0, .int .i64 14, .string (⟨#[107]⟩ : ByteArray)]) 0 Try.underlying44 rfl ti44 rfl rfl rfl rfl) ?_
          refine D.p (ls' := [true, true, true, true, true, true, true, true, true, true, true, true, true, true, true, true, true, true, true, true, true, true, false, false, false, false, false]) 21 rfl rfl rfl rfl (by kernel_rfl) rfl (Y.eqst Try.eqGuardType44 rfl (EqV.struct Try.underlying44 Try.stoodInHeld44 (EqFs.cons rfl (part_one (v := .int .u64 ((rd t16.1 0).1)) Try.underlying41 rfl (by kernel_rfl)) (part_one (v := .int .u64 7) Try.underlying41 rfl (by kernel_rfl)) (EqV.int 0 Try.underlying41) (EqFs.cons rfl (part_one (v := .int .i64 ((rd t16.1 0).2.1)) Try.underlying42 rfl (by kernel_rfl)) (part_one (v := .int .i64 1) Try.underlying42 rfl (by kernel_rfl)) (EqV.int 0 Try.underlying42) (EqFs.cons rfl (part_one (v := .int .i64 ((rd t16.1 0).2.2.1)) Try.underlying3 rfl (by kernel_rfl)) (part_one (v := .int .i64 0) Try.underlying3 rfl (by kernel_rfl)) (EqV.int 0 Try.underlying3) (EqFs.cons rfl (part_one (v := .int .i64 ((rd t16.1 0).2.2.2.1)) Try.underlying3 rfl (by kernel_rfl)) (part_one (v := .int .i64 14) Try.underlying3 rfl (by kernel_rfl)) (EqV.int 0 Try.underlying3) (EqFs.cons rfl (part_one (v := .string ((rd t16.1 0).2.2.2.2)) Try.underlying9 rfl (by kernel_rfl)) (part_one (v := .string (⟨#[107]⟩ : ByteArray)) Try.underlying9 rfl (by kernel_rfl)) (EqV.str 0 Try.underlying9) EqFs.nil)))))) rfl rfl) ?_
          refine D.p (ls' := [true, true, true, true, true, true, true, true, true, true, true, true, true, true, true, true, true, true, true, true, true, true, true, false, false, false, false]) 22 rfl rfl rfl rfl (by kernel_rfl) rfl (Y.pickT rfl rfl) ?_
          refine D.p (ls' := [true, true, true, true, true, true, true, true, true, true, true, true, true, true, true, true, true, true, true, true, true, true, true, true, false, false, false]) 23 rfl rfl rfl rfl (by kernel_rfl) rfl (Y.mv rfl) ?_
          refine split2 H (fun c34 H => ?_) (fun c34 H => ?_)
          · refine D.as (k := 49) rfl (congrArg Value.bool (decide_eq_true c34)) ?_
            refine D.p (ls' := [true, true, true, true, true, true, true, true, true, true, true, true, true, true, true, true, true, true, true, true, true, true, true, true, true, false, false]) 24 rfl rfl rfl rfl (by kernel_rfl) rfl (Y.mv rfl) ?_
            refine D.p (ls' := [true, true, true, true, true, true, true, true, true, true, true, true, true, true, true, true, true, true, true, true, true, true, true, true, true, true, false]) 25 rfl rfl rfl rfl (by kernel_rfl) rfl (Y.pickT rfl rfl) ?_
            refine D.p (ls' := [true, true, true, true, true, true, true, true, true, true, true, true, true, true, true, true, true, true, true, true, true, true, true, true, true, true, true]) 26 rfl rfl rfl rfl (by kernel_rfl) rfl (Y.asg rfl) ?_
            refine D.nil (by kernel_rfl) ?_
            refine N.nx ?_
            refine C.ret ?_
            obtain rfl := Option.some.inj H
            exact ret_ok (ks := [0]) rfl rfl (fun w h => ⟨rfl, (St.pick [] [_, _, _, _] h rfl)⟩)
          · refine D.as (k := 49) rfl (congrArg Value.bool (decide_eq_false c34)) ?_
            refine D.off (ls' := [true, true, true, true, true, true, true, true, true, true, true, true, true, true, true, true, true, true, true, true, true, true, true, true, true, false, false]) 24 rfl rfl rfl rfl (by kernel_rfl) rfl ?_
            refine D.p (ls' := [true, true, true, true, true, true, true, true, true, true, true, true, true, true, true, true, true, true, true, true, true, true, true, true, true, true, false]) 25 rfl rfl rfl rfl (by kernel_rfl) rfl (Y.pickF rfl rfl) ?_
            refine D.p (ls' := [true, true, true, true, true, true, true, true, true, true, true, true, true, true, true, true, true, true, true, true, true, true, true, true, true, true, true]) 26 rfl rfl rfl rfl (by kernel_rfl) rfl (Y.asg rfl) ?_
            refine D.nil (by kernel_rfl) ?_
            refine N.nx ?_
            refine C.ret ?_
            obtain rfl := Option.some.inj H
            exact ret_ok (ks := [0]) rfl rfl (fun w h => ⟨rfl, (St.pick [] [_, _, _, _] h rfl)⟩)
        · refine D.as (k := 42) rfl (congrArg Value.bool (decide_eq_false c29)) ?_
          refine D.off (ls' := [true, true, true, true, true, true, true, true, true, true, true, true, true, true, true, true, true, true, false, false, false, false, false, false, false, false, false]) 17 rfl rfl rfl rfl (by kernel_rfl) rfl ?_
          refine D.off (ls' := [true, true, true, true, true, true, true, true, true, true, true, true, true, true, true, true, true, true, true, false, false, false, false, false, false, false, false]) 18 rfl rfl rfl rfl (by kernel_rfl) rfl ?_
          refine D.off (ls' := [true, true, true, true, true, true, true, true, true, true, true, true, true, true, true, true, true, true, true, true, false, false, false, false, false, false, false]) 19 rfl rfl rfl rfl (by kernel_rfl) rfl ?_
          refine D.off (ls' := [true, true, true, true, true, true, true, true, true, true, true, true, true, true, true, true, true, true, true, true, true, false, false, false, false, false, false]) 20 rfl rfl rfl rfl (by kernel_rfl) rfl ?_
          refine D.off (ls' := [true, true, true, true, true, true, true, true, true, true, true, true, true, true, true, true, true, true, true, true, true, true, false, false, false, false, false]) 21 rfl rfl rfl rfl (by kernel_rfl) rfl ?_
          refine D.p (ls' := [true, true, true, true, true, true, true, true, true, true, true, true, true, true, true, true, true, true, true, true, true, true, true, false, false, false, false]) 22 rfl rfl rfl rfl (by kernel_rfl) rfl (Y.pickF rfl rfl) ?_
          refine D.p (ls' := [true, true, true, true, true, true, true, true, true, true, true, true, true, true, true, true, true, true, true, true, true, true, true, true, false, false, false]) 23 rfl rfl rfl rfl (by kernel_rfl) rfl (Y.mv rfl) ?_
          refine D.off (ls' := [true, true, true, true, true, true, true, true, true, true, true, true, true, true, true, true, true, true, true, true, true, true, true, true, true, false, false]) 24 rfl rfl rfl rfl (by kernel_rfl) rfl ?_
          refine D.p (ls' := [true, true, true, true, true, true, true, true, true, true, true, true, true, true, true, true, true, true, true, true, true, true, true, true, true, true, false]) 25 rfl rfl rfl rfl (by kernel_rfl) rfl (Y.pickF rfl rfl) ?_
          refine D.p (ls' := [true, true, true, true, true, true, true, true, true, true, true, true, true, true, true, true, true, true, true, true, true, true, true, true, true, true, true]) 26 rfl rfl rfl rfl (by kernel_rfl) rfl (Y.asg rfl) ?_
          refine D.nil (by kernel_rfl) ?_
          refine N.nx ?_
          refine C.ret ?_
          obtain rfl := Option.some.inj H
          exact ret_ok (ks := [0]) rfl rfl (fun w h => ⟨rfl, (St.pick [] [_, _, _, _] h rfl)⟩)
      · refine D.as (k := 37) rfl (congrArg Value.bool (decide_eq_false c28)) ?_
        refine D.off (ls' := [true, true, true, true, true, true, true, true, true, true, true, true, true, false, false, false, false, false, false, false, false, false, false, false, false, false, false]) 12 rfl rfl rfl rfl (by kernel_rfl) rfl ?_
        refine D.off (ls' := [true, true, true, true, true, true, true, true, true, true, true, true, true, true, false, false, false, false, false, false, false, false, false, false, false, false, false]) 13 rfl rfl rfl rfl (by kernel_rfl) rfl ?_
        refine D.off (ls' := [true, true, true, true, true, true, true, true, true, true, true, true, true, true, true, false, false, false, false, false, false, false, false, false, false, false, false]) 14 rfl rfl rfl rfl (by kernel_rfl) rfl ?_
        refine D.p (ls' := [true, true, true, true, true, true, true, true, true, true, true, true, true, true, true, true, false, false, false, false, false, false, false, false, false, false, false]) 15 rfl rfl rfl rfl (by kernel_rfl) rfl (Y.pickF rfl rfl) ?_
        refine D.p (ls' := [true, true, true, true, true, true, true, true, true, true, true, true, true, true, true, true, true, false, false, false, false, false, false, false, false, false, false]) 16 rfl rfl rfl rfl (by kernel_rfl) rfl (Y.mv rfl) ?_
        refine D.off (ls' := [true, true, true, true, true, true, true, true, true, true, true, true, true, true, true, true, true, true, false, false, false, false, false, false, false, false, false]) 17 rfl rfl rfl rfl (by kernel_rfl) rfl ?_
        refine D.off (ls' := [true, true, true, true, true, true, true, true, true, true, true, true, true, true, true, true, true, true, true, false, false, false, false, false, false, false, false]) 18 rfl rfl rfl rfl (by kernel_rfl) rfl ?_
        refine D.off (ls' := [true, true, true, true, true, true, true, true, true, true, true, true, true, true, true, true, true, true, true, true, false, false, false, false, false, false, false]) 19 rfl rfl rfl rfl (by kernel_rfl) rfl ?_
        refine D.off (ls' := [true, true, true, true, true, true, true, true, true, true, true, true, true, true, true, true, true, true, true, true, true, false, false, false, false, false, false]) 20 rfl rfl rfl rfl (by kernel_rfl) rfl ?_
        refine D.off (ls' := [true, true, true, true, true, true, true, true, true, true, true, true, true, true, true, true, true, true, true, true, true, true, false, false, false, false, false]) 21 rfl rfl rfl rfl (by kernel_rfl) rfl ?_
        refine D.p (ls' := [true, true, true, true, true, true, true, true, true, true, true, true, true, true, true, true, true, true, true, true, true, true, true, false, false, false, false]) 22 rfl rfl rfl rfl (by kernel_rfl) rfl (Y.pickF rfl rfl) ?_
        refine D.p (ls' := [true, true, true, true, true, true, true, true, true, true, true, true, true, true, true, true, true, true, true, true, true, true, true, true, false, false, false]) 23 rfl rfl rfl rfl (by kernel_rfl) rfl (Y.mv rfl) ?_
        refine D.off (ls' := [true, true, true, true, true, true, true, true, true, true, true, true, true, true, true, true, true, true, true, true, true, true, true, true, true, false, false]) 24 rfl rfl rfl rfl (by kernel_rfl) rfl ?_
        refine D.p (ls' := [true, true, true, true, true, true, true, true, true, true, true, true, true, true, true, true, true, true, true, true, true, true, true, true, true, true, false]) 25 rfl rfl rfl rfl (by kernel_rfl) rfl (Y.pickF rfl rfl) ?_
        refine D.p (ls' := [true, true, true, true, true, true, true, true, true, true, true, true, true, true, true, true, true, true, true, true, true, true, true, true, true, true, true]) 26 rfl rfl rfl rfl (by kernel_rfl) rfl (Y.asg rfl) ?_
        refine D.nil (by kernel_rfl) ?_
        refine N.nx ?_
        refine C.ret ?_
        obtain rfl := Option.some.inj H
        exact ret_ok (ks := [0]) rfl rfl (fun w h => ⟨rfl, (St.pick [] [_, _, _, _] h rfl)⟩)
    · refine D.as (k := 33) rfl (congrArg Value.bool (decide_eq_false c27)) ?_
      refine D.off (ls' := [true, true, true, true, true, true, true, true, true, false, false, false, false, false, false, false, false, false, false, false, false, false, false, false, false, false, false]) 8 rfl rfl rfl rfl (by kernel_rfl) rfl ?_
      refine D.off (ls' := [true, true, true, true, true, true, true, true, true, true, false, false, false, false, false, false, false, false, false, false, false, false, false, false, false, false, false]) 9 rfl rfl rfl rfl (by kernel_rfl) rfl ?_
      refine D.p (ls' := [true, true, true, true, true, true, true, true, true, true, true, false, false, false, false, false, false, false, false, false, false, false, false, false, false, false, false]) 10 rfl rfl rfl rfl (by kernel_rfl) rfl (Y.pickF rfl rfl) ?_
      refine D.p (ls' := [true, true, true, true, true, true, true, true, true, true, true, true, false, false, false, false, false, false, false, false, false, false, false, false, false, false, false]) 11 rfl rfl rfl rfl (by kernel_rfl) rfl (Y.mv rfl) ?_
      refine D.off (ls' := [true, true, true, true, true, true, true, true, true, true, true, true, true, false, false, false, false, false, false, false, false, false, false, false, false, false, false]) 12 rfl rfl rfl rfl (by kernel_rfl) rfl ?_
      refine D.off (ls' := [true, true, true, true, true, true, true, true, true, true, true, true, true, true, false, false, false, false, false, false, false, false, false, false, false, false, false]) 13 rfl rfl rfl rfl (by kernel_rfl) rfl ?_
      refine D.off (ls' := [true, true, true, true, true, true, true, true, true, true, true, true, true, true, true, false, false, false, false, false, false, false, false, false, false, false, false]) 14 rfl rfl rfl rfl (by kernel_rfl) rfl ?_
      refine D.p (ls' := [true, true, true, true, true, true, true, true, true, true, true, true, true, true, true, true, false, false, false, false, false, false, false, false, false, false, false]) 15 rfl rfl rfl rfl (by kernel_rfl) rfl (Y.pickF rfl rfl) ?_
      refine D.p (ls' := [true, true, true, true, true, true, true, true, true, true, true, true, true, true, true, true, true, false, false, false, false, false, false, false, false, false, false]) 16 rfl rfl rfl rfl (by kernel_rfl) rfl (Y.mv rfl) ?_
      refine D.off (ls' := [true, true, true, true, true, true, true, true, true, true, true, true, true, true, true, true, true, true, false, false, false, false, false, false, false, false, false]) 17 rfl rfl rfl rfl (by kernel_rfl) rfl ?_
      refine D.off (ls' := [true, true, true, true, true, true, true, true, true, true, true, true, true, true, true, true, true, true, true, false, false, false, false, false, false, false, false]) 18 rfl rfl rfl rfl (by kernel_rfl) rfl ?_
      refine D.off (ls' := [true, true, true, true, true, true, true, true, true, true, true, true, true, true, true, true, true, true, true, true, false, false, false, false, false, false, false]) 19 rfl rfl rfl rfl (by kernel_rfl) rfl ?_
      refine D.off (ls' := [true, true, true, true, true, true, true, true, true, true, true, true, true, true, true, true, true, true, true, true, true, false, false, false, false, false, false]) 20 rfl rfl rfl rfl (by kernel_rfl) rfl ?_
      refine D.off (ls' := [true, true, true, true, true, true, true, true, true, true, true, true, true, true, true, true, true, true, true, true, true, true, false, false, false, false, false]) 21 rfl rfl rfl rfl (by kernel_rfl) rfl ?_
      refine D.p (ls' := [true, true, true, true, true, true, true, true, true, true, true, true, true, true, true, true, true, true, true, true, true, true, true, false, false, false, false]) 22 rfl rfl rfl rfl (by kernel_rfl) rfl (Y.pickF rfl rfl) ?_
      refine D.p (ls' := [true, true, true, true, true, true, true, true, true, true, true, true, true, true, true, true, true, true, true, true, true, true, true, true, false, false, false]) 23 rfl rfl rfl rfl (by kernel_rfl) rfl (Y.mv rfl) ?_
      refine D.off (ls' := [true, true, true, true, true, true, true, true, true, true, true, true, true, true, true, true, true, true, true, true, true, true, true, true, true, false, false]) 24 rfl rfl rfl rfl (by kernel_rfl) rfl ?_
      refine D.p (ls' := [true, true, true, true, true, true, true, true, true, true, true, true, true, true, true, true, true, true, true, true, true, true, true, true, true, true, false]) 25 rfl rfl rfl rfl (by kernel_rfl) rfl (Y.pickF rfl rfl) ?_
      refine D.p (ls' := [true, true, true, true, true, true, true, true, true, true, true, true, true, true, true, true, true, true, true, true, true, true, true, true, true, true, true]) 26 rfl rfl rfl rfl (by kernel_rfl) rfl (Y.asg rfl) ?_
      refine D.nil (by kernel_rfl) ?_
      refine N.nx ?_
      refine C.ret ?_
      obtain rfl := Option.some.inj H
      exact ret_ok (ks := [0]) rfl rfl (fun w h => ⟨rfl, (St.pick [] [_, _, _, _] h rfl)⟩)
  · refine D.as (k := 29) rfl (congrArg Value.bool (decide_eq_false c26)) ?_
    refine D.off (ls' := [true, true, true, true, true, false, false, false, false, false, false, false, false, false, false, false, false, false, false, false, false, false, false, false, false, false, false]) 4 rfl rfl rfl rfl (by kernel_rfl) rfl ?_
    refine D.off (ls' := [true, true, true, true, true, true, false, false, false, false, false, false, false, false, false, false, false, false, false, false, false, false, false, false, false, false, false]) 5 rfl rfl rfl rfl (by kernel_rfl) rfl ?_
    refine D.p (ls' := [true, true, true, true, true, true, true, false, false, false, false, false, false, false, false, false, false, false, false, false, false, false, false, false, false, false, false]) 6 rfl rfl rfl rfl (by kernel_rfl) rfl (Y.pickF rfl rfl) ?_
    refine D.p (ls' := [true, true, true, true, true, true, true, true, false, false, false, false, false, false, false, false, false, false, false, false, false, false, false, false, false, false, false]) 7 rfl rfl rfl rfl (by kernel_rfl) rfl (Y.mv rfl) ?_
    refine D.off (ls' := [true, true, true, true, true, true, true, true, true, false, false, false, false, false, false, false, false, false, false, false, false, false, false, false, false, false, false]) 8 rfl rfl rfl rfl (by kernel_rfl) rfl ?_
    refine D.off (ls' := [true, true, true, true, true, true, true, true, true, true, false, false, false, false, false, false, false, false, false, false, false, false, false, false, false, false, false]) 9 rfl rfl rfl rfl (by kernel_rfl) rfl ?_
    refine D.p (ls' := [true, true, true, true, true, true, true, true, true, true, true, false, false, false, false, false, false, false, false, false, false, false, false, false, false, false, false]) 10 rfl rfl rfl rfl (by kernel_rfl) rfl (Y.pickF rfl rfl) ?_
    refine D.p (ls' := [true, true, true, true, true, true, true, true, true, true, true, true, false, false, false, false, false, false, false, false, false, false, false, false, false, false, false]) 11 rfl rfl rfl rfl (by kernel_rfl) rfl (Y.mv rfl) ?_
    refine D.off (ls' := [true, true, true, true, true, true, true, true, true, true, true, true, true, false, false, false, false, false, false, false, false, false, false, false, false, false, false]) 12 rfl rfl rfl rfl (by kernel_rfl) rfl ?_
    refine D.off (ls' := [true, true, true, true, true, true, true, true, true, true, true, true, true, true, false, false, false, false, false, false, false, false, false, false, false, false, false]) 13 rfl rfl rfl rfl (by kernel_rfl) rfl ?_
    refine D.off (ls' := [true, true, true, true, true, true, true, true, true, true, true, true, true, true, true, false, false, false, false, false, false, false, false, false, false, false, false]) 14 rfl rfl rfl rfl (by kernel_rfl) rfl ?_
    refine D.p (ls' := [true, true, true, true, true, true, true, true, true, true, true, true, true, true, true, true, false, false, false, false, false, false, false, false, false, false, false]) 15 rfl rfl rfl rfl (by kernel_rfl) rfl (Y.pickF rfl rfl) ?_
    refine D.p (ls' := [true, true, true, true, true, true, true, true, true, true, true, true, true, true, true, true, true, false, false, false, false, false, false, false, false, false, false]) 16 rfl rfl rfl rfl (by kernel_rfl) rfl (Y.mv rfl) ?_
    refine D.off (ls' := [true, true, true, true, true, true, true, true, true, true, true, true, true, true, true, true, true, true, false, false, false, false, false, false, false, false, false]) 17 rfl rfl rfl rfl (by kernel_rfl) rfl ?_
    refine D.off (ls' := [true, true, true, true, true, true, true, true, true, true, true, true, true, true, true, true, true, true, true, false, false, false, false, false, false, false, false]) 18 rfl rfl rfl rfl (by kernel_rfl) rfl ?_
    refine D.off (ls' := [true, true, true, true, true, true, true, true, true, true, true, true, true, true, true, true, true, true, true, true, false, false, false, false, false, false, false]) 19 rfl rfl rfl rfl (by kernel_rfl) rfl ?_
    refine D.off (ls' := [true, true, true, true, true, true, true, true, true, true, true, true, true, true, true, true, true, true, true, true, true, false, false, false, false, false, false]) 20 rfl rfl rfl rfl (by kernel_rfl) rfl ?_
    refine D.off (ls' := [true, true, true, true, true, true, true, true, true, true, true, true, true, true, true, true, true, true, true, true, true, true, false, false, false, false, false]) 21 rfl rfl rfl rfl (by kernel_rfl) rfl ?_
    refine D.p (ls' := [true, true, true, true, true, true, true, true, true, true, true, true, true, true, true, true, true, true, true, true, true, true, true, false, false, false, false]) 22 rfl rfl rfl rfl (by kernel_rfl) rfl (Y.pickF rfl rfl) ?_
    refine D.p (ls' := [true, true, true, true, true, true, true, true, true, true, true, true, true, true, true, true, true, true, true, true, true, true, true, true, false, false, false]) 23 rfl rfl rfl rfl (by kernel_rfl) rfl (Y.mv rfl) ?_
    refine D.off (ls' := [true, true, true, true, true, true, true, true, true, true, true, true, true, true, true, true, true, true, true, true, true, true, true, true, true, false, false]) 24 rfl rfl rfl rfl (by kernel_rfl) rfl ?_
    refine D.p (ls' := [true, true, true, true, true, true, true, true, true, true, true, true, true, true, true, true, true, true, true, true, true, true, true, true, true, true, false]) 25 rfl rfl rfl rfl (by kernel_rfl) rfl (Y.pickF rfl rfl) ?_
    refine D.p (ls' := [true, true, true, true, true, true, true, true, true, true, true, true, true, true, true, true, true, true, true, true, true, true, true, true, true, true, true]) 26 rfl rfl rfl rfl (by kernel_rfl) rfl (Y.asg rfl) ?_
    refine D.nil (by kernel_rfl) ?_
    refine N.nx ?_
    refine C.ret ?_
    obtain rfl := Option.some.inj H
    exact ret_ok (ks := [0]) rfl rfl (fun w h => ⟨rfl, (St.pick [] [_, _, _, _] h rfl)⟩)
/-! ### salvor/salvorlaw10.samePointers: function 19 -/
def samePointers.l1 (a0 : List T44_) (a1 : List T44_) : Nat → (Int) → Option ((Bool) ⊕ (Unit))
  | 0, _ => none
  | k + 1, i55 => if i55 < (a0.length : Int) then (gd ((0 : Int) ≤ i55 ∧ i55 < (a0.length : Int)) (gd ((0 : Int) ≤ i55 ∧ i55 < (a0.length : Int)) (gd ((0 : Int) ≤ i55 ∧ i55 < (a1.length : Int)) (gd ((0 : Int) ≤ i55 ∧ i55 < (a1.length : Int)) (if ((rd a0 i55).1) = ((rd a1 i55).1) ∧ ((rd a0 i55).2.1) = ((rd a1 i55).2.1) ∧ ((rd a0 i55).2.2.1) = ((rd a1 i55).2.2.1) ∧ ((rd a0 i55).2.2.2.1) = ((rd a1 i55).2.2.2.1) ∧ ((rd a0 i55).2.2.2.2) = ((rd a1 i55).2.2.2.2) ∧ True then (samePointers.l1 a0 a1 k (IntKind.wrap .i64 (i55 + 1))) else (some (.inl (false)))))))) else (some (.inr ()))
def samePointers.f (K : Nat) (a0 : List T44_) (a1 : List T44_) : Option (Bool) := if (a0.length : Int) ≠ (a1.length : Int) then (some false) else (thn (samePointers.l1 a0 a1 K 0) fun o28 => some true)
theorem samePointers.calls {B : Nat} {w0 : World} {G : List HP} (K : Nat) (a0 : List T44_) (a1 : List T44_) (Aa0 : Option Addr) (ca0 : Nat) (Aa1 : Option Addr) (ca1 : Nat) (ha0 : RdG B w0 G Aa0 (a0.flatMap encT44_)) (ka0 : a0.length ≤ ca0) (ha1 : RdG B w0 G Aa1 (a1.flatMap encT44_)) (ka1 : a1.length ≤ ca1) (r : Bool) (H : samePointers.f K a0 a1 = some r) (w : World) (hw : St B w0 (G) w) :
    Calls Try.prog 19 [.slice Aa0 a0.length ca0, .slice Aa1 a1.length ca1].toArray w (fun e w' => e = .returned (.bool r) ∧ St B w0 (G) w') := by
  unfold samePointers.f at H
  refine calls_of (n := 26) (s := [(0, .slice Aa0 a0.length ca0), (1, .slice Aa1 a1.length ca1)]) Try.func19 rfl rfl rfl rfl ?_ hw
  refine C.rs ?_
  refine J.p rfl rfl rfl rfl (Y.asg rfl) ?_
  refine J.nx ?_
  refine C.seq ?_
  refine C.rs ?_
  refine J.p rfl rfl rfl rfl (Y.mv rfl) ?_
  refine J.p rfl rfl rfl rfl (Y.lenS Try.underlying36 rfl) ?_
  refine J.p rfl rfl rfl rfl (Y.mv rfl) ?_
  refine J.p rfl rfl rfl rfl (Y.lenS Try.underlying36 rfl) ?_
  refine J.p rfl rfl rfl rfl (Y.bin rfl rfl rfl) ?_
  refine J.nx ?_
  refine split2 H (fun c1 H => ?_) (fun c1 H => ?_)
  · refine C.condT (congrArg (fun b => some (Value.bool b)) (decide_eq_true c1)) ?_
    refine C.rs ?_
    refine J.p rfl rfl rfl rfl (Y.asg rfl) ?_
    refine J.nx ?_
    refine C.ret ?_
    obtain rfl := Option.some.inj H
    refine T.th ?_
    exact ret_ok (ks := [4]) rfl rfl (fun w h => ⟨rfl, h⟩)
  · refine C.condF (congrArg (fun b => some (Value.bool b)) (decide_eq_false c1)) ?_
    refine C.skip ?_
    refine N.nx ?_
    refine C.seq ?_
    refine C.rs ?_
    refine J.p rfl rfl rfl rfl (Y.asg rfl) ?_
    refine J.nx ?_
    refine C.joinNR H (fun (o28 : Unit) (j29 : Unit) => []) (fun (o28 : Unit) (j29 : Unit) => G) (fun (o28 : Unit) (j29 : Unit) => True) (fun o26 H HK27 => ?_) (fun o28 j29 H _ => ?_)
    · refine C.blk ?_
      refine C.loop (fun (i : Nat × (Int) × (Unit)) => [(0, .slice Aa0 a0.length ca0), (1, .slice Aa1 a1.length ca1), (5, .int .i64 i.2.1)]) (fun (i : Nat × (Int) × (Unit)) => G) (fun (i : Nat × (Int) × (Unit)) => samePointers.l1 a0 a1 i.1 i.2.1 = some o26 ∧ (True)) (fun i => i.1) (K, 0, ()) ⟨H, trivial⟩ (by exact ⟨rfl, rfl, rfl, trivial⟩) (by exact fun w h => h) ?_
      rintro ⟨k67, i55, j56⟩ ⟨H, _⟩
      replace H : samePointers.l1 a0 a1 k67 i55 = some o26 := H
      obtain ⟨k54, rfl⟩ : ∃ m, k67 = m + 1 := by cases k67 with | zero => exact absurd H (by simp [samePointers.l1]) | succ m => exact ⟨m, rfl⟩
      rw [samePointers.l1] at H
      refine C.at (s' := [(0, .slice Aa0 a0.length ca0), (1, .slice Aa1 a1.length ca1), (5, .int .i64 i55)]) (G' := G) rfl rfl ?_
      refine C.seq ?_
      refine C.rs ?_
      refine J.p rfl rfl rfl rfl (Y.mv rfl) ?_
      refine J.p rfl rfl rfl rfl (Y.mv rfl) ?_
      refine J.p rfl rfl rfl rfl (Y.lenS Try.underlying36 rfl) ?_
      refine J.p rfl rfl rfl rfl (Y.bin rfl rfl rfl) ?_
      refine J.nx ?_
      refine split2 H (fun c57 H => ?_) (fun c57 H => ?_)
      · refine C.condT (congrArg (fun b => some (Value.bool b)) (decide_eq_true c57)) ?_
        refine C.skip ?_
        refine N.nx ?_
        refine C.seq ?_
        refine C.blk ?_
        refine C.seq ?_
        refine C.drawn (fuel := 9) (ls := [false, false, false, false, false, false, false, false, false]) [] (G) mx rfl rfl ?_
        refine D.p (ls' := [true, false, false, false, false, false, false, false, false]) 0 rfl rfl rfl rfl (by kernel_rfl) rfl (Y.mv rfl) ?_
        refine D.p (ls' := [true, true, false, false, false, false, false, false, false]) 1 rfl rfl rfl rfl (by kernel_rfl) rfl (Y.mv rfl) ?_
        obtain ⟨p60, H⟩ := gd_some H
        refine D.know (RdG.someM lenT44_ (by decide) ha0 p60) (fun hh => ?_)
        obtain ⟨a58, ha59⟩ := hh
        refine D.p (ls' := [true, true, true, false, false, false, false, false, false]) 2 rfl rfl rfl rfl (by kernel_rfl) rfl (Y.ixa Try.underlying36 ti44 rfl rfl p60 ha59) ?_
        obtain ⟨p61, H⟩ := gd_some H
        refine D.r (ls' := [true, true, true, true, false, false, false, false, false]) 3 1 0 rfl rfl rfl rfl (by kernel_rfl) (by kernel_rfl) rfl rfl (Y.ldM (us := [.int .u64 ((rd a0 i55).1), .int .i64 ((rd a0 i55).2.1), .int .i64 ((rd a0 i55).2.2.1), .int .i64 ((rd a0 i55).2.2.2.1), .string ((rd a0 i55).2.2.2.2)]) lenT44_ Try.underlying44 rfl ti44 rfl ha59 p61 ha0 rfl) ?_
        refine D.p (ls' := [true, true, true, true, true, false, false, false, false]) 4 rfl rfl rfl rfl (by kernel_rfl) rfl (Y.mv rfl) ?_
        refine D.p (ls' := [true, true, true, true, true, true, false, false, false]) 5 rfl rfl rfl rfl (by kernel_rfl) rfl (Y.mv rfl) ?_
        obtain ⟨p64, H⟩ := gd_some H
        refine D.know (RdG.someM lenT44_ (by decide) ha1 p64) (fun hh => ?_)
        obtain ⟨a62, ha63⟩ := hh
        refine D.p (ls' := [true, true, true, true, true, true, true, false, false]) 6 rfl rfl rfl rfl (by kernel_rfl) rfl (Y.ixa Try.underlying36 ti44 rfl rfl p64 ha63) ?_
        obtain ⟨p65, H⟩ := gd_some H
        refine D.r (ls' := [true, true, true, true, true, true, true, true, false]) 7 1 0 rfl rfl rfl rfl (by kernel_rfl) (by kernel_rfl) rfl rfl (Y.ldM (us := [.int .u64 ((rd a1 i55).1), .int .i64 ((rd a1 i55).2.1), .int .i64 ((rd a1 i55).2.2.1), .int .i64 ((rd a1 i55).2.2.2.1), .string ((rd a1 i55).2.2.2.2)]) lenT44_ Try.underlying44 rfl ti44 rfl ha63 p65 ha1 rfl) ?_
        refine D.p (ls' := [true, true, true, true, true, true, true, true, true]) 8 rfl rfl rfl rfl (by kernel_rfl) rfl (Y.nest Try.eqGuardType44 rfl (EqV.struct Try.underlying44 Try.stoodInHeld44 (EqFs.cons rfl (part_one (v := .int .u64 ((rd a0 i55).1)) Try.underlying41 rfl (by kernel_rfl)) (part_one (v := .int .u64 ((rd a1 i55).1)) Try.underlying41 rfl (by kernel_rfl)) (EqV.int 0 Try.underlying41) (EqFs.cons rfl (part_one (v := .int .i64 ((rd a0 i55).2.1)) Try.underlying42 rfl (by kernel_rfl)) (part_one (v := .int .i64 ((rd a1 i55).2.1)) Try.underlying42 rfl (by kernel_rfl)) (EqV.int 0 Try.underlying42) (EqFs.cons rfl (part_one (v := .int .i64 ((rd a0 i55).2.2.1)) Try.underlying3 rfl (by kernel_rfl)) (part_one (v := .int .i64 ((rd a1 i55).2.2.1)) Try.underlying3 rfl (by kernel_rfl)) (EqV.int 0 Try.underlying3) (EqFs.cons rfl (part_one (v := .int .i64 ((rd a0 i55).2.2.2.1)) Try.underlying3 rfl (by kernel_rfl)) (part_one (v := .int .i64 ((rd a1 i55).2.2.2.1)) Try.underlying3 rfl (by kernel_rfl)) (EqV.int 0 Try.underlying3) (EqFs.cons rfl (part_one (v := .string ((rd a0 i55).2.2.2.2)) Try.underlying9 rfl (by kernel_rfl)) (part_one (v := .string ((rd a1 i55).2.2.2.2)) Try.underlying9 rfl (by kernel_rfl)) (EqV.str 0 Try.underlying9) EqFs.nil)))))) rfl rfl) ?_
        refine D.nil (by kernel_rfl) ?_
        refine N.nx ?_
        refine split2 H (fun c66 H => ?_) (fun c66 H => ?_)
        · refine C.condF (congrArg (fun b => some (Value.bool b)) (congrArg Bool.not (decide_eq_true c66))) ?_
          refine C.skip ?_
          refine N.ib ?_
          refine N.nx ?_
          refine C.reg ?_
          refine J.p rfl rfl rfl rfl (Y.mv rfl) ?_
          refine J.p rfl rfl rfl rfl (Y.bin rfl rfl rfl) ?_
          refine J.p rfl rfl rfl rfl (Y.asg rfl) ?_
          refine J.nil ?_
          exact N.again (k54, IntKind.wrap .i64 (i55 + 1), ()) ⟨H, trivial⟩ (Nat.lt_succ_self _) (by exact ⟨rfl, rfl, rfl, trivial⟩) (by exact fun w h => h)
        · refine C.condT (congrArg (fun b => some (Value.bool b)) (congrArg Bool.not (decide_eq_false c66))) ?_
          refine C.rs ?_
          refine J.p rfl rfl rfl rfl (Y.asg rfl) ?_
          refine J.nx ?_
          refine C.ret ?_
          obtain rfl := Option.some.inj H
          obtain rfl := fin_inl HK27
          refine T.ib ?_
          refine T.th ?_
          refine T.th ?_
          refine T.ib ?_
          refine T.th ?_
          refine T.th ?_
          exact ret_ok (ks := [4]) rfl rfl (fun w h => ⟨rfl, h⟩)
      · refine C.condF (congrArg (fun b => some (Value.bool b)) (decide_eq_false c57)) ?_
        refine C.exit ?_
        refine X.th ?_
        refine X.th ?_
        refine X.hit ?_
        obtain rfl := Option.some.inj H
        exact N.meet ((), ()) ⟨fin_inr HK27, trivial⟩ (by exact trivial) (by exact fun w h => h)
    · refine N.at (s' := []) (G' := G) rfl rfl ?_
      refine N.nx ?_
      refine C.rs ?_
      refine J.p rfl rfl rfl rfl (Y.asg rfl) ?_
      refine J.nx ?_
      refine C.ret ?_
      obtain rfl := Option.some.inj H
      exact ret_ok (ks := [4]) rfl rfl (fun w h => ⟨rfl, h⟩)
/-! ### salvor/salvorlaw10.clean: function 25 -/
def clean.l1 (K : Nat) (a0 : List T50_) : Nat → ((List Int) × Int) → Option ((List Int))
  | 0, _ => none
  | k + 1, i119 => (if i119.2 < (a0.length : Int) then (some (decide ((i119.1.length : Int) ≤ 4194304))) else (some false)).bind fun o124 => if o124 = true then ((gd ((0 : Int) ≤ i119.2 ∧ i119.2 < (a0.length : Int)) (gd ((0 : Int) ≤ i119.2 ∧ i119.2 < (a0.length : Int)) ((fOf.f ((rd a0 i119.2).1) ((rd a0 i119.2).2.1) ((rd a0 i119.2).2.2.1) ((rd a0 i119.2).2.2.2)).bind fun t158 => (fEncode.f K t158.1 t158.2.1 t158.2.2.1 t158.2.2.2.1 t158.2.2.2.2.1 t158.2.2.2.2.2.1 t158.2.2.2.2.2.2.1 t158.2.2.2.2.2.2.2.1 t158.2.2.2.2.2.2.2.2.1 t158.2.2.2.2.2.2.2.2.2.1 t158.2.2.2.2.2.2.2.2.2.2.1 t158.2.2.2.2.2.2.2.2.2.2.2.1 t158.2.2.2.2.2.2.2.2.2.2.2.2.1 t158.2.2.2.2.2.2.2.2.2.2.2.2.2).bind fun t160 => if t160.2 = 0 then (gd ((i119.1.length + t160.1.length) * 1 ≤ 140737488355328) (some (i119.1 ++ t160.1))) else (some i119.1)))).bind fun o151 => clean.l1 K a0 k (o151, IntKind.wrap .i64 (i119.2 + 1))) else (some i119.1)
def clean.f (K : Nat) (a0 : List T50_) : Option ((List Int)) := (clean.l1 K a0 K (([] : List Int), 0)).bind fun o59 => some o59
theorem clean.calls {B : Nat} {w0 : World} {G : List HP} (K : Nat) (a0 : List T50_) (Aa0 : Option Addr) (ca0 : Nat) (ha0 : RdG B w0 G Aa0 (a0.flatMap encT50_)) (ka0 : a0.length ≤ ca0) (r : (List Int)) (H : clean.f K a0 = some r) (w : World) (hw : St B w0 (G) w) :
    Calls Try.prog 25 [.slice Aa0 a0.length ca0].toArray w (fun e w' => ∃ A0 c0, e = .returned (.slice A0 r.length c0) ∧ St B w0 (own 5 1 A0 c0 (r.map (Value.int .u8)) :: G) w') := by
  unfold clean.f at H
  refine calls_of (n := 33) (s := [(0, .slice Aa0 a0.length ca0)]) Try.func25 rfl rfl rfl rfl ?_ hw
  refine C.rs ?_
  refine J.p rfl rfl rfl rfl (Y.asg rfl) ?_
  refine J.nx ?_
  refine C.rs ?_
  refine J.p rfl rfl rfl rfl (Y.asg rfl) ?_
  refine J.nx ?_
  refine C.seq ?_
  refine C.rs ?_
  refine J.p rfl rfl rfl rfl (Y.asg rfl) ?_
  refine J.nx ?_
  refine C.joinN H (fun (o59 : (List Int)) (j60 : (Option Addr) × Nat) => [(3, .slice j60.1 o59.length j60.2)]) (fun (o59 : (List Int)) (j60 : (Option Addr) × Nat) => own 5 1 j60.1 j60.2 (o59.map (Value.int .u8)) :: G) (fun (o59 : (List Int)) (j60 : (Option Addr) × Nat) => True) (fun o57 H HK58 => ?_) (fun o59 j60 H _ => ?_)
  · refine C.blk ?_
    refine C.loop (fun (i : Nat × ((List Int) × Int) × ((Option Addr) × Nat)) => [(0, .slice Aa0 a0.length ca0), (3, .slice i.2.2.1 i.2.1.1.length i.2.2.2), (4, .int .i64 i.2.1.2)]) (fun (i : Nat × ((List Int) × Int) × ((Option Addr) × Nat)) => own 5 1 i.2.2.1 i.2.2.2 (i.2.1.1.map (Value.int .u8)) :: G) (fun (i : Nat × ((List Int) × Int) × ((Option Addr) × Nat)) => clean.l1 K a0 i.1 i.2.1 = some o57 ∧ (True)) (fun i => i.1) (K, (([] : List Int), 0), (none, 0)) ⟨H, trivial⟩ (by exact ⟨rfl, rfl, rfl, trivial⟩) (by exact fun w h => (h.nilOwn 5 1)) ?_
    rintro ⟨k172, i119, j120⟩ ⟨H, _⟩
    replace H : clean.l1 K a0 k172 i119 = some o57 := H
    obtain ⟨k118, rfl⟩ : ∃ m, k172 = m + 1 := by cases k172 with | zero => exact absurd H (by simp [clean.l1]) | succ m => exact ⟨m, rfl⟩
    rw [clean.l1] at H
    refine C.at (s' := [(0, .slice Aa0 a0.length ca0), (3, .slice j120.1 i119.1.length j120.2), (4, .int .i64 i119.2)]) (G' := own 5 1 j120.1 j120.2 (i119.1.map (Value.int .u8)) :: G) rfl rfl ?_
    refine C.seq ?_
    refine C.rs ?_
    refine J.joinB H (fun (o124 : Bool) (j125 : Unit) => [(0, .slice Aa0 a0.length ca0), (3, .slice j120.1 i119.1.length j120.2), (4, .int .i64 i119.2), (15, .bool o124)]) (fun (o124 : Bool) (j125 : Unit) => own 5 1 j120.1 j120.2 (i119.1.map (Value.int .u8)) :: G) (fun (o124 : Bool) (j125 : Unit) => True) (fun o126 H HK127 => ?_) (fun o124 j125 H _ => ?_)
    · refine J.p rfl rfl rfl rfl (Y.mv rfl) ?_
      refine J.p rfl rfl rfl rfl (Y.mv rfl) ?_
      refine J.p rfl rfl rfl rfl (Y.lenS Try.underlying58 rfl) ?_
      refine J.p rfl rfl rfl rfl (Y.bin rfl rfl rfl) ?_
      refine J.p rfl rfl rfl rfl (Y.mv rfl) ?_
      refine split2 H (fun c128 H => ?_) (fun c128 H => ?_)
      · refine J.as (k := 11) rfl (congrArg Value.bool (decide_eq_true c128)) ?_
        refine J.p rfl rfl rfl rfl (Y.mv rfl) ?_
        refine J.p rfl rfl rfl rfl (Y.lenS Try.underlying22 rfl) ?_
        refine J.p rfl rfl rfl rfl (Y.bin rfl rfl rfl) ?_
        refine J.p rfl rfl rfl rfl (Y.pickT rfl rfl) ?_
        refine J.nil ?_
        obtain rfl := Option.some.inj H
        generalize decide ((i119.1.length : Int) ≤ 4194304) = dd129 at HK127 ⊢
        exact N.meet (dd129, ()) ⟨HK127, trivial⟩ (by exact ⟨rfl, rfl, rfl, rfl, trivial⟩) (by exact fun w h => h)
      · refine J.as (k := 11) rfl (congrArg Value.bool (decide_eq_false c128)) ?_
        refine J.skip rfl rfl ?_
        refine J.skip rfl rfl ?_
        refine J.skip rfl rfl ?_
        refine J.p rfl rfl rfl rfl (Y.pickF rfl rfl) ?_
        refine J.nil ?_
        obtain rfl := Option.some.inj H
        exact N.meet (false, ()) ⟨HK127, trivial⟩ (by exact ⟨rfl, rfl, rfl, rfl, trivial⟩) (by exact fun w h => h)
    · refine C.at (s' := [(0, .slice Aa0 a0.length ca0), (3, .slice j120.1 i119.1.length j120.2), (4, .int .i64 i119.2), (15, .bool o124)]) (G' := own 5 1 j120.1 j120.2 (i119.1.map (Value.int .u8)) :: G) rfl rfl ?_
      refine split2 H (fun c130 H => ?_) (fun c130 H => ?_)
      · refine C.condT (congrArg (fun b => some (Value.bool b)) (c130)) ?_
        refine C.skip ?_
        refine N.nx ?_
        refine C.joinB H (fun (o151 : (List Int)) (j152 : (Option Addr) × Nat) => [(0, .slice Aa0 a0.length ca0), (3, .slice j152.1 o151.length j152.2), (4, .int .i64 i119.2)]) (fun (o151 : (List Int)) (j152 : (Option Addr) × Nat) => own 5 1 j152.1 j152.2 (o151.map (Value.int .u8)) :: G) (fun (o151 : (List Int)) (j152 : (Option Addr) × Nat) => True) (fun o149 H HK150 => ?_) (fun o151 j152 H _ => ?_)
        · refine C.blk ?_
          refine C.rs ?_
          refine J.p rfl rfl rfl rfl (Y.mv rfl) ?_
          refine J.p rfl rfl rfl rfl (Y.mv rfl) ?_
          obtain ⟨p156, H⟩ := gd_some H
          refine J.know (RdG.someM lenT50_ (by decide) (ha0.suf [_] rfl) p156) (fun hh => ?_)
          obtain ⟨a154, ha155⟩ := hh
          refine J.p rfl rfl rfl rfl (Y.ixa Try.underlying58 ti50 rfl rfl p156 ha155) ?_
          obtain ⟨p157, H⟩ := gd_some H
          refine J.r rfl rfl rfl rfl (Y.ldM (us := [.int .u64 ((rd a0 i119.2).1), .int .i64 ((rd a0 i119.2).2.1), .string ((rd a0 i119.2).2.2.1), .string ((rd a0 i119.2).2.2.2)]) lenT50_ Try.underlying50 rfl ti50 rfl ha155 p157 (ha0.suf [_] rfl) rfl) ?_
          obtain ⟨t158, hC159, H⟩ := bind_some H
          refine J.call (us := []) (cap := []) rfl rfl rfl go27 (fun w hw => by have hcc := fOf.calls ((rd a0 i119.2).1) ((rd a0 i119.2).2.1) ((rd a0 i119.2).2.2.1) ((rd a0 i119.2).2.2.2) t158 hC159 w hw; exact hcc) (fun e w1 h1 => ?_)
          obtain ⟨rfl, hw171⟩ := h1
          refine ⟨_, _, rfl, hw171, ?_⟩
          obtain ⟨t160, hC161, H⟩ := bind_some H
          refine J.call (us := []) (cap := []) rfl rfl rfl go22 (fun w hw => by have hcc := fEncode.calls K t158.1 t158.2.1 t158.2.2.1 t158.2.2.2.1 t158.2.2.2.2.1 t158.2.2.2.2.2.1 t158.2.2.2.2.2.2.1 t158.2.2.2.2.2.2.2.1 t158.2.2.2.2.2.2.2.2.1 t158.2.2.2.2.2.2.2.2.2.1 t158.2.2.2.2.2.2.2.2.2.2.1 t158.2.2.2.2.2.2.2.2.2.2.2.1 t158.2.2.2.2.2.2.2.2.2.2.2.2.1 t158.2.2.2.2.2.2.2.2.2.2.2.2.2 t160 hC161 w hw; exact hcc) (fun e w1 h1 => ?_)
          obtain ⟨A162, c163, rfl, hw170⟩ := h1
          refine ⟨_, _, rfl, hw170, ?_⟩
          refine J.p rfl rfl rfl rfl (Y.mv rfl) ?_
          refine J.p rfl rfl rfl rfl (Y.ext rfl rfl) ?_
          refine J.p rfl rfl rfl rfl (Y.ext rfl rfl) ?_
          refine J.p rfl rfl rfl rfl (Y.asg rfl) ?_
          refine J.p rfl rfl rfl rfl (Y.asg rfl) ?_
          refine J.nx ?_
          refine C.rs ?_
          refine J.p rfl rfl rfl rfl (Y.mv rfl) ?_
          refine J.p rfl rfl rfl rfl (Y.bin rfl rfl rfl) ?_
          refine J.nx ?_
          refine split2 H (fun c165 H => ?_) (fun c165 H => ?_)
          · refine C.condT (congrArg (fun b => some (Value.bool b)) (decide_eq_true c165)) ?_
            refine C.reg ?_
            refine J.p rfl rfl rfl rfl (Y.mv rfl) ?_
            refine J.p rfl rfl rfl rfl (Y.mv rfl) ?_
            refine J.pull 1 rfl rfl ?_
            obtain ⟨p168, H⟩ := gd_some H
            refine J.appL (enc := (Value.int .u8)) (xs := i119.1) (ys := t160.1) rfl Try.underlying22 ti5 rfl (by decide) rfl rfl (fun _ => rfl) (RdG.own 1 rfl) p168 (fun A166 c167 => ?_)
            refine J.pull 1 rfl rfl (J.drop ?_)
            refine J.p rfl rfl rfl rfl (Y.asg rfl) ?_
            refine J.nil ?_
            refine N.ib ?_
            obtain rfl := Option.some.inj H
            exact N.meet ((i119.1 ++ t160.1), (A166, c167)) ⟨HK150, trivial⟩ (by exact ⟨rfl, rfl, rfl, trivial⟩) (by exact fun w h => h)
          · refine C.condF (congrArg (fun b => some (Value.bool b)) (decide_eq_false c165)) ?_
            refine C.skip ?_
            refine N.ib ?_
            obtain rfl := Option.some.inj H
            exact N.meet (i119.1, (j120.1, j120.2)) ⟨HK150, trivial⟩ (by exact ⟨rfl, rfl, rfl, trivial⟩) (by exact fun w h => (St.pick [1] [_, _] h rfl))
        · refine C.at (s' := [(0, .slice Aa0 a0.length ca0), (3, .slice j152.1 o151.length j152.2), (4, .int .i64 i119.2)]) (G' := own 5 1 j152.1 j152.2 (o151.map (Value.int .u8)) :: G) rfl rfl ?_
          refine C.reg ?_
          refine J.p rfl rfl rfl rfl (Y.mv rfl) ?_
          refine J.p rfl rfl rfl rfl (Y.bin rfl rfl rfl) ?_
          refine J.p rfl rfl rfl rfl (Y.asg rfl) ?_
          refine J.nil ?_
          exact N.again (k118, (o151, IntKind.wrap .i64 (i119.2 + 1)), (j152.1, j152.2)) ⟨H, trivial⟩ (Nat.lt_succ_self _) (by exact ⟨rfl, rfl, rfl, trivial⟩) (by exact fun w h => h)
      · refine C.condF (congrArg (fun b => some (Value.bool b)) (nt c130)) ?_
        refine C.exit ?_
        refine X.th ?_
        refine X.th ?_
        refine X.hit ?_
        obtain rfl := Option.some.inj H
        exact N.meet (i119.1, (j120.1, j120.2)) ⟨HK58, trivial⟩ (by exact ⟨rfl, trivial⟩) (by exact fun w h => h)
  · refine N.at (s' := [(3, .slice j60.1 o59.length j60.2)]) (G' := own 5 1 j60.1 j60.2 (o59.map (Value.int .u8)) :: G) rfl rfl ?_
    refine N.nx ?_
    refine C.rs ?_
    refine J.p rfl rfl rfl rfl (Y.mv rfl) ?_
    refine J.p rfl rfl rfl rfl (Y.asg rfl) ?_
    refine J.nx ?_
    refine C.ret ?_
    obtain rfl := Option.some.inj H
    exact ret_ok (ks := [2]) rfl rfl (fun w h => ⟨j60.1, j60.2, rfl, h⟩)
end Go.Proofs.Ytmbhpcdamfdphaa
