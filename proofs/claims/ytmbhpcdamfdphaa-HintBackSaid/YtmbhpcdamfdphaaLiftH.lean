/- Own text, printed by the lifting program: each Go function beside a plain function, and the proof that a call of the one comes to the other. Conditions: what came in can be read. -/
import Derived.Test.YtmbhpcdamfdphaaLiftE
set_option linter.unusedVariables false
set_option linter.unusedSimpArgs false
set_option maxRecDepth 10000
set_option maxHeartbeats 4000000
namespace Go.Proofs.Ytmbhpcdamfdphaa
open Go Go.Sx
abbrev T44_ := Int × Int × Int × Int × ByteArray
abbrev encT44_ (x : T44_) : List Value := [.int .u64 x.1, .int .i64 x.2.1, .int .i64 x.2.2.1, .int .i64 x.2.2.2.1, .string x.2.2.2.2]
theorem lenT44_ : ∀ x : T44_, (encT44_ x).length = 5 := fun _ => rfl
theorem oneT44_ : ∀ (x : T44_), ∀ u ∈ encT44_ x, u.oneCell' = true := by intro x u hu; simp only [List.mem_cons, List.not_mem_nil, or_false] at hu; rcases hu with rfl | rfl | rfl | rfl | rfl <;> rfl
theorem ti36 : TI Try.prog 36 1 24 (.slice none 0 0) := TI.of (by kernel_rfl)
theorem ti77 : TI Try.prog 77 1 8 (.nilFunc) := TI.of (by kernel_rfl)
theorem pl35 : PL Try.prog 35 [(0, 1), (1, 1), (2, 1)] := PL.of Try.underlying35 (by kernel_rfl)
theorem pl44 : PL Try.prog 44 [(0, 1), (1, 1), (2, 1), (3, 1), (4, 1)] := PL.of Try.underlying44 (by kernel_rfl)
theorem pl52 : PL Try.prog 52 [(0, 1), (1, 3)] := PL.of Try.underlying52 (by kernel_rfl)
theorem go22 : GoF Try.prog 22 := GoF.of Try.func22 (by kernel_rfl) (by kernel_rfl)
theorem go36 : GoF Try.prog 36 := GoF.of Try.func36 (by kernel_rfl) (by kernel_rfl)
theorem go37 : GoF Try.prog 37 := GoF.of Try.func37 (by kernel_rfl) (by kernel_rfl)
theorem go38 : GoF Try.prog 38 := GoF.of Try.func38 (by kernel_rfl) (by kernel_rfl)
theorem go39 : GoF Try.prog 39 := GoF.of Try.func39 (by kernel_rfl) (by kernel_rfl)
theorem go44 : GoF Try.prog 44 := GoF.of Try.func44 (by kernel_rfl) (by kernel_rfl)
theorem go52 : GoF Try.prog 52 := GoF.of Try.func52 (by kernel_rfl) (by kernel_rfl)
theorem go75 : GoF Try.prog 75 := GoF.of Try.func75 (by kernel_rfl) (by kernel_rfl)
/-! ### salvor/hint.isRecord: function 39 -/
def isRecordH.f (a0 : Int) : Option (Bool) := if a0 = 1 then (some true) else (some (decide (a0 = 2)))
theorem isRecordH.calls {B : Nat} {w0 : World} {G : List HP} (a0 : Int) (r : Bool) (H : isRecordH.f a0 = some r) (w : World) (hw : St B w0 (G) w) :
    Calls Try.prog 39 [.int .i64 a0].toArray w (fun e w' => e = .returned (.bool r) ∧ St B w0 (G) w') := by
  unfold isRecordH.f at H
  refine calls_of (n := 9) (s := [(0, .int .i64 a0)]) Try.func39 rfl rfl rfl rfl ?_ hw
  refine C.rs ?_
  refine J.p rfl rfl rfl rfl (Y.asg rfl) ?_
  refine J.nx ?_
  refine C.rs ?_
  refine J.p rfl rfl rfl rfl (Y.mv rfl) ?_
  refine J.p rfl rfl rfl rfl (Y.bin rfl rfl rfl) ?_
  refine J.p rfl rfl rfl rfl (Y.mv rfl) ?_
  refine split2 H (fun c1 H => ?_) (fun c1 H => ?_)
  · refine J.as (k := 5) rfl (congrArg Value.bool (decide_eq_true c1)) ?_
    refine J.skip rfl rfl ?_
    refine J.skip rfl rfl ?_
    refine J.p rfl rfl rfl rfl (Y.pickT rfl rfl) ?_
    refine J.p rfl rfl rfl rfl (Y.asg rfl) ?_
    refine J.nx ?_
    refine C.ret ?_
    obtain rfl := Option.some.inj H
    exact ret_ok (ks := [2]) rfl rfl (fun w h => ⟨rfl, h⟩)
  · refine J.as (k := 5) rfl (congrArg Value.bool (decide_eq_false c1)) ?_
    refine J.p rfl rfl rfl rfl (Y.mv rfl) ?_
    refine J.p rfl rfl rfl rfl (Y.bin rfl rfl rfl) ?_
    refine J.p rfl rfl rfl rfl (Y.pickF rfl rfl) ?_
    refine J.p rfl rfl rfl rfl (Y.asg rfl) ?_
    refine J.nx ?_
    refine C.ret ?_
    obtain rfl := Option.some.inj H
    exact ret_ok (ks := [2]) rfl rfl (fun w h => ⟨rfl, h⟩)
/-! ### salvor/hint.Of$1: function 36 -/
def hPut.f (K : Nat) (a0_0 : Int) (a0_1 : Int) (a0_2 : Int) (a0_3 : ByteArray) (a0_4 : ByteArray) (a0_5 : Int) (a0_6 : Int) (a0_7 : Int) (a0_8 : Int) (a0_9 : ByteArray) (a0_10 : Int) (a0_11 : Int) (a0_12 : Int) (a0_13 : Int) (a1_0 : List Int) : Option (Bool × (List Int)) := (fEncode.f K a0_0 a0_1 a0_2 a0_3 a0_4 a0_5 a0_6 a0_7 a0_8 a0_9 a0_10 a0_11 a0_12 a0_13).bind fun t3 => gd ((a1_0.length + t3.1.length) * 1 ≤ 140737488355328) (some (decide (t3.2 = 0), (a1_0 ++ t3.1)))
theorem hPut.calls {B : Nat} {w0 : World} {G : List HP} (K : Nat) (a0_0 : Int) (a0_1 : Int) (a0_2 : Int) (a0_3 : ByteArray) (a0_4 : ByteArray) (a0_5 : Int) (a0_6 : Int) (a0_7 : Int) (a0_8 : Int) (a0_9 : ByteArray) (a0_10 : Int) (a0_11 : Int) (a0_12 : Int) (a0_13 : Int) (a1_0 : List Int) (ga1 : Nat) (Aa1_0 : Option Addr) (ca1_0 : Nat) (r : Bool × (List Int)) (H : hPut.f K a0_0 a0_1 a0_2 a0_3 a0_4 a0_5 a0_6 a0_7 a0_8 a0_9 a0_10 a0_11 a0_12 a0_13 a1_0 = some r) (w : World) (hw : St B w0 (cells ga1 22 [.slice Aa1_0 a1_0.length ca1_0] :: own 5 1 Aa1_0 ca1_0 (a1_0.map (Value.int .u8)) :: G) w) :
    Calls Try.prog 36 [.agg #[.int .i64 a0_0, .int .u64 a0_1, .int .i64 a0_2, .string a0_3, .string a0_4, .int .u64 a0_5, .int .i64 a0_6, .int .i64 a0_7, .int .i64 a0_8, .string a0_9, .int .i64 a0_10, .int .i64 a0_11, .int .i64 a0_12, .int .u32 a0_13], .pointer (some ⟨ga1, 0, none⟩)].toArray w (fun e w' => ∃ A1 c1, e = .returned (.bool r.1) ∧ St B w0 (cells ga1 22 [.slice A1 r.2.length c1] :: own 5 1 A1 c1 (r.2.map (Value.int .u8)) :: G) w') := by
  unfold hPut.f at H
  refine calls_of (n := 16) (s := [(0, .agg #[.int .i64 a0_0, .int .u64 a0_1, .int .i64 a0_2, .string a0_3, .string a0_4, .int .u64 a0_5, .int .i64 a0_6, .int .i64 a0_7, .int .i64 a0_8, .string a0_9, .int .i64 a0_10, .int .i64 a0_11, .int .i64 a0_12, .int .u32 a0_13]), (1, .pointer (some ⟨ga1, 0, none⟩))]) Try.func36 rfl rfl rfl rfl ?_ hw
  refine C.rs ?_
  refine J.box (L := [.int .i64 a0_0, .int .u64 a0_1, .int .i64 a0_2, .string a0_3, .string a0_4, .int .u64 a0_5, .int .i64 a0_6, .int .i64 a0_7, .int .i64 a0_8, .string a0_9, .int .i64 a0_10, .int .i64 a0_11, .int .i64 a0_12, .int .u32 a0_13]) rfl rfl rfl (fun g1 => ?_)
  refine J.p rfl rfl rfl rfl (Y.asg rfl) ?_
  refine J.nx ?_
  refine C.rs ?_
  refine J.r rfl rfl rfl rfl (Y.ldCA (us := [.int .i64 a0_0, .int .u64 a0_1, .int .i64 a0_2, .string a0_3, .string a0_4, .int .u64 a0_5, .int .i64 a0_6, .int .i64 a0_7, .int .i64 a0_8, .string a0_9, .int .i64 a0_10, .int .i64 a0_11, .int .i64 a0_12, .int .u32 a0_13]) 0 Try.underlying54 rfl ti54 rfl rfl rfl rfl) ?_
  obtain ⟨t3, hC4, H⟩ := bind_some H
  refine J.call (us := []) (cap := []) rfl rfl rfl go22 (fun w hw => by have hcc := fEncode.calls K a0_0 a0_1 a0_2 a0_3 a0_4 a0_5 a0_6 a0_7 a0_8 a0_9 a0_10 a0_11 a0_12 a0_13 t3 hC4 w hw; exact hcc) (fun e w1 h1 => ?_)
  obtain ⟨A5, c6, rfl, hw12⟩ := h1
  refine ⟨_, _, rfl, hw12, ?_⟩
  refine J.p rfl rfl rfl rfl (Y.mv rfl) ?_
  refine J.p rfl rfl rfl rfl (Y.ext rfl rfl) ?_
  refine J.p rfl rfl rfl rfl (Y.ext rfl rfl) ?_
  refine J.p rfl rfl rfl rfl (Y.asg rfl) ?_
  refine J.p rfl rfl rfl rfl (Y.asg rfl) ?_
  refine J.nx ?_
  refine C.rs ?_
  refine J.r rfl rfl rfl rfl (Y.ldC 2 Try.underlying22 rfl rfl rfl rfl) ?_
  refine J.p rfl rfl rfl rfl (Y.mv rfl) ?_
  refine J.pull 3 rfl rfl ?_
  obtain ⟨p10, H⟩ := gd_some H
  refine J.appL (enc := (Value.int .u8)) (xs := a1_0) (ys := t3.1) rfl Try.underlying22 ti5 rfl (by decide) rfl rfl (fun _ => rfl) (RdG.own 1 rfl) p10 (fun A8 c9 => ?_)
  refine J.pull 1 rfl rfl (J.drop ?_)
  refine J.pull 2 rfl rfl ?_
  refine J.stE (L' := [.slice A8 (a1_0 ++ t3.1).length c9]) ti22 rfl rfl rfl rfl rfl ?_
  refine J.nx ?_
  refine C.rs ?_
  refine J.p rfl rfl rfl rfl (Y.mv rfl) ?_
  refine J.p rfl rfl rfl rfl (Y.bin rfl rfl rfl) ?_
  refine J.p rfl rfl rfl rfl (Y.asg rfl) ?_
  refine J.nx ?_
  refine C.ret ?_
  obtain rfl := Option.some.inj H
  exact ret_ok (ks := [3]) rfl rfl (fun w h => ⟨A8, c9, rfl, (St.pick [0, 1] [_, _, _] h rfl)⟩)
/-! ### salvor/hint.Of$2: function 38 -/
def hEach.f (K : Nat) (a0 : Int) (a1 : Int) (a2_0 : Int) (a2_1 : Int) (a2_2 : Int) (a2_3 : ByteArray) (a2_4 : ByteArray) (a2_5 : Int) (a2_6 : Int) (a2_7 : Int) (a2_8 : Int) (a2_9 : ByteArray) (a2_10 : Int) (a2_11 : Int) (a2_12 : Int) (a2_13 : Int) (a3_0 : Int) (a4fc0_0 : List Int) : Option (Bool × Int × (List Int)) := (isRecordH.f a2_0).bind fun t5 => if t5 = true then ((hPut.f K 3 0 0 ByteArray.empty ByteArray.empty a2_1 a2_2 a0 a1 a2_3 0 0 0 0 a4fc0_0).bind fun t8 => some (t8.1, IntKind.wrap .i64 (a3_0 + 1), t8.2)) else (some (false, IntKind.wrap .i64 (a3_0 + 1), a4fc0_0))
theorem hEach.calls {B : Nat} {w0 : World} {G : List HP} (K : Nat) (a0 : Int) (a1 : Int) (a2_0 : Int) (a2_1 : Int) (a2_2 : Int) (a2_3 : ByteArray) (a2_4 : ByteArray) (a2_5 : Int) (a2_6 : Int) (a2_7 : Int) (a2_8 : Int) (a2_9 : ByteArray) (a2_10 : Int) (a2_11 : Int) (a2_12 : Int) (a2_13 : Int) (a3_0 : Int) (a4fc0_0 : List Int) (ga3 : Nat) (ga4 : Nat) (ga4fc0 : Nat) (Aa4fc0_0 : Option Addr) (ca4fc0_0 : Nat) (ha4 : RdG B w0 G (some ⟨ga4, 0, none⟩) [.func (.func 36) #[] #[.pointer (some ⟨ga4fc0, 0, none⟩)]]) (r : Bool × Int × (List Int)) (H : hEach.f K a0 a1 a2_0 a2_1 a2_2 a2_3 a2_4 a2_5 a2_6 a2_7 a2_8 a2_9 a2_10 a2_11 a2_12 a2_13 a3_0 a4fc0_0 = some r) (w : World) (hw : St B w0 (cells ga3 3 [.int .i64 a3_0] :: cells ga4fc0 22 [.slice Aa4fc0_0 a4fc0_0.length ca4fc0_0] :: own 5 1 Aa4fc0_0 ca4fc0_0 (a4fc0_0.map (Value.int .u8)) :: G) w) :
    Calls Try.prog 38 [.int .i64 a0, .int .i64 a1, .agg #[.int .i64 a2_0, .int .u64 a2_1, .int .i64 a2_2, .string a2_3, .string a2_4, .int .u64 a2_5, .int .i64 a2_6, .int .i64 a2_7, .int .i64 a2_8, .string a2_9, .int .i64 a2_10, .int .i64 a2_11, .int .i64 a2_12, .int .u32 a2_13], .pointer (some ⟨ga3, 0, none⟩), .pointer (some ⟨ga4, 0, none⟩)].toArray w (fun e w' => ∃ A2 c2, e = .returned (.bool r.1) ∧ St B w0 (cells ga3 3 [.int .i64 r.2.1] :: cells ga4fc0 22 [.slice A2 r.2.2.length c2] :: own 5 1 A2 c2 (r.2.2.map (Value.int .u8)) :: G) w') := by
  unfold hEach.f at H
  refine calls_of (n := 31) (s := [(0, .int .i64 a0), (1, .int .i64 a1), (2, .agg #[.int .i64 a2_0, .int .u64 a2_1, .int .i64 a2_2, .string a2_3, .string a2_4, .int .u64 a2_5, .int .i64 a2_6, .int .i64 a2_7, .int .i64 a2_8, .string a2_9, .int .i64 a2_10, .int .i64 a2_11, .int .i64 a2_12, .int .u32 a2_13]), (3, .pointer (some ⟨ga3, 0, none⟩)), (4, .pointer (some ⟨ga4, 0, none⟩))]) Try.func38 rfl rfl rfl rfl ?_ hw
  refine C.rs ?_
  refine J.box (L := [.int .i64 a2_0, .int .u64 a2_1, .int .i64 a2_2, .string a2_3, .string a2_4, .int .u64 a2_5, .int .i64 a2_6, .int .i64 a2_7, .int .i64 a2_8, .string a2_9, .int .i64 a2_10, .int .i64 a2_11, .int .i64 a2_12, .int .u32 a2_13]) rfl rfl rfl (fun g1 => ?_)
  refine J.p rfl rfl rfl rfl (Y.asg rfl) ?_
  refine J.nx ?_
  refine C.rs ?_
  refine J.p rfl rfl rfl rfl (Y.fa0 fa54_1 rfl rfl) ?_
  refine J.r rfl rfl rfl rfl (Y.ldCA (us := [.int .u64 a2_1, .int .i64 a2_2, .string a2_3, .string a2_4]) 0 Try.underlying50 rfl ti50 rfl rfl rfl rfl) ?_
  refine J.alloc (L := [.int .u64 0, .int .i64 0, .string ByteArray.empty, .string ByteArray.empty]) rfl ti50 rfl (fun g3 => ?_)
  refine J.stA (us := [.int .u64 a2_1, .int .i64 a2_2, .string a2_3, .string a2_4]) (L' := [.int .u64 a2_1, .int .i64 a2_2, .string a2_3, .string a2_4]) ti50 rfl rfl rfl rfl rfl rfl ?_
  refine J.nx ?_
  refine C.rs ?_
  refine J.r rfl rfl rfl rfl (Y.ldC 2 Try.underlying3 rfl rfl rfl rfl) ?_
  refine J.p rfl rfl rfl rfl (Y.bin rfl rfl rfl) ?_
  refine J.pull 2 rfl rfl ?_
  refine J.stE (L' := [.int .i64 (IntKind.wrap .i64 (a3_0 + 1))]) ti3 rfl rfl rfl rfl rfl ?_
  refine J.nx ?_
  refine C.rs ?_
  refine J.p rfl rfl rfl rfl (Y.fa0 fa54_0 rfl rfl) ?_
  refine J.r rfl rfl rfl rfl (Y.ldC 2 Try.underlying42 rfl rfl rfl rfl) ?_
  obtain ⟨t5, hC6, H⟩ := bind_some H
  refine J.call (us := []) (cap := []) rfl rfl rfl go39 (fun w hw => by have hcc := isRecordH.calls a2_0 t5 hC6 w hw; exact hcc) (fun e w1 h1 => ?_)
  obtain ⟨rfl, hw14⟩ := h1
  refine ⟨_, _, rfl, hw14, ?_⟩
  refine J.p rfl rfl rfl rfl (Y.mv rfl) ?_
  refine split2 H (fun c7 H => ?_) (fun c7 H => ?_)
  · refine J.as (k := 17) rfl (congrArg Value.bool (c7)) ?_
    refine J.r rfl rfl rfl rfl (Y.ldR Try.underlying77 rfl rfl (ha4.suf [_, _, _, _, _] rfl) rfl) ?_
    refine J.p rfl rfl rfl rfl (Y.fa0 fa50_0 rfl rfl) ?_
    refine J.r rfl rfl rfl rfl (Y.ldC 1 Try.underlying41 rfl rfl rfl rfl) ?_
    refine J.p rfl rfl rfl rfl (Y.fa0 fa50_1 rfl rfl) ?_
    refine J.r rfl rfl rfl rfl (Y.ldC 1 Try.underlying42 rfl rfl rfl rfl) ?_
    refine J.p rfl rfl rfl rfl (Y.mv rfl) ?_
    refine J.p rfl rfl rfl rfl (Y.mv rfl) ?_
    refine J.p rfl rfl rfl rfl (Y.fa0 fa50_2 rfl rfl) ?_
    refine J.r rfl rfl rfl rfl (Y.ldC 1 Try.underlying9 rfl rfl rfl rfl) ?_
    refine J.p rfl rfl rfl rfl (Y.bld (cs := [.int .u64 a2_1, .int .i64 a2_2, .int .i64 a0, .int .i64 a1, .string a2_3]) rfl pl44 ti44 rfl (by kernel_rfl)) ?_
    refine J.p rfl rfl rfl rfl (Y.bld (cs := [.int .i64 3, .int .u64 0, .int .i64 0, .string ByteArray.empty, .string ByteArray.empty, .int .u64 a2_1, .int .i64 a2_2, .int .i64 a0, .int .i64 a1, .string a2_3, .int .i64 0, .int .i64 0, .int .i64 0, .int .u32 0]) rfl pl54 ti54 rfl (by kernel_rfl)) ?_
    refine J.want rfl ?_
    refine J.pull 4 rfl rfl ?_
    refine J.pull 4 rfl rfl ?_
    obtain ⟨t8, hC9, H⟩ := bind_some H
    refine J.call (us := []) (cap := [.pointer (some ⟨ga4fc0, 0, none⟩)]) rfl rfl rfl go36 (fun w hw => by have hcc := hPut.calls K 3 0 0 ByteArray.empty ByteArray.empty a2_1 a2_2 a0 a1 a2_3 0 0 0 0 a4fc0_0 ga4fc0 Aa4fc0_0 ca4fc0_0 t8 hC9 w hw; exact hcc) (fun e w1 h1 => ?_)
    obtain ⟨A10, c11, rfl, hw13⟩ := h1
    refine ⟨_, _, rfl, hw13, ?_⟩
    refine J.p rfl rfl rfl rfl (Y.pickT rfl rfl) ?_
    refine J.p rfl rfl rfl rfl (Y.asg rfl) ?_
    refine J.nx ?_
    refine C.ret ?_
    obtain rfl := Option.some.inj H
    exact ret_ok (ks := [8]) rfl rfl (fun w h => ⟨A10, c11, rfl, (St.pick [2, 0, 1] [_, _, _, _, _] h rfl)⟩)
  · refine J.as (k := 17) rfl (congrArg Value.bool (nt c7)) ?_
    refine J.skip rfl rfl ?_
    refine J.skip rfl rfl ?_
    refine J.skip rfl rfl ?_
    refine J.skip rfl rfl ?_
    refine J.skip rfl rfl ?_
    refine J.skip rfl rfl ?_
    refine J.skip rfl rfl ?_
    refine J.skip rfl rfl ?_
    refine J.skip rfl rfl ?_
    refine J.skip rfl rfl ?_
    refine J.skip rfl rfl ?_
    refine J.skip rfl rfl ?_
    refine J.p rfl rfl rfl rfl (Y.pickF rfl rfl) ?_
    refine J.p rfl rfl rfl rfl (Y.asg rfl) ?_
    refine J.nx ?_
    refine C.ret ?_
    obtain rfl := Option.some.inj H
    exact ret_ok (ks := [8]) rfl rfl (fun w h => ⟨Aa4fc0_0, ca4fc0_0, rfl, (St.pick [0, 3, 4] [_, _, _, _, _] h rfl)⟩)
/-! ### salvor/hint.whole: function 37 -/
def wholeO.l1 (K : Nat) (a0 : List Int) : Nat → (Int × Int × (List Int)) → Option ((Bool × Int × (List Int)) ⊕ (Int × (List Int)))
  | 0, _ => none
  | k + 1, i86 => if i86.1 < (a0.length : Int) then ((fDecode.f K a0 i86.1).bind fun t90 => (if t90.2.2.2.2.2.2.2.2.2.2.2.2.2.2.2 ≠ 0 then (some (true, i86.2.1, i86.2.2)) else ((hEach.f K i86.1 t90.2.2.2.2.2.2.2.2.2.2.2.2.2.2.1 t90.1 t90.2.1 t90.2.2.1 t90.2.2.2.1 t90.2.2.2.2.1 t90.2.2.2.2.2.1 t90.2.2.2.2.2.2.1 t90.2.2.2.2.2.2.2.1 t90.2.2.2.2.2.2.2.2.1 t90.2.2.2.2.2.2.2.2.2.1 t90.2.2.2.2.2.2.2.2.2.2.1 t90.2.2.2.2.2.2.2.2.2.2.2.1 t90.2.2.2.2.2.2.2.2.2.2.2.2.1 t90.2.2.2.2.2.2.2.2.2.2.2.2.2.1 i86.2.1 i86.2.2).bind fun t107 => some (!t107.1, t107.2.1, t107.2.2))).bind fun o101 => if o101.1 = true then (some (.inl ((false, o101.2.1, o101.2.2)))) else (wholeO.l1 K a0 k (IntKind.wrap .i64 (i86.1 + (max t90.2.2.2.2.2.2.2.2.2.2.2.2.2.2.1 1)), o101.2.1, o101.2.2))) else (some (.inr (i86.2.1, i86.2.2)))
def wholeO.f (K : Nat) (a0 : List Int) (a1c0_0 : Int) (a1c1fc0_0 : List Int) : Option (Bool × Int × (List Int)) := thn (wholeO.l1 K a0 K (0, a1c0_0, a1c1fc0_0)) fun o42 => some (true, o42.1, o42.2)
theorem wholeO.calls {B : Nat} {w0 : World} {G : List HP} (K : Nat) (a0 : List Int) (a1c0_0 : Int) (a1c1fc0_0 : List Int) (Aa0 : Option Addr) (ca0 : Nat) (ga1c0 : Nat) (ga1c1 : Nat) (ga1c1fc0 : Nat) (Aa1c1fc0_0 : Option Addr) (ca1c1fc0_0 : Nat) (ha0 : RdG B w0 G Aa0 (a0.map (Value.int .u8))) (ka0 : a0.length ≤ ca0) (ha1c1 : RdG B w0 G (some ⟨ga1c1, 0, none⟩) [.func (.func 36) #[] #[.pointer (some ⟨ga1c1fc0, 0, none⟩)]]) (r : Bool × Int × (List Int)) (H : wholeO.f K a0 a1c0_0 a1c1fc0_0 = some r) (w : World) (hw : St B w0 (cells ga1c0 3 [.int .i64 a1c0_0] :: cells ga1c1fc0 22 [.slice Aa1c1fc0_0 a1c1fc0_0.length ca1c1fc0_0] :: own 5 1 Aa1c1fc0_0 ca1c1fc0_0 (a1c1fc0_0.map (Value.int .u8)) :: G) w) :
    Calls Try.prog 37 [.slice Aa0 a0.length ca0, .func (.func 38) #[] #[.pointer (some ⟨ga1c0, 0, none⟩), .pointer (some ⟨ga1c1, 0, none⟩)]].toArray w (fun e w' => ∃ A2 c2, e = .returned (.bool r.1) ∧ St B w0 (cells ga1c0 3 [.int .i64 r.2.1] :: cells ga1c1fc0 22 [.slice A2 r.2.2.length c2] :: own 5 1 A2 c2 (r.2.2.map (Value.int .u8)) :: G) w') := by
  unfold wholeO.f at H
  refine calls_of (n := 34) (s := [(0, .slice Aa0 a0.length ca0), (1, .func (.func 38) #[] #[.pointer (some ⟨ga1c0, 0, none⟩), .pointer (some ⟨ga1c1, 0, none⟩)])]) Try.func37 rfl rfl rfl rfl ?_ hw
  refine C.rs ?_
  refine J.p rfl rfl rfl rfl (Y.asg rfl) ?_
  refine J.nx ?_
  refine C.seq ?_
  refine C.rs ?_
  refine J.p rfl rfl rfl rfl (Y.asg rfl) ?_
  refine J.nx ?_
  refine C.joinNR H (fun (o42 : Int × (List Int)) (j43 : (Option Addr) × Nat) => []) (fun (o42 : Int × (List Int)) (j43 : (Option Addr) × Nat) => cells ga1c0 3 [.int .i64 o42.1] :: own 5 1 j43.1 j43.2 (o42.2.map (Value.int .u8)) :: cells ga1c1fc0 22 [.slice j43.1 o42.2.length j43.2] :: G) (fun (o42 : Int × (List Int)) (j43 : (Option Addr) × Nat) => True) (fun o40 H HK41 => ?_) (fun o42 j43 H _ => ?_)
  · refine C.blk ?_
    refine C.loop (fun (i : Nat × (Int × Int × (List Int)) × ((Option Addr) × Nat)) => [(0, .slice Aa0 a0.length ca0), (1, .func (.func 38) #[] #[.pointer (some ⟨ga1c0, 0, none⟩), .pointer (some ⟨ga1c1, 0, none⟩)]), (5, .int .i64 i.2.1.1)]) (fun (i : Nat × (Int × Int × (List Int)) × ((Option Addr) × Nat)) => cells ga1c0 3 [.int .i64 i.2.1.2.1] :: own 5 1 i.2.2.1 i.2.2.2 (i.2.1.2.2.map (Value.int .u8)) :: cells ga1c1fc0 22 [.slice i.2.2.1 i.2.1.2.2.length i.2.2.2] :: G) (fun (i : Nat × (Int × Int × (List Int)) × ((Option Addr) × Nat)) => wholeO.l1 K a0 i.1 i.2.1 = some o40 ∧ (True)) (fun i => i.1) (K, (0, a1c0_0, a1c1fc0_0), (Aa1c1fc0_0, ca1c1fc0_0)) ⟨H, trivial⟩ (by exact ⟨rfl, rfl, rfl, trivial⟩) (by exact fun w h => (St.pick [0, 2, 1] [_, _, _] h rfl)) ?_
    rintro ⟨k115, i86, j87⟩ ⟨H, _⟩
    replace H : wholeO.l1 K a0 k115 i86 = some o40 := H
    obtain ⟨k85, rfl⟩ : ∃ m, k115 = m + 1 := by cases k115 with | zero => exact absurd H (by simp [wholeO.l1]) | succ m => exact ⟨m, rfl⟩
    rw [wholeO.l1] at H
    refine C.at (s' := [(0, .slice Aa0 a0.length ca0), (1, .func (.func 38) #[] #[.pointer (some ⟨ga1c0, 0, none⟩), .pointer (some ⟨ga1c1, 0, none⟩)]), (5, .int .i64 i86.1)]) (G' := cells ga1c0 3 [.int .i64 i86.2.1] :: own 5 1 j87.1 j87.2 (i86.2.2.map (Value.int .u8)) :: cells ga1c1fc0 22 [.slice j87.1 i86.2.2.length j87.2] :: G) rfl rfl ?_
    refine C.seq ?_
    refine C.rs ?_
    refine J.p rfl rfl rfl rfl (Y.mv rfl) ?_
    refine J.p rfl rfl rfl rfl (Y.mv rfl) ?_
    refine J.p rfl rfl rfl rfl (Y.lenS Try.underlying22 rfl) ?_
    refine J.p rfl rfl rfl rfl (Y.bin rfl rfl rfl) ?_
    refine J.nx ?_
    refine split2 H (fun c89 H => ?_) (fun c89 H => ?_)
    · refine C.condT (congrArg (fun b => some (Value.bool b)) (decide_eq_true c89)) ?_
      refine C.skip ?_
      refine N.nx ?_
      refine C.blk ?_
      refine C.rs ?_
      refine J.p rfl rfl rfl rfl (Y.mv rfl) ?_
      refine J.p rfl rfl rfl rfl (Y.mv rfl) ?_
      obtain ⟨t90, hC91, H⟩ := bind_some H
      refine J.call (us := []) (cap := []) rfl rfl rfl go45 (fun w hw => by have hcc := fDecode.calls K a0 i86.1 Aa0 ca0 (ha0.suf [_, _, _] rfl) ka0 t90 hC91 w hw; exact hcc) (fun e w1 h1 => ?_)
      obtain ⟨rfl, hw114⟩ := h1
      refine ⟨_, _, rfl, hw114, ?_⟩
      refine J.p rfl rfl rfl rfl (Y.mv rfl) ?_
      refine J.p rfl rfl rfl rfl (Y.ext rfl rfl) ?_
      refine J.p rfl rfl rfl rfl (Y.ext rfl rfl) ?_
      refine J.p rfl rfl rfl rfl (Y.ext rfl rfl) ?_
      refine J.alloc (L := [.int .i64 0, .int .u64 0, .int .i64 0, .string ByteArray.empty, .string ByteArray.empty, .int .u64 0, .int .i64 0, .int .i64 0, .int .i64 0, .string ByteArray.empty, .int .i64 0, .int .i64 0, .int .i64 0, .int .u32 0]) rfl ti54 rfl (fun g92 => ?_)
      refine J.stA (us := [.int .i64 t90.1, .int .u64 t90.2.1, .int .i64 t90.2.2.1, .string t90.2.2.2.1, .string t90.2.2.2.2.1, .int .u64 t90.2.2.2.2.2.1, .int .i64 t90.2.2.2.2.2.2.1, .int .i64 t90.2.2.2.2.2.2.2.1, .int .i64 t90.2.2.2.2.2.2.2.2.1, .string t90.2.2.2.2.2.2.2.2.2.1, .int .i64 t90.2.2.2.2.2.2.2.2.2.2.1, .int .i64 t90.2.2.2.2.2.2.2.2.2.2.2.1, .int .i64 t90.2.2.2.2.2.2.2.2.2.2.2.2.1, .int .u32 t90.2.2.2.2.2.2.2.2.2.2.2.2.2.1]) (L' := [.int .i64 t90.1, .int .u64 t90.2.1, .int .i64 t90.2.2.1, .string t90.2.2.2.1, .string t90.2.2.2.2.1, .int .u64 t90.2.2.2.2.2.1, .int .i64 t90.2.2.2.2.2.2.1, .int .i64 t90.2.2.2.2.2.2.2.1, .int .i64 t90.2.2.2.2.2.2.2.2.1, .string t90.2.2.2.2.2.2.2.2.2.1, .int .i64 t90.2.2.2.2.2.2.2.2.2.2.1, .int .i64 t90.2.2.2.2.2.2.2.2.2.2.2.1, .int .i64 t90.2.2.2.2.2.2.2.2.2.2.2.2.1, .int .u32 t90.2.2.2.2.2.2.2.2.2.2.2.2.2.1]) ti54 rfl rfl rfl rfl rfl rfl ?_
      refine J.p rfl rfl rfl rfl (Y.asg rfl) ?_
      refine J.p rfl rfl rfl rfl (Y.asg rfl) ?_
      refine J.nx ?_
      refine C.seq ?_
      refine C.rs ?_
      refine J.joinB H (fun (o101 : Bool × Int × (List Int)) (j102 : (Option Addr) × Nat) => [(0, .slice Aa0 a0.length ca0), (1, .func (.func 38) #[] #[.pointer (some ⟨ga1c0, 0, none⟩), .pointer (some ⟨ga1c1, 0, none⟩)]), (5, .int .i64 i86.1), (7, .int .i64 t90.2.2.2.2.2.2.2.2.2.2.2.2.2.2.1), (29, .bool o101.1)]) (fun (o101 : Bool × Int × (List Int)) (j102 : (Option Addr) × Nat) => cells ga1c0 3 [.int .i64 o101.2.1] :: own 5 1 j102.1 j102.2 (o101.2.2.map (Value.int .u8)) :: cells ga1c1fc0 22 [.slice j102.1 o101.2.2.length j102.2] :: G) (fun (o101 : Bool × Int × (List Int)) (j102 : (Option Addr) × Nat) => True) (fun o104 H HK105 => ?_) (fun o101 j102 H _ => ?_)
      · refine J.p rfl rfl rfl rfl (Y.mv rfl) ?_
        refine J.p rfl rfl rfl rfl (Y.bin rfl rfl rfl) ?_
        refine J.p rfl rfl rfl rfl (Y.mv rfl) ?_
        refine split2 H (fun c106 H => ?_) (fun c106 H => ?_)
        · refine J.as (k := 22) rfl (congrArg Value.bool (decide_eq_true c106)) ?_
          refine J.skip rfl rfl ?_
          refine J.skip rfl rfl ?_
          refine J.skip rfl rfl ?_
          refine J.skip rfl rfl ?_
          refine J.skip rfl rfl ?_
          refine J.skip rfl rfl ?_
          refine J.p rfl rfl rfl rfl (Y.pickT rfl rfl) ?_
          refine J.nil ?_
          obtain rfl := Option.some.inj H
          exact N.meet ((true, i86.2.1, i86.2.2), (j87.1, j87.2)) ⟨HK105, trivial⟩ (by exact ⟨rfl, rfl, rfl, rfl, rfl, trivial⟩) (by exact fun w h => (St.pick [1, 2, 3] [_, _, _, _] h rfl))
        · refine J.as (k := 22) rfl (congrArg Value.bool (decide_eq_false c106)) ?_
          refine J.p rfl rfl rfl rfl (Y.mv rfl) ?_
          refine J.p rfl rfl rfl rfl (Y.mv rfl) ?_
          refine J.p rfl rfl rfl rfl (Y.mv rfl) ?_
          refine J.r rfl rfl rfl rfl (Y.ldCA (us := [.int .i64 t90.1, .int .u64 t90.2.1, .int .i64 t90.2.2.1, .string t90.2.2.2.1, .string t90.2.2.2.2.1, .int .u64 t90.2.2.2.2.2.1, .int .i64 t90.2.2.2.2.2.2.1, .int .i64 t90.2.2.2.2.2.2.2.1, .int .i64 t90.2.2.2.2.2.2.2.2.1, .string t90.2.2.2.2.2.2.2.2.2.1, .int .i64 t90.2.2.2.2.2.2.2.2.2.2.1, .int .i64 t90.2.2.2.2.2.2.2.2.2.2.2.1, .int .i64 t90.2.2.2.2.2.2.2.2.2.2.2.2.1, .int .u32 t90.2.2.2.2.2.2.2.2.2.2.2.2.2.1]) 0 Try.underlying54 rfl ti54 rfl rfl rfl rfl) ?_
          refine J.want rfl ?_
          refine J.pull 2 rfl rfl ?_
          refine J.pull 3 rfl rfl ?_
          refine J.pull 3 rfl rfl ?_
          obtain ⟨t107, hC108, H⟩ := bind_some H
          refine J.call (us := []) (cap := [.pointer (some ⟨ga1c0, 0, none⟩), .pointer (some ⟨ga1c1, 0, none⟩)]) rfl rfl rfl go38 (fun w hw => by have hcc := hEach.calls K i86.1 t90.2.2.2.2.2.2.2.2.2.2.2.2.2.2.1 t90.1 t90.2.1 t90.2.2.1 t90.2.2.2.1 t90.2.2.2.2.1 t90.2.2.2.2.2.1 t90.2.2.2.2.2.2.1 t90.2.2.2.2.2.2.2.1 t90.2.2.2.2.2.2.2.2.1 t90.2.2.2.2.2.2.2.2.2.1 t90.2.2.2.2.2.2.2.2.2.2.1 t90.2.2.2.2.2.2.2.2.2.2.2.1 t90.2.2.2.2.2.2.2.2.2.2.2.2.1 t90.2.2.2.2.2.2.2.2.2.2.2.2.2.1 i86.2.1 i86.2.2 ga1c0 ga1c1 ga1c1fc0 j87.1 j87.2 (ha1c1.suf [_] rfl) t107 hC108 w hw; exact hcc) (fun e w1 h1 => ?_)
          obtain ⟨A109, c110, rfl, hw112⟩ := h1
          refine ⟨_, _, rfl, hw112, ?_⟩
          refine J.p rfl rfl rfl rfl (Y.notb rfl) ?_
          refine J.p rfl rfl rfl rfl (Y.pickF rfl rfl) ?_
          refine J.nil ?_
          obtain rfl := Option.some.inj H
          exact N.meet ((!t107.1, t107.2.1, t107.2.2), (A109, c110)) ⟨HK105, trivial⟩ (by exact ⟨rfl, rfl, rfl, rfl, rfl, trivial⟩) (by exact fun w h => (St.pick [0, 2, 1] [_, _, _, _] h rfl))
      · refine C.at (s' := [(0, .slice Aa0 a0.length ca0), (1, .func (.func 38) #[] #[.pointer (some ⟨ga1c0, 0, none⟩), .pointer (some ⟨ga1c1, 0, none⟩)]), (5, .int .i64 i86.1), (7, .int .i64 t90.2.2.2.2.2.2.2.2.2.2.2.2.2.2.1), (29, .bool o101.1)]) (G' := cells ga1c0 3 [.int .i64 o101.2.1] :: own 5 1 j102.1 j102.2 (o101.2.2.map (Value.int .u8)) :: cells ga1c1fc0 22 [.slice j102.1 o101.2.2.length j102.2] :: G) rfl rfl ?_
        refine split2 H (fun c113 H => ?_) (fun c113 H => ?_)
        · refine C.condT (congrArg (fun b => some (Value.bool b)) (c113)) ?_
          refine C.rs ?_
          refine J.p rfl rfl rfl rfl (Y.asg rfl) ?_
          refine J.nx ?_
          refine C.ret ?_
          obtain rfl := Option.some.inj H
          obtain rfl := fin_inl HK41
          refine T.th ?_
          refine T.ib ?_
          refine T.th ?_
          refine T.ib ?_
          refine T.th ?_
          refine T.th ?_
          exact ret_ok (ks := [4]) rfl rfl (fun w h => ⟨j102.1, j102.2, rfl, (St.pick [0, 2, 1] [_, _, _] h rfl)⟩)
        · refine C.condF (congrArg (fun b => some (Value.bool b)) (nt c113)) ?_
          refine C.skip ?_
          refine N.nx ?_
          refine C.reg ?_
          refine J.p rfl rfl rfl rfl (Y.mv rfl) ?_
          refine J.p rfl rfl rfl rfl (Y.mv rfl) ?_
          refine J.p rfl rfl rfl rfl (Y.mx rfl rfl) ?_
          refine J.p rfl rfl rfl rfl (Y.bin rfl rfl rfl) ?_
          refine J.p rfl rfl rfl rfl (Y.asg rfl) ?_
          refine J.nil ?_
          refine N.ib ?_
          exact N.again (k85, (IntKind.wrap .i64 (i86.1 + (max t90.2.2.2.2.2.2.2.2.2.2.2.2.2.2.1 1)), o101.2.1, o101.2.2), (j102.1, j102.2)) ⟨H, trivial⟩ (Nat.lt_succ_self _) (by exact ⟨rfl, rfl, rfl, trivial⟩) (by exact fun w h => h)
    · refine C.condF (congrArg (fun b => some (Value.bool b)) (decide_eq_false c89)) ?_
      refine C.exit ?_
      refine X.th ?_
      refine X.th ?_
      refine X.hit ?_
      obtain rfl := Option.some.inj H
      exact N.meet ((i86.2.1, i86.2.2), (j87.1, j87.2)) ⟨fin_inr HK41, trivial⟩ (by exact trivial) (by exact fun w h => h)
  · refine N.at (s' := []) (G' := cells ga1c0 3 [.int .i64 o42.1] :: own 5 1 j43.1 j43.2 (o42.2.map (Value.int .u8)) :: cells ga1c1fc0 22 [.slice j43.1 o42.2.length j43.2] :: G) rfl rfl ?_
    refine N.nx ?_
    refine C.rs ?_
    refine J.p rfl rfl rfl rfl (Y.asg rfl) ?_
    refine J.nx ?_
    refine C.ret ?_
    obtain rfl := Option.some.inj H
    exact ret_ok (ks := [4]) rfl rfl (fun w h => ⟨j43.1, j43.2, rfl, (St.pick [0, 2, 1] [_, _, _] h rfl)⟩)
/-! ### salvor/hint.Of: function 13 -/
def hOf.f (K : Nat) (a0 : List Int) : Option ((List Int) × Int) := if 4194304 < (a0.length : Int) then (some (([] : List Int), 100)) else ((wholeO.f K a0 0 ([] : List Int)).bind fun t10 => (Sum.f K [a0]).bind fun t17 => (if t10.1 = true then ((hPut.f K 4 0 0 ByteArray.empty ByteArray.empty 0 0 0 0 ByteArray.empty t10.2.1 (a0.length : Int) t10.2.1 t17 t10.2.2).bind fun t253 => some (!t253.1, t253.2)) else (some (true, t10.2.2))).bind fun o247 => if o247.1 = true then (some (([] : List Int), 100)) else (some (o247.2, 0)))
theorem hOf.calls {B : Nat} {w0 : World} {G : List HP} (K : Nat) (a0 : List Int) (Aa0 : Option Addr) (ca0 : Nat) (ha0 : RdG B w0 G Aa0 (a0.map (Value.int .u8))) (ka0 : a0.length ≤ ca0) (r : (List Int) × Int) (H : hOf.f K a0 = some r) (w : World) (hw : St B w0 (G) w) :
    Calls Try.prog 13 [.slice Aa0 a0.length ca0].toArray w (fun e w' => ∃ A0 c0, e = .returned (.tuple #[.slice A0 r.1.length c0, .int .i64 r.2]) ∧ St B w0 (own 5 1 A0 c0 (r.1.map (Value.int .u8)) :: G) w') := by
  unfold hOf.f at H
  refine calls_of (n := 35) (s := [(0, .slice Aa0 a0.length ca0)]) Try.func13 rfl rfl rfl rfl ?_ hw
  refine C.rs ?_
  refine J.p rfl rfl rfl rfl (Y.asg rfl) ?_
  refine J.p rfl rfl rfl rfl (Y.asg rfl) ?_
  refine J.nx ?_
  refine C.seq ?_
  refine C.rs ?_
  refine J.p rfl rfl rfl rfl (Y.mv rfl) ?_
  refine J.p rfl rfl rfl rfl (Y.lenS Try.underlying22 rfl) ?_
  refine J.p rfl rfl rfl rfl (Y.bin rfl rfl rfl) ?_
  refine J.nx ?_
  refine split2 H (fun c1 H => ?_) (fun c1 H => ?_)
  · refine C.condT (congrArg (fun b => some (Value.bool b)) (decide_eq_true c1)) ?_
    refine C.rs ?_
    refine J.p rfl rfl rfl rfl (Y.asg rfl) ?_
    refine J.p rfl rfl rfl rfl (Y.asg rfl) ?_
    refine J.nx ?_
    refine C.ret ?_
    obtain rfl := Option.some.inj H
    refine T.th ?_
    exact ret_ok (ks := [2, 3]) rfl rfl (fun w h => ⟨none, 0, rfl, (h.nilOwn 5 1)⟩)
  · refine C.condF (congrArg (fun b => some (Value.bool b)) (decide_eq_false c1)) ?_
    refine C.skip ?_
    refine N.nx ?_
    refine C.rs ?_
    refine J.alloc (L := [.slice none 0 0]) rfl ti22 rfl (fun g3 => ?_)
    refine J.nx ?_
    refine C.rs ?_
    refine J.p rfl rfl rfl rfl (Y.mkf rfl rfl) ?_
    refine J.alloc (L := [.nilFunc]) rfl ti77 rfl (fun g5 => ?_)
    refine J.stE (L' := [.func (.func 36) #[] #[.pointer (some ⟨g3, 0, none⟩)]]) ti77 rfl rfl rfl rfl rfl ?_
    refine J.nx ?_
    refine C.rs ?_
    refine J.alloc (L := [.int .i64 0]) rfl ti3 rfl (fun g7 => ?_)
    refine J.stE (L' := [.int .i64 0]) ti3 rfl rfl rfl rfl rfl ?_
    refine J.nx ?_
    refine C.rs ?_
    refine J.p rfl rfl rfl rfl (Y.mv rfl) ?_
    refine J.p rfl rfl rfl rfl (Y.mkf rfl rfl) ?_
    refine J.nilOwn 5 1 ?_
    refine J.pull 3 rfl rfl ?_
    refine J.pull 2 rfl rfl ?_
    obtain ⟨t10, hC11, H⟩ := bind_some H
    refine J.call (us := []) (cap := []) rfl rfl rfl go37 (fun w hw => by have hcc := wholeO.calls K a0 0 ([] : List Int) Aa0 ca0 g7 g5 g3 none 0 (ha0.suf [_] rfl) ka0 (RdG.cells 0 rfl) t10 hC11 w hw; exact hcc) (fun e w1 h1 => ?_)
    obtain ⟨A12, c13, rfl, hw266⟩ := h1
    refine ⟨_, _, rfl, hw266, ?_⟩
    refine J.p rfl rfl rfl rfl (Y.asg rfl) ?_
    refine J.nx ?_
    refine C.seq ?_
    refine C.drawn (fuel := 9) (ls := [false, false, false, false, false, false, false, false, false]) [] (cells g7 3 [.int .i64 t10.2.1] :: cells g3 22 [.slice A12 t10.2.2.length c13] :: own 5 1 A12 c13 (t10.2.2.map (Value.int .u8)) :: cells g5 77 [.func (.func 36) #[] #[.pointer (some ⟨g3, 0, none⟩)]] :: G) mx rfl rfl ?_
    refine D.p (ls' := [true, false, false, false, false, false, false, false, false]) 0 rfl rfl rfl rfl (by kernel_rfl) rfl (Y.mv rfl) ?_
    refine D.p (ls' := [true, true, false, false, false, false, false, false, false]) 1 rfl rfl rfl rfl (by kernel_rfl) rfl (Y.lenS Try.underlying22 rfl) ?_
    refine D.r (ls' := [true, true, true, false, false, false, false, false, false]) 2 1 0 rfl rfl rfl rfl (by kernel_rfl) (by kernel_rfl) rfl rfl (Y.ldC 0 Try.underlying3 rfl rfl rfl rfl) ?_
    refine D.p (ls' := [true, true, true, true, false, false, false, false, false]) 3 rfl rfl rfl rfl (by kernel_rfl) rfl (Y.mv rfl) ?_
    obtain ⟨t17, hC18, H⟩ := bind_some H
    refine D.share (fun (i : Nat × (Option Addr)) => [(4, .pointer (some ⟨g3, 0, none⟩)), (5, .pointer (some ⟨g5, 0, none⟩)), (6, .pointer (some ⟨g7, 0, none⟩)), (7, .bool t10.1), (8, .pointer (some ⟨i.1, 0, none⟩))]) (fun (i : Nat × (Option Addr)) => own 22 1 i.2 1 [.slice Aa0 a0.length ca0] :: cells i.1 35 [.int .i64 (a0.length : Int), .int .i64 t10.2.1, .int .u32 t17] :: cells g7 3 [.int .i64 t10.2.1] :: cells g3 22 [.slice A12 t10.2.2.length c13] :: own 5 1 A12 c13 (t10.2.2.map (Value.int .u8)) :: cells g5 77 [.func (.func 36) #[] #[.pointer (some ⟨g3, 0, none⟩)]] :: G) 0 [true, true, true, true, true, true, true, true, true] (fun i => ?_) (fun hD239 => ?_)
    · obtain ⟨g190, A118⟩ := i
      refine D.to (s' := [(4, .pointer (some ⟨g3, 0, none⟩)), (5, .pointer (some ⟨g5, 0, none⟩)), (6, .pointer (some ⟨g7, 0, none⟩)), (7, .bool t10.1), (8, .pointer (some ⟨g190, 0, none⟩))]) (G' := own 22 1 A118 1 [.slice Aa0 a0.length ca0] :: cells g190 35 [.int .i64 (a0.length : Int), .int .i64 t10.2.1, .int .u32 t17] :: cells g7 3 [.int .i64 t10.2.1] :: cells g3 22 [.slice A12 t10.2.2.length c13] :: own 5 1 A12 c13 (t10.2.2.map (Value.int .u8)) :: cells g5 77 [.func (.func 36) #[] #[.pointer (some ⟨g3, 0, none⟩)]] :: G) (by exact ⟨rfl, rfl, rfl, rfl, rfl, trivial⟩) (fun w h => h) ?_
      refine D.nil (by kernel_rfl) ?_
      refine N.nx ?_
      refine C.seq ?_
      refine C.rs ?_
      refine J.joinB H (fun (o247 : Bool × (List Int)) (j248 : (Option Addr) × Nat) => [(4, .pointer (some ⟨g3, 0, none⟩)), (33, .bool o247.1)]) (fun (o247 : Bool × (List Int)) (j248 : (Option Addr) × Nat) => own 5 1 j248.1 j248.2 (o247.2.map (Value.int .u8)) :: cells g3 22 [.slice j248.1 o247.2.length j248.2] :: G) (fun (o247 : Bool × (List Int)) (j248 : (Option Addr) × Nat) => True) (fun o250 H HK251 => ?_) (fun o247 j248 H _ => ?_)
      · refine J.p rfl rfl rfl rfl (Y.mv rfl) ?_
        refine J.p rfl rfl rfl rfl (Y.notb rfl) ?_
        refine J.p rfl rfl rfl rfl (Y.mv rfl) ?_
        refine split2 H (fun c252 H => ?_) (fun c252 H => ?_)
        · refine J.as (k := 25) rfl (congrArg Value.bool (congrArg Bool.not (c252))) ?_
          refine J.r rfl rfl rfl rfl (Y.ldC 5 Try.underlying77 rfl rfl rfl rfl) ?_
          refine J.r rfl rfl rfl rfl (Y.ldC 2 Try.underlying3 rfl rfl rfl rfl) ?_
          refine J.r rfl rfl rfl rfl (Y.ldCA (us := [.int .i64 (a0.length : Int), .int .i64 t10.2.1, .int .u32 t17]) 1 Try.underlying35 rfl ti35 rfl rfl rfl rfl) ?_
          refine J.p rfl rfl rfl rfl (Y.bld (cs := [.int .i64 t10.2.1, .int .i64 (a0.length : Int), .int .i64 t10.2.1, .int .u32 t17]) rfl pl52 ti52 rfl (by kernel_rfl)) ?_
          refine J.p rfl rfl rfl rfl (Y.bld (cs := [.int .i64 4, .int .u64 0, .int .i64 0, .string ByteArray.empty, .string ByteArray.empty, .int .u64 0, .int .i64 0, .int .i64 0, .int .i64 0, .string ByteArray.empty, .int .i64 t10.2.1, .int .i64 (a0.length : Int), .int .i64 t10.2.1, .int .u32 t17]) rfl pl54 ti54 rfl (by kernel_rfl)) ?_
          refine J.want rfl ?_
          refine J.pull 4 rfl rfl ?_
          refine J.pull 4 rfl rfl ?_
          obtain ⟨t253, hC254, H⟩ := bind_some H
          refine J.call (us := []) (cap := [.pointer (some ⟨g3, 0, none⟩)]) rfl rfl rfl go36 (fun w hw => by have hcc := hPut.calls K 4 0 0 ByteArray.empty ByteArray.empty 0 0 0 0 ByteArray.empty t10.2.1 (a0.length : Int) t10.2.1 t17 t10.2.2 g3 A12 c13 t253 hC254 w hw; exact hcc) (fun e w1 h1 => ?_)
          obtain ⟨A255, c256, rfl, hw258⟩ := h1
          refine ⟨_, _, rfl, hw258, ?_⟩
          refine J.p rfl rfl rfl rfl (Y.notb rfl) ?_
          refine J.p rfl rfl rfl rfl (Y.pickF rfl rfl) ?_
          refine J.nil ?_
          obtain rfl := Option.some.inj H
          exact N.meet ((!t253.1, t253.2), (A255, c256)) ⟨HK251, trivial⟩ (by exact ⟨rfl, rfl, trivial⟩) (by exact fun w h => (St.pick [1, 0] [_, _, _, _, _, _] h rfl))
        · refine J.as (k := 25) rfl (congrArg Value.bool (congrArg Bool.not (nt c252))) ?_
          refine J.skip rfl rfl ?_
          refine J.skip rfl rfl ?_
          refine J.skip rfl rfl ?_
          refine J.skip rfl rfl ?_
          refine J.skip rfl rfl ?_
          refine J.skip rfl rfl ?_
          refine J.skip rfl rfl ?_
          refine J.p rfl rfl rfl rfl (Y.pickT rfl rfl) ?_
          refine J.nil ?_
          obtain rfl := Option.some.inj H
          exact N.meet ((true, t10.2.2), (A12, c13)) ⟨HK251, trivial⟩ (by exact ⟨rfl, rfl, trivial⟩) (by exact fun w h => (St.pick [4, 3] [_, _, _, _, _, _] h rfl))
      · refine C.at (s' := [(4, .pointer (some ⟨g3, 0, none⟩)), (33, .bool o247.1)]) (G' := own 5 1 j248.1 j248.2 (o247.2.map (Value.int .u8)) :: cells g3 22 [.slice j248.1 o247.2.length j248.2] :: G) rfl rfl ?_
        refine split2 H (fun c259 H => ?_) (fun c259 H => ?_)
        · refine C.condT (congrArg (fun b => some (Value.bool b)) (c259)) ?_
          refine C.rs ?_
          refine J.p rfl rfl rfl rfl (Y.asg rfl) ?_
          refine J.p rfl rfl rfl rfl (Y.asg rfl) ?_
          refine J.nx ?_
          refine C.ret ?_
          obtain rfl := Option.some.inj H
          refine T.th ?_
          exact ret_ok (ks := [2, 3]) rfl rfl (fun w h => ⟨none, 0, rfl, (St.pick [0] [_, _, _] (h.nilOwn 5 1) rfl)⟩)
        · refine C.condF (congrArg (fun b => some (Value.bool b)) (nt c259)) ?_
          refine C.skip ?_
          refine N.nx ?_
          refine C.rs ?_
          refine J.r rfl rfl rfl rfl (Y.ldC 1 Try.underlying22 rfl rfl rfl rfl) ?_
          refine J.p rfl rfl rfl rfl (Y.asg rfl) ?_
          refine J.p rfl rfl rfl rfl (Y.asg rfl) ?_
          refine J.nx ?_
          refine C.ret ?_
          obtain rfl := Option.some.inj H
          exact ret_ok (ks := [2, 3]) rfl rfl (fun w h => ⟨j248.1, j248.2, rfl, (St.pick [0] [_, _] h rfl)⟩)
    refine D.share (fun (i : Nat × (Option Addr)) => [(4, .pointer (some ⟨g3, 0, none⟩)), (5, .pointer (some ⟨g5, 0, none⟩)), (6, .pointer (some ⟨g7, 0, none⟩)), (7, .bool t10.1), (8, .pointer (some ⟨i.1, 0, none⟩)), (22, .agg #[.int .i64 (a0.length : Int), .int .i64 t10.2.1, .int .u32 t17])]) (fun (i : Nat × (Option Addr)) => own 22 1 i.2 1 [.slice Aa0 a0.length ca0] :: cells i.1 35 [.int .i64 0, .int .i64 0, .int .u32 0] :: cells g7 3 [.int .i64 t10.2.1] :: cells g3 22 [.slice A12 t10.2.2.length c13] :: own 5 1 A12 c13 (t10.2.2.map (Value.int .u8)) :: cells g5 77 [.func (.func 36) #[] #[.pointer (some ⟨g3, 0, none⟩)]] :: G) 1 [true, true, true, true, true, true, true, true, false] (fun i => ?_) (fun hD261 => ?_)
    · obtain ⟨g190, A118⟩ := i
      refine D.to (s' := [(4, .pointer (some ⟨g3, 0, none⟩)), (5, .pointer (some ⟨g5, 0, none⟩)), (6, .pointer (some ⟨g7, 0, none⟩)), (7, .bool t10.1), (8, .pointer (some ⟨g190, 0, none⟩)), (22, .agg #[.int .i64 (a0.length : Int), .int .i64 t10.2.1, .int .u32 t17])]) (G' := own 22 1 A118 1 [.slice Aa0 a0.length ca0] :: cells g190 35 [.int .i64 0, .int .i64 0, .int .u32 0] :: cells g7 3 [.int .i64 t10.2.1] :: cells g3 22 [.slice A12 t10.2.2.length c13] :: own 5 1 A12 c13 (t10.2.2.map (Value.int .u8)) :: cells g5 77 [.func (.func 36) #[] #[.pointer (some ⟨g3, 0, none⟩)]] :: G) (by exact ⟨rfl, rfl, rfl, rfl, rfl, rfl, trivial⟩) (fun w h => h) ?_
      refine D.any [8] (by kernel_rfl) rfl ⟨?_, trivial⟩
      refine DW.j (ls' := [true, true, true, true, true, true, true, true, true]) rfl rfl ?_
      refine J.pull 1 rfl rfl ?_
      refine J.stA (us := [.int .i64 (a0.length : Int), .int .i64 t10.2.1, .int .u32 t17]) (L' := [.int .i64 (a0.length : Int), .int .i64 t10.2.1, .int .u32 t17]) ti35 rfl rfl rfl rfl rfl rfl ?_
      refine J.nil ?_
      refine D.backK 2 rfl ?_
      exact D.to (by exact ⟨rfl, rfl, rfl, rfl, rfl, trivial⟩) (fun w h => (St.pick [1, 0, 2, 3, 4, 5] [_, _, _, _, _, _] h rfl)) (hD239 (g190, A118))
    refine D.share (fun (i : (Option Addr)) => [(4, .pointer (some ⟨g3, 0, none⟩)), (5, .pointer (some ⟨g5, 0, none⟩)), (6, .pointer (some ⟨g7, 0, none⟩)), (7, .bool t10.1), (22, .agg #[.int .i64 (a0.length : Int), .int .i64 t10.2.1, .int .u32 t17])]) (fun (i : (Option Addr)) => own 22 1 i 1 [.slice Aa0 a0.length ca0] :: cells g7 3 [.int .i64 t10.2.1] :: cells g3 22 [.slice A12 t10.2.2.length c13] :: own 5 1 A12 c13 (t10.2.2.map (Value.int .u8)) :: cells g5 77 [.func (.func 36) #[] #[.pointer (some ⟨g3, 0, none⟩)]] :: G) 2 [true, true, true, true, true, true, true, false, false] (fun A118 => ?_) (fun hD262 => ?_)
    · refine D.to (s' := [(4, .pointer (some ⟨g3, 0, none⟩)), (5, .pointer (some ⟨g5, 0, none⟩)), (6, .pointer (some ⟨g7, 0, none⟩)), (7, .bool t10.1), (22, .agg #[.int .i64 (a0.length : Int), .int .i64 t10.2.1, .int .u32 t17])]) (G' := own 22 1 A118 1 [.slice Aa0 a0.length ca0] :: cells g7 3 [.int .i64 t10.2.1] :: cells g3 22 [.slice A12 t10.2.2.length c13] :: own 5 1 A12 c13 (t10.2.2.map (Value.int .u8)) :: cells g5 77 [.func (.func 36) #[] #[.pointer (some ⟨g3, 0, none⟩)]] :: G) (by exact ⟨rfl, rfl, rfl, rfl, rfl, trivial⟩) (fun w h => h) ?_
      refine D.any [7] (by kernel_rfl) rfl ⟨?_, trivial⟩
      refine DW.j (ls' := [true, true, true, true, true, true, true, true, false]) rfl rfl ?_
      refine J.alloc (L := [.int .i64 0, .int .i64 0, .int .u32 0]) rfl ti35 rfl (fun g190 => ?_)
      refine J.nil ?_
      refine D.backK 2 rfl ?_
      exact D.to (by exact ⟨rfl, rfl, rfl, rfl, rfl, rfl, trivial⟩) (fun w h => (St.pick [1, 0, 2, 3, 4, 5] [_, _, _, _, _, _] h rfl)) (hD261 (g190, A118))
    refine D.share (fun (i : Nat × (Option Addr)) => [(4, .pointer (some ⟨g3, 0, none⟩)), (5, .pointer (some ⟨g5, 0, none⟩)), (6, .pointer (some ⟨g7, 0, none⟩)), (7, .bool t10.1), (8, .pointer (some ⟨i.1, 0, none⟩)), (17, .int .i64 (a0.length : Int)), (18, .int .i64 t10.2.1), (20, .slice i.2 1 1)]) (fun (i : Nat × (Option Addr)) => own 22 1 i.2 1 [.slice Aa0 a0.length ca0] :: cells i.1 35 [.int .i64 0, .int .i64 0, .int .u32 0] :: cells g7 3 [.int .i64 t10.2.1] :: cells g3 22 [.slice A12 t10.2.2.length c13] :: own 5 1 A12 c13 (t10.2.2.map (Value.int .u8)) :: cells g5 77 [.func (.func 36) #[] #[.pointer (some ⟨g3, 0, none⟩)]] :: G) 3 [true, true, true, true, true, false, false, true, false] (fun i => ?_) (fun hD263 => ?_)
    · obtain ⟨g190, A118⟩ := i
      refine D.to (s' := [(4, .pointer (some ⟨g3, 0, none⟩)), (5, .pointer (some ⟨g5, 0, none⟩)), (6, .pointer (some ⟨g7, 0, none⟩)), (7, .bool t10.1), (8, .pointer (some ⟨g190, 0, none⟩)), (17, .int .i64 (a0.length : Int)), (18, .int .i64 t10.2.1), (20, .slice A118 1 1)]) (G' := own 22 1 A118 1 [.slice Aa0 a0.length ca0] :: cells g190 35 [.int .i64 0, .int .i64 0, .int .u32 0] :: cells g7 3 [.int .i64 t10.2.1] :: cells g3 22 [.slice A12 t10.2.2.length c13] :: own 5 1 A12 c13 (t10.2.2.map (Value.int .u8)) :: cells g5 77 [.func (.func 36) #[] #[.pointer (some ⟨g3, 0, none⟩)]] :: G) (by exact ⟨rfl, rfl, rfl, rfl, rfl, rfl, rfl, rfl, trivial⟩) (fun w h => h) ?_
      refine D.any [5] (by kernel_rfl) rfl ⟨?_, trivial⟩
      refine DW.j (ls' := [true, true, true, true, true, true, false, true, false]) rfl rfl ?_
      refine J.call (us := []) (cap := []) rfl rfl rfl go32 (fun w hw => by have hcc := Sum.calls K [a0] A118 1 [.slice Aa0 a0.length ca0] (RdG.own 0 rfl) (VV.cons (ha0.suf [_, _, _, _, _, _] rfl) ka0 VV.nil) (Nat.le_refl _) t17 hC18 w hw; exact hcc) (fun e w1 h1 => ?_)
      obtain ⟨rfl, hw166⟩ := h1
      refine ⟨_, _, rfl, hw166, ?_⟩
      refine J.nil ?_
      refine D.backK 2 rfl ?_
      refine D.p (ls' := [true, true, true, true, true, true, true, true, false]) 6 rfl rfl rfl rfl (by kernel_rfl) rfl (Y.bld (cs := [.int .i64 (a0.length : Int), .int .i64 t10.2.1, .int .u32 t17]) rfl pl35 ti35 rfl (by kernel_rfl)) ?_
      exact D.to (by exact ⟨rfl, rfl, rfl, rfl, rfl, rfl, trivial⟩) (fun w h => h) (hD261 (g190, A118))
    refine D.share (fun (i : (Option Addr)) => [(4, .pointer (some ⟨g3, 0, none⟩)), (5, .pointer (some ⟨g5, 0, none⟩)), (6, .pointer (some ⟨g7, 0, none⟩)), (7, .bool t10.1), (17, .int .i64 (a0.length : Int)), (18, .int .i64 t10.2.1), (20, .slice i 1 1)]) (fun (i : (Option Addr)) => own 22 1 i 1 [.slice Aa0 a0.length ca0] :: cells g7 3 [.int .i64 t10.2.1] :: cells g3 22 [.slice A12 t10.2.2.length c13] :: own 5 1 A12 c13 (t10.2.2.map (Value.int .u8)) :: cells g5 77 [.func (.func 36) #[] #[.pointer (some ⟨g3, 0, none⟩)]] :: G) 4 [true, true, true, true, true, false, false, false, false] (fun A118 => ?_) (fun hD264 => ?_)
    · refine D.to (s' := [(4, .pointer (some ⟨g3, 0, none⟩)), (5, .pointer (some ⟨g5, 0, none⟩)), (6, .pointer (some ⟨g7, 0, none⟩)), (7, .bool t10.1), (17, .int .i64 (a0.length : Int)), (18, .int .i64 t10.2.1), (20, .slice A118 1 1)]) (G' := own 22 1 A118 1 [.slice Aa0 a0.length ca0] :: cells g7 3 [.int .i64 t10.2.1] :: cells g3 22 [.slice A12 t10.2.2.length c13] :: own 5 1 A12 c13 (t10.2.2.map (Value.int .u8)) :: cells g5 77 [.func (.func 36) #[] #[.pointer (some ⟨g3, 0, none⟩)]] :: G) (by exact ⟨rfl, rfl, rfl, rfl, rfl, rfl, rfl, trivial⟩) (fun w h => h) ?_
      refine D.any [5, 7] (by kernel_rfl) rfl ⟨?_, ?_, trivial⟩
      · refine DW.j (ls' := [true, true, true, true, true, true, false, false, false]) rfl rfl ?_
        refine J.call (us := []) (cap := []) rfl rfl rfl go32 (fun w hw => by have hcc := Sum.calls K [a0] A118 1 [.slice Aa0 a0.length ca0] (RdG.own 0 rfl) (VV.cons (ha0.suf [_, _, _, _, _] rfl) ka0 VV.nil) (Nat.le_refl _) t17 hC18 w hw; exact hcc) (fun e w1 h1 => ?_)
        obtain ⟨rfl, hw166⟩ := h1
        refine ⟨_, _, rfl, hw166, ?_⟩
        refine J.nil ?_
        refine D.backK 1 rfl ?_
        refine D.p (ls' := [true, true, true, true, true, true, true, false, false]) 6 rfl rfl rfl rfl (by kernel_rfl) rfl (Y.bld (cs := [.int .i64 (a0.length : Int), .int .i64 t10.2.1, .int .u32 t17]) rfl pl35 ti35 rfl (by kernel_rfl)) ?_
        exact D.to (by exact ⟨rfl, rfl, rfl, rfl, rfl, trivial⟩) (fun w h => h) (hD262 A118)
      · refine DW.j (ls' := [true, true, true, true, true, false, false, true, false]) rfl rfl ?_
        refine J.alloc (L := [.int .i64 0, .int .i64 0, .int .u32 0]) rfl ti35 rfl (fun g190 => ?_)
        refine J.nil ?_
        refine D.backK 2 rfl ?_
        exact D.to (by exact ⟨rfl, rfl, rfl, rfl, rfl, rfl, rfl, rfl, trivial⟩) (fun w h => (St.pick [1, 0, 2, 3, 4, 5] [_, _, _, _, _, _] h rfl)) (hD263 (g190, A118))
    refine D.share (fun (i : Nat) => [(4, .pointer (some ⟨g3, 0, none⟩)), (5, .pointer (some ⟨g5, 0, none⟩)), (6, .pointer (some ⟨g7, 0, none⟩)), (7, .bool t10.1), (8, .pointer (some ⟨i, 0, none⟩)), (17, .int .i64 (a0.length : Int)), (18, .int .i64 t10.2.1), (19, .slice Aa0 a0.length ca0)]) (fun (i : Nat) => cells i 35 [.int .i64 0, .int .i64 0, .int .u32 0] :: cells g7 3 [.int .i64 t10.2.1] :: cells g3 22 [.slice A12 t10.2.2.length c13] :: own 5 1 A12 c13 (t10.2.2.map (Value.int .u8)) :: cells g5 77 [.func (.func 36) #[] #[.pointer (some ⟨g3, 0, none⟩)]] :: G) 4 [true, true, true, true, false, false, false, true, false] (fun g190 => ?_) (fun hD265 => ?_)
    · refine D.to (s' := [(4, .pointer (some ⟨g3, 0, none⟩)), (5, .pointer (some ⟨g5, 0, none⟩)), (6, .pointer (some ⟨g7, 0, none⟩)), (7, .bool t10.1), (8, .pointer (some ⟨g190, 0, none⟩)), (17, .int .i64 (a0.length : Int)), (18, .int .i64 t10.2.1), (19, .slice Aa0 a0.length ca0)]) (G' := cells g190 35 [.int .i64 0, .int .i64 0, .int .u32 0] :: cells g7 3 [.int .i64 t10.2.1] :: cells g3 22 [.slice A12 t10.2.2.length c13] :: own 5 1 A12 c13 (t10.2.2.map (Value.int .u8)) :: cells g5 77 [.func (.func 36) #[] #[.pointer (some ⟨g3, 0, none⟩)]] :: G) (by exact ⟨rfl, rfl, rfl, rfl, rfl, rfl, rfl, rfl, trivial⟩) (fun w h => h) ?_
      refine D.any [4] (by kernel_rfl) rfl ⟨?_, trivial⟩
      refine DW.j (ls' := [true, true, true, true, true, false, false, true, false]) rfl rfl ?_
      refine J.bsV (L := [.slice Aa0 a0.length ca0]) rfl Try.underlying31 ti22 rfl rfl rfl rfl rfl (fun A118 => ?_)
      refine J.nil ?_
      refine D.backK 2 rfl ?_
      exact D.to (by exact ⟨rfl, rfl, rfl, rfl, rfl, rfl, rfl, rfl, trivial⟩) (fun w h => h) (hD263 (g190, A118))
    refine D.any [4, 7] (by kernel_rfl) rfl ⟨?_, ?_, trivial⟩
    · refine DW.j (ls' := [true, true, true, true, true, false, false, false, false]) rfl rfl ?_
      refine J.bsV (L := [.slice Aa0 a0.length ca0]) rfl Try.underlying31 ti22 rfl rfl rfl rfl rfl (fun A118 => ?_)
      refine J.nil ?_
      refine D.backK 1 rfl ?_
      exact D.to (by exact ⟨rfl, rfl, rfl, rfl, rfl, rfl, rfl, trivial⟩) (fun w h => h) (hD264 A118)
    · refine DW.j (ls' := [true, true, true, true, false, false, false, true, false]) rfl rfl ?_
      refine J.alloc (L := [.int .i64 0, .int .i64 0, .int .u32 0]) rfl ti35 rfl (fun g190 => ?_)
      refine J.nil ?_
      refine D.backK 1 rfl ?_
      exact D.to (by exact ⟨rfl, rfl, rfl, rfl, rfl, rfl, rfl, rfl, trivial⟩) (fun w h => h) (hD265 g190)
/-! ### salvor/hint.Load$1: function 44 -/
def lEach.f (a0 : Int) (a1 : Int) (a2_0 : Int) (a2_1 : Int) (a2_2 : Int) (a2_3 : ByteArray) (a2_4 : ByteArray) (a2_5 : Int) (a2_6 : Int) (a2_7 : Int) (a2_8 : Int) (a2_9 : ByteArray) (a2_10 : Int) (a2_11 : Int) (a2_12 : Int) (a2_13 : Int) (a3_0 : Bool) (a4_0 : Int) (a5_0 : List T44_) (a6_0 : Int) (a6_1 : Int) (a6_2 : Int) (a6_3 : Int) : Option (Bool × Bool × Int × (List T44_) × Int × Int × Int × Int) := if a3_0 = true then (some (false, a3_0, a4_0, a5_0, a6_0, a6_1, a6_2, a6_3)) else ((if a2_0 = 3 then (some (decide (a2_7 = a4_0))) else (some false)).bind fun o5 => if o5 = true then (gd ((a5_0.length + [(a2_5, a2_6, a2_7, a2_8, a2_9)].length) * 48 ≤ 140737488355328) (some (true, a3_0, IntKind.wrap .i64 (a4_0 + a2_8), (a5_0 ++ [(a2_5, a2_6, a2_7, a2_8, a2_9)]), a6_0, a6_1, a6_2, a6_3))) else (if a2_0 = 4 then (some (true, true, a4_0, a5_0, a2_10, a2_11, a2_12, a2_13)) else (some (false, a3_0, a4_0, a5_0, a6_0, a6_1, a6_2, a6_3))))
theorem lEach.calls {B : Nat} {w0 : World} {G : List HP} (a0 : Int) (a1 : Int) (a2_0 : Int) (a2_1 : Int) (a2_2 : Int) (a2_3 : ByteArray) (a2_4 : ByteArray) (a2_5 : Int) (a2_6 : Int) (a2_7 : Int) (a2_8 : Int) (a2_9 : ByteArray) (a2_10 : Int) (a2_11 : Int) (a2_12 : Int) (a2_13 : Int) (a3_0 : Bool) (a4_0 : Int) (a5_0 : List T44_) (a6_0 : Int) (a6_1 : Int) (a6_2 : Int) (a6_3 : Int) (ga3 : Nat) (ga4 : Nat) (ga5 : Nat) (Aa5_0 : Option Addr) (ca5_0 : Nat) (ga6 : Nat) (r : Bool × Bool × Int × (List T44_) × Int × Int × Int × Int) (H : lEach.f a0 a1 a2_0 a2_1 a2_2 a2_3 a2_4 a2_5 a2_6 a2_7 a2_8 a2_9 a2_10 a2_11 a2_12 a2_13 a3_0 a4_0 a5_0 a6_0 a6_1 a6_2 a6_3 = some r) (w : World) (hw : St B w0 (cells ga3 4 [.bool a3_0] :: cells ga4 3 [.int .i64 a4_0] :: cells ga5 36 [.slice Aa5_0 a5_0.length ca5_0] :: own 44 5 Aa5_0 ca5_0 (a5_0.flatMap encT44_) :: cells ga6 52 [.int .i64 a6_0, .int .i64 a6_1, .int .i64 a6_2, .int .u32 a6_3] :: G) w) :
    Calls Try.prog 44 [.int .i64 a0, .int .i64 a1, .agg #[.int .i64 a2_0, .int .u64 a2_1, .int .i64 a2_2, .string a2_3, .string a2_4, .int .u64 a2_5, .int .i64 a2_6, .int .i64 a2_7, .int .i64 a2_8, .string a2_9, .int .i64 a2_10, .int .i64 a2_11, .int .i64 a2_12, .int .u32 a2_13], .pointer (some ⟨ga3, 0, none⟩), .pointer (some ⟨ga4, 0, none⟩), .pointer (some ⟨ga5, 0, none⟩), .pointer (some ⟨ga6, 0, none⟩)].toArray w (fun e w' => ∃ A3 c3, e = .returned (.bool r.1) ∧ St B w0 (cells ga3 4 [.bool r.2.1] :: cells ga4 3 [.int .i64 r.2.2.1] :: cells ga5 36 [.slice A3 r.2.2.2.1.length c3] :: own 44 5 A3 c3 (r.2.2.2.1.flatMap encT44_) :: cells ga6 52 [.int .i64 r.2.2.2.2.1, .int .i64 r.2.2.2.2.2.1, .int .i64 r.2.2.2.2.2.2.1, .int .u32 r.2.2.2.2.2.2.2] :: G) w') := by
  unfold lEach.f at H
  refine calls_of (n := 40) (s := [(0, .int .i64 a0), (1, .int .i64 a1), (2, .agg #[.int .i64 a2_0, .int .u64 a2_1, .int .i64 a2_2, .string a2_3, .string a2_4, .int .u64 a2_5, .int .i64 a2_6, .int .i64 a2_7, .int .i64 a2_8, .string a2_9, .int .i64 a2_10, .int .i64 a2_11, .int .i64 a2_12, .int .u32 a2_13]), (3, .pointer (some ⟨ga3, 0, none⟩)), (4, .pointer (some ⟨ga4, 0, none⟩)), (5, .pointer (some ⟨ga5, 0, none⟩)), (6, .pointer (some ⟨ga6, 0, none⟩))]) Try.func44 rfl rfl rfl rfl ?_ hw
  refine C.rs ?_
  refine J.box (L := [.int .i64 a2_0, .int .u64 a2_1, .int .i64 a2_2, .string a2_3, .string a2_4, .int .u64 a2_5, .int .i64 a2_6, .int .i64 a2_7, .int .i64 a2_8, .string a2_9, .int .i64 a2_10, .int .i64 a2_11, .int .i64 a2_12, .int .u32 a2_13]) rfl rfl rfl (fun g1 => ?_)
  refine J.p rfl rfl rfl rfl (Y.asg rfl) ?_
  refine J.nx ?_
  refine C.seq ?_
  refine C.blk ?_
  refine C.rs ?_
  refine J.r rfl rfl rfl rfl (Y.ldC 1 Try.underlying4 rfl rfl rfl rfl) ?_
  refine J.p rfl rfl rfl rfl (Y.asg rfl) ?_
  refine J.nx ?_
  refine split2 H (fun c3 H => ?_) (fun c3 H => ?_)
  · refine C.condT (congrArg (fun b => some (Value.bool b)) (c3)) ?_
    refine C.rs ?_
    refine J.p rfl rfl rfl rfl (Y.asg rfl) ?_
    refine J.nx ?_
    refine C.ret ?_
    obtain rfl := Option.some.inj H
    refine T.ib ?_
    refine T.th ?_
    exact ret_ok (ks := [10]) rfl rfl (fun w h => ⟨Aa5_0, ca5_0, rfl, (St.pick [1, 2, 3, 4, 5] [_, _, _, _, _, _] h rfl)⟩)
  · refine C.condF (congrArg (fun b => some (Value.bool b)) (nt c3)) ?_
    refine C.rs ?_
    refine J.joinB H (fun (o5 : Bool) (j6 : Unit) => [(3, .pointer (some ⟨ga3, 0, none⟩)), (4, .pointer (some ⟨ga4, 0, none⟩)), (5, .pointer (some ⟨ga5, 0, none⟩)), (6, .pointer (some ⟨ga6, 0, none⟩)), (9, .pointer (some ⟨g1, 0, none⟩)), (13, .bool o5)]) (fun (o5 : Bool) (j6 : Unit) => cells ga3 4 [.bool a3_0] :: cells ga4 3 [.int .i64 a4_0] :: cells ga5 36 [.slice Aa5_0 a5_0.length ca5_0] :: cells ga6 52 [.int .i64 a6_0, .int .i64 a6_1, .int .i64 a6_2, .int .u32 a6_3] :: cells g1 54 [.int .i64 a2_0, .int .u64 a2_1, .int .i64 a2_2, .string a2_3, .string a2_4, .int .u64 a2_5, .int .i64 a2_6, .int .i64 a2_7, .int .i64 a2_8, .string a2_9, .int .i64 a2_10, .int .i64 a2_11, .int .i64 a2_12, .int .u32 a2_13] :: own 44 5 Aa5_0 ca5_0 (a5_0.flatMap encT44_) :: G) (fun (o5 : Bool) (j6 : Unit) => True) (fun o7 H HK8 => ?_) (fun o5 j6 H _ => ?_)
    · refine J.p rfl rfl rfl rfl (Y.fa0 fa54_0 rfl rfl) ?_
      refine J.r rfl rfl rfl rfl (Y.ldC 0 Try.underlying42 rfl rfl rfl rfl) ?_
      refine J.p rfl rfl rfl rfl (Y.bin rfl rfl rfl) ?_
      refine J.p rfl rfl rfl rfl (Y.mv rfl) ?_
      refine split2 H (fun c9 H => ?_) (fun c9 H => ?_)
      · refine J.as (k := 17) rfl (congrArg Value.bool (decide_eq_true c9)) ?_
        refine J.p rfl rfl rfl rfl (Y.fa0 fa54_2 rfl rfl) ?_
        refine J.p rfl rfl rfl rfl (Y.fa0 fa44_2 rfl rfl) ?_
        refine J.r rfl rfl rfl rfl (Y.ldC 0 Try.underlying3 rfl rfl rfl rfl) ?_
        refine J.r rfl rfl rfl rfl (Y.ldC 2 Try.underlying3 rfl rfl rfl rfl) ?_
        refine J.p rfl rfl rfl rfl (Y.bin rfl rfl rfl) ?_
        refine J.p rfl rfl rfl rfl (Y.pickT rfl rfl) ?_
        refine J.p rfl rfl rfl rfl (Y.asg rfl) ?_
        refine J.nil ?_
        obtain rfl := Option.some.inj H
        exact N.meet (decide (a2_7 = a4_0), ()) ⟨HK8, trivial⟩ (by exact ⟨rfl, rfl, rfl, rfl, rfl, rfl, trivial⟩) (by exact fun w h => (St.pick [1, 2, 3, 5, 0, 4] [_, _, _, _, _, _] h rfl))
      · refine J.as (k := 17) rfl (congrArg Value.bool (decide_eq_false c9)) ?_
        refine J.skip rfl rfl ?_
        refine J.skip rfl rfl ?_
        refine J.skip rfl rfl ?_
        refine J.skip rfl rfl ?_
        refine J.skip rfl rfl ?_
        refine J.p rfl rfl rfl rfl (Y.pickF rfl rfl) ?_
        refine J.p rfl rfl rfl rfl (Y.asg rfl) ?_
        refine J.nil ?_
        obtain rfl := Option.some.inj H
        exact N.meet (false, ()) ⟨HK8, trivial⟩ (by exact ⟨rfl, rfl, rfl, rfl, rfl, rfl, trivial⟩) (by exact fun w h => (St.pick [1, 2, 3, 5, 0, 4] [_, _, _, _, _, _] h rfl))
    · refine C.at (s' := [(3, .pointer (some ⟨ga3, 0, none⟩)), (4, .pointer (some ⟨ga4, 0, none⟩)), (5, .pointer (some ⟨ga5, 0, none⟩)), (6, .pointer (some ⟨ga6, 0, none⟩)), (9, .pointer (some ⟨g1, 0, none⟩)), (13, .bool o5)]) (G' := cells ga3 4 [.bool a3_0] :: cells ga4 3 [.int .i64 a4_0] :: cells ga5 36 [.slice Aa5_0 a5_0.length ca5_0] :: cells ga6 52 [.int .i64 a6_0, .int .i64 a6_1, .int .i64 a6_2, .int .u32 a6_3] :: cells g1 54 [.int .i64 a2_0, .int .u64 a2_1, .int .i64 a2_2, .string a2_3, .string a2_4, .int .u64 a2_5, .int .i64 a2_6, .int .i64 a2_7, .int .i64 a2_8, .string a2_9, .int .i64 a2_10, .int .i64 a2_11, .int .i64 a2_12, .int .u32 a2_13] :: own 44 5 Aa5_0 ca5_0 (a5_0.flatMap encT44_) :: G) rfl rfl ?_
      refine split2 H (fun c10 H => ?_) (fun c10 H => ?_)
      · refine C.condT (congrArg (fun b => some (Value.bool b)) (c10)) ?_
        refine C.rs ?_
        refine J.r rfl rfl rfl rfl (Y.ldC 1 Try.underlying3 rfl rfl rfl rfl) ?_
        refine J.p rfl rfl rfl rfl (Y.fa0 fa54_2 rfl rfl) ?_
        refine J.p rfl rfl rfl rfl (Y.fa0 fa44_3 rfl rfl) ?_
        refine J.r rfl rfl rfl rfl (Y.ldC 4 Try.underlying3 rfl rfl rfl rfl) ?_
        refine J.p rfl rfl rfl rfl (Y.bin rfl rfl rfl) ?_
        refine J.pull 1 rfl rfl ?_
        refine J.stE (L' := [.int .i64 (IntKind.wrap .i64 (a4_0 + a2_8))]) ti3 rfl rfl rfl rfl rfl ?_
        refine J.nx ?_
        refine C.rs ?_
        refine J.r rfl rfl rfl rfl (Y.ldC 2 Try.underlying36 rfl rfl rfl rfl) ?_
        refine J.p rfl rfl rfl rfl (Y.fa0 fa54_2 rfl rfl) ?_
        refine J.r rfl rfl rfl rfl (Y.ldCA (us := [.int .u64 a2_5, .int .i64 a2_6, .int .i64 a2_7, .int .i64 a2_8, .string a2_9]) 4 Try.underlying44 rfl ti44 rfl rfl rfl rfl) ?_
        refine J.bsM (enc := encT44_) (xs := [(a2_5, a2_6, a2_7, a2_8, a2_9)]) (zs := [.int .u64 0, .int .i64 0, .int .i64 0, .int .i64 0, .string ByteArray.empty]) lenT44_ rfl Try.underlying36 ti44 (by kernel_rfl) rfl (by kernel_rfl) rfl rfl rfl (fun A11 => ?_)
        refine J.pull 6 rfl rfl ?_
        obtain ⟨p15, H⟩ := gd_some H
        refine J.appM (enc := encT44_) (xs := a5_0) (ys := [(a2_5, a2_6, a2_7, a2_8, a2_9)]) lenT44_ oneT44_ rfl Try.underlying36 ti44 rfl (by decide) (by decide) rfl rfl (RdG.own 1 rfl) p15 (fun A13 c14 => ?_)
        refine J.pull 1 rfl rfl (J.drop ?_)
        refine J.pull 3 rfl rfl ?_
        refine J.stE (L' := [.slice A13 (a5_0 ++ [(a2_5, a2_6, a2_7, a2_8, a2_9)]).length c14]) ti36 rfl rfl rfl rfl rfl ?_
        refine J.nx ?_
        refine C.rs ?_
        refine J.p rfl rfl rfl rfl (Y.asg rfl) ?_
        refine J.nx ?_
        refine C.ret ?_
        obtain rfl := Option.some.inj H
        refine T.ib ?_
        refine T.th ?_
        exact ret_ok (ks := [10]) rfl rfl (fun w h => ⟨A13, c14, rfl, (St.pick [3, 2, 0, 1, 4] [_, _, _, _, _, _] h rfl)⟩)
      · refine C.condF (congrArg (fun b => some (Value.bool b)) (nt c10)) ?_
        refine C.rs ?_
        refine J.p rfl rfl rfl rfl (Y.fa0 fa54_0 rfl rfl) ?_
        refine J.r rfl rfl rfl rfl (Y.ldC 4 Try.underlying42 rfl rfl rfl rfl) ?_
        refine J.p rfl rfl rfl rfl (Y.bin rfl rfl rfl) ?_
        refine J.p rfl rfl rfl rfl (Y.asg rfl) ?_
        refine J.nx ?_
        refine split2 H (fun c17 H => ?_) (fun c17 H => ?_)
        · refine C.condT (congrArg (fun b => some (Value.bool b)) (decide_eq_true c17)) ?_
          refine C.rs ?_
          refine J.p rfl rfl rfl rfl (Y.fa0 fa54_3 rfl rfl) ?_
          refine J.r rfl rfl rfl rfl (Y.ldCA (us := [.int .i64 a2_10, .int .i64 a2_11, .int .i64 a2_12, .int .u32 a2_13]) 4 Try.underlying52 rfl ti52 rfl rfl rfl rfl) ?_
          refine J.pull 3 rfl rfl ?_
          refine J.stA (us := [.int .i64 a2_10, .int .i64 a2_11, .int .i64 a2_12, .int .u32 a2_13]) (L' := [.int .i64 a2_10, .int .i64 a2_11, .int .i64 a2_12, .int .u32 a2_13]) ti52 rfl rfl rfl rfl rfl rfl ?_
          refine J.pull 1 rfl rfl ?_
          refine J.stE (L' := [.bool true]) ti4 rfl rfl rfl rfl rfl ?_
          refine J.nx ?_
          refine C.rs ?_
          refine J.p rfl rfl rfl rfl (Y.asg rfl) ?_
          refine J.nx ?_
          refine C.ret ?_
          obtain rfl := Option.some.inj H
          refine T.ib ?_
          refine T.th ?_
          exact ret_ok (ks := [10]) rfl rfl (fun w h => ⟨Aa5_0, ca5_0, rfl, (St.pick [0, 2, 3, 5, 1] [_, _, _, _, _, _] h rfl)⟩)
        · refine C.condF (congrArg (fun b => some (Value.bool b)) (decide_eq_false c17)) ?_
          refine C.skip ?_
          refine N.ib ?_
          refine N.nx ?_
          refine C.rs ?_
          refine J.p rfl rfl rfl rfl (Y.asg rfl) ?_
          refine J.nx ?_
          refine C.ret ?_
          obtain rfl := Option.some.inj H
          exact ret_ok (ks := [10]) rfl rfl (fun w h => ⟨Aa5_0, ca5_0, rfl, (St.pick [0, 1, 2, 5, 3] [_, _, _, _, _, _] h rfl)⟩)
/-! ### salvor/hint.whole: function 37 -/
def wholeL.l1 (K : Nat) (a0 : List Int) : Nat → (Int × Bool × Int × (List T44_) × Int × Int × Int × Int) → Option ((Bool × Bool × Int × (List T44_) × Int × Int × Int × Int) ⊕ (Bool × Int × (List T44_) × Int × Int × Int × Int))
  | 0, _ => none
  | k + 1, i86 => if i86.1 < (a0.length : Int) then ((fDecode.f K a0 i86.1).bind fun t90 => (if t90.2.2.2.2.2.2.2.2.2.2.2.2.2.2.2 ≠ 0 then (some (true, i86.2.1, i86.2.2.1, i86.2.2.2.1, i86.2.2.2.2.1, i86.2.2.2.2.2.1, i86.2.2.2.2.2.2.1, i86.2.2.2.2.2.2.2)) else ((lEach.f i86.1 t90.2.2.2.2.2.2.2.2.2.2.2.2.2.2.1 t90.1 t90.2.1 t90.2.2.1 t90.2.2.2.1 t90.2.2.2.2.1 t90.2.2.2.2.2.1 t90.2.2.2.2.2.2.1 t90.2.2.2.2.2.2.2.1 t90.2.2.2.2.2.2.2.2.1 t90.2.2.2.2.2.2.2.2.2.1 t90.2.2.2.2.2.2.2.2.2.2.1 t90.2.2.2.2.2.2.2.2.2.2.2.1 t90.2.2.2.2.2.2.2.2.2.2.2.2.1 t90.2.2.2.2.2.2.2.2.2.2.2.2.2.1 i86.2.1 i86.2.2.1 i86.2.2.2.1 i86.2.2.2.2.1 i86.2.2.2.2.2.1 i86.2.2.2.2.2.2.1 i86.2.2.2.2.2.2.2).bind fun t107 => some (!t107.1, t107.2.1, t107.2.2.1, t107.2.2.2.1, t107.2.2.2.2.1, t107.2.2.2.2.2.1, t107.2.2.2.2.2.2.1, t107.2.2.2.2.2.2.2))).bind fun o101 => if o101.1 = true then (some (.inl ((false, o101.2.1, o101.2.2.1, o101.2.2.2.1, o101.2.2.2.2.1, o101.2.2.2.2.2.1, o101.2.2.2.2.2.2.1, o101.2.2.2.2.2.2.2)))) else (wholeL.l1 K a0 k (IntKind.wrap .i64 (i86.1 + (max t90.2.2.2.2.2.2.2.2.2.2.2.2.2.2.1 1)), o101.2.1, o101.2.2.1, o101.2.2.2.1, o101.2.2.2.2.1, o101.2.2.2.2.2.1, o101.2.2.2.2.2.2.1, o101.2.2.2.2.2.2.2))) else (some (.inr (i86.2.1, i86.2.2.1, i86.2.2.2.1, i86.2.2.2.2.1, i86.2.2.2.2.2.1, i86.2.2.2.2.2.2.1, i86.2.2.2.2.2.2.2)))
def wholeL.f (K : Nat) (a0 : List Int) (a1c0_0 : Bool) (a1c1_0 : Int) (a1c2_0 : List T44_) (a1c3_0 : Int) (a1c3_1 : Int) (a1c3_2 : Int) (a1c3_3 : Int) : Option (Bool × Bool × Int × (List T44_) × Int × Int × Int × Int) := thn (wholeL.l1 K a0 K (0, a1c0_0, a1c1_0, a1c2_0, a1c3_0, a1c3_1, a1c3_2, a1c3_3)) fun o42 => some (true, o42.1, o42.2.1, o42.2.2.1, o42.2.2.2.1, o42.2.2.2.2.1, o42.2.2.2.2.2.1, o42.2.2.2.2.2.2)
theorem wholeL.calls {B : Nat} {w0 : World} {G : List HP} (K : Nat) (a0 : List Int) (a1c0_0 : Bool) (a1c1_0 : Int) (a1c2_0 : List T44_) (a1c3_0 : Int) (a1c3_1 : Int) (a1c3_2 : Int) (a1c3_3 : Int) (Aa0 : Option Addr) (ca0 : Nat) (ga1c0 : Nat) (ga1c1 : Nat) (ga1c2 : Nat) (Aa1c2_0 : Option Addr) (ca1c2_0 : Nat) (ga1c3 : Nat) (ha0 : RdG B w0 G Aa0 (a0.map (Value.int .u8))) (ka0 : a0.length ≤ ca0) (r : Bool × Bool × Int × (List T44_) × Int × Int × Int × Int) (H : wholeL.f K a0 a1c0_0 a1c1_0 a1c2_0 a1c3_0 a1c3_1 a1c3_2 a1c3_3 = some r) (w : World) (hw : St B w0 (cells ga1c0 4 [.bool a1c0_0] :: cells ga1c1 3 [.int .i64 a1c1_0] :: cells ga1c2 36 [.slice Aa1c2_0 a1c2_0.length ca1c2_0] :: own 44 5 Aa1c2_0 ca1c2_0 (a1c2_0.flatMap encT44_) :: cells ga1c3 52 [.int .i64 a1c3_0, .int .i64 a1c3_1, .int .i64 a1c3_2, .int .u32 a1c3_3] :: G) w) :
    Calls Try.prog 37 [.slice Aa0 a0.length ca0, .func (.func 44) #[] #[.pointer (some ⟨ga1c0, 0, none⟩), .pointer (some ⟨ga1c1, 0, none⟩), .pointer (some ⟨ga1c2, 0, none⟩), .pointer (some ⟨ga1c3, 0, none⟩)]].toArray w (fun e w' => ∃ A3 c3, e = .returned (.bool r.1) ∧ St B w0 (cells ga1c0 4 [.bool r.2.1] :: cells ga1c1 3 [.int .i64 r.2.2.1] :: cells ga1c2 36 [.slice A3 r.2.2.2.1.length c3] :: own 44 5 A3 c3 (r.2.2.2.1.flatMap encT44_) :: cells ga1c3 52 [.int .i64 r.2.2.2.2.1, .int .i64 r.2.2.2.2.2.1, .int .i64 r.2.2.2.2.2.2.1, .int .u32 r.2.2.2.2.2.2.2] :: G) w') := by
  unfold wholeL.f at H
  refine calls_of (n := 34) (s := [(0, .slice Aa0 a0.length ca0), (1, .func (.func 44) #[] #[.pointer (some ⟨ga1c0, 0, none⟩), .pointer (some ⟨ga1c1, 0, none⟩), .pointer (some ⟨ga1c2, 0, none⟩), .pointer (some ⟨ga1c3, 0, none⟩)])]) Try.func37 rfl rfl rfl rfl ?_ hw
  refine C.rs ?_
  refine J.p rfl rfl rfl rfl (Y.asg rfl) ?_
  refine J.nx ?_
  refine C.seq ?_
  refine C.rs ?_
  refine J.p rfl rfl rfl rfl (Y.asg rfl) ?_
  refine J.nx ?_
  refine C.joinNR H (fun (o42 : Bool × Int × (List T44_) × Int × Int × Int × Int) (j43 : (Option Addr) × Nat) => []) (fun (o42 : Bool × Int × (List T44_) × Int × Int × Int × Int) (j43 : (Option Addr) × Nat) => cells ga1c0 4 [.bool o42.1] :: cells ga1c1 3 [.int .i64 o42.2.1] :: own 44 5 j43.1 j43.2 (o42.2.2.1.flatMap encT44_) :: cells ga1c2 36 [.slice j43.1 o42.2.2.1.length j43.2] :: cells ga1c3 52 [.int .i64 o42.2.2.2.1, .int .i64 o42.2.2.2.2.1, .int .i64 o42.2.2.2.2.2.1, .int .u32 o42.2.2.2.2.2.2] :: G) (fun (o42 : Bool × Int × (List T44_) × Int × Int × Int × Int) (j43 : (Option Addr) × Nat) => True) (fun o40 H HK41 => ?_) (fun o42 j43 H _ => ?_)
  · refine C.blk ?_
    refine C.loop (fun (i : Nat × (Int × Bool × Int × (List T44_) × Int × Int × Int × Int) × ((Option Addr) × Nat)) => [(0, .slice Aa0 a0.length ca0), (1, .func (.func 44) #[] #[.pointer (some ⟨ga1c0, 0, none⟩), .pointer (some ⟨ga1c1, 0, none⟩), .pointer (some ⟨ga1c2, 0, none⟩), .pointer (some ⟨ga1c3, 0, none⟩)]), (5, .int .i64 i.2.1.1)]) (fun (i : Nat × (Int × Bool × Int × (List T44_) × Int × Int × Int × Int) × ((Option Addr) × Nat)) => cells ga1c0 4 [.bool i.2.1.2.1] :: cells ga1c1 3 [.int .i64 i.2.1.2.2.1] :: own 44 5 i.2.2.1 i.2.2.2 (i.2.1.2.2.2.1.flatMap encT44_) :: cells ga1c2 36 [.slice i.2.2.1 i.2.1.2.2.2.1.length i.2.2.2] :: cells ga1c3 52 [.int .i64 i.2.1.2.2.2.2.1, .int .i64 i.2.1.2.2.2.2.2.1, .int .i64 i.2.1.2.2.2.2.2.2.1, .int .u32 i.2.1.2.2.2.2.2.2.2] :: G) (fun (i : Nat × (Int × Bool × Int × (List T44_) × Int × Int × Int × Int) × ((Option Addr) × Nat)) => wholeL.l1 K a0 i.1 i.2.1 = some o40 ∧ (True)) (fun i => i.1) (K, (0, a1c0_0, a1c1_0, a1c2_0, a1c3_0, a1c3_1, a1c3_2, a1c3_3), (Aa1c2_0, ca1c2_0)) ⟨H, trivial⟩ (by exact ⟨rfl, rfl, rfl, trivial⟩) (by exact fun w h => (St.pick [0, 1, 3, 2, 4] [_, _, _, _, _] h rfl)) ?_
    rintro ⟨k115, i86, j87⟩ ⟨H, _⟩
    replace H : wholeL.l1 K a0 k115 i86 = some o40 := H
    obtain ⟨k85, rfl⟩ : ∃ m, k115 = m + 1 := by cases k115 with | zero => exact absurd H (by simp [wholeL.l1]) | succ m => exact ⟨m, rfl⟩
    rw [wholeL.l1] at H
    refine C.at (s' := [(0, .slice Aa0 a0.length ca0), (1, .func (.func 44) #[] #[.pointer (some ⟨ga1c0, 0, none⟩), .pointer (some ⟨ga1c1, 0, none⟩), .pointer (some ⟨ga1c2, 0, none⟩), .pointer (some ⟨ga1c3, 0, none⟩)]), (5, .int .i64 i86.1)]) (G' := cells ga1c0 4 [.bool i86.2.1] :: cells ga1c1 3 [.int .i64 i86.2.2.1] :: own 44 5 j87.1 j87.2 (i86.2.2.2.1.flatMap encT44_) :: cells ga1c2 36 [.slice j87.1 i86.2.2.2.1.length j87.2] :: cells ga1c3 52 [.int .i64 i86.2.2.2.2.1, .int .i64 i86.2.2.2.2.2.1, .int .i64 i86.2.2.2.2.2.2.1, .int .u32 i86.2.2.2.2.2.2.2] :: G) rfl rfl ?_
    refine C.seq ?_
    refine C.rs ?_
    refine J.p rfl rfl rfl rfl (Y.mv rfl) ?_
    refine J.p rfl rfl rfl rfl (Y.mv rfl) ?_
    refine J.p rfl rfl rfl rfl (Y.lenS Try.underlying22 rfl) ?_
    refine J.p rfl rfl rfl rfl (Y.bin rfl rfl rfl) ?_
    refine J.nx ?_
    refine split2 H (fun c89 H => ?_) (fun c89 H => ?_)
    · refine C.condT (congrArg (fun b => some (Value.bool b)) (decide_eq_true c89)) ?_
      refine C.skip ?_
      refine N.nx ?_
      refine C.blk ?_
      refine C.rs ?_
      refine J.p rfl rfl rfl rfl (Y.mv rfl) ?_
      refine J.p rfl rfl rfl rfl (Y.mv rfl) ?_
      obtain ⟨t90, hC91, H⟩ := bind_some H
      refine J.call (us := []) (cap := []) rfl rfl rfl go45 (fun w hw => by have hcc := fDecode.calls K a0 i86.1 Aa0 ca0 (ha0.suf [_, _, _, _, _] rfl) ka0 t90 hC91 w hw; exact hcc) (fun e w1 h1 => ?_)
      obtain ⟨rfl, hw114⟩ := h1
      refine ⟨_, _, rfl, hw114, ?_⟩
      refine J.p rfl rfl rfl rfl (Y.mv rfl) ?_
      refine J.p rfl rfl rfl rfl (Y.ext rfl rfl) ?_
      refine J.p rfl rfl rfl rfl (Y.ext rfl rfl) ?_
      refine J.p rfl rfl rfl rfl (Y.ext rfl rfl) ?_
      refine J.alloc (L := [.int .i64 0, .int .u64 0, .int .i64 0, .string ByteArray.empty, .string ByteArray.empty, .int .u64 0, .int .i64 0, .int .i64 0, .int .i64 0, .string ByteArray.empty, .int .i64 0, .int .i64 0, .int .i64 0, .int .u32 0]) rfl ti54 rfl (fun g92 => ?_)
      refine J.stA (us := [.int .i64 t90.1, .int .u64 t90.2.1, .int .i64 t90.2.2.1, .string t90.2.2.2.1, .string t90.2.2.2.2.1, .int .u64 t90.2.2.2.2.2.1, .int .i64 t90.2.2.2.2.2.2.1, .int .i64 t90.2.2.2.2.2.2.2.1, .int .i64 t90.2.2.2.2.2.2.2.2.1, .string t90.2.2.2.2.2.2.2.2.2.1, .int .i64 t90.2.2.2.2.2.2.2.2.2.2.1, .int .i64 t90.2.2.2.2.2.2.2.2.2.2.2.1, .int .i64 t90.2.2.2.2.2.2.2.2.2.2.2.2.1, .int .u32 t90.2.2.2.2.2.2.2.2.2.2.2.2.2.1]) (L' := [.int .i64 t90.1, .int .u64 t90.2.1, .int .i64 t90.2.2.1, .string t90.2.2.2.1, .string t90.2.2.2.2.1, .int .u64 t90.2.2.2.2.2.1, .int .i64 t90.2.2.2.2.2.2.1, .int .i64 t90.2.2.2.2.2.2.2.1, .int .i64 t90.2.2.2.2.2.2.2.2.1, .string t90.2.2.2.2.2.2.2.2.2.1, .int .i64 t90.2.2.2.2.2.2.2.2.2.2.1, .int .i64 t90.2.2.2.2.2.2.2.2.2.2.2.1, .int .i64 t90.2.2.2.2.2.2.2.2.2.2.2.2.1, .int .u32 t90.2.2.2.2.2.2.2.2.2.2.2.2.2.1]) ti54 rfl rfl rfl rfl rfl rfl ?_
      refine J.p rfl rfl rfl rfl (Y.asg rfl) ?_
      refine J.p rfl rfl rfl rfl (Y.asg rfl) ?_
      refine J.nx ?_
      refine C.seq ?_
      refine C.rs ?_
      refine J.joinB H (fun (o101 : Bool × Bool × Int × (List T44_) × Int × Int × Int × Int) (j102 : (Option Addr) × Nat) => [(0, .slice Aa0 a0.length ca0), (1, .func (.func 44) #[] #[.pointer (some ⟨ga1c0, 0, none⟩), .pointer (some ⟨ga1c1, 0, none⟩), .pointer (some ⟨ga1c2, 0, none⟩), .pointer (some ⟨ga1c3, 0, none⟩)]), (5, .int .i64 i86.1), (7, .int .i64 t90.2.2.2.2.2.2.2.2.2.2.2.2.2.2.1), (29, .bool o101.1)]) (fun (o101 : Bool × Bool × Int × (List T44_) × Int × Int × Int × Int) (j102 : (Option Addr) × Nat) => cells ga1c0 4 [.bool o101.2.1] :: cells ga1c1 3 [.int .i64 o101.2.2.1] :: own 44 5 j102.1 j102.2 (o101.2.2.2.1.flatMap encT44_) :: cells ga1c2 36 [.slice j102.1 o101.2.2.2.1.length j102.2] :: cells ga1c3 52 [.int .i64 o101.2.2.2.2.1, .int .i64 o101.2.2.2.2.2.1, .int .i64 o101.2.2.2.2.2.2.1, .int .u32 o101.2.2.2.2.2.2.2] :: G) (fun (o101 : Bool × Bool × Int × (List T44_) × Int × Int × Int × Int) (j102 : (Option Addr) × Nat) => True) (fun o104 H HK105 => ?_) (fun o101 j102 H _ => ?_)
      · refine J.p rfl rfl rfl rfl (Y.mv rfl) ?_
        refine J.p rfl rfl rfl rfl (Y.bin rfl rfl rfl) ?_
        refine J.p rfl rfl rfl rfl (Y.mv rfl) ?_
        refine split2 H (fun c106 H => ?_) (fun c106 H => ?_)
        · refine J.as (k := 22) rfl (congrArg Value.bool (decide_eq_true c106)) ?_
          refine J.skip rfl rfl ?_
          refine J.skip rfl rfl ?_
          refine J.skip rfl rfl ?_
          refine J.skip rfl rfl ?_
          refine J.skip rfl rfl ?_
          refine J.skip rfl rfl ?_
          refine J.p rfl rfl rfl rfl (Y.pickT rfl rfl) ?_
          refine J.nil ?_
          obtain rfl := Option.some.inj H
          exact N.meet ((true, i86.2.1, i86.2.2.1, i86.2.2.2.1, i86.2.2.2.2.1, i86.2.2.2.2.2.1, i86.2.2.2.2.2.2.1, i86.2.2.2.2.2.2.2), (j87.1, j87.2)) ⟨HK105, trivial⟩ (by exact ⟨rfl, rfl, rfl, rfl, rfl, trivial⟩) (by exact fun w h => (St.pick [1, 2, 3, 4, 5] [_, _, _, _, _, _] h rfl))
        · refine J.as (k := 22) rfl (congrArg Value.bool (decide_eq_false c106)) ?_
          refine J.p rfl rfl rfl rfl (Y.mv rfl) ?_
          refine J.p rfl rfl rfl rfl (Y.mv rfl) ?_
          refine J.p rfl rfl rfl rfl (Y.mv rfl) ?_
          refine J.r rfl rfl rfl rfl (Y.ldCA (us := [.int .i64 t90.1, .int .u64 t90.2.1, .int .i64 t90.2.2.1, .string t90.2.2.2.1, .string t90.2.2.2.2.1, .int .u64 t90.2.2.2.2.2.1, .int .i64 t90.2.2.2.2.2.2.1, .int .i64 t90.2.2.2.2.2.2.2.1, .int .i64 t90.2.2.2.2.2.2.2.2.1, .string t90.2.2.2.2.2.2.2.2.2.1, .int .i64 t90.2.2.2.2.2.2.2.2.2.2.1, .int .i64 t90.2.2.2.2.2.2.2.2.2.2.2.1, .int .i64 t90.2.2.2.2.2.2.2.2.2.2.2.2.1, .int .u32 t90.2.2.2.2.2.2.2.2.2.2.2.2.2.1]) 0 Try.underlying54 rfl ti54 rfl rfl rfl rfl) ?_
          refine J.want rfl ?_
          refine J.pull 5 rfl rfl ?_
          refine J.pull 4 rfl rfl ?_
          refine J.pull 5 rfl rfl ?_
          refine J.pull 5 rfl rfl ?_
          refine J.pull 5 rfl rfl ?_
          obtain ⟨t107, hC108, H⟩ := bind_some H
          refine J.call (us := []) (cap := [.pointer (some ⟨ga1c0, 0, none⟩), .pointer (some ⟨ga1c1, 0, none⟩), .pointer (some ⟨ga1c2, 0, none⟩), .pointer (some ⟨ga1c3, 0, none⟩)]) rfl rfl rfl go44 (fun w hw => by have hcc := lEach.calls i86.1 t90.2.2.2.2.2.2.2.2.2.2.2.2.2.2.1 t90.1 t90.2.1 t90.2.2.1 t90.2.2.2.1 t90.2.2.2.2.1 t90.2.2.2.2.2.1 t90.2.2.2.2.2.2.1 t90.2.2.2.2.2.2.2.1 t90.2.2.2.2.2.2.2.2.1 t90.2.2.2.2.2.2.2.2.2.1 t90.2.2.2.2.2.2.2.2.2.2.1 t90.2.2.2.2.2.2.2.2.2.2.2.1 t90.2.2.2.2.2.2.2.2.2.2.2.2.1 t90.2.2.2.2.2.2.2.2.2.2.2.2.2.1 i86.2.1 i86.2.2.1 i86.2.2.2.1 i86.2.2.2.2.1 i86.2.2.2.2.2.1 i86.2.2.2.2.2.2.1 i86.2.2.2.2.2.2.2 ga1c0 ga1c1 ga1c2 j87.1 j87.2 ga1c3 t107 hC108 w hw; exact hcc) (fun e w1 h1 => ?_)
          obtain ⟨A109, c110, rfl, hw112⟩ := h1
          refine ⟨_, _, rfl, hw112, ?_⟩
          refine J.p rfl rfl rfl rfl (Y.notb rfl) ?_
          refine J.p rfl rfl rfl rfl (Y.pickF rfl rfl) ?_
          refine J.nil ?_
          obtain rfl := Option.some.inj H
          exact N.meet ((!t107.1, t107.2.1, t107.2.2.1, t107.2.2.2.1, t107.2.2.2.2.1, t107.2.2.2.2.2.1, t107.2.2.2.2.2.2.1, t107.2.2.2.2.2.2.2), (A109, c110)) ⟨HK105, trivial⟩ (by exact ⟨rfl, rfl, rfl, rfl, rfl, trivial⟩) (by exact fun w h => (St.pick [0, 1, 3, 2, 4] [_, _, _, _, _, _] h rfl))
      · refine C.at (s' := [(0, .slice Aa0 a0.length ca0), (1, .func (.func 44) #[] #[.pointer (some ⟨ga1c0, 0, none⟩), .pointer (some ⟨ga1c1, 0, none⟩), .pointer (some ⟨ga1c2, 0, none⟩), .pointer (some ⟨ga1c3, 0, none⟩)]), (5, .int .i64 i86.1), (7, .int .i64 t90.2.2.2.2.2.2.2.2.2.2.2.2.2.2.1), (29, .bool o101.1)]) (G' := cells ga1c0 4 [.bool o101.2.1] :: cells ga1c1 3 [.int .i64 o101.2.2.1] :: own 44 5 j102.1 j102.2 (o101.2.2.2.1.flatMap encT44_) :: cells ga1c2 36 [.slice j102.1 o101.2.2.2.1.length j102.2] :: cells ga1c3 52 [.int .i64 o101.2.2.2.2.1, .int .i64 o101.2.2.2.2.2.1, .int .i64 o101.2.2.2.2.2.2.1, .int .u32 o101.2.2.2.2.2.2.2] :: G) rfl rfl ?_
        refine split2 H (fun c113 H => ?_) (fun c113 H => ?_)
        · refine C.condT (congrArg (fun b => some (Value.bool b)) (c113)) ?_
          refine C.rs ?_
          refine J.p rfl rfl rfl rfl (Y.asg rfl) ?_
          refine J.nx ?_
          refine C.ret ?_
          obtain rfl := Option.some.inj H
          obtain rfl := fin_inl HK41
          refine T.th ?_
          refine T.ib ?_
          refine T.th ?_
          refine T.ib ?_
          refine T.th ?_
          refine T.th ?_
          exact ret_ok (ks := [4]) rfl rfl (fun w h => ⟨j102.1, j102.2, rfl, (St.pick [0, 1, 3, 2, 4] [_, _, _, _, _] h rfl)⟩)
        · refine C.condF (congrArg (fun b => some (Value.bool b)) (nt c113)) ?_
          refine C.skip ?_
          refine N.nx ?_
          refine C.reg ?_
          refine J.p rfl rfl rfl rfl (Y.mv rfl) ?_
          refine J.p rfl rfl rfl rfl (Y.mv rfl) ?_
          refine J.p rfl rfl rfl rfl (Y.mx rfl rfl) ?_
          refine J.p rfl rfl rfl rfl (Y.bin rfl rfl rfl) ?_
          refine J.p rfl rfl rfl rfl (Y.asg rfl) ?_
          refine J.nil ?_
          refine N.ib ?_
          exact N.again (k85, (IntKind.wrap .i64 (i86.1 + (max t90.2.2.2.2.2.2.2.2.2.2.2.2.2.2.1 1)), o101.2.1, o101.2.2.1, o101.2.2.2.1, o101.2.2.2.2.1, o101.2.2.2.2.2.1, o101.2.2.2.2.2.2.1, o101.2.2.2.2.2.2.2), (j102.1, j102.2)) ⟨H, trivial⟩ (Nat.lt_succ_self _) (by exact ⟨rfl, rfl, rfl, trivial⟩) (by exact fun w h => h)
    · refine C.condF (congrArg (fun b => some (Value.bool b)) (decide_eq_false c89)) ?_
      refine C.exit ?_
      refine X.th ?_
      refine X.th ?_
      refine X.hit ?_
      obtain rfl := Option.some.inj H
      exact N.meet ((i86.2.1, i86.2.2.1, i86.2.2.2.1, i86.2.2.2.2.1, i86.2.2.2.2.2.1, i86.2.2.2.2.2.2.1, i86.2.2.2.2.2.2.2), (j87.1, j87.2)) ⟨fin_inr HK41, trivial⟩ (by exact trivial) (by exact fun w h => h)
  · refine N.at (s' := []) (G' := cells ga1c0 4 [.bool o42.1] :: cells ga1c1 3 [.int .i64 o42.2.1] :: own 44 5 j43.1 j43.2 (o42.2.2.1.flatMap encT44_) :: cells ga1c2 36 [.slice j43.1 o42.2.2.1.length j43.2] :: cells ga1c3 52 [.int .i64 o42.2.2.2.1, .int .i64 o42.2.2.2.2.1, .int .i64 o42.2.2.2.2.2.1, .int .u32 o42.2.2.2.2.2.2] :: G) rfl rfl ?_
    refine N.nx ?_
    refine C.rs ?_
    refine J.p rfl rfl rfl rfl (Y.asg rfl) ?_
    refine J.nx ?_
    refine C.ret ?_
    obtain rfl := Option.some.inj H
    exact ret_ok (ks := [4]) rfl rfl (fun w h => ⟨j43.1, j43.2, rfl, (St.pick [0, 1, 3, 2, 4] [_, _, _, _, _] h rfl)⟩)
/-! ### salvor/hint.Load: function 17 -/
def hLoad.f (K : Nat) (a0 : List Int) (a1_0 : Int) (a1_1 : Int) (a1_2 : Int) : Option ((List T44_) × Int) := (wholeL.f K a0 false 0 ([] : List T44_) 0 0 0 0).bind fun t12 => (if t12.1 = true then (if t12.2.1 = true then (if t12.2.2.2.2.1 ≠ (t12.2.2.2.1.length : Int) then (some true) else (if t12.2.2.2.2.2.2.1 ≠ (t12.2.2.2.1.length : Int) then (some true) else (some (decide (t12.2.2.2.2.2.1 ≠ t12.2.2.1))))) else (some true)) else (some true)).bind fun o21 => if o21 = true then (some (([] : List T44_), 4)) else (if t12.2.2.2.2.2.1 = a1_0 ∧ t12.2.2.2.2.2.2.1 = a1_1 ∧ t12.2.2.2.2.2.2.2 = a1_2 ∧ True then (some (t12.2.2.2.1, 1)) else (some (([] : List T44_), 3)))
theorem hLoad.calls {B : Nat} {w0 : World} {G : List HP} (K : Nat) (a0 : List Int) (a1_0 : Int) (a1_1 : Int) (a1_2 : Int) (Aa0 : Option Addr) (ca0 : Nat) (ha0 : RdG B w0 G Aa0 (a0.map (Value.int .u8))) (ka0 : a0.length ≤ ca0) (r : (List T44_) × Int) (H : hLoad.f K a0 a1_0 a1_1 a1_2 = some r) (w : World) (hw : St B w0 (G) w) :
    Calls Try.prog 17 [.slice Aa0 a0.length ca0, .agg #[.int .i64 a1_0, .int .i64 a1_1, .int .u32 a1_2]].toArray w (fun e w' => ∃ A0 c0, e = .returned (.tuple #[.slice A0 r.1.length c0, .int .i64 r.2]) ∧ St B w0 (own 44 5 A0 c0 (r.1.flatMap encT44_) :: G) w') := by
  unfold hLoad.f at H
  refine calls_of (n := 49) (s := [(0, .slice Aa0 a0.length ca0), (1, .agg #[.int .i64 a1_0, .int .i64 a1_1, .int .u32 a1_2])]) Try.func17 rfl rfl rfl rfl ?_ hw
  refine C.rs ?_
  refine J.box (L := [.int .i64 a1_0, .int .i64 a1_1, .int .u32 a1_2]) rfl rfl rfl (fun g1 => ?_)
  refine J.p rfl rfl rfl rfl (Y.asg rfl) ?_
  refine J.p rfl rfl rfl rfl (Y.asg rfl) ?_
  refine J.nx ?_
  refine C.rs ?_
  refine J.alloc (L := [.slice none 0 0]) rfl ti36 rfl (fun g3 => ?_)
  refine J.nx ?_
  refine C.rs ?_
  refine J.alloc (L := [.int .i64 0, .int .i64 0, .int .i64 0, .int .u32 0]) rfl ti52 rfl (fun g5 => ?_)
  refine J.nx ?_
  refine C.rs ?_
  refine J.alloc (L := [.int .i64 0]) rfl ti3 rfl (fun g7 => ?_)
  refine J.alloc (L := [.bool false]) rfl ti4 rfl (fun g9 => ?_)
  refine J.pull 1 rfl rfl ?_
  refine J.stE (L' := [.int .i64 0]) ti3 rfl rfl rfl rfl rfl ?_
  refine J.pull 1 rfl rfl ?_
  refine J.stE (L' := [.bool false]) ti4 rfl rfl rfl rfl rfl ?_
  refine J.nx ?_
  refine C.rs ?_
  refine J.p rfl rfl rfl rfl (Y.mv rfl) ?_
  refine J.p rfl rfl rfl rfl (Y.mkf rfl rfl) ?_
  refine J.nilOwn 44 5 ?_
  refine J.pull 3 rfl rfl ?_
  refine J.pull 1 rfl rfl ?_
  refine J.pull 4 rfl rfl ?_
  refine J.pull 4 rfl rfl ?_
  refine J.pull 4 rfl rfl ?_
  obtain ⟨t12, hC13, H⟩ := bind_some H
  refine J.call (us := []) (cap := []) rfl rfl rfl go37 (fun w hw => by have hcc := wholeL.calls K a0 false 0 ([] : List T44_) 0 0 0 0 Aa0 ca0 g9 g7 g3 none 0 g5 (ha0.suf [_] rfl) ka0 t12 hC13 w hw; exact hcc) (fun e w1 h1 => ?_)
  obtain ⟨A14, c15, rfl, hw33⟩ := h1
  refine ⟨_, _, rfl, hw33, ?_⟩
  refine J.p rfl rfl rfl rfl (Y.asg rfl) ?_
  refine J.nx ?_
  refine C.seq ?_
  refine C.blk ?_
  refine C.rs ?_
  refine J.joinB H (fun (o21 : Bool) (j22 : Unit) => [(3, .pointer (some ⟨g1, 0, none⟩)), (6, .pointer (some ⟨g3, 0, none⟩)), (7, .pointer (some ⟨g5, 0, none⟩)), (14, .bool o21)]) (fun (o21 : Bool) (j22 : Unit) => cells g1 35 [.int .i64 a1_0, .int .i64 a1_1, .int .u32 a1_2] :: cells g3 36 [.slice A14 t12.2.2.2.1.length c15] :: cells g5 52 [.int .i64 t12.2.2.2.2.1, .int .i64 t12.2.2.2.2.2.1, .int .i64 t12.2.2.2.2.2.2.1, .int .u32 t12.2.2.2.2.2.2.2] :: own 44 5 A14 c15 (t12.2.2.2.1.flatMap encT44_) :: G) (fun (o21 : Bool) (j22 : Unit) => True) (fun o23 H HK24 => ?_) (fun o21 j22 H _ => ?_)
  · refine J.p rfl rfl rfl rfl (Y.mv rfl) ?_
    refine J.p rfl rfl rfl rfl (Y.notb rfl) ?_
    refine J.p rfl rfl rfl rfl (Y.mv rfl) ?_
    refine split2 H (fun c25 H => ?_) (fun c25 H => ?_)
    · refine J.as (k := 17) rfl (congrArg Value.bool (congrArg Bool.not (c25))) ?_
      refine J.r rfl rfl rfl rfl (Y.ldC 0 Try.underlying4 rfl rfl rfl rfl) ?_
      refine J.p rfl rfl rfl rfl (Y.notb rfl) ?_
      refine J.p rfl rfl rfl rfl (Y.pickF rfl rfl) ?_
      refine J.p rfl rfl rfl rfl (Y.mv rfl) ?_
      refine split2 H (fun c26 H => ?_) (fun c26 H => ?_)
      · refine J.as (k := 21) rfl (congrArg Value.bool (congrArg Bool.not (c26))) ?_
        refine J.p rfl rfl rfl rfl (Y.fa0 fa52_0 rfl rfl) ?_
        refine J.r rfl rfl rfl rfl (Y.ldC 4 Try.underlying3 rfl rfl rfl rfl) ?_
        refine J.r rfl rfl rfl rfl (Y.ldC 2 Try.underlying36 rfl rfl rfl rfl) ?_
        refine J.p rfl rfl rfl rfl (Y.lenS Try.underlying36 rfl) ?_
        refine J.p rfl rfl rfl rfl (Y.bin rfl rfl rfl) ?_
        refine J.p rfl rfl rfl rfl (Y.pickF rfl rfl) ?_
        refine J.p rfl rfl rfl rfl (Y.mv rfl) ?_
        refine split2 H (fun c27 H => ?_) (fun c27 H => ?_)
        · refine J.as (k := 28) rfl (congrArg Value.bool (decide_eq_true c27)) ?_
          refine J.skip rfl rfl ?_
          refine J.skip rfl rfl ?_
          refine J.skip rfl rfl ?_
          refine J.skip rfl rfl ?_
          refine J.skip rfl rfl ?_
          refine J.skip rfl rfl ?_
          refine J.p rfl rfl rfl rfl (Y.pickT rfl rfl) ?_
          refine J.p rfl rfl rfl rfl (Y.mv rfl) ?_
          refine J.skip rfl rfl ?_
          refine J.skip rfl rfl ?_
          refine J.skip rfl rfl ?_
          refine J.skip rfl rfl ?_
          refine J.skip rfl rfl ?_
          refine J.p rfl rfl rfl rfl (Y.pickT rfl rfl) ?_
          refine J.p rfl rfl rfl rfl (Y.asg rfl) ?_
          refine J.nil ?_
          obtain rfl := Option.some.inj H
          exact N.meet (true, ()) ⟨HK24, trivial⟩ (by exact ⟨rfl, rfl, rfl, rfl, trivial⟩) (by exact fun w h => (St.pick [5, 2, 4, 3] [_, _, _, _, _, _] h rfl))
        · refine J.as (k := 28) rfl (congrArg Value.bool (decide_eq_false c27)) ?_
          refine J.p rfl rfl rfl rfl (Y.fa0 fa52_1 rfl rfl) ?_
          refine J.p rfl rfl rfl rfl (Y.fa0 fa35_1 rfl rfl) ?_
          refine J.r rfl rfl rfl rfl (Y.ldC 4 Try.underlying3 rfl rfl rfl rfl) ?_
          refine J.r rfl rfl rfl rfl (Y.ldC 2 Try.underlying36 rfl rfl rfl rfl) ?_
          refine J.p rfl rfl rfl rfl (Y.lenS Try.underlying36 rfl) ?_
          refine J.p rfl rfl rfl rfl (Y.bin rfl rfl rfl) ?_
          refine J.p rfl rfl rfl rfl (Y.pickF rfl rfl) ?_
          refine J.p rfl rfl rfl rfl (Y.mv rfl) ?_
          refine split2 H (fun c28 H => ?_) (fun c28 H => ?_)
          · refine J.as (k := 36) rfl (congrArg Value.bool (decide_eq_true c28)) ?_
            refine J.skip rfl rfl ?_
            refine J.skip rfl rfl ?_
            refine J.skip rfl rfl ?_
            refine J.skip rfl rfl ?_
            refine J.skip rfl rfl ?_
            refine J.p rfl rfl rfl rfl (Y.pickT rfl rfl) ?_
            refine J.p rfl rfl rfl rfl (Y.asg rfl) ?_
            refine J.nil ?_
            obtain rfl := Option.some.inj H
            exact N.meet (true, ()) ⟨HK24, trivial⟩ (by exact ⟨rfl, rfl, rfl, rfl, trivial⟩) (by exact fun w h => (St.pick [5, 2, 4, 3] [_, _, _, _, _, _] h rfl))
          · refine J.as (k := 36) rfl (congrArg Value.bool (decide_eq_false c28)) ?_
            refine J.p rfl rfl rfl rfl (Y.fa0 fa52_1 rfl rfl) ?_
            refine J.p rfl rfl rfl rfl (Y.fa0 fa35_0 rfl rfl) ?_
            refine J.r rfl rfl rfl rfl (Y.ldC 4 Try.underlying3 rfl rfl rfl rfl) ?_
            refine J.r rfl rfl rfl rfl (Y.ldC 1 Try.underlying3 rfl rfl rfl rfl) ?_
            refine J.p rfl rfl rfl rfl (Y.bin rfl rfl rfl) ?_
            refine J.p rfl rfl rfl rfl (Y.pickF rfl rfl) ?_
            refine J.p rfl rfl rfl rfl (Y.asg rfl) ?_
            refine J.nil ?_
            obtain rfl := Option.some.inj H
            exact N.meet (decide (t12.2.2.2.2.2.1 ≠ t12.2.2.1), ()) ⟨HK24, trivial⟩ (by exact ⟨rfl, rfl, rfl, rfl, trivial⟩) (by exact fun w h => (St.pick [5, 2, 4, 3] [_, _, _, _, _, _] h rfl))
      · refine J.as (k := 21) rfl (congrArg Value.bool (congrArg Bool.not (nt c26))) ?_
        refine J.skip rfl rfl ?_
        refine J.skip rfl rfl ?_
        refine J.skip rfl rfl ?_
        refine J.skip rfl rfl ?_
        refine J.skip rfl rfl ?_
        refine J.p rfl rfl rfl rfl (Y.pickT rfl rfl) ?_
        refine J.p rfl rfl rfl rfl (Y.mv rfl) ?_
        refine J.skip rfl rfl ?_
        refine J.skip rfl rfl ?_
        refine J.skip rfl rfl ?_
        refine J.skip rfl rfl ?_
        refine J.skip rfl rfl ?_
        refine J.skip rfl rfl ?_
        refine J.p rfl rfl rfl rfl (Y.pickT rfl rfl) ?_
        refine J.p rfl rfl rfl rfl (Y.mv rfl) ?_
        refine J.skip rfl rfl ?_
        refine J.skip rfl rfl ?_
        refine J.skip rfl rfl ?_
        refine J.skip rfl rfl ?_
        refine J.skip rfl rfl ?_
        refine J.p rfl rfl rfl rfl (Y.pickT rfl rfl) ?_
        refine J.p rfl rfl rfl rfl (Y.asg rfl) ?_
        refine J.nil ?_
        obtain rfl := Option.some.inj H
        exact N.meet (true, ()) ⟨HK24, trivial⟩ (by exact ⟨rfl, rfl, rfl, rfl, trivial⟩) (by exact fun w h => (St.pick [5, 2, 4, 3] [_, _, _, _, _, _] h rfl))
    · refine J.as (k := 17) rfl (congrArg Value.bool (congrArg Bool.not (nt c25))) ?_
      refine J.skip rfl rfl ?_
      refine J.skip rfl rfl ?_
      refine J.p rfl rfl rfl rfl (Y.pickT rfl rfl) ?_
      refine J.p rfl rfl rfl rfl (Y.mv rfl) ?_
      refine J.skip rfl rfl ?_
      refine J.skip rfl rfl ?_
      refine J.skip rfl rfl ?_
      refine J.skip rfl rfl ?_
      refine J.skip rfl rfl ?_
      refine J.p rfl rfl rfl rfl (Y.pickT rfl rfl) ?_
      refine J.p rfl rfl rfl rfl (Y.mv rfl) ?_
      refine J.skip rfl rfl ?_
      refine J.skip rfl rfl ?_
      refine J.skip rfl rfl ?_
      refine J.skip rfl rfl ?_
      refine J.skip rfl rfl ?_
      refine J.skip rfl rfl ?_
      refine J.p rfl rfl rfl rfl (Y.pickT rfl rfl) ?_
      refine J.p rfl rfl rfl rfl (Y.mv rfl) ?_
      refine J.skip rfl rfl ?_
      refine J.skip rfl rfl ?_
      refine J.skip rfl rfl ?_
      refine J.skip rfl rfl ?_
      refine J.skip rfl rfl ?_
      refine J.p rfl rfl rfl rfl (Y.pickT rfl rfl) ?_
      refine J.p rfl rfl rfl rfl (Y.asg rfl) ?_
      refine J.nil ?_
      obtain rfl := Option.some.inj H
      exact N.meet (true, ()) ⟨HK24, trivial⟩ (by exact ⟨rfl, rfl, rfl, rfl, trivial⟩) (by exact fun w h => (St.pick [5, 2, 4, 3] [_, _, _, _, _, _] h rfl))
  · refine C.at (s' := [(3, .pointer (some ⟨g1, 0, none⟩)), (6, .pointer (some ⟨g3, 0, none⟩)), (7, .pointer (some ⟨g5, 0, none⟩)), (14, .bool o21)]) (G' := cells g1 35 [.int .i64 a1_0, .int .i64 a1_1, .int .u32 a1_2] :: cells g3 36 [.slice A14 t12.2.2.2.1.length c15] :: cells g5 52 [.int .i64 t12.2.2.2.2.1, .int .i64 t12.2.2.2.2.2.1, .int .i64 t12.2.2.2.2.2.2.1, .int .u32 t12.2.2.2.2.2.2.2] :: own 44 5 A14 c15 (t12.2.2.2.1.flatMap encT44_) :: G) rfl rfl ?_
    refine split2 H (fun c29 H => ?_) (fun c29 H => ?_)
    · refine C.condT (congrArg (fun b => some (Value.bool b)) (c29)) ?_
      refine C.rs ?_
      refine J.p rfl rfl rfl rfl (Y.asg rfl) ?_
      refine J.p rfl rfl rfl rfl (Y.asg rfl) ?_
      refine J.nx ?_
      refine C.ret ?_
      obtain rfl := Option.some.inj H
      refine T.ib ?_
      refine T.th ?_
      exact ret_ok (ks := [4, 5]) rfl rfl (fun w h => ⟨none, 0, rfl, (St.pick [0] [_, _, _, _, _] (h.nilOwn 44 5) rfl)⟩)
    · refine C.condF (congrArg (fun b => some (Value.bool b)) (nt c29)) ?_
      refine C.rs ?_
      refine J.p rfl rfl rfl rfl (Y.fa0 fa52_1 rfl rfl) ?_
      refine J.r rfl rfl rfl rfl (Y.ldCA (us := [.int .i64 t12.2.2.2.2.2.1, .int .i64 t12.2.2.2.2.2.2.1, .int .u32 t12.2.2.2.2.2.2.2]) 2 Try.underlying35 rfl ti35 rfl rfl rfl rfl) ?_
      refine J.r rfl rfl rfl rfl (Y.ldCA (us := [.int .i64 a1_0, .int .i64 a1_1, .int .u32 a1_2]) 0 Try.underlying35 rfl ti35 rfl rfl rfl rfl) ?_
      refine J.p rfl rfl rfl rfl (Y.nest Try.eqGuardType35 rfl (EqV.struct Try.underlying35 Try.stoodInHeld35 (EqFs.cons rfl (part_one (v := .int .i64 t12.2.2.2.2.2.1) Try.underlying3 rfl (by kernel_rfl)) (part_one (v := .int .i64 a1_0) Try.underlying3 rfl (by kernel_rfl)) (EqV.int 0 Try.underlying3) (EqFs.cons rfl (part_one (v := .int .i64 t12.2.2.2.2.2.2.1) Try.underlying3 rfl (by kernel_rfl)) (part_one (v := .int .i64 a1_1) Try.underlying3 rfl (by kernel_rfl)) (EqV.int 0 Try.underlying3) (EqFs.cons rfl (part_one (v := .int .u32 t12.2.2.2.2.2.2.2) Try.underlying33 rfl (by kernel_rfl)) (part_one (v := .int .u32 a1_2) Try.underlying33 rfl (by kernel_rfl)) (EqV.int 0 Try.underlying33) EqFs.nil)))) rfl rfl) ?_
      refine J.p rfl rfl rfl rfl (Y.asg rfl) ?_
      refine J.nx ?_
      refine split2 H (fun c31 H => ?_) (fun c31 H => ?_)
      · refine C.condF (congrArg (fun b => some (Value.bool b)) (congrArg Bool.not (decide_eq_true c31))) ?_
        refine C.skip ?_
        refine N.ib ?_
        refine N.nx ?_
        refine C.rs ?_
        refine J.r rfl rfl rfl rfl (Y.ldC 1 Try.underlying36 rfl rfl rfl rfl) ?_
        refine J.p rfl rfl rfl rfl (Y.asg rfl) ?_
        refine J.p rfl rfl rfl rfl (Y.asg rfl) ?_
        refine J.nx ?_
        refine C.ret ?_
        obtain rfl := Option.some.inj H
        exact ret_ok (ks := [4, 5]) rfl rfl (fun w h => ⟨A14, c15, rfl, (St.pick [3] [_, _, _, _] h rfl)⟩)
      · refine C.condT (congrArg (fun b => some (Value.bool b)) (congrArg Bool.not (decide_eq_false c31))) ?_
        refine C.rs ?_
        refine J.p rfl rfl rfl rfl (Y.asg rfl) ?_
        refine J.p rfl rfl rfl rfl (Y.asg rfl) ?_
        refine J.nx ?_
        refine C.ret ?_
        obtain rfl := Option.some.inj H
        refine T.ib ?_
        refine T.th ?_
        exact ret_ok (ks := [4, 5]) rfl rfl (fun w h => ⟨none, 0, rfl, (St.pick [0] [_, _, _, _, _] (h.nilOwn 44 5) rfl)⟩)
/-! ### salvor/hint.Check: function 20 -/
def hCheck.f (K : Nat) (a0 : List Int) (a1_0 : Int) (a1_1 : Int) (a1_2 : Int) (a1_3 : Int) (a1_4 : ByteArray) : Option (Bool) := (fDecode.f K a0 a1_2).bind fun t3 => if t3.2.2.2.2.2.2.2.2.2.2.2.2.2.2.2 = 0 then ((isRecordH.f t3.1).bind fun t10 => if t10 = true then (if t3.2.2.2.2.2.2.2.2.2.2.2.2.2.2.1 = a1_3 then (if t3.2.1 = a1_0 then (if t3.2.2.1 = a1_1 then (some (decide (t3.2.2.2.1 = a1_4))) else (some false)) else (some false)) else (some false)) else (some false)) else (some false)
theorem hCheck.calls {B : Nat} {w0 : World} {G : List HP} (K : Nat) (a0 : List Int) (a1_0 : Int) (a1_1 : Int) (a1_2 : Int) (a1_3 : Int) (a1_4 : ByteArray) (Aa0 : Option Addr) (ca0 : Nat) (ha0 : RdG B w0 G Aa0 (a0.map (Value.int .u8))) (ka0 : a0.length ≤ ca0) (r : Bool) (H : hCheck.f K a0 a1_0 a1_1 a1_2 a1_3 a1_4 = some r) (w : World) (hw : St B w0 (G) w) :
    Calls Try.prog 20 [.slice Aa0 a0.length ca0, .agg #[.int .u64 a1_0, .int .i64 a1_1, .int .i64 a1_2, .int .i64 a1_3, .string a1_4]].toArray w (fun e w' => e = .returned (.bool r) ∧ St B w0 (G) w') := by
  unfold hCheck.f at H
  refine calls_of (n := 53) (s := [(0, .slice Aa0 a0.length ca0), (1, .agg #[.int .u64 a1_0, .int .i64 a1_1, .int .i64 a1_2, .int .i64 a1_3, .string a1_4])]) Try.func20 rfl rfl rfl rfl ?_ hw
  refine C.rs ?_
  refine J.box (L := [.int .u64 a1_0, .int .i64 a1_1, .int .i64 a1_2, .int .i64 a1_3, .string a1_4]) rfl rfl rfl (fun g1 => ?_)
  refine J.p rfl rfl rfl rfl (Y.asg rfl) ?_
  refine J.nx ?_
  refine C.rs ?_
  refine J.p rfl rfl rfl rfl (Y.mv rfl) ?_
  refine J.p rfl rfl rfl rfl (Y.fa0 fa44_2 rfl rfl) ?_
  refine J.r rfl rfl rfl rfl (Y.ldC 0 Try.underlying3 rfl rfl rfl rfl) ?_
  obtain ⟨t3, hC4, H⟩ := bind_some H
  refine J.call (us := []) (cap := []) rfl rfl rfl go45 (fun w hw => by have hcc := fDecode.calls K a0 a1_2 Aa0 ca0 (ha0.suf [_] rfl) ka0 t3 hC4 w hw; exact hcc) (fun e w1 h1 => ?_)
  obtain ⟨rfl, hw17⟩ := h1
  refine ⟨_, _, rfl, hw17, ?_⟩
  refine J.p rfl rfl rfl rfl (Y.mv rfl) ?_
  refine J.p rfl rfl rfl rfl (Y.ext rfl rfl) ?_
  refine J.p rfl rfl rfl rfl (Y.ext rfl rfl) ?_
  refine J.p rfl rfl rfl rfl (Y.ext rfl rfl) ?_
  refine J.alloc (L := [.int .i64 0, .int .u64 0, .int .i64 0, .string ByteArray.empty, .string ByteArray.empty, .int .u64 0, .int .i64 0, .int .i64 0, .int .i64 0, .string ByteArray.empty, .int .i64 0, .int .i64 0, .int .i64 0, .int .u32 0]) rfl ti54 rfl (fun g5 => ?_)
  refine J.stA (us := [.int .i64 t3.1, .int .u64 t3.2.1, .int .i64 t3.2.2.1, .string t3.2.2.2.1, .string t3.2.2.2.2.1, .int .u64 t3.2.2.2.2.2.1, .int .i64 t3.2.2.2.2.2.2.1, .int .i64 t3.2.2.2.2.2.2.2.1, .int .i64 t3.2.2.2.2.2.2.2.2.1, .string t3.2.2.2.2.2.2.2.2.2.1, .int .i64 t3.2.2.2.2.2.2.2.2.2.2.1, .int .i64 t3.2.2.2.2.2.2.2.2.2.2.2.1, .int .i64 t3.2.2.2.2.2.2.2.2.2.2.2.2.1, .int .u32 t3.2.2.2.2.2.2.2.2.2.2.2.2.2.1]) (L' := [.int .i64 t3.1, .int .u64 t3.2.1, .int .i64 t3.2.2.1, .string t3.2.2.2.1, .string t3.2.2.2.2.1, .int .u64 t3.2.2.2.2.2.1, .int .i64 t3.2.2.2.2.2.2.1, .int .i64 t3.2.2.2.2.2.2.2.1, .int .i64 t3.2.2.2.2.2.2.2.2.1, .string t3.2.2.2.2.2.2.2.2.2.1, .int .i64 t3.2.2.2.2.2.2.2.2.2.2.1, .int .i64 t3.2.2.2.2.2.2.2.2.2.2.2.1, .int .i64 t3.2.2.2.2.2.2.2.2.2.2.2.2.1, .int .u32 t3.2.2.2.2.2.2.2.2.2.2.2.2.2.1]) ti54 rfl rfl rfl rfl rfl rfl ?_
  refine J.p rfl rfl rfl rfl (Y.asg rfl) ?_
  refine J.p rfl rfl rfl rfl (Y.asg rfl) ?_
  refine J.nx ?_
  refine C.rs ?_
  refine J.p rfl rfl rfl rfl (Y.fa0 fa54_1 rfl rfl) ?_
  refine J.r rfl rfl rfl rfl (Y.ldCA (us := [.int .u64 t3.2.1, .int .i64 t3.2.2.1, .string t3.2.2.2.1, .string t3.2.2.2.2.1]) 0 Try.underlying50 rfl ti50 rfl rfl rfl rfl) ?_
  refine J.alloc (L := [.int .u64 0, .int .i64 0, .string ByteArray.empty, .string ByteArray.empty]) rfl ti50 rfl (fun g7 => ?_)
  refine J.stA (us := [.int .u64 t3.2.1, .int .i64 t3.2.2.1, .string t3.2.2.2.1, .string t3.2.2.2.2.1]) (L' := [.int .u64 t3.2.1, .int .i64 t3.2.2.1, .string t3.2.2.2.1, .string t3.2.2.2.2.1]) ti50 rfl rfl rfl rfl rfl rfl ?_
  refine J.nx ?_
  refine C.rs ?_
  refine J.p rfl rfl rfl rfl (Y.mv rfl) ?_
  refine J.p rfl rfl rfl rfl (Y.bin rfl rfl rfl) ?_
  refine J.p rfl rfl rfl rfl (Y.mv rfl) ?_
  refine split2 H (fun c9 H => ?_) (fun c9 H => ?_)
  · refine J.as (k := 21) rfl (congrArg Value.bool (decide_eq_true c9)) ?_
    refine J.p rfl rfl rfl rfl (Y.fa0 fa54_0 rfl rfl) ?_
    refine J.r rfl rfl rfl rfl (Y.ldC 1 Try.underlying42 rfl rfl rfl rfl) ?_
    refine J.want rfl ?_
    obtain ⟨t10, hC11, H⟩ := bind_some H
    refine J.call (us := []) (cap := []) rfl rfl rfl go39 (fun w hw => by have hcc := isRecordH.calls t3.1 t10 hC11 w hw; exact hcc) (fun e w1 h1 => ?_)
    obtain ⟨rfl, hw16⟩ := h1
    refine ⟨_, _, rfl, hw16, ?_⟩
    refine J.p rfl rfl rfl rfl (Y.pickT rfl rfl) ?_
    refine J.p rfl rfl rfl rfl (Y.mv rfl) ?_
    refine split2 H (fun c12 H => ?_) (fun c12 H => ?_)
    · refine J.as (k := 26) rfl (congrArg Value.bool (c12)) ?_
      refine J.p rfl rfl rfl rfl (Y.mv rfl) ?_
      refine J.p rfl rfl rfl rfl (Y.fa0 fa44_3 rfl rfl) ?_
      refine J.r rfl rfl rfl rfl (Y.ldC 2 Try.underlying3 rfl rfl rfl rfl) ?_
      refine J.p rfl rfl rfl rfl (Y.bin rfl rfl rfl) ?_
      refine J.p rfl rfl rfl rfl (Y.pickT rfl rfl) ?_
      refine J.p rfl rfl rfl rfl (Y.mv rfl) ?_
      refine split2 H (fun c13 H => ?_) (fun c13 H => ?_)
      · refine J.as (k := 32) rfl (congrArg Value.bool (decide_eq_true c13)) ?_
        refine J.p rfl rfl rfl rfl (Y.fa0 fa50_0 rfl rfl) ?_
        refine J.r rfl rfl rfl rfl (Y.ldC 0 Try.underlying41 rfl rfl rfl rfl) ?_
        refine J.p rfl rfl rfl rfl (Y.fa0 fa44_0 rfl rfl) ?_
        refine J.r rfl rfl rfl rfl (Y.ldC 2 Try.underlying41 rfl rfl rfl rfl) ?_
        refine J.p rfl rfl rfl rfl (Y.bin rfl rfl rfl) ?_
        refine J.p rfl rfl rfl rfl (Y.pickT rfl rfl) ?_
        refine J.p rfl rfl rfl rfl (Y.mv rfl) ?_
        refine split2 H (fun c14 H => ?_) (fun c14 H => ?_)
        · refine J.as (k := 39) rfl (congrArg Value.bool (decide_eq_true c14)) ?_
          refine J.p rfl rfl rfl rfl (Y.fa0 fa50_1 rfl rfl) ?_
          refine J.r rfl rfl rfl rfl (Y.ldC 0 Try.underlying42 rfl rfl rfl rfl) ?_
          refine J.p rfl rfl rfl rfl (Y.fa0 fa44_1 rfl rfl) ?_
          refine J.r rfl rfl rfl rfl (Y.ldC 2 Try.underlying42 rfl rfl rfl rfl) ?_
          refine J.p rfl rfl rfl rfl (Y.bin rfl rfl rfl) ?_
          refine J.p rfl rfl rfl rfl (Y.pickT rfl rfl) ?_
          refine J.p rfl rfl rfl rfl (Y.mv rfl) ?_
          refine split2 H (fun c15 H => ?_) (fun c15 H => ?_)
          · refine J.as (k := 46) rfl (congrArg Value.bool (decide_eq_true c15)) ?_
            refine J.p rfl rfl rfl rfl (Y.fa0 fa50_2 rfl rfl) ?_
            refine J.r rfl rfl rfl rfl (Y.ldC 0 Try.underlying9 rfl rfl rfl rfl) ?_
            refine J.p rfl rfl rfl rfl (Y.fa0 fa44_4 rfl rfl) ?_
            refine J.r rfl rfl rfl rfl (Y.ldC 2 Try.underlying9 rfl rfl rfl rfl) ?_
            refine J.p rfl rfl rfl rfl (Y.eqs rfl rfl) ?_
            refine J.p rfl rfl rfl rfl (Y.pickT rfl rfl) ?_
            refine J.p rfl rfl rfl rfl (Y.asg rfl) ?_
            refine J.nx ?_
            refine C.ret ?_
            obtain rfl := Option.some.inj H
            exact ret_ok (ks := [4]) rfl rfl (fun w h => ⟨rfl, (St.pick [] [_, _, _] h rfl)⟩)
          · refine J.as (k := 46) rfl (congrArg Value.bool (decide_eq_false c15)) ?_
            refine J.skip rfl rfl ?_
            refine J.skip rfl rfl ?_
            refine J.skip rfl rfl ?_
            refine J.skip rfl rfl ?_
            refine J.skip rfl rfl ?_
            refine J.p rfl rfl rfl rfl (Y.pickF rfl rfl) ?_
            refine J.p rfl rfl rfl rfl (Y.asg rfl) ?_
            refine J.nx ?_
            refine C.ret ?_
            obtain rfl := Option.some.inj H
            exact ret_ok (ks := [4]) rfl rfl (fun w h => ⟨rfl, (St.pick [] [_, _, _] h rfl)⟩)
        · refine J.as (k := 39) rfl (congrArg Value.bool (decide_eq_false c14)) ?_
          refine J.skip rfl rfl ?_
          refine J.skip rfl rfl ?_
          refine J.skip rfl rfl ?_
          refine J.skip rfl rfl ?_
          refine J.skip rfl rfl ?_
          refine J.p rfl rfl rfl rfl (Y.pickF rfl rfl) ?_
          refine J.p rfl rfl rfl rfl (Y.mv rfl) ?_
          refine J.skip rfl rfl ?_
          refine J.skip rfl rfl ?_
          refine J.skip rfl rfl ?_
          refine J.skip rfl rfl ?_
          refine J.skip rfl rfl ?_
          refine J.p rfl rfl rfl rfl (Y.pickF rfl rfl) ?_
          refine J.p rfl rfl rfl rfl (Y.asg rfl) ?_
          refine J.nx ?_
          refine C.ret ?_
          obtain rfl := Option.some.inj H
          exact ret_ok (ks := [4]) rfl rfl (fun w h => ⟨rfl, (St.pick [] [_, _, _] h rfl)⟩)
      · refine J.as (k := 32) rfl (congrArg Value.bool (decide_eq_false c13)) ?_
        refine J.skip rfl rfl ?_
        refine J.skip rfl rfl ?_
        refine J.skip rfl rfl ?_
        refine J.skip rfl rfl ?_
        refine J.skip rfl rfl ?_
        refine J.p rfl rfl rfl rfl (Y.pickF rfl rfl) ?_
        refine J.p rfl rfl rfl rfl (Y.mv rfl) ?_
        refine J.skip rfl rfl ?_
        refine J.skip rfl rfl ?_
        refine J.skip rfl rfl ?_
        refine J.skip rfl rfl ?_
        refine J.skip rfl rfl ?_
        refine J.p rfl rfl rfl rfl (Y.pickF rfl rfl) ?_
        refine J.p rfl rfl rfl rfl (Y.mv rfl) ?_
        refine J.skip rfl rfl ?_
        refine J.skip rfl rfl ?_
        refine J.skip rfl rfl ?_
        refine J.skip rfl rfl ?_
        refine J.skip rfl rfl ?_
        refine J.p rfl rfl rfl rfl (Y.pickF rfl rfl) ?_
        refine J.p rfl rfl rfl rfl (Y.asg rfl) ?_
        refine J.nx ?_
        refine C.ret ?_
        obtain rfl := Option.some.inj H
        exact ret_ok (ks := [4]) rfl rfl (fun w h => ⟨rfl, (St.pick [] [_, _, _] h rfl)⟩)
    · refine J.as (k := 26) rfl (congrArg Value.bool (nt c12)) ?_
      refine J.skip rfl rfl ?_
      refine J.skip rfl rfl ?_
      refine J.skip rfl rfl ?_
      refine J.skip rfl rfl ?_
      refine J.p rfl rfl rfl rfl (Y.pickF rfl rfl) ?_
      refine J.p rfl rfl rfl rfl (Y.mv rfl) ?_
      refine J.skip rfl rfl ?_
      refine J.skip rfl rfl ?_
      refine J.skip rfl rfl ?_
      refine J.skip rfl rfl ?_
      refine J.skip rfl rfl ?_
      refine J.p rfl rfl rfl rfl (Y.pickF rfl rfl) ?_
      refine J.p rfl rfl rfl rfl (Y.mv rfl) ?_
      refine J.skip rfl rfl ?_
      refine J.skip rfl rfl ?_
      refine J.skip rfl rfl ?_
      refine J.skip rfl rfl ?_
      refine J.skip rfl rfl ?_
      refine J.p rfl rfl rfl rfl (Y.pickF rfl rfl) ?_
      refine J.p rfl rfl rfl rfl (Y.mv rfl) ?_
      refine J.skip rfl rfl ?_
      refine J.skip rfl rfl ?_
      refine J.skip rfl rfl ?_
      refine J.skip rfl rfl ?_
      refine J.skip rfl rfl ?_
      refine J.p rfl rfl rfl rfl (Y.pickF rfl rfl) ?_
      refine J.p rfl rfl rfl rfl (Y.asg rfl) ?_
      refine J.nx ?_
      refine C.ret ?_
      obtain rfl := Option.some.inj H
      exact ret_ok (ks := [4]) rfl rfl (fun w h => ⟨rfl, (St.pick [] [_, _, _] h rfl)⟩)
  · refine J.as (k := 21) rfl (congrArg Value.bool (decide_eq_false c9)) ?_
    refine J.skip rfl rfl ?_
    refine J.skip rfl rfl ?_
    refine J.skip rfl rfl ?_
    refine J.p rfl rfl rfl rfl (Y.pickF rfl rfl) ?_
    refine J.p rfl rfl rfl rfl (Y.mv rfl) ?_
    refine J.skip rfl rfl ?_
    refine J.skip rfl rfl ?_
    refine J.skip rfl rfl ?_
    refine J.skip rfl rfl ?_
    refine J.p rfl rfl rfl rfl (Y.pickF rfl rfl) ?_
    refine J.p rfl rfl rfl rfl (Y.mv rfl) ?_
    refine J.skip rfl rfl ?_
    refine J.skip rfl rfl ?_
    refine J.skip rfl rfl ?_
    refine J.skip rfl rfl ?_
    refine J.skip rfl rfl ?_
    refine J.p rfl rfl rfl rfl (Y.pickF rfl rfl) ?_
    refine J.p rfl rfl rfl rfl (Y.mv rfl) ?_
    refine J.skip rfl rfl ?_
    refine J.skip rfl rfl ?_
    refine J.skip rfl rfl ?_
    refine J.skip rfl rfl ?_
    refine J.skip rfl rfl ?_
    refine J.p rfl rfl rfl rfl (Y.pickF rfl rfl) ?_
    refine J.p rfl rfl rfl rfl (Y.mv rfl) ?_
    refine J.skip rfl rfl ?_
    refine J.skip rfl rfl ?_
    refine J.skip rfl rfl ?_
    refine J.skip rfl rfl ?_
    refine J.skip rfl rfl ?_
    refine J.p rfl rfl rfl rfl (Y.pickF rfl rfl) ?_
    refine J.p rfl rfl rfl rfl (Y.asg rfl) ?_
    refine J.nx ?_
    refine C.ret ?_
    obtain rfl := Option.some.inj H
    exact ret_ok (ks := [4]) rfl rfl (fun w h => ⟨rfl, (St.pick [] [_, _, _] h rfl)⟩)
/-! ### salvor/segment.Print: function 26 -/
def sPrint.f (K : Nat) (a0 : List Int) : Option (Int × Int × Int) := (Sum.f K [a0]).bind fun t5 => (sFrames.f a0).bind fun t9 => (sFramesF.f K (fun (i20 : Int) (x25 : Int × Int × Int × Int × ByteArray × ByteArray × Int × Int × Int × Int × ByteArray × Int × Int × Int × Int) => some (.inl (IntKind.wrap .i64 (i20 + 1)))) 0 a0).bind fun t23 => ysel t23 (fun i20 => some ((a0.length : Int), i20, t5)) ((fun (e : Empty) => none))
theorem sPrint.calls {B : Nat} {w0 : World} {G : List HP} (K : Nat) (a0 : List Int) (Aa0 : Option Addr) (ca0 : Nat) (ha0 : RdG B w0 G Aa0 (a0.map (Value.int .u8))) (ka0 : a0.length ≤ ca0) (r : Int × Int × Int) (H : sPrint.f K a0 = some r) (w : World) (hw : St B w0 (G) w) :
    Calls Try.prog 26 [.slice Aa0 a0.length ca0].toArray w (fun e w' => e = .returned (.agg #[.int .i64 r.1, .int .i64 r.2.1, .int .u32 r.2.2]) ∧ St B w0 (G) w') := by
  unfold sPrint.f at H
  refine calls_ofM (n := 19) (s := [(0, .slice Aa0 a0.length ca0)]) Try.func26 rfl rfl rfl rfl ?_ hw
  refine C.rs ?_
  refine J.alloc (L := [.int .i64 0, .int .i64 0, .int .u32 0]) rfl ti35 rfl (fun g1 => ?_)
  refine J.nx ?_
  refine C.rs ?_
  refine J.p rfl rfl rfl rfl (Y.mv rfl) ?_
  refine J.p rfl rfl rfl rfl (Y.lenS Try.underlying22 rfl) ?_
  refine J.p rfl rfl rfl rfl (Y.mv rfl) ?_
  refine J.bsV (L := [.slice Aa0 a0.length ca0]) rfl Try.underlying31 ti22 rfl rfl rfl rfl rfl (fun A3 => ?_)
  obtain ⟨t5, hC6, H⟩ := bind_some H
  refine J.call (us := []) (cap := []) rfl rfl rfl go32 (fun w hw => by have hcc := Sum.calls K [a0] A3 1 [.slice Aa0 a0.length ca0] (RdG.own 0 rfl) (VV.cons (ha0.suf [_, _, _] rfl) ka0 VV.nil) (Nat.le_refl _) t5 hC6 w hw; exact hcc) (fun e w1 h1 => ?_)
  obtain ⟨rfl, hw33⟩ := h1
  refine ⟨_, _, rfl, hw33, ?_⟩
  refine J.p rfl rfl rfl rfl (Y.bld (cs := [.int .i64 (a0.length : Int), .int .i64 0, .int .u32 t5]) rfl pl35 ti35 rfl (by kernel_rfl)) ?_
  refine J.alloc (L := [.int .i64 0, .int .i64 0, .int .u32 0]) rfl ti35 rfl (fun g7 => ?_)
  refine J.stA (us := [.int .i64 (a0.length : Int), .int .i64 0, .int .u32 t5]) (L' := [.int .i64 (a0.length : Int), .int .i64 0, .int .u32 t5]) ti35 rfl rfl rfl rfl rfl rfl ?_
  refine J.nx ?_
  refine C.seq ?_
  refine C.rs ?_
  refine J.p rfl rfl rfl rfl (Y.mv rfl) ?_
  obtain ⟨t9, hC10, H⟩ := bind_some H
  refine J.call (us := []) (cap := []) rfl rfl rfl go52 (fun w hw => by have hcc := sFrames.calls a0 Aa0 ca0 (ha0.suf [_, _, _, _] rfl) ka0 t9 hC10 w hw; exact hcc) (fun e w1 h1 => ?_)
  obtain ⟨g11, rfl, hw32⟩ := h1
  refine ⟨_, _, rfl, hw32, ?_⟩
  refine J.nx ?_
  refine C.blk ?_
  refine C.sub (s' := [(2, .pointer (some ⟨g1, 0, none⟩)), (3, .pointer (some ⟨g7, 0, none⟩)), (11, .func (.func 75) #[] #[.pointer (some ⟨g11, 0, none⟩)])]) (by exact ⟨rfl, rfl, rfl, trivial⟩) ?_
  have hkey : ∀ Gx, Gx = (cells g11 22 [.slice Aa0 a0.length ca0] :: own 22 1 A3 1 [.slice Aa0 a0.length ca0] :: cells g1 35 [.int .i64 0, .int .i64 0, .int .u32 0] :: G) → RdG B w0 Gx (some ⟨g1, 0, none⟩) [.int .i64 0, .int .i64 0, .int .u32 0] ∧ RdG B w0 Gx (some ⟨g11, 0, none⟩) [.slice Aa0 a0.length ca0] ∧ RdG B w0 Gx Aa0 (a0.map (Value.int .u8)) ∧ True := by rintro _ rfl; exact ⟨(RdG.cells 2 rfl), (RdG.cells 0 rfl), (ha0.suf [_, _, _] rfl), trivial⟩
  obtain ⟨hb28, hb29, hb30, _⟩ := hkey _ rfl
  obtain ⟨t23, hC24, H⟩ := bind_some H
  refine C.rangeF' (E := Empty) (Gb := cells g11 22 [.slice Aa0 a0.length ca0] :: own 22 1 A3 1 [.slice Aa0 a0.length ca0] :: cells g1 35 [.int .i64 0, .int .i64 0, .int .u32 0] :: G) (caps := [.pointer (some ⟨g11, 0, none⟩)]) encY124 (fun (i20 : Int) (j21 : Unit) => [cells g7 35 [.int .i64 (a0.length : Int), .int .i64 i20, .int .u32 t5]]) (fun (i20 : Int) (j21 : Unit) => True) (fun (e : Empty) (k : Unit) => e.elim) (fun (e : Empty) (k : Unit) => e.elim) (fun (e : Empty) => e.elim) (fun (x25 : Int × Int × Int × Int × ByteArray × ByteArray × Int × Int × Int × Int × ByteArray × Int × Int × Int × Int) (z31 : Unit) => []) (fun (x25 : Int × Int × Int × Int × ByteArray × ByteArray × Int × Int × Int × Int × ByteArray × Int × Int × Int × Int) (z31 : Unit) => [(2, .pointer (some ⟨g1, 0, none⟩)), (3, .pointer (some ⟨g7, 0, none⟩)), (11, .func (.func 75) #[] #[.pointer (some ⟨g11, 0, none⟩)]), (12, .int .i64 x25.1), (13, .agg #[.int .i64 x25.2.1, .int .u64 x25.2.2.1, .int .i64 x25.2.2.2.1, .string x25.2.2.2.2.1, .string x25.2.2.2.2.2.1, .int .u64 x25.2.2.2.2.2.2.1, .int .i64 x25.2.2.2.2.2.2.2.1, .int .i64 x25.2.2.2.2.2.2.2.2.1, .int .i64 x25.2.2.2.2.2.2.2.2.2.1, .string x25.2.2.2.2.2.2.2.2.2.2.1, .int .i64 x25.2.2.2.2.2.2.2.2.2.2.2.1, .int .i64 x25.2.2.2.2.2.2.2.2.2.2.2.2.1, .int .i64 x25.2.2.2.2.2.2.2.2.2.2.2.2.2.1, .int .u32 x25.2.2.2.2.2.2.2.2.2.2.2.2.2.2])]) _ 0 () t23 rfl go75 (fun _ => rfl) (by rfl) (by decide) (pf_of rfl) trivial (fun w h => (St.pick [4, 1, 0, 2, 3] [_, _, _, _, _] h rfl)) (fun Yy yv hy w hw => sFramesF.calls K _ _ a0 Yy yv g11 Aa0 ca0 hy (ha0.suf [_, _, _] rfl) ka0 (RdG.cells 0 rfl) _ hC24 w hw) (fun l i20 j21 x25 L26 _ => ?_) (fun l i20 j21 x25 z31 o L26 G hGG H _ hl27 => ?_) (fun ds22 i20 j21 hr _ => ?_) (fun ds22 e k hr hx => ?_)
  · refine C.sub (s' := [(2, .pointer (some ⟨g1, 0, none⟩)), (3, .pointer (some ⟨g7, 0, none⟩)), (11, .func (.func 75) #[] #[.pointer (some ⟨g11, 0, none⟩)]), (12, .int .i64 x25.1), (13, .agg #[.int .i64 x25.2.1, .int .u64 x25.2.2.1, .int .i64 x25.2.2.2.1, .string x25.2.2.2.2.1, .string x25.2.2.2.2.2.1, .int .u64 x25.2.2.2.2.2.2.1, .int .i64 x25.2.2.2.2.2.2.2.1, .int .i64 x25.2.2.2.2.2.2.2.2.1, .int .i64 x25.2.2.2.2.2.2.2.2.2.1, .string x25.2.2.2.2.2.2.2.2.2.2.1, .int .i64 x25.2.2.2.2.2.2.2.2.2.2.2.1, .int .i64 x25.2.2.2.2.2.2.2.2.2.2.2.2.1, .int .i64 x25.2.2.2.2.2.2.2.2.2.2.2.2.2.1, .int .u32 x25.2.2.2.2.2.2.2.2.2.2.2.2.2.2])]) (by exact ⟨rfl, rfl, rfl, rfl, rfl, trivial⟩) ?_
    refine C.skip ?_
    exact N.asg () (by exact ⟨rfl, rfl, rfl, rfl, rfl, trivial⟩) (fun w h => h)
  · replace hb28 := RdG.suf hb28 L26 hGG
    replace hb29 := RdG.suf hb29 L26 hGG
    replace hb30 := RdG.suf hb30 L26 hGG
    refine C.at (s' := [(2, .pointer (some ⟨g1, 0, none⟩)), (3, .pointer (some ⟨g7, 0, none⟩)), (11, .func (.func 75) #[] #[.pointer (some ⟨g11, 0, none⟩)]), (12, .int .i64 x25.1), (13, .agg #[.int .i64 x25.2.1, .int .u64 x25.2.2.1, .int .i64 x25.2.2.2.1, .string x25.2.2.2.2.1, .string x25.2.2.2.2.2.1, .int .u64 x25.2.2.2.2.2.2.1, .int .i64 x25.2.2.2.2.2.2.2.1, .int .i64 x25.2.2.2.2.2.2.2.2.1, .int .i64 x25.2.2.2.2.2.2.2.2.2.1, .string x25.2.2.2.2.2.2.2.2.2.2.1, .int .i64 x25.2.2.2.2.2.2.2.2.2.2.2.1, .int .i64 x25.2.2.2.2.2.2.2.2.2.2.2.2.1, .int .i64 x25.2.2.2.2.2.2.2.2.2.2.2.2.2.1, .int .u32 x25.2.2.2.2.2.2.2.2.2.2.2.2.2.2])]) (G' := cells g7 35 [.int .i64 (a0.length : Int), .int .i64 i20, .int .u32 t5] :: G) rfl rfl ?_
    refine C.blk ?_
    refine C.reg ?_
    refine J.p rfl rfl rfl rfl (Y.fa0 fa35_1 rfl rfl) ?_
    refine J.r rfl rfl rfl rfl (Y.ldC 0 Try.underlying3 rfl rfl rfl rfl) ?_
    refine J.p rfl rfl rfl rfl (Y.bin rfl rfl rfl) ?_
    refine J.p rfl rfl rfl rfl (Y.fa0 fa35_1 rfl rfl) ?_
    refine J.stE (L' := [.int .i64 (a0.length : Int), .int .i64 (IntKind.wrap .i64 (i20 + 1)), .int .u32 t5]) ti3 rfl rfl rfl rfl rfl ?_
    refine J.nil ?_
    refine N.ib ?_
    obtain rfl := Option.some.inj H
    exact N.round (IntKind.wrap .i64 (i20 + 1)) () rfl trivial (by exact fun w h => h)
  · subst hr
    replace H := ysel_inl H
    refine N.at (s' := [(2, .pointer (some ⟨g1, 0, none⟩)), (3, .pointer (some ⟨g7, 0, none⟩)), (11, .func (.func 75) #[] #[.pointer (some ⟨g11, 0, none⟩)])]) (G' := dblks ds22 :: cells g7 35 [.int .i64 (a0.length : Int), .int .i64 i20, .int .u32 t5] :: cells g11 22 [.slice Aa0 a0.length ca0] :: own 22 1 A3 1 [.slice Aa0 a0.length ca0] :: cells g1 35 [.int .i64 0, .int .i64 0, .int .u32 0] :: G) rfl rfl ?_
    refine N.ib ?_
    refine N.nx ?_
    refine C.rs ?_
    refine J.r rfl rfl rfl rfl (Y.ldCA (us := [.int .i64 (a0.length : Int), .int .i64 i20, .int .u32 t5]) 1 Try.underlying35 rfl ti35 rfl rfl rfl rfl) ?_
    refine J.pull 4 rfl rfl ?_
    refine J.stA (us := [.int .i64 (a0.length : Int), .int .i64 i20, .int .u32 t5]) (L' := [.int .i64 (a0.length : Int), .int .i64 i20, .int .u32 t5]) ti35 rfl rfl rfl rfl rfl rfl ?_
    refine J.nx ?_
    refine C.ret ?_
    obtain rfl := Option.some.inj H
    exact ret_okM (cells g1 35 [.int .i64 (a0.length : Int), .int .i64 i20, .int .u32 t5] :: cells g7 35 [.int .i64 (a0.length : Int), .int .i64 i20, .int .u32 t5] :: cells g11 22 [.slice Aa0 a0.length ca0] :: own 22 1 A3 1 [.slice Aa0 a0.length ca0] :: G) (rvs := [.cell 2 35]) (vs := [.agg #[.int .i64 (a0.length : Int), .int .i64 i20, .int .u32 t5]]) rfl ⟨RV.cellA (us := [.int .i64 (a0.length : Int), .int .i64 i20, .int .u32 t5]) 0 Try.underlying35 rfl ti35 rfl rfl rfl rfl, trivial⟩ (fun w h => (St.pick [1, 0, 2, 3, 4] [_, _, _, _, _] h rfl)) (fun w h => ⟨rfl, (St.pick [] [_, _, _, _] h rfl)⟩)
  · exact e.elim
end Go.Proofs.Ytmbhpcdamfdphaa
