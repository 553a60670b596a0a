/- Own text, printed by the lifting program: each Go function beside a plain function, and the proof that a call of the one comes to the other. Conditions: what came in can be read. -/
import Derived.Test.YtkblnahoidbfkaaLiftF
set_option linter.unusedVariables false
set_option linter.unusedSimpArgs false
set_option maxRecDepth 10000
set_option maxHeartbeats 4000000
namespace Go.Proofs.Ytkblnahoidbfkaa
open Go Go.Sx
abbrev T53_ := Int × Int × Int × ByteArray × ByteArray × Int × Int × Int × Int × ByteArray × Int × Int × Int × Int
abbrev encT53_ (x : T53_) : List Value := [.int .i64 x.1, .int .u64 x.2.1, .int .i64 x.2.2.1, .string x.2.2.2.1, .string x.2.2.2.2.1, .int .u64 x.2.2.2.2.2.1, .int .i64 x.2.2.2.2.2.2.1, .int .i64 x.2.2.2.2.2.2.2.1, .int .i64 x.2.2.2.2.2.2.2.2.1, .string x.2.2.2.2.2.2.2.2.2.1, .int .i64 x.2.2.2.2.2.2.2.2.2.2.1, .int .i64 x.2.2.2.2.2.2.2.2.2.2.2.1, .int .i64 x.2.2.2.2.2.2.2.2.2.2.2.2.1, .int .u32 x.2.2.2.2.2.2.2.2.2.2.2.2.2]
theorem lenT53_ : ∀ x : T53_, (encT53_ x).length = 14 := fun _ => rfl
theorem oneT53_ : ∀ (x : T53_), ∀ u ∈ encT53_ x, u.oneCell' = true := by intro x u hu; simp only [List.mem_cons, List.not_mem_nil, or_false] at hu; rcases hu with rfl | rfl | rfl | rfl | rfl | rfl | rfl | rfl | rfl | rfl | rfl | rfl | rfl | rfl <;> rfl
abbrev T95_ := Int × Int × Int × Int
abbrev encT95_ (x : T95_) : List Value := [.int .i64 x.1, .int .i64 x.2.1, .int .i64 x.2.2.1, .int .i64 x.2.2.2]
theorem lenT95_ : ∀ x : T95_, (encT95_ x).length = 4 := fun _ => rfl
theorem oneT95_ : ∀ (x : T95_), ∀ u ∈ encT95_ x, u.oneCell' = true := by intro x u hu; simp only [List.mem_cons, List.not_mem_nil, or_false] at hu; rcases hu with rfl | rfl | rfl | rfl <;> rfl
theorem ti74 : TI Try.prog 74 1 24 (.slice none 0 0) := TI.of (by kernel_rfl)
theorem ti95 : TI Try.prog 95 4 32 (.agg #[.int .i64 0, .int .i64 0, .int .i64 0, .int .i64 0]) := TI.of (by kernel_rfl)
theorem fa62_0 : FA Try.prog 62 0 0 := FA.of Try.underlying62 rfl ti3 (by decide) rfl
theorem fa62_1 : FA Try.prog 62 1 1 := FA.of Try.underlying62 rfl ti3 (by decide) rfl
theorem fa95_0 : FA Try.prog 95 0 0 := FA.of Try.underlying95 rfl ti3 (by decide) rfl
theorem fa95_1 : FA Try.prog 95 1 1 := FA.of Try.underlying95 rfl ti3 (by decide) rfl
theorem fa95_2 : FA Try.prog 95 2 2 := FA.of Try.underlying95 rfl ti3 (by decide) rfl
theorem go13 : GoF Try.prog 13 := GoF.of Try.func13 (by kernel_rfl) (by kernel_rfl)
theorem go15 : GoF Try.prog 15 := GoF.of Try.func15 (by kernel_rfl) (by kernel_rfl)
theorem go20 : GoF Try.prog 20 := GoF.of Try.func20 (by kernel_rfl) (by kernel_rfl)
theorem go28 : GoF Try.prog 28 := GoF.of Try.func28 (by kernel_rfl) (by kernel_rfl)
theorem go30 : GoF Try.prog 30 := GoF.of Try.func30 (by kernel_rfl) (by kernel_rfl)
theorem go31 : GoF Try.prog 31 := GoF.of Try.func31 (by kernel_rfl) (by kernel_rfl)
theorem go32 : GoF Try.prog 32 := GoF.of Try.func32 (by kernel_rfl) (by kernel_rfl)
theorem go34 : GoF Try.prog 34 := GoF.of Try.func34 (by kernel_rfl) (by kernel_rfl)
theorem go41 : GoF Try.prog 41 := GoF.of Try.func41 (by kernel_rfl) (by kernel_rfl)
theorem go54 : GoF Try.prog 54 := GoF.of Try.func54 (by kernel_rfl) (by kernel_rfl)
theorem go59 : GoF Try.prog 59 := GoF.of Try.func59 (by kernel_rfl) (by kernel_rfl)
theorem go60 : GoF Try.prog 60 := GoF.of Try.func60 (by kernel_rfl) (by kernel_rfl)
theorem go61 : GoF Try.prog 61 := GoF.of Try.func61 (by kernel_rfl) (by kernel_rfl)
theorem go62 : GoF Try.prog 62 := GoF.of Try.func62 (by kernel_rfl) (by kernel_rfl)
theorem go63 : GoF Try.prog 63 := GoF.of Try.func63 (by kernel_rfl) (by kernel_rfl)
/-! ### salvor/salvortop.junkOf: function 59 -/
def junkOf.l1 (a0 : List Int) : Nat → ((List Int) × Int) → Option ((List Int))
  | 0, _ => none
  | k + 1, i83 => (if i83.2 < (a0.length : Int) then (some (decide (i83.2 < 200))) else (some false)).bind fun o88 => if o88 = true then ((gd ((0 : Int) ≤ i83.2 ∧ i83.2 < (a0.length : Int)) (if (rd a0 i83.2) ≠ 167 then (gd ((0 : Int) ≤ i83.2 ∧ i83.2 < (a0.length : Int)) (gd ((i83.1.length + [rd a0 i83.2].length) * 1 ≤ 140737488355328) (some (i83.1 ++ [rd a0 i83.2])))) else (some i83.1))).bind fun o105 => junkOf.l1 a0 k (o105, IntKind.wrap .i64 (i83.2 + 1))) else (some i83.1)
def junkOf.f (K : Nat) (a0 : List Int) : Option ((List Int)) := (junkOf.l1 a0 K (([] : List Int), 0)).bind fun o41 => some o41
theorem junkOf.calls {B : Nat} {w0 : World} {G : List HP} (K : Nat) (a0 : List Int) (Aa0 : Option Addr) (ca0 : Nat) (ha0 : RdG B w0 G Aa0 (a0.map (Value.int .u8))) (ka0 : a0.length ≤ ca0) (r : (List Int)) (H : junkOf.f K a0 = some r) (w : World) (hw : St B w0 (G) w) :
    Calls Try.prog 59 [.slice Aa0 a0.length ca0].toArray w (fun e w' => ∃ A0 c0, e = .returned (.slice A0 r.length c0) ∧ St B w0 (own 5 1 A0 c0 (r.map (Value.int .u8)) :: G) w') := by
  unfold junkOf.f at H
  refine calls_of (n := 28) (s := [(0, .slice Aa0 a0.length ca0)]) Try.func59 rfl rfl rfl rfl ?_ hw
  refine C.rs ?_
  refine J.p rfl rfl rfl rfl (Y.asg rfl) ?_
  refine J.nx ?_
  refine C.rs ?_
  refine J.p rfl rfl rfl rfl (Y.asg rfl) ?_
  refine J.nx ?_
  refine C.seq ?_
  refine C.rs ?_
  refine J.p rfl rfl rfl rfl (Y.asg rfl) ?_
  refine J.nx ?_
  refine C.joinN H (fun (o41 : (List Int)) (j42 : (Option Addr) × Nat) => [(3, .slice j42.1 o41.length j42.2)]) (fun (o41 : (List Int)) (j42 : (Option Addr) × Nat) => own 5 1 j42.1 j42.2 (o41.map (Value.int .u8)) :: G) (fun (o41 : (List Int)) (j42 : (Option Addr) × Nat) => True) (fun o39 H HK40 => ?_) (fun o41 j42 H _ => ?_)
  · refine C.blk ?_
    refine C.loop (fun (i : Nat × ((List Int) × Int) × ((Option Addr) × Nat)) => [(0, .slice Aa0 a0.length ca0), (3, .slice i.2.2.1 i.2.1.1.length i.2.2.2), (4, .int .i64 i.2.1.2)]) (fun (i : Nat × ((List Int) × Int) × ((Option Addr) × Nat)) => own 5 1 i.2.2.1 i.2.2.2 (i.2.1.1.map (Value.int .u8)) :: G) (fun (i : Nat × ((List Int) × Int) × ((Option Addr) × Nat)) => junkOf.l1 a0 i.1 i.2.1 = some o39 ∧ (True)) (fun i => i.1) (K, (([] : List Int), 0), (none, 0)) ⟨H, trivial⟩ (by exact ⟨rfl, rfl, rfl, trivial⟩) (by exact fun w h => (h.nilOwn 5 1)) ?_
    rintro ⟨k117, i83, j84⟩ ⟨H, _⟩
    replace H : junkOf.l1 a0 k117 i83 = some o39 := H
    obtain ⟨k82, rfl⟩ : ∃ m, k117 = m + 1 := by cases k117 with | zero => exact absurd H (by simp [junkOf.l1]) | succ m => exact ⟨m, rfl⟩
    rw [junkOf.l1] at H
    refine C.at (s' := [(0, .slice Aa0 a0.length ca0), (3, .slice j84.1 i83.1.length j84.2), (4, .int .i64 i83.2)]) (G' := own 5 1 j84.1 j84.2 (i83.1.map (Value.int .u8)) :: G) rfl rfl ?_
    refine C.seq ?_
    refine C.rs ?_
    refine J.joinB H (fun (o88 : Bool) (j89 : Unit) => [(0, .slice Aa0 a0.length ca0), (3, .slice j84.1 i83.1.length j84.2), (4, .int .i64 i83.2), (12, .bool o88)]) (fun (o88 : Bool) (j89 : Unit) => own 5 1 j84.1 j84.2 (i83.1.map (Value.int .u8)) :: G) (fun (o88 : Bool) (j89 : Unit) => True) (fun o90 H HK91 => ?_) (fun o88 j89 H _ => ?_)
    · refine J.p rfl rfl rfl rfl (Y.mv rfl) ?_
      refine J.p rfl rfl rfl rfl (Y.mv rfl) ?_
      refine J.p rfl rfl rfl rfl (Y.lenS Try.underlying22 rfl) ?_
      refine J.p rfl rfl rfl rfl (Y.bin rfl rfl rfl) ?_
      refine J.p rfl rfl rfl rfl (Y.mv rfl) ?_
      refine split2 H (fun c92 H => ?_) (fun c92 H => ?_)
      · refine J.as (k := 9) rfl (congrArg Value.bool (decide_eq_true c92)) ?_
        refine J.p rfl rfl rfl rfl (Y.mv rfl) ?_
        refine J.p rfl rfl rfl rfl (Y.bin rfl rfl rfl) ?_
        refine J.p rfl rfl rfl rfl (Y.pickT rfl rfl) ?_
        refine J.nil ?_
        obtain rfl := Option.some.inj H
        exact N.meet (decide (i83.2 < 200), ()) ⟨HK91, trivial⟩ (by exact ⟨rfl, rfl, rfl, rfl, trivial⟩) (by exact fun w h => h)
      · refine J.as (k := 9) rfl (congrArg Value.bool (decide_eq_false c92)) ?_
        refine J.skip rfl rfl ?_
        refine J.skip rfl rfl ?_
        refine J.p rfl rfl rfl rfl (Y.pickF rfl rfl) ?_
        refine J.nil ?_
        obtain rfl := Option.some.inj H
        exact N.meet (false, ()) ⟨HK91, trivial⟩ (by exact ⟨rfl, rfl, rfl, rfl, trivial⟩) (by exact fun w h => h)
    · refine C.at (s' := [(0, .slice Aa0 a0.length ca0), (3, .slice j84.1 i83.1.length j84.2), (4, .int .i64 i83.2), (12, .bool o88)]) (G' := own 5 1 j84.1 j84.2 (i83.1.map (Value.int .u8)) :: G) rfl rfl ?_
      refine split2 H (fun c93 H => ?_) (fun c93 H => ?_)
      · refine C.condT (congrArg (fun b => some (Value.bool b)) (c93)) ?_
        refine C.skip ?_
        refine N.nx ?_
        refine C.joinB H (fun (o105 : (List Int)) (j106 : (Option Addr) × Nat) => [(0, .slice Aa0 a0.length ca0), (3, .slice j106.1 o105.length j106.2), (4, .int .i64 i83.2)]) (fun (o105 : (List Int)) (j106 : (Option Addr) × Nat) => own 5 1 j106.1 j106.2 (o105.map (Value.int .u8)) :: G) (fun (o105 : (List Int)) (j106 : (Option Addr) × Nat) => True) (fun o103 H HK104 => ?_) (fun o105 j106 H _ => ?_)
        · refine C.blk ?_
          refine C.rs ?_
          refine J.p rfl rfl rfl rfl (Y.mv rfl) ?_
          refine J.p rfl rfl rfl rfl (Y.mv rfl) ?_
          obtain ⟨p108, H⟩ := gd_some H
          refine J.el rfl rfl rfl Try.underlying22 ti5 Try.underlying5 rfl rfl rfl p108 (ha0.suf [_] rfl) ?_
          refine J.p rfl rfl rfl rfl (Y.bin rfl rfl rfl) ?_
          refine J.nx ?_
          refine split2 H (fun c109 H => ?_) (fun c109 H => ?_)
          · refine C.condT (congrArg (fun b => some (Value.bool b)) (decide_eq_true c109)) ?_
            refine C.reg ?_
            refine J.p rfl rfl rfl rfl (Y.mv rfl) ?_
            refine J.p rfl rfl rfl rfl (Y.mv rfl) ?_
            refine J.p rfl rfl rfl rfl (Y.mv rfl) ?_
            obtain ⟨p110, H⟩ := gd_some H
            refine J.el rfl rfl rfl Try.underlying22 ti5 Try.underlying5 rfl rfl rfl p110 (ha0.suf [_] rfl) ?_
            refine J.bsL (enc := (Value.int .u8)) (xs := [rd a0 i83.2]) rfl Try.underlying22 ti5 rfl rfl rfl rfl rfl (fun A111 => ?_)
            refine J.pull 1 rfl rfl ?_
            obtain ⟨p115, H⟩ := gd_some H
            refine J.appL (enc := (Value.int .u8)) (xs := i83.1) (ys := [rd a0 i83.2]) rfl Try.underlying22 ti5 rfl (by decide) rfl rfl (fun _ => rfl) (RdG.own 1 rfl) p115 (fun A113 c114 => ?_)
            refine J.pull 1 rfl rfl (J.drop ?_)
            refine J.p rfl rfl rfl rfl (Y.asg rfl) ?_
            refine J.nil ?_
            refine N.ib ?_
            obtain rfl := Option.some.inj H
            exact N.meet ((i83.1 ++ [rd a0 i83.2]), (A113, c114)) ⟨HK104, trivial⟩ (by exact ⟨rfl, rfl, rfl, trivial⟩) (by exact fun w h => h)
          · refine C.condF (congrArg (fun b => some (Value.bool b)) (decide_eq_false c109)) ?_
            refine C.skip ?_
            refine N.ib ?_
            obtain rfl := Option.some.inj H
            exact N.meet (i83.1, (j84.1, j84.2)) ⟨HK104, trivial⟩ (by exact ⟨rfl, rfl, rfl, trivial⟩) (by exact fun w h => h)
        · refine C.at (s' := [(0, .slice Aa0 a0.length ca0), (3, .slice j106.1 o105.length j106.2), (4, .int .i64 i83.2)]) (G' := own 5 1 j106.1 j106.2 (o105.map (Value.int .u8)) :: G) rfl rfl ?_
          refine C.reg ?_
          refine J.p rfl rfl rfl rfl (Y.mv rfl) ?_
          refine J.p rfl rfl rfl rfl (Y.bin rfl rfl rfl) ?_
          refine J.p rfl rfl rfl rfl (Y.asg rfl) ?_
          refine J.nil ?_
          exact N.again (k82, (o105, IntKind.wrap .i64 (i83.2 + 1)), (j106.1, j106.2)) ⟨H, trivial⟩ (Nat.lt_succ_self _) (by exact ⟨rfl, rfl, rfl, trivial⟩) (by exact fun w h => h)
      · refine C.condF (congrArg (fun b => some (Value.bool b)) (nt c93)) ?_
        refine C.exit ?_
        refine X.th ?_
        refine X.th ?_
        refine X.hit ?_
        obtain rfl := Option.some.inj H
        exact N.meet (i83.1, (j84.1, j84.2)) ⟨HK40, trivial⟩ (by exact ⟨rfl, trivial⟩) (by exact fun w h => h)
  · refine N.at (s' := [(3, .slice j42.1 o41.length j42.2)]) (G' := own 5 1 j42.1 j42.2 (o41.map (Value.int .u8)) :: G) rfl rfl ?_
    refine N.nx ?_
    refine C.rs ?_
    refine J.p rfl rfl rfl rfl (Y.mv rfl) ?_
    refine J.p rfl rfl rfl rfl (Y.asg rfl) ?_
    refine J.nx ?_
    refine C.ret ?_
    obtain rfl := Option.some.inj H
    exact ret_ok (ks := [2]) rfl rfl (fun w h => ⟨j42.1, j42.2, rfl, h⟩)
/-! ### salvor/salvortop.keyOf: function 62 -/
def keyOf.l1 (t1 : Int) : Nat → (ByteArray) → Option (ByteArray)
  | 0, _ => none
  | k + 1, i45 => (if t1 = 5 then (some (decide ((i45.size : Int) < 64))) else (some false)).bind fun o48 => if o48 = true then (gd (i45.size + (⟨#[166]⟩ : ByteArray).size ≤ 9223372036854775807) (keyOf.l1 t1 k (i45 ++ (⟨#[166]⟩ : ByteArray)))) else (some i45)
def keyOf.f (K : Nat) (a0 : Int) : Option (ByteArray) := (pick.f a0 6).bind fun t1 => gd ((0 : Int) ≤ t1 ∧ (0 : Int) ≤ (IntKind.wrap .i64 (t1 + 1)) ∧ ((Int.toNat t1) ≤ (Int.toNat (IntKind.wrap .i64 (t1 + 1))) ∧ (Int.toNat (IntKind.wrap .i64 (t1 + 1))) ≤ (⟨#[97, 98, 99, 100, 101, 102]⟩ : ByteArray).size)) ((if t1 = 4 then (gd (((⟨#[97, 98, 99, 100, 101, 102]⟩ : ByteArray).extract (Int.toNat t1) (Int.toNat (IntKind.wrap .i64 (t1 + 1)))).size + (⟨#[167, 0, 166, 167]⟩ : ByteArray).size ≤ 9223372036854775807) (some (((⟨#[97, 98, 99, 100, 101, 102]⟩ : ByteArray).extract (Int.toNat t1) (Int.toNat (IntKind.wrap .i64 (t1 + 1)))) ++ (⟨#[167, 0, 166, 167]⟩ : ByteArray)))) else (some ((⟨#[97, 98, 99, 100, 101, 102]⟩ : ByteArray).extract (Int.toNat t1) (Int.toNat (IntKind.wrap .i64 (t1 + 1)))))).bind fun o8 => (keyOf.l1 t1 K o8).bind fun o28 => some o28)
theorem keyOf.calls {B : Nat} {w0 : World} {G : List HP} (K : Nat) (a0 : Int) (r : ByteArray) (H : keyOf.f K a0 = some r) (w : World) (hw : St B w0 (G) w) :
    Calls Try.prog 62 [.int .i64 a0].toArray w (fun e w' => e = .returned (.string r) ∧ St B w0 (G) w') := by
  unfold keyOf.f at H
  refine calls_of (n := 25) (s := [(0, .int .i64 a0)]) Try.func62 rfl rfl rfl rfl ?_ hw
  refine C.rs ?_
  refine J.p rfl rfl rfl rfl (Y.asg rfl) ?_
  refine J.nx ?_
  refine C.rs ?_
  refine J.p rfl rfl rfl rfl (Y.mv rfl) ?_
  obtain ⟨t1, hC2, H⟩ := bind_some H
  refine J.call (us := []) (cap := []) rfl rfl rfl go61 (fun w hw => by have hcc := pick.calls a0 6 t1 hC2 w hw; exact hcc) (fun e w1 h1 => ?_)
  obtain ⟨rfl, hw56⟩ := h1
  refine ⟨_, _, rfl, hw56, ?_⟩
  refine J.p rfl rfl rfl rfl (Y.asg rfl) ?_
  refine J.nx ?_
  refine C.rs ?_
  refine J.p rfl rfl rfl rfl (Y.mv rfl) ?_
  refine J.p rfl rfl rfl rfl (Y.mv rfl) ?_
  refine J.p rfl rfl rfl rfl (Y.bin rfl rfl rfl) ?_
  obtain ⟨p3, H⟩ := gd_some H
  refine J.p rfl rfl rfl rfl (Y.slcT Try.underlying9 rfl (bnd.yes rfl p3.1) (bnd.yes rfl p3.2.1) p3.2.2) ?_
  refine J.p rfl rfl rfl rfl (Y.asg rfl) ?_
  refine J.nx ?_
  refine C.seq ?_
  refine C.rs ?_
  refine J.p rfl rfl rfl rfl (Y.mv rfl) ?_
  refine J.p rfl rfl rfl rfl (Y.bin rfl rfl rfl) ?_
  refine J.nx ?_
  refine C.joinN H (fun (o8 : ByteArray) (j9 : Unit) => [(3, .int .i64 t1), (4, .string o8)]) (fun (o8 : ByteArray) (j9 : Unit) => G) (fun (o8 : ByteArray) (j9 : Unit) => True) (fun o6 H HK7 => ?_) (fun o8 j9 H _ => ?_)
  · refine split2 H (fun c10 H => ?_) (fun c10 H => ?_)
    · refine C.condT (congrArg (fun b => some (Value.bool b)) (decide_eq_true c10)) ?_
      refine C.reg ?_
      refine J.p rfl rfl rfl rfl (Y.mv rfl) ?_
      obtain ⟨p11, H⟩ := gd_some H
      refine J.p rfl rfl rfl rfl (Y.cat rfl rfl p11) ?_
      refine J.p rfl rfl rfl rfl (Y.asg rfl) ?_
      refine J.nil ?_
      obtain rfl := Option.some.inj H
      exact N.meet (((⟨#[97, 98, 99, 100, 101, 102]⟩ : ByteArray).extract (Int.toNat t1) (Int.toNat (IntKind.wrap .i64 (t1 + 1)))) ++ (⟨#[167, 0, 166, 167]⟩ : ByteArray), ()) ⟨HK7, trivial⟩ (by exact ⟨rfl, rfl, trivial⟩) (by exact fun w h => h)
    · refine C.condF (congrArg (fun b => some (Value.bool b)) (decide_eq_false c10)) ?_
      refine C.skip ?_
      obtain rfl := Option.some.inj H
      exact N.meet ((⟨#[97, 98, 99, 100, 101, 102]⟩ : ByteArray).extract (Int.toNat t1) (Int.toNat (IntKind.wrap .i64 (t1 + 1))), ()) ⟨HK7, trivial⟩ (by exact ⟨rfl, rfl, trivial⟩) (by exact fun w h => h)
  · refine N.at (s' := [(3, .int .i64 t1), (4, .string o8)]) (G' := G) rfl rfl ?_
    refine N.nx ?_
    refine C.joinB H (fun (o28 : ByteArray) (j29 : Unit) => [(4, .string o28)]) (fun (o28 : ByteArray) (j29 : Unit) => G) (fun (o28 : ByteArray) (j29 : Unit) => True) (fun o26 H HK27 => ?_) (fun o28 j29 H _ => ?_)
    · refine C.blk ?_
      refine C.loop (fun (i : Nat × (ByteArray) × (Unit)) => [(3, .int .i64 t1), (4, .string i.2.1)]) (fun (i : Nat × (ByteArray) × (Unit)) => G) (fun (i : Nat × (ByteArray) × (Unit)) => keyOf.l1 t1 i.1 i.2.1 = some o26 ∧ (True)) (fun i => i.1) (K, o8, ()) ⟨H, trivial⟩ (by exact ⟨rfl, rfl, trivial⟩) (by exact fun w h => h) ?_
      rintro ⟨k55, i45, j46⟩ ⟨H, _⟩
      replace H : keyOf.l1 t1 k55 i45 = some o26 := H
      obtain ⟨k44, rfl⟩ : ∃ m, k55 = m + 1 := by cases k55 with | zero => exact absurd H (by simp [keyOf.l1]) | succ m => exact ⟨m, rfl⟩
      rw [keyOf.l1] at H
      refine C.at (s' := [(3, .int .i64 t1), (4, .string i45)]) (G' := G) rfl rfl ?_
      refine C.seq ?_
      refine C.rs ?_
      refine J.joinB H (fun (o48 : Bool) (j49 : Unit) => [(3, .int .i64 t1), (4, .string i45), (21, .bool o48)]) (fun (o48 : Bool) (j49 : Unit) => G) (fun (o48 : Bool) (j49 : Unit) => True) (fun o50 H HK51 => ?_) (fun o48 j49 H _ => ?_)
      · refine J.p rfl rfl rfl rfl (Y.mv rfl) ?_
        refine J.p rfl rfl rfl rfl (Y.bin rfl rfl rfl) ?_
        refine J.p rfl rfl rfl rfl (Y.mv rfl) ?_
        refine split2 H (fun c52 H => ?_) (fun c52 H => ?_)
        · refine J.as (k := 17) rfl (congrArg Value.bool (decide_eq_true c52)) ?_
          refine J.p rfl rfl rfl rfl (Y.mv rfl) ?_
          refine J.p rfl rfl rfl rfl (Y.lenT Try.underlying9 rfl) ?_
          refine J.p rfl rfl rfl rfl (Y.bin rfl rfl rfl) ?_
          refine J.p rfl rfl rfl rfl (Y.pickT rfl rfl) ?_
          refine J.nil ?_
          obtain rfl := Option.some.inj H
          exact N.meet (decide ((i45.size : Int) < 64), ()) ⟨HK51, trivial⟩ (by exact ⟨rfl, rfl, rfl, trivial⟩) (by exact fun w h => h)
        · refine J.as (k := 17) rfl (congrArg Value.bool (decide_eq_false c52)) ?_
          refine J.skip rfl rfl ?_
          refine J.skip rfl rfl ?_
          refine J.skip rfl rfl ?_
          refine J.p rfl rfl rfl rfl (Y.pickF rfl rfl) ?_
          refine J.nil ?_
          obtain rfl := Option.some.inj H
          exact N.meet (false, ()) ⟨HK51, trivial⟩ (by exact ⟨rfl, rfl, rfl, trivial⟩) (by exact fun w h => h)
      · refine C.at (s' := [(3, .int .i64 t1), (4, .string i45), (21, .bool o48)]) (G' := G) rfl rfl ?_
        refine split2 H (fun c53 H => ?_) (fun c53 H => ?_)
        · refine C.condT (congrArg (fun b => some (Value.bool b)) (c53)) ?_
          refine C.skip ?_
          refine N.nx ?_
          refine C.blk ?_
          refine C.reg ?_
          refine J.p rfl rfl rfl rfl (Y.mv rfl) ?_
          obtain ⟨p54, H⟩ := gd_some H
          refine J.p rfl rfl rfl rfl (Y.cat rfl rfl p54) ?_
          refine J.p rfl rfl rfl rfl (Y.asg rfl) ?_
          refine J.nil ?_
          refine N.ib ?_
          exact N.again (k44, i45 ++ (⟨#[166]⟩ : ByteArray), ()) ⟨H, trivial⟩ (Nat.lt_succ_self _) (by exact ⟨rfl, rfl, trivial⟩) (by exact fun w h => h)
        · refine C.condF (congrArg (fun b => some (Value.bool b)) (nt c53)) ?_
          refine C.exit ?_
          refine X.th ?_
          refine X.th ?_
          refine X.hit ?_
          obtain rfl := Option.some.inj H
          exact N.meet (i45, ()) ⟨HK27, trivial⟩ (by exact ⟨rfl, trivial⟩) (by exact fun w h => h)
    · refine C.at (s' := [(4, .string o28)]) (G' := G) rfl rfl ?_
      refine C.rs ?_
      refine J.p rfl rfl rfl rfl (Y.mv rfl) ?_
      refine J.p rfl rfl rfl rfl (Y.asg rfl) ?_
      refine J.nx ?_
      refine C.ret ?_
      obtain rfl := Option.some.inj H
      exact ret_ok (ks := [2]) rfl rfl (fun w h => ⟨rfl, h⟩)
/-! ### salvor/salvortop.valueOf: function 63 -/
def valueOf.l1 (o8 : Int) (a0 : Int) : Nat → (ByteArray × Int) → Option (ByteArray)
  | 0, _ => none
  | k + 1, i56 => if i56.2 < o8 then (gd ((IntKind.wrap .i64 (1 + (Int.tmod i56.2 5))) ≠ (0 : Int)) ((pick.f (IntKind.wrap .i64 ((IntKind.wrap .i64 (Int.tdiv a0 (IntKind.wrap .i64 (1 + (Int.tmod i56.2 5))))) + (IntKind.wrap .i64 (i56.2 * 31)))) 256).bind fun t60 => gd (i56.1.size + (strOfNums [IntKind.wrap .u8 t60]).size ≤ 9223372036854775807) (valueOf.l1 o8 a0 k (i56.1 ++ (strOfNums [IntKind.wrap .u8 t60]), IntKind.wrap .i64 (i56.2 + 1))))) else (some i56.1)
def valueOf.f (K : Nat) (a0 : Int) : Option (ByteArray) := (pick.f a0 9).bind fun t1 => (pick.f (IntKind.wrap .i64 (Int.tdiv a0 9)) 40).bind fun t3 => (if t1 = 8 then (some (IntKind.wrap .i64 (t3 * 9))) else (some t3)).bind fun o8 => (valueOf.l1 o8 a0 K ((⟨#[]⟩ : ByteArray), 0)).bind fun o33 => (if t1 = 6 then ((fEncode.f K 1 999999 1 (⟨#[97]⟩ : ByteArray) (⟨#[102, 111, 114, 103, 101, 100]⟩ : ByteArray) 0 0 0 0 ByteArray.empty 0 0 0 0).bind fun t83 => if t83.2 = 0 then (gd (o33.size + (strOfNums t83.1).size ≤ 9223372036854775807) (some (o33 ++ (strOfNums t83.1)))) else (some o33)) else (if t1 = 7 then (gd (o33.size + (⟨#[167, 167, 0, 0]⟩ : ByteArray).size ≤ 9223372036854775807) (some (o33 ++ (⟨#[167, 167, 0, 0]⟩ : ByteArray)))) else (some o33))).bind fun o80 => some o80
theorem valueOf.calls {B : Nat} {w0 : World} {G : List HP} (K : Nat) (a0 : Int) (r : ByteArray) (H : valueOf.f K a0 = some r) (w : World) (hw : St B w0 (G) w) :
    Calls Try.prog 63 [.int .i64 a0].toArray w (fun e w' => e = .returned (.string r) ∧ St B w0 (G) w') := by
  unfold valueOf.f at H
  refine calls_of (n := 57) (s := [(0, .int .i64 a0)]) Try.func63 rfl rfl rfl rfl ?_ hw
  refine C.rs ?_
  refine J.p rfl rfl rfl rfl (Y.asg rfl) ?_
  refine J.nx ?_
  refine C.rs ?_
  refine J.p rfl rfl rfl rfl (Y.mv rfl) ?_
  obtain ⟨t1, hC2, H⟩ := bind_some H
  refine J.call (us := []) (cap := []) rfl rfl rfl go61 (fun w hw => by have hcc := pick.calls a0 9 t1 hC2 w hw; exact hcc) (fun e w1 h1 => ?_)
  obtain ⟨rfl, hw94⟩ := h1
  refine ⟨_, _, rfl, hw94, ?_⟩
  refine J.p rfl rfl rfl rfl (Y.asg rfl) ?_
  refine J.nx ?_
  refine C.rs ?_
  refine J.p rfl rfl rfl rfl (Y.asg rfl) ?_
  refine J.nx ?_
  refine C.rs ?_
  refine J.p rfl rfl rfl rfl (Y.mv rfl) ?_
  refine J.p rfl rfl rfl rfl (Y.quo rfl rfl (by decide)) ?_
  obtain ⟨t3, hC4, H⟩ := bind_some H
  refine J.call (us := []) (cap := []) rfl rfl rfl go61 (fun w hw => by have hcc := pick.calls (IntKind.wrap .i64 (Int.tdiv a0 9)) 40 t3 hC4 w hw; exact hcc) (fun e w1 h1 => ?_)
  obtain ⟨rfl, hw93⟩ := h1
  refine ⟨_, _, rfl, hw93, ?_⟩
  refine J.p rfl rfl rfl rfl (Y.asg rfl) ?_
  refine J.nx ?_
  refine C.seq ?_
  refine C.rs ?_
  refine J.p rfl rfl rfl rfl (Y.mv rfl) ?_
  refine J.p rfl rfl rfl rfl (Y.bin rfl rfl rfl) ?_
  refine J.nx ?_
  refine C.joinN H (fun (o8 : Int) (j9 : Unit) => [(0, .int .i64 a0), (3, .int .i64 t1), (4, .string (⟨#[]⟩ : ByteArray)), (5, .int .i64 o8)]) (fun (o8 : Int) (j9 : Unit) => G) (fun (o8 : Int) (j9 : Unit) => True) (fun o6 H HK7 => ?_) (fun o8 j9 H _ => ?_)
  · refine split2 H (fun c10 H => ?_) (fun c10 H => ?_)
    · refine C.condT (congrArg (fun b => some (Value.bool b)) (decide_eq_true c10)) ?_
      refine C.reg ?_
      refine J.p rfl rfl rfl rfl (Y.mv rfl) ?_
      refine J.p rfl rfl rfl rfl (Y.bin rfl rfl rfl) ?_
      refine J.p rfl rfl rfl rfl (Y.asg rfl) ?_
      refine J.nil ?_
      obtain rfl := Option.some.inj H
      exact N.meet (IntKind.wrap .i64 (t3 * 9), ()) ⟨HK7, trivial⟩ (by exact ⟨rfl, rfl, rfl, rfl, trivial⟩) (by exact fun w h => h)
    · refine C.condF (congrArg (fun b => some (Value.bool b)) (decide_eq_false c10)) ?_
      refine C.skip ?_
      obtain rfl := Option.some.inj H
      exact N.meet (t3, ()) ⟨HK7, trivial⟩ (by exact ⟨rfl, rfl, rfl, rfl, trivial⟩) (by exact fun w h => h)
  · refine N.at (s' := [(0, .int .i64 a0), (3, .int .i64 t1), (4, .string (⟨#[]⟩ : ByteArray)), (5, .int .i64 o8)]) (G' := G) rfl rfl ?_
    refine N.nx ?_
    refine C.seq ?_
    refine C.rs ?_
    refine J.p rfl rfl rfl rfl (Y.asg rfl) ?_
    refine J.nx ?_
    refine C.joinN H (fun (o33 : ByteArray) (j34 : Unit) => [(3, .int .i64 t1), (4, .string o33)]) (fun (o33 : ByteArray) (j34 : Unit) => G) (fun (o33 : ByteArray) (j34 : Unit) => True) (fun o31 H HK32 => ?_) (fun o33 j34 H _ => ?_)
    · refine C.blk ?_
      refine C.loop (fun (i : Nat × (ByteArray × Int) × (Unit)) => [(0, .int .i64 a0), (3, .int .i64 t1), (4, .string i.2.1.1), (5, .int .i64 o8), (6, .int .i64 i.2.1.2)]) (fun (i : Nat × (ByteArray × Int) × (Unit)) => G) (fun (i : Nat × (ByteArray × Int) × (Unit)) => valueOf.l1 o8 a0 i.1 i.2.1 = some o31 ∧ (True)) (fun i => i.1) (K, ((⟨#[]⟩ : ByteArray), 0), ()) ⟨H, trivial⟩ (by exact ⟨rfl, rfl, rfl, rfl, rfl, trivial⟩) (by exact fun w h => h) ?_
      rintro ⟨k66, i56, j57⟩ ⟨H, _⟩
      replace H : valueOf.l1 o8 a0 k66 i56 = some o31 := H
      obtain ⟨k55, rfl⟩ : ∃ m, k66 = m + 1 := by cases k66 with | zero => exact absurd H (by simp [valueOf.l1]) | succ m => exact ⟨m, rfl⟩
      rw [valueOf.l1] at H
      refine C.at (s' := [(0, .int .i64 a0), (3, .int .i64 t1), (4, .string i56.1), (5, .int .i64 o8), (6, .int .i64 i56.2)]) (G' := G) rfl rfl ?_
      refine C.seq ?_
      refine C.rs ?_
      refine J.p rfl rfl rfl rfl (Y.mv rfl) ?_
      refine J.p rfl rfl rfl rfl (Y.mv rfl) ?_
      refine J.p rfl rfl rfl rfl (Y.bin rfl rfl rfl) ?_
      refine J.nx ?_
      refine split2 H (fun c58 H => ?_) (fun c58 H => ?_)
      · refine C.condT (congrArg (fun b => some (Value.bool b)) (decide_eq_true c58)) ?_
        refine C.skip ?_
        refine N.nx ?_
        refine C.seq ?_
        refine C.blk ?_
        refine C.reg ?_
        refine J.p rfl rfl rfl rfl (Y.mv rfl) ?_
        refine J.p rfl rfl rfl rfl (Y.mv rfl) ?_
        refine J.p rfl rfl rfl rfl (Y.mv rfl) ?_
        refine J.p rfl rfl rfl rfl (Y.rem rfl rfl (by decide)) ?_
        refine J.p rfl rfl rfl rfl (Y.bin rfl rfl rfl) ?_
        obtain ⟨p59, H⟩ := gd_some H
        refine J.p rfl rfl rfl rfl (Y.quo rfl rfl p59) ?_
        refine J.p rfl rfl rfl rfl (Y.mv rfl) ?_
        refine J.p rfl rfl rfl rfl (Y.bin rfl rfl rfl) ?_
        refine J.p rfl rfl rfl rfl (Y.bin rfl rfl rfl) ?_
        obtain ⟨t60, hC61, H⟩ := bind_some H
        refine J.call (us := []) (cap := []) rfl rfl rfl go61 (fun w hw => by have hcc := pick.calls (IntKind.wrap .i64 ((IntKind.wrap .i64 (Int.tdiv a0 (IntKind.wrap .i64 (1 + (Int.tmod i56.2 5))))) + (IntKind.wrap .i64 (i56.2 * 31)))) 256 t60 hC61 w hw; exact hcc) (fun e w1 h1 => ?_)
        obtain ⟨rfl, hw65⟩ := h1
        refine ⟨_, _, rfl, hw65, ?_⟩
        refine J.p rfl rfl rfl rfl (Y.conv Try.underlying3 Try.underlying5 rfl) ?_
        refine J.bsL (enc := (Value.int .u8)) (xs := [IntKind.wrap .u8 t60]) rfl Try.underlying22 ti5 rfl rfl rfl rfl rfl (fun A62 => ?_)
        refine J.r rfl rfl rfl rfl (Y.b2s Try.underlying22 Try.underlying5 Try.underlying9 rfl (RdG.own 0 rfl)) ?_
        obtain ⟨p64, H⟩ := gd_some H
        refine J.p rfl rfl rfl rfl (Y.cat rfl rfl p64) ?_
        refine J.p rfl rfl rfl rfl (Y.asg rfl) ?_
        refine J.nil ?_
        refine N.ib ?_
        refine N.nx ?_
        refine C.reg ?_
        refine J.p rfl rfl rfl rfl (Y.mv rfl) ?_
        refine J.p rfl rfl rfl rfl (Y.bin rfl rfl rfl) ?_
        refine J.p rfl rfl rfl rfl (Y.asg rfl) ?_
        refine J.nil ?_
        exact N.again (k55, (i56.1 ++ (strOfNums [IntKind.wrap .u8 t60]), IntKind.wrap .i64 (i56.2 + 1)), ()) ⟨H, trivial⟩ (Nat.lt_succ_self _) (by exact ⟨rfl, rfl, rfl, rfl, rfl, trivial⟩) (by exact fun w h => (St.pick [] [_] h rfl))
      · refine C.condF (congrArg (fun b => some (Value.bool b)) (decide_eq_false c58)) ?_
        refine C.exit ?_
        refine X.th ?_
        refine X.th ?_
        refine X.hit ?_
        obtain rfl := Option.some.inj H
        exact N.meet (i56.1, ()) ⟨HK32, trivial⟩ (by exact ⟨rfl, rfl, trivial⟩) (by exact fun w h => h)
    · refine N.at (s' := [(3, .int .i64 t1), (4, .string o33)]) (G' := G) rfl rfl ?_
      refine N.nx ?_
      refine C.seq ?_
      refine C.rs ?_
      refine J.p rfl rfl rfl rfl (Y.mv rfl) ?_
      refine J.nx ?_
      refine C.joinN H (fun (o80 : ByteArray) (j81 : Unit) => [(4, .string o80)]) (fun (o80 : ByteArray) (j81 : Unit) => G) (fun (o80 : ByteArray) (j81 : Unit) => True) (fun o78 H HK79 => ?_) (fun o80 j81 H _ => ?_)
      · refine C.blk ?_
        refine C.rs ?_
        refine J.p rfl rfl rfl rfl (Y.bin rfl rfl rfl) ?_
        refine J.p rfl rfl rfl rfl (Y.asg rfl) ?_
        refine J.nx ?_
        refine split2 H (fun c82 H => ?_) (fun c82 H => ?_)
        · refine C.condT (congrArg (fun b => some (Value.bool b)) (decide_eq_true c82)) ?_
          refine C.rs ?_
          refine J.p rfl rfl rfl rfl (Y.bld (cs := [.int .u64 999999, .int .i64 1, .string (⟨#[97]⟩ : ByteArray), .string (⟨#[102, 111, 114, 103, 101, 100]⟩ : ByteArray)]) rfl pl44 ti44 rfl (by kernel_rfl)) ?_
          refine J.p rfl rfl rfl rfl (Y.bld (cs := [.int .i64 1, .int .u64 999999, .int .i64 1, .string (⟨#[97]⟩ : ByteArray), .string (⟨#[102, 111, 114, 103, 101, 100]⟩ : ByteArray), .int .u64 0, .int .i64 0, .int .i64 0, .int .i64 0, .string ByteArray.empty, .int .i64 0, .int .i64 0, .int .i64 0, .int .u32 0]) rfl pl53 ti53 rfl (by kernel_rfl)) ?_
          obtain ⟨t83, hC84, H⟩ := bind_some H
          refine J.call (us := []) (cap := []) rfl rfl rfl go39 (fun w hw => by have hcc := fEncode.calls K 1 999999 1 (⟨#[97]⟩ : ByteArray) (⟨#[102, 111, 114, 103, 101, 100]⟩ : ByteArray) 0 0 0 0 ByteArray.empty 0 0 0 0 t83 hC84 w hw; exact hcc) (fun e w1 h1 => ?_)
          obtain ⟨A85, c86, rfl, hw90⟩ := h1
          refine ⟨_, _, rfl, hw90, ?_⟩
          refine J.p rfl rfl rfl rfl (Y.mv rfl) ?_
          refine J.p rfl rfl rfl rfl (Y.ext rfl rfl) ?_
          refine J.p rfl rfl rfl rfl (Y.ext rfl rfl) ?_
          refine J.p rfl rfl rfl rfl (Y.asg rfl) ?_
          refine J.p rfl rfl rfl rfl (Y.asg rfl) ?_
          refine J.nx ?_
          refine C.rs ?_
          refine J.p rfl rfl rfl rfl (Y.mv rfl) ?_
          refine J.p rfl rfl rfl rfl (Y.bin rfl rfl rfl) ?_
          refine J.nx ?_
          refine split2 H (fun c88 H => ?_) (fun c88 H => ?_)
          · refine C.condT (congrArg (fun b => some (Value.bool b)) (decide_eq_true c88)) ?_
            refine C.reg ?_
            refine J.p rfl rfl rfl rfl (Y.mv rfl) ?_
            refine J.p rfl rfl rfl rfl (Y.mv rfl) ?_
            refine J.r rfl rfl rfl rfl (Y.b2s Try.underlying22 Try.underlying5 Try.underlying9 rfl (RdG.own 0 rfl)) ?_
            obtain ⟨p89, H⟩ := gd_some H
            refine J.p rfl rfl rfl rfl (Y.cat rfl rfl p89) ?_
            refine J.p rfl rfl rfl rfl (Y.asg rfl) ?_
            refine J.nil ?_
            refine N.ib ?_
            obtain rfl := Option.some.inj H
            exact N.meet (o33 ++ (strOfNums t83.1), ()) ⟨HK79, trivial⟩ (by exact ⟨rfl, trivial⟩) (by exact fun w h => (St.pick [] [_] h rfl))
          · refine C.condF (congrArg (fun b => some (Value.bool b)) (decide_eq_false c88)) ?_
            refine C.skip ?_
            refine N.ib ?_
            obtain rfl := Option.some.inj H
            exact N.meet (o33, ()) ⟨HK79, trivial⟩ (by exact ⟨rfl, trivial⟩) (by exact fun w h => (St.pick [] [_] h rfl))
        · refine C.condF (congrArg (fun b => some (Value.bool b)) (decide_eq_false c82)) ?_
          refine C.rs ?_
          refine J.p rfl rfl rfl rfl (Y.bin rfl rfl rfl) ?_
          refine J.p rfl rfl rfl rfl (Y.asg rfl) ?_
          refine J.nx ?_
          refine split2 H (fun c91 H => ?_) (fun c91 H => ?_)
          · refine C.condT (congrArg (fun b => some (Value.bool b)) (decide_eq_true c91)) ?_
            refine C.reg ?_
            refine J.p rfl rfl rfl rfl (Y.mv rfl) ?_
            obtain ⟨p92, H⟩ := gd_some H
            refine J.p rfl rfl rfl rfl (Y.cat rfl rfl p92) ?_
            refine J.p rfl rfl rfl rfl (Y.asg rfl) ?_
            refine J.nil ?_
            refine N.ib ?_
            obtain rfl := Option.some.inj H
            exact N.meet (o33 ++ (⟨#[167, 167, 0, 0]⟩ : ByteArray), ()) ⟨HK79, trivial⟩ (by exact ⟨rfl, trivial⟩) (by exact fun w h => h)
          · refine C.condF (congrArg (fun b => some (Value.bool b)) (decide_eq_false c91)) ?_
            refine C.skip ?_
            refine N.ib ?_
            obtain rfl := Option.some.inj H
            exact N.meet (o33, ()) ⟨HK79, trivial⟩ (by exact ⟨rfl, trivial⟩) (by exact fun w h => h)
      · refine N.at (s' := [(4, .string o80)]) (G' := G) rfl rfl ?_
        refine N.nx ?_
        refine C.rs ?_
        refine J.p rfl rfl rfl rfl (Y.mv rfl) ?_
        refine J.p rfl rfl rfl rfl (Y.asg rfl) ?_
        refine J.nx ?_
        refine C.ret ?_
        obtain rfl := Option.some.inj H
        exact ret_ok (ks := [2]) rfl rfl (fun w h => ⟨rfl, h⟩)
/-! ### salvor/salvortop.recordOf: function 41 -/
def recordOf.f (K : Nat) (a0_0 : Int) (a0_1 : Int) (a0_2 : Int) (a0_3 : Int) (a1 : Int) : Option (Int × Int × ByteArray × ByteArray) := (pick.f a0_0 4).bind fun t5 => if t5 = 0 then ((keyOf.f K a0_1).bind fun t8 => some (a1, 2, t8, ByteArray.empty)) else ((keyOf.f K a0_1).bind fun t11 => (valueOf.f K a0_2).bind fun t13 => some (a1, 1, t11, t13))
theorem recordOf.calls {B : Nat} {w0 : World} {G : List HP} (K : Nat) (a0_0 : Int) (a0_1 : Int) (a0_2 : Int) (a0_3 : Int) (a1 : Int) (r : Int × Int × ByteArray × ByteArray) (H : recordOf.f K a0_0 a0_1 a0_2 a0_3 a1 = some r) (w : World) (hw : St B w0 (G) w) :
    Calls Try.prog 41 [.agg #[.int .i64 a0_0, .int .i64 a0_1, .int .i64 a0_2, .int .i64 a0_3], .int .u64 a1].toArray w (fun e w' => e = .returned (.agg #[.int .u64 r.1, .int .i64 r.2.1, .string r.2.2.1, .string r.2.2.2]) ∧ St B w0 (G) w') := by
  unfold recordOf.f at H
  refine calls_of (n := 22) (s := [(0, .agg #[.int .i64 a0_0, .int .i64 a0_1, .int .i64 a0_2, .int .i64 a0_3]), (1, .int .u64 a1)]) Try.func41 rfl rfl rfl rfl ?_ hw
  refine C.rs ?_
  refine J.box (L := [.int .i64 a0_0, .int .i64 a0_1, .int .i64 a0_2, .int .i64 a0_3]) rfl rfl rfl (fun g1 => ?_)
  refine J.alloc (L := [.int .u64 0, .int .i64 0, .string ByteArray.empty, .string ByteArray.empty]) rfl ti44 rfl (fun g3 => ?_)
  refine J.nx ?_
  refine C.seq ?_
  refine C.rs ?_
  refine J.p rfl rfl rfl rfl (Y.fa0 fa95_0 rfl rfl) ?_
  refine J.r rfl rfl rfl rfl (Y.ldC 1 Try.underlying3 rfl rfl rfl rfl) ?_
  obtain ⟨t5, hC6, H⟩ := bind_some H
  refine J.call (us := []) (cap := []) rfl rfl rfl go61 (fun w hw => by have hcc := pick.calls a0_0 4 t5 hC6 w hw; exact hcc) (fun e w1 h1 => ?_)
  obtain ⟨rfl, hw17⟩ := h1
  refine ⟨_, _, rfl, hw17, ?_⟩
  refine J.p rfl rfl rfl rfl (Y.bin rfl rfl rfl) ?_
  refine J.nx ?_
  refine split2 H (fun c7 H => ?_) (fun c7 H => ?_)
  · refine C.condT (congrArg (fun b => some (Value.bool b)) (decide_eq_true c7)) ?_
    refine C.rs ?_
    refine J.p rfl rfl rfl rfl (Y.mv rfl) ?_
    refine J.p rfl rfl rfl rfl (Y.fa0 fa95_1 rfl rfl) ?_
    refine J.r rfl rfl rfl rfl (Y.ldC 1 Try.underlying3 rfl rfl rfl rfl) ?_
    obtain ⟨t8, hC9, H⟩ := bind_some H
    refine J.call (us := []) (cap := []) rfl rfl rfl go62 (fun w hw => by have hcc := keyOf.calls K a0_1 t8 hC9 w hw; exact hcc) (fun e w1 h1 => ?_)
    obtain ⟨rfl, hw10⟩ := h1
    refine ⟨_, _, rfl, hw10, ?_⟩
    refine J.p rfl rfl rfl rfl (Y.bld (cs := [.int .u64 a1, .int .i64 2, .string t8, .string ByteArray.empty]) rfl pl44 ti44 rfl (by kernel_rfl)) ?_
    refine J.stA (us := [.int .u64 a1, .int .i64 2, .string t8, .string ByteArray.empty]) (L' := [.int .u64 a1, .int .i64 2, .string t8, .string ByteArray.empty]) ti44 rfl rfl rfl rfl rfl rfl ?_
    refine J.nx ?_
    refine C.ret ?_
    obtain rfl := Option.some.inj H
    refine T.th ?_
    exact ret_okG (rvs := [.cell 4 44]) (vs := [.agg #[.int .u64 a1, .int .i64 2, .string t8, .string ByteArray.empty]]) rfl ⟨RV.cellA (us := [.int .u64 a1, .int .i64 2, .string t8, .string ByteArray.empty]) 0 Try.underlying44 rfl ti44 rfl rfl rfl rfl, trivial⟩ (fun w h => ⟨rfl, (St.pick [] [_, _] h rfl)⟩)
  · refine C.condF (congrArg (fun b => some (Value.bool b)) (decide_eq_false c7)) ?_
    refine C.skip ?_
    refine N.nx ?_
    refine C.seq ?_
    refine C.drawn (fuel := 9) (ls := [false, false, false, false, false, false, false, false, false]) [] (cells g1 95 [.int .i64 a0_0, .int .i64 a0_1, .int .i64 a0_2, .int .i64 a0_3] :: G) mx rfl rfl ?_
    refine D.p (ls' := [true, false, false, false, false, false, false, false, false]) 0 rfl rfl rfl rfl (by kernel_rfl) rfl (Y.mv rfl) ?_
    refine D.p (ls' := [true, true, false, false, false, false, false, false, false]) 1 rfl rfl rfl rfl (by kernel_rfl) rfl (Y.fa0 fa95_1 rfl rfl) ?_
    refine D.r (ls' := [true, true, true, false, false, false, false, false, false]) 2 1 1 rfl rfl rfl rfl (by kernel_rfl) (by kernel_rfl) rfl rfl (Y.ldC 0 Try.underlying3 rfl rfl rfl rfl) ?_
    refine D.p (ls' := [true, true, true, false, true, false, false, false, false]) 4 rfl rfl rfl rfl (by kernel_rfl) rfl (Y.fa0 fa95_2 rfl rfl) ?_
    refine D.r (ls' := [true, true, true, false, true, true, false, false, false]) 5 1 1 rfl rfl rfl rfl (by kernel_rfl) (by kernel_rfl) rfl rfl (Y.ldC 0 Try.underlying3 rfl rfl rfl rfl) ?_
    refine D.any [3] (by kernel_rfl) rfl ⟨?_, trivial⟩
    refine DW.j (ls' := [true, true, true, true, true, true, false, false, false]) rfl rfl ?_
    obtain ⟨t11, hC12, H⟩ := bind_some H
    refine J.call (us := []) (cap := []) rfl rfl rfl go62 (fun w hw => by have hcc := keyOf.calls K a0_1 t11 hC12 w hw; exact hcc) (fun e w1 h1 => ?_)
    obtain ⟨rfl, hw16⟩ := h1
    refine ⟨_, _, rfl, hw16, ?_⟩
    refine J.nil ?_
    refine D.backK 1 rfl ?_
    refine D.any [6] (by kernel_rfl) rfl ⟨?_, trivial⟩
    refine DW.j (ls' := [true, true, true, true, true, true, true, false, false]) rfl rfl ?_
    obtain ⟨t13, hC14, H⟩ := bind_some H
    refine J.call (us := []) (cap := []) rfl rfl rfl go63 (fun w hw => by have hcc := valueOf.calls K a0_2 t13 hC14 w hw; exact hcc) (fun e w1 h1 => ?_)
    obtain ⟨rfl, hw15⟩ := h1
    refine ⟨_, _, rfl, hw15, ?_⟩
    refine J.nil ?_
    refine D.backK 1 rfl ?_
    refine D.p (ls' := [true, true, true, true, true, true, true, true, false]) 7 rfl rfl rfl rfl (by kernel_rfl) rfl (Y.bld (cs := [.int .u64 a1, .int .i64 1, .string t11, .string t13]) rfl pl44 ti44 rfl (by kernel_rfl)) ?_
    refine D.any [8] (by kernel_rfl) rfl ⟨?_, trivial⟩
    refine DW.j (ls' := [true, true, true, true, true, true, true, true, true]) rfl rfl ?_
    refine J.stA (us := [.int .u64 a1, .int .i64 1, .string t11, .string t13]) (L' := [.int .u64 a1, .int .i64 1, .string t11, .string t13]) ti44 rfl rfl rfl rfl rfl rfl ?_
    refine J.nil ?_
    refine D.backK 1 rfl ?_
    refine D.nil (by kernel_rfl) ?_
    refine N.nx ?_
    refine C.ret ?_
    obtain rfl := Option.some.inj H
    exact ret_okG (rvs := [.cell 4 44]) (vs := [.agg #[.int .u64 a1, .int .i64 1, .string t11, .string t13]]) rfl ⟨RV.cellA (us := [.int .u64 a1, .int .i64 1, .string t11, .string t13]) 0 Try.underlying44 rfl ti44 rfl rfl rfl rfl, trivial⟩ (fun w h => ⟨rfl, (St.pick [] [_, _] h rfl)⟩)
/-! ### salvor/salvortop.framed: function 60 -/
def framed.f (K : Nat) (a0_0 : Int) (a0_1 : Int) (a0_2 : ByteArray) (a0_3 : ByteArray) : Option ((List Int)) := (fEncode.f K a0_1 a0_0 a0_1 a0_2 a0_3 0 0 0 0 ByteArray.empty 0 0 0 0).bind fun t3 => if t3.2 ≠ 0 then (some ([] : List Int)) else (some t3.1)
theorem framed.calls {B : Nat} {w0 : World} {G : List HP} (K : Nat) (a0_0 : Int) (a0_1 : Int) (a0_2 : ByteArray) (a0_3 : ByteArray) (r : (List Int)) (H : framed.f K a0_0 a0_1 a0_2 a0_3 = some r) (w : World) (hw : St B w0 (G) w) :
    Calls Try.prog 60 [.agg #[.int .u64 a0_0, .int .i64 a0_1, .string a0_2, .string a0_3]].toArray w (fun e w' => ∃ A0 c0, e = .returned (.slice A0 r.length c0) ∧ St B w0 (own 5 1 A0 c0 (r.map (Value.int .u8)) :: G) w') := by
  unfold framed.f at H
  refine calls_of (n := 16) (s := [(0, .agg #[.int .u64 a0_0, .int .i64 a0_1, .string a0_2, .string a0_3])]) Try.func60 rfl rfl rfl rfl ?_ hw
  refine C.rs ?_
  refine J.box (L := [.int .u64 a0_0, .int .i64 a0_1, .string a0_2, .string a0_3]) rfl rfl rfl (fun g1 => ?_)
  refine J.p rfl rfl rfl rfl (Y.asg rfl) ?_
  refine J.nx ?_
  refine C.rs ?_
  refine J.p rfl rfl rfl rfl (Y.fa0 fa44_1 rfl rfl) ?_
  refine J.r rfl rfl rfl rfl (Y.ldC 0 Try.underlying41 rfl rfl rfl rfl) ?_
  refine J.r rfl rfl rfl rfl (Y.ldCA (us := [.int .u64 a0_0, .int .i64 a0_1, .string a0_2, .string a0_3]) 0 Try.underlying44 rfl ti44 rfl rfl rfl rfl) ?_
  refine J.p rfl rfl rfl rfl (Y.bld (cs := [.int .i64 a0_1, .int .u64 a0_0, .int .i64 a0_1, .string a0_2, .string a0_3, .int .u64 0, .int .i64 0, .int .i64 0, .int .i64 0, .string ByteArray.empty, .int .i64 0, .int .i64 0, .int .i64 0, .int .u32 0]) rfl pl53 ti53 rfl (by kernel_rfl)) ?_
  obtain ⟨t3, hC4, H⟩ := bind_some H
  refine J.call (us := []) (cap := []) rfl rfl rfl go39 (fun w hw => by have hcc := fEncode.calls K a0_1 a0_0 a0_1 a0_2 a0_3 0 0 0 0 ByteArray.empty 0 0 0 0 t3 hC4 w hw; exact hcc) (fun e w1 h1 => ?_)
  obtain ⟨A5, c6, rfl, hw10⟩ := h1
  refine ⟨_, _, rfl, hw10, ?_⟩
  refine J.p rfl rfl rfl rfl (Y.mv rfl) ?_
  refine J.p rfl rfl rfl rfl (Y.ext rfl rfl) ?_
  refine J.p rfl rfl rfl rfl (Y.ext rfl rfl) ?_
  refine J.p rfl rfl rfl rfl (Y.asg rfl) ?_
  refine J.p rfl rfl rfl rfl (Y.asg rfl) ?_
  refine J.nx ?_
  refine C.seq ?_
  refine C.rs ?_
  refine J.p rfl rfl rfl rfl (Y.mv rfl) ?_
  refine J.p rfl rfl rfl rfl (Y.bin rfl rfl rfl) ?_
  refine J.nx ?_
  refine split2 H (fun c8 H => ?_) (fun c8 H => ?_)
  · refine C.condT (congrArg (fun b => some (Value.bool b)) (decide_eq_true c8)) ?_
    refine C.rs ?_
    refine J.p rfl rfl rfl rfl (Y.asg rfl) ?_
    refine J.nx ?_
    refine C.ret ?_
    obtain rfl := Option.some.inj H
    refine T.th ?_
    exact ret_ok (ks := [2]) rfl rfl (fun w h => ⟨none, 0, rfl, (St.pick [0] [_, _, _] (h.nilOwn 5 1) rfl)⟩)
  · refine C.condF (congrArg (fun b => some (Value.bool b)) (decide_eq_false c8)) ?_
    refine C.skip ?_
    refine N.nx ?_
    refine C.rs ?_
    refine J.p rfl rfl rfl rfl (Y.mv rfl) ?_
    refine J.p rfl rfl rfl rfl (Y.asg rfl) ?_
    refine J.nx ?_
    refine C.ret ?_
    obtain rfl := Option.some.inj H
    exact ret_ok (ks := [2]) rfl rfl (fun w h => ⟨A5, c6, rfl, (St.pick [0] [_, _] h rfl)⟩)
/-! ### salvor/salvortop.laid: function 40 -/
def laid.l1 (K : Nat) (a0 : List T95_) (a1 : List (List Int)) : Nat → ((List Int) × (List Int) × Int × Int) → Option (((List Int) × (List Int) × Int × Bool) ⊕ ((List Int) × (List Int) × Int))
  | 0, _ => none
  | k + 1, i240 => if i240.2.2.2 ≤ (a0.length : Int) then (thn ((if i240.2.2.2 < (a1.length : Int) then (gd ((0 : Int) ≤ i240.2.2.2 ∧ i240.2.2.2 < (a1.length : Int)) ((junkOf.f K (rd a1 i240.2.2.2)).bind fun t335 => gd ((i240.1.length + t335.length) * 1 ≤ 140737488355328) (some ((i240.1 ++ t335), IntKind.wrap .i64 (i240.2.2.1 + (t335.length : Int)))))) else (some (i240.1, i240.2.2.1))).bind fun o323 => if i240.2.2.2 < (a0.length : Int) then (gd ((0 : Int) ≤ i240.2.2.2 ∧ i240.2.2.2 < (a0.length : Int)) (gd ((0 : Int) ≤ i240.2.2.2 ∧ i240.2.2.2 < (a0.length : Int)) ((recordOf.f K ((rd a0 i240.2.2.2).1) ((rd a0 i240.2.2.2).2.1) ((rd a0 i240.2.2.2).2.2.1) ((rd a0 i240.2.2.2).2.2.2) (IntKind.wrap .u64 (IntKind.wrap .i64 (i240.2.2.2 + 1)))).bind fun t350 => (framed.f K t350.1 t350.2.1 t350.2.2.1 t350.2.2.2).bind fun t352 => if (t352.length : Int) = 0 then (some (.inl (.inl ((([] : List Int), ([] : List Int), 0, false))))) else (gd ((i240.2.1.length + [(o323.1.length : Int)].length) * 8 ≤ 140737488355328) (gd ((o323.1.length + t352.length) * 1 ≤ 140737488355328) (some (.inr ((o323.1 ++ t352), (i240.2.1 ++ [(o323.1.length : Int)]), o323.2)))))))) else (some (.inr (o323.1, i240.2.1, o323.2)))) fun o298 => laid.l1 K a0 a1 k (o298.1, o298.2.1, o298.2.2, IntKind.wrap .i64 (i240.2.2.2 + 1))) else (some (.inr (i240.1, i240.2.1, i240.2.2.1)))
def laid.f (K : Nat) (a0 : List T95_) (a1 : List (List Int)) : Option ((List Int) × (List Int) × Int × Bool) := thn (laid.l1 K a0 a1 K (([] : List Int), ([] : List Int), 0, 0)) fun o119 => some (o119.1, o119.2.1, o119.2.2, true)
theorem laid.calls {B : Nat} {w0 : World} {G : List HP} (K : Nat) (a0 : List T95_) (a1 : List (List Int)) (Aa0 : Option Addr) (ca0 : Nat) (Aa1 : Option Addr) (ca1 : Nat) (va1 : List Value) (ha0 : RdG B w0 G Aa0 (a0.flatMap encT95_)) (ka0 : a0.length ≤ ca0) (ha1 : RdG B w0 G Aa1 va1) (hva1 : VV B w0 G (Value.int .u8) va1 a1) (ka1 : a1.length ≤ ca1) (r : (List Int) × (List Int) × Int × Bool) (H : laid.f K a0 a1 = some r) (w : World) (hw : St B w0 (G) w) :
    Calls Try.prog 40 [.slice Aa0 a0.length ca0, .slice Aa1 a1.length ca1].toArray w (fun e w' => ∃ A0 c0 A1 c1, e = .returned (.tuple #[.slice A0 r.1.length c0, .slice A1 r.2.1.length c1, .int .i64 r.2.2.1, .bool r.2.2.2]) ∧ St B w0 (own 5 1 A0 c0 (r.1.map (Value.int .u8)) :: own 3 1 A1 c1 (r.2.1.map (Value.int .i64)) :: G) w') := by
  unfold laid.f at H
  refine calls_of (n := 63) (s := [(0, .slice Aa0 a0.length ca0), (1, .slice Aa1 a1.length ca1)]) Try.func40 rfl rfl rfl rfl ?_ hw
  refine C.rs ?_
  refine J.p rfl rfl rfl rfl (Y.asg rfl) ?_
  refine J.p rfl rfl rfl rfl (Y.asg rfl) ?_
  refine J.p rfl rfl rfl rfl (Y.asg rfl) ?_
  refine J.p rfl rfl rfl rfl (Y.asg rfl) ?_
  refine J.nx ?_
  refine C.rs ?_
  refine J.p rfl rfl rfl rfl (Y.asg rfl) ?_
  refine J.nx ?_
  refine C.rs ?_
  refine J.p rfl rfl rfl rfl (Y.asg rfl) ?_
  refine J.nx ?_
  refine C.rs ?_
  refine J.p rfl rfl rfl rfl (Y.asg rfl) ?_
  refine J.nx ?_
  refine C.seq ?_
  refine C.rs ?_
  refine J.p rfl rfl rfl rfl (Y.asg rfl) ?_
  refine J.nx ?_
  refine C.joinNR H (fun (o119 : (List Int) × (List Int) × Int) (j120 : (Option Addr) × Nat × (Option Addr) × Nat) => [(8, .slice j120.1 o119.1.length j120.2.1), (9, .slice j120.2.2.1 o119.2.1.length j120.2.2.2), (10, .int .i64 o119.2.2)]) (fun (o119 : (List Int) × (List Int) × Int) (j120 : (Option Addr) × Nat × (Option Addr) × Nat) => own 5 1 j120.1 j120.2.1 (o119.1.map (Value.int .u8)) :: own 3 1 j120.2.2.1 j120.2.2.2 (o119.2.1.map (Value.int .i64)) :: G) (fun (o119 : (List Int) × (List Int) × Int) (j120 : (Option Addr) × Nat × (Option Addr) × Nat) => True) (fun o117 H HK118 => ?_) (fun o119 j120 H _ => ?_)
  · refine C.blk ?_
    refine C.loop (fun (i : Nat × ((List Int) × (List Int) × Int × Int) × ((Option Addr) × Nat × (Option Addr) × Nat)) => [(0, .slice Aa0 a0.length ca0), (1, .slice Aa1 a1.length ca1), (8, .slice i.2.2.1 i.2.1.1.length i.2.2.2.1), (9, .slice i.2.2.2.2.1 i.2.1.2.1.length i.2.2.2.2.2), (10, .int .i64 i.2.1.2.2.1), (11, .int .i64 i.2.1.2.2.2)]) (fun (i : Nat × ((List Int) × (List Int) × Int × Int) × ((Option Addr) × Nat × (Option Addr) × Nat)) => own 5 1 i.2.2.1 i.2.2.2.1 (i.2.1.1.map (Value.int .u8)) :: own 3 1 i.2.2.2.2.1 i.2.2.2.2.2 (i.2.1.2.1.map (Value.int .i64)) :: G) (fun (i : Nat × ((List Int) × (List Int) × Int × Int) × ((Option Addr) × Nat × (Option Addr) × Nat)) => laid.l1 K a0 a1 i.1 i.2.1 = some o117 ∧ (True)) (fun i => i.1) (K, (([] : List Int), ([] : List Int), 0, 0), (none, 0, none, 0)) ⟨H, trivial⟩ (by exact ⟨rfl, rfl, rfl, rfl, rfl, rfl, trivial⟩) (by exact fun w h => (St.pick [1, 0] [_, _] ((h.nilOwn 5 1).nilOwn 3 1) rfl)) ?_
    rintro ⟨k372, i240, j241⟩ ⟨H, _⟩
    replace H : laid.l1 K a0 a1 k372 i240 = some o117 := H
    obtain ⟨k239, rfl⟩ : ∃ m, k372 = m + 1 := by cases k372 with | zero => exact absurd H (by simp [laid.l1]) | succ m => exact ⟨m, rfl⟩
    rw [laid.l1] at H
    refine C.at (s' := [(0, .slice Aa0 a0.length ca0), (1, .slice Aa1 a1.length ca1), (8, .slice j241.1 i240.1.length j241.2.1), (9, .slice j241.2.2.1 i240.2.1.length j241.2.2.2), (10, .int .i64 i240.2.2.1), (11, .int .i64 i240.2.2.2)]) (G' := own 5 1 j241.1 j241.2.1 (i240.1.map (Value.int .u8)) :: own 3 1 j241.2.2.1 j241.2.2.2 (i240.2.1.map (Value.int .i64)) :: G) rfl rfl ?_
    refine C.seq ?_
    refine C.rs ?_
    refine J.p rfl rfl rfl rfl (Y.mv rfl) ?_
    refine J.p rfl rfl rfl rfl (Y.mv rfl) ?_
    refine J.p rfl rfl rfl rfl (Y.lenS Try.underlying89 rfl) ?_
    refine J.p rfl rfl rfl rfl (Y.bin rfl rfl rfl) ?_
    refine J.nx ?_
    refine split2 H (fun c246 H => ?_) (fun c246 H => ?_)
    · refine C.condT (congrArg (fun b => some (Value.bool b)) (decide_eq_true c246)) ?_
      refine C.skip ?_
      refine N.nx ?_
      refine C.joinR H (fun (o298 : (List Int) × (List Int) × Int) (j299 : (Option Addr) × Nat × (Option Addr) × Nat) => [(0, .slice Aa0 a0.length ca0), (1, .slice Aa1 a1.length ca1), (8, .slice j299.1 o298.1.length j299.2.1), (9, .slice j299.2.2.1 o298.2.1.length j299.2.2.2), (10, .int .i64 o298.2.2), (11, .int .i64 i240.2.2.2)]) (fun (o298 : (List Int) × (List Int) × Int) (j299 : (Option Addr) × Nat × (Option Addr) × Nat) => own 5 1 j299.1 j299.2.1 (o298.1.map (Value.int .u8)) :: own 3 1 j299.2.2.1 j299.2.2.2 (o298.2.1.map (Value.int .i64)) :: G) (fun (o298 : (List Int) × (List Int) × Int) (j299 : (Option Addr) × Nat × (Option Addr) × Nat) => True) (fun o296 H HK297 => ?_) (fun o298 j299 H _ => ?_)
      · refine C.blk ?_
        refine C.seq ?_
        refine C.rs ?_
        refine J.p rfl rfl rfl rfl (Y.mv rfl) ?_
        refine J.p rfl rfl rfl rfl (Y.mv rfl) ?_
        refine J.p rfl rfl rfl rfl (Y.lenS Try.underlying84 rfl) ?_
        refine J.p rfl rfl rfl rfl (Y.bin rfl rfl rfl) ?_
        refine J.nx ?_
        refine C.joinN H (fun (o323 : (List Int) × Int) (j324 : (Option Addr) × Nat) => [(0, .slice Aa0 a0.length ca0), (1, .slice Aa1 a1.length ca1), (8, .slice j324.1 o323.1.length j324.2), (9, .slice j241.2.2.1 i240.2.1.length j241.2.2.2), (10, .int .i64 o323.2), (11, .int .i64 i240.2.2.2)]) (fun (o323 : (List Int) × Int) (j324 : (Option Addr) × Nat) => own 5 1 j324.1 j324.2 (o323.1.map (Value.int .u8)) :: own 3 1 j241.2.2.1 j241.2.2.2 (i240.2.1.map (Value.int .i64)) :: G) (fun (o323 : (List Int) × Int) (j324 : (Option Addr) × Nat) => True) (fun o321 H HK322 => ?_) (fun o323 j324 H _ => ?_)
        · refine split2 H (fun c326 H => ?_) (fun c326 H => ?_)
          · refine C.condT (congrArg (fun b => some (Value.bool b)) (decide_eq_true c326)) ?_
            refine C.rs ?_
            refine J.p rfl rfl rfl rfl (Y.mv rfl) ?_
            refine J.p rfl rfl rfl rfl (Y.mv rfl) ?_
            obtain ⟨p329, H⟩ := gd_some H
            refine J.know (VV.some_ (ha1.suf [_, _] rfl) (hva1.suf [_, _] rfl) (idx_lt p329)) (fun hh => ?_)
            obtain ⟨a327, ha328⟩ := hh
            refine J.p rfl rfl rfl rfl (Y.ixa Try.underlying84 ti22 rfl rfl p329 ha328) ?_
            obtain ⟨A330, c331, hv332, hr333, hc334⟩ := VV.get hva1 p329
            refine J.r rfl rfl rfl rfl (Y.ld Try.underlying22 rfl rfl (ha1.suf [_, _] rfl) ha328 hv332) ?_
            obtain ⟨t335, hC336, H⟩ := bind_some H
            refine J.call (us := []) (cap := []) rfl rfl rfl go59 (fun w hw => by have hcc := junkOf.calls K (rd a1 i240.2.2.2) A330 c331 (hr333.suf [_, _] rfl) hc334 t335 hC336 w hw; exact hcc) (fun e w1 h1 => ?_)
            obtain ⟨A337, c338, rfl, hw344⟩ := h1
            refine ⟨_, _, rfl, hw344, ?_⟩
            refine J.p rfl rfl rfl rfl (Y.asg rfl) ?_
            refine J.nx ?_
            refine C.rs ?_
            refine J.p rfl rfl rfl rfl (Y.mv rfl) ?_
            refine J.p rfl rfl rfl rfl (Y.mv rfl) ?_
            refine J.p rfl rfl rfl rfl (Y.lenS Try.underlying22 rfl) ?_
            refine J.p rfl rfl rfl rfl (Y.bin rfl rfl rfl) ?_
            refine J.p rfl rfl rfl rfl (Y.asg rfl) ?_
            refine J.nx ?_
            refine C.reg ?_
            refine J.p rfl rfl rfl rfl (Y.mv rfl) ?_
            refine J.p rfl rfl rfl rfl (Y.mv rfl) ?_
            refine J.pull 1 rfl rfl ?_
            obtain ⟨p342, H⟩ := gd_some H
            refine J.appL (enc := (Value.int .u8)) (xs := i240.1) (ys := t335) rfl Try.underlying22 ti5 rfl (by decide) rfl rfl (fun _ => rfl) (RdG.own 1 rfl) p342 (fun A340 c341 => ?_)
            refine J.pull 1 rfl rfl (J.drop ?_)
            refine J.p rfl rfl rfl rfl (Y.asg rfl) ?_
            refine J.nil ?_
            obtain rfl := Option.some.inj H
            exact N.meet (((i240.1 ++ t335), IntKind.wrap .i64 (i240.2.2.1 + (t335.length : Int))), (A340, c341)) ⟨HK322, trivial⟩ (by exact ⟨rfl, rfl, rfl, rfl, rfl, rfl, trivial⟩) (by exact fun w h => h)
          · refine C.condF (congrArg (fun b => some (Value.bool b)) (decide_eq_false c326)) ?_
            refine C.skip ?_
            obtain rfl := Option.some.inj H
            exact N.meet ((i240.1, i240.2.2.1), (j241.1, j241.2.1)) ⟨HK322, trivial⟩ (by exact ⟨rfl, rfl, rfl, rfl, rfl, rfl, trivial⟩) (by exact fun w h => h)
        · refine N.at (s' := [(0, .slice Aa0 a0.length ca0), (1, .slice Aa1 a1.length ca1), (8, .slice j324.1 o323.1.length j324.2), (9, .slice j241.2.2.1 i240.2.1.length j241.2.2.2), (10, .int .i64 o323.2), (11, .int .i64 i240.2.2.2)]) (G' := own 5 1 j324.1 j324.2 (o323.1.map (Value.int .u8)) :: own 3 1 j241.2.2.1 j241.2.2.2 (i240.2.1.map (Value.int .i64)) :: G) rfl rfl ?_
          refine N.nx ?_
          refine C.rs ?_
          refine J.p rfl rfl rfl rfl (Y.mv rfl) ?_
          refine J.p rfl rfl rfl rfl (Y.mv rfl) ?_
          refine J.p rfl rfl rfl rfl (Y.lenS Try.underlying89 rfl) ?_
          refine J.p rfl rfl rfl rfl (Y.bin rfl rfl rfl) ?_
          refine J.nx ?_
          refine split2 H (fun c345 H => ?_) (fun c345 H => ?_)
          · refine C.condT (congrArg (fun b => some (Value.bool b)) (decide_eq_true c345)) ?_
            refine C.rs ?_
            refine J.p rfl rfl rfl rfl (Y.mv rfl) ?_
            refine J.p rfl rfl rfl rfl (Y.mv rfl) ?_
            obtain ⟨p348, H⟩ := gd_some H
            refine J.know (RdG.someM lenT95_ (by decide) (ha0.suf [_, _] rfl) p348) (fun hh => ?_)
            obtain ⟨a346, ha347⟩ := hh
            refine J.p rfl rfl rfl rfl (Y.ixa Try.underlying89 ti95 rfl rfl p348 ha347) ?_
            obtain ⟨p349, H⟩ := gd_some H
            refine J.r rfl rfl rfl rfl (Y.ldM (us := [.int .i64 ((rd a0 i240.2.2.2).1), .int .i64 ((rd a0 i240.2.2.2).2.1), .int .i64 ((rd a0 i240.2.2.2).2.2.1), .int .i64 ((rd a0 i240.2.2.2).2.2.2)]) lenT95_ Try.underlying95 rfl ti95 rfl ha347 p349 (ha0.suf [_, _] rfl) rfl) ?_
            refine J.p rfl rfl rfl rfl (Y.mv rfl) ?_
            refine J.p rfl rfl rfl rfl (Y.bin rfl rfl rfl) ?_
            refine J.p rfl rfl rfl rfl (Y.conv Try.underlying3 Try.underlying42 rfl) ?_
            obtain ⟨t350, hC351, H⟩ := bind_some H
            refine J.call (us := []) (cap := []) rfl rfl rfl go41 (fun w hw => by have hcc := recordOf.calls K ((rd a0 i240.2.2.2).1) ((rd a0 i240.2.2.2).2.1) ((rd a0 i240.2.2.2).2.2.1) ((rd a0 i240.2.2.2).2.2.2) (IntKind.wrap .u64 (IntKind.wrap .i64 (i240.2.2.2 + 1))) t350 hC351 w hw; exact hcc) (fun e w1 h1 => ?_)
            obtain ⟨rfl, hw371⟩ := h1
            refine ⟨_, _, rfl, hw371, ?_⟩
            obtain ⟨t352, hC353, H⟩ := bind_some H
            refine J.call (us := []) (cap := []) rfl rfl rfl go60 (fun w hw => by have hcc := framed.calls K t350.1 t350.2.1 t350.2.2.1 t350.2.2.2 t352 hC353 w hw; exact hcc) (fun e w1 h1 => ?_)
            obtain ⟨A354, c355, rfl, hw370⟩ := h1
            refine ⟨_, _, rfl, hw370, ?_⟩
            refine J.p rfl rfl rfl rfl (Y.asg rfl) ?_
            refine J.nx ?_
            refine C.seq ?_
            refine C.rs ?_
            refine J.p rfl rfl rfl rfl (Y.mv rfl) ?_
            refine J.p rfl rfl rfl rfl (Y.lenS Try.underlying22 rfl) ?_
            refine J.p rfl rfl rfl rfl (Y.bin rfl rfl rfl) ?_
            refine J.nx ?_
            refine split2 H (fun c357 H => ?_) (fun c357 H => ?_)
            · refine C.condT (congrArg (fun b => some (Value.bool b)) (decide_eq_true c357)) ?_
              refine C.rs ?_
              refine J.p rfl rfl rfl rfl (Y.asg rfl) ?_
              refine J.p rfl rfl rfl rfl (Y.asg rfl) ?_
              refine J.p rfl rfl rfl rfl (Y.asg rfl) ?_
              refine J.p rfl rfl rfl rfl (Y.asg rfl) ?_
              refine J.nx ?_
              refine C.ret ?_
              obtain rfl := Option.some.inj H
              obtain rfl := fin_inl HK297
              obtain rfl := fin_inl HK118
              refine T.th ?_
              refine T.ib ?_
              refine T.th ?_
              refine T.th ?_
              refine T.ib ?_
              refine T.th ?_
              refine T.th ?_
              exact ret_ok (ks := [4, 5, 6, 7]) rfl rfl (fun w h => ⟨none, 0, none, 0, rfl, (St.pick [1, 0] [_, _, _, _, _] ((h.nilOwn 5 1).nilOwn 3 1) rfl)⟩)
            · refine C.condF (congrArg (fun b => some (Value.bool b)) (decide_eq_false c357)) ?_
              refine C.skip ?_
              refine N.nx ?_
              refine C.rs ?_
              refine J.p rfl rfl rfl rfl (Y.mv rfl) ?_
              refine J.p rfl rfl rfl rfl (Y.mv rfl) ?_
              refine J.p rfl rfl rfl rfl (Y.lenS Try.underlying22 rfl) ?_
              refine J.bsL (enc := (Value.int .i64)) (xs := [(o323.1.length : Int)]) rfl Try.underlying90 ti3 rfl rfl rfl rfl rfl (fun A360 => ?_)
              refine J.pull 3 rfl rfl ?_
              obtain ⟨p364, H⟩ := gd_some H
              refine J.appL (enc := (Value.int .i64)) (xs := i240.2.1) (ys := [(o323.1.length : Int)]) rfl Try.underlying90 ti3 rfl (by decide) rfl rfl (fun _ => rfl) (RdG.own 1 rfl) p364 (fun A362 c363 => ?_)
              refine J.pull 1 rfl rfl (J.drop ?_)
              refine J.p rfl rfl rfl rfl (Y.asg rfl) ?_
              refine J.nx ?_
              refine C.reg ?_
              refine J.p rfl rfl rfl rfl (Y.mv rfl) ?_
              refine J.p rfl rfl rfl rfl (Y.mv rfl) ?_
              refine J.pull 2 rfl rfl ?_
              obtain ⟨p368, H⟩ := gd_some H
              refine J.appL (enc := (Value.int .u8)) (xs := o323.1) (ys := t352) rfl Try.underlying22 ti5 rfl (by decide) rfl rfl (fun _ => rfl) (RdG.own 2 rfl) p368 (fun A366 c367 => ?_)
              refine J.pull 2 rfl rfl (J.drop ?_)
              refine J.p rfl rfl rfl rfl (Y.asg rfl) ?_
              refine J.nil ?_
              refine N.ib ?_
              obtain rfl := Option.some.inj H
              exact N.meet (((o323.1 ++ t352), (i240.2.1 ++ [(o323.1.length : Int)]), o323.2), (A366, c367, A362, c363)) ⟨fin_inr HK297, trivial⟩ (by exact ⟨rfl, rfl, rfl, rfl, rfl, rfl, trivial⟩) (by exact fun w h => h)
          · refine C.condF (congrArg (fun b => some (Value.bool b)) (decide_eq_false c345)) ?_
            refine C.skip ?_
            refine N.ib ?_
            obtain rfl := Option.some.inj H
            exact N.meet ((o323.1, i240.2.1, o323.2), (j324.1, j324.2, j241.2.2.1, j241.2.2.2)) ⟨fin_inr HK297, trivial⟩ (by exact ⟨rfl, rfl, rfl, rfl, rfl, rfl, trivial⟩) (by exact fun w h => h)
      · refine C.at (s' := [(0, .slice Aa0 a0.length ca0), (1, .slice Aa1 a1.length ca1), (8, .slice j299.1 o298.1.length j299.2.1), (9, .slice j299.2.2.1 o298.2.1.length j299.2.2.2), (10, .int .i64 o298.2.2), (11, .int .i64 i240.2.2.2)]) (G' := own 5 1 j299.1 j299.2.1 (o298.1.map (Value.int .u8)) :: own 3 1 j299.2.2.1 j299.2.2.2 (o298.2.1.map (Value.int .i64)) :: G) rfl rfl ?_
        refine C.reg ?_
        refine J.p rfl rfl rfl rfl (Y.mv rfl) ?_
        refine J.p rfl rfl rfl rfl (Y.bin rfl rfl rfl) ?_
        refine J.p rfl rfl rfl rfl (Y.asg rfl) ?_
        refine J.nil ?_
        exact N.again (k239, (o298.1, o298.2.1, o298.2.2, IntKind.wrap .i64 (i240.2.2.2 + 1)), (j299.1, j299.2.1, j299.2.2.1, j299.2.2.2)) ⟨H, trivial⟩ (Nat.lt_succ_self _) (by exact ⟨rfl, rfl, rfl, rfl, rfl, rfl, trivial⟩) (by exact fun w h => h)
    · refine C.condF (congrArg (fun b => some (Value.bool b)) (decide_eq_false c246)) ?_
      refine C.exit ?_
      refine X.th ?_
      refine X.th ?_
      refine X.hit ?_
      obtain rfl := Option.some.inj H
      exact N.meet ((i240.1, i240.2.1, i240.2.2.1), (j241.1, j241.2.1, j241.2.2.1, j241.2.2.2)) ⟨fin_inr HK118, trivial⟩ (by exact ⟨rfl, rfl, rfl, trivial⟩) (by exact fun w h => h)
  · refine N.at (s' := [(8, .slice j120.1 o119.1.length j120.2.1), (9, .slice j120.2.2.1 o119.2.1.length j120.2.2.2), (10, .int .i64 o119.2.2)]) (G' := own 5 1 j120.1 j120.2.1 (o119.1.map (Value.int .u8)) :: own 3 1 j120.2.2.1 j120.2.2.2 (o119.2.1.map (Value.int .i64)) :: G) rfl rfl ?_
    refine N.nx ?_
    refine C.rs ?_
    refine J.p rfl rfl rfl rfl (Y.mv rfl) ?_
    refine J.p rfl rfl rfl rfl (Y.mv rfl) ?_
    refine J.p rfl rfl rfl rfl (Y.mv rfl) ?_
    refine J.p rfl rfl rfl rfl (Y.asg rfl) ?_
    refine J.p rfl rfl rfl rfl (Y.asg rfl) ?_
    refine J.p rfl rfl rfl rfl (Y.asg rfl) ?_
    refine J.p rfl rfl rfl rfl (Y.asg rfl) ?_
    refine J.nx ?_
    refine C.ret ?_
    obtain rfl := Option.some.inj H
    exact ret_ok (ks := [4, 5, 6, 7]) rfl rfl (fun w h => ⟨j120.1, j120.2.1, j120.2.2.1, j120.2.2.2, rfl, h⟩)
end Go.Proofs.Ytkblnahoidbfkaa
