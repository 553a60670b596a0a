/- Own text, printed by the lifting program: each Go function beside a plain function, and the proof that a call of the one comes to the other. Conditions: what came in can be read. -/
import Derived.Test.YtkblnahoidbfkaaLiftB
set_option linter.unusedVariables false
set_option linter.unusedSimpArgs false
set_option maxRecDepth 10000
set_option maxHeartbeats 4000000
namespace Go.Proofs.Ytkblnahoidbfkaa
open Go Go.Sx
abbrev T40_ := Bool × Int × Int
abbrev encT40_ (x : T40_) : List Value := [.bool x.1, .int .i64 x.2.1, .int .i64 x.2.2]
theorem lenT40_ : ∀ x : T40_, (encT40_ x).length = 3 := fun _ => rfl
theorem oneT40_ : ∀ (x : T40_), ∀ u ∈ encT40_ x, u.oneCell' = true := by intro x u hu; simp only [List.mem_cons, List.not_mem_nil, or_false] at hu; rcases hu with rfl | rfl | rfl <;> rfl
theorem ti28 : TI Try.prog 28 1 24 (.slice none 0 0) := TI.of (by kernel_rfl)
theorem ti40 : TI Try.prog 40 3 24 (.agg #[.bool false, .int .i64 0, .int .i64 0]) := TI.of (by kernel_rfl)
theorem ti97 : TI Try.prog 97 1 8 (.nilFunc) := TI.of (by kernel_rfl)
theorem ti102 : TI Try.prog 102 16 152 (.agg #[.int .i64 0, .int .u64 0, .int .i64 0, .string ByteArray.empty, .string ByteArray.empty, .int .u64 0, .int .i64 0, .int .i64 0, .int .i64 0, .string ByteArray.empty, .int .i64 0, .int .i64 0, .int .i64 0, .int .u32 0, .int .i64 0, .int .i64 0]) := TI.of (by kernel_rfl)
theorem fa102_0 : FA Try.prog 102 0 0 := FA.of Try.underlying102 rfl ti53 (by decide) rfl
theorem fa102_1 : FA Try.prog 102 1 14 := FA.of Try.underlying102 rfl ti3 (by decide) rfl
theorem fa102_2 : FA Try.prog 102 2 15 := FA.of Try.underlying102 rfl ti3 (by decide) rfl
theorem pl40 : PL Try.prog 40 [(0, 1), (1, 1), (2, 1)] := PL.of Try.underlying40 (by kernel_rfl)
theorem pl102 : PL Try.prog 102 [(0, 14), (14, 1), (15, 1)] := PL.of Try.underlying102 (by kernel_rfl)
def encY118 (x : Int × Int × Int × Int × ByteArray × ByteArray × Int × Int × Int × Int × ByteArray × Int × Int × Int × Int) : List Value := [Value.int .i64 x.1, .agg #[Value.int .i64 x.2.1, Value.int .u64 x.2.2.1, Value.int .i64 x.2.2.2.1, Value.string x.2.2.2.2.1, Value.string x.2.2.2.2.2.1, Value.int .u64 x.2.2.2.2.2.2.1, Value.int .i64 x.2.2.2.2.2.2.2.1, Value.int .i64 x.2.2.2.2.2.2.2.2.1, Value.int .i64 x.2.2.2.2.2.2.2.2.2.1, Value.string x.2.2.2.2.2.2.2.2.2.2.1, Value.int .i64 x.2.2.2.2.2.2.2.2.2.2.2.1, Value.int .i64 x.2.2.2.2.2.2.2.2.2.2.2.2.1, Value.int .i64 x.2.2.2.2.2.2.2.2.2.2.2.2.2.1, Value.int .u32 x.2.2.2.2.2.2.2.2.2.2.2.2.2.2]]
def encY124 (x : Int × Int × Int × ByteArray × ByteArray × Int × Int × Int × Int × ByteArray × Int × Int × Int × Int × Int × Int) : List Value := [.agg #[Value.int .i64 x.1, Value.int .u64 x.2.1, Value.int .i64 x.2.2.1, Value.string x.2.2.2.1, Value.string x.2.2.2.2.1, Value.int .u64 x.2.2.2.2.2.1, Value.int .i64 x.2.2.2.2.2.2.1, Value.int .i64 x.2.2.2.2.2.2.2.1, Value.int .i64 x.2.2.2.2.2.2.2.2.1, Value.string x.2.2.2.2.2.2.2.2.2.1, Value.int .i64 x.2.2.2.2.2.2.2.2.2.2.1, Value.int .i64 x.2.2.2.2.2.2.2.2.2.2.2.1, Value.int .i64 x.2.2.2.2.2.2.2.2.2.2.2.2.1, Value.int .u32 x.2.2.2.2.2.2.2.2.2.2.2.2.2.1, Value.int .i64 x.2.2.2.2.2.2.2.2.2.2.2.2.2.2.1, Value.int .i64 x.2.2.2.2.2.2.2.2.2.2.2.2.2.2.2]]
theorem go14 : GoF Try.prog 14 := GoF.of Try.func14 (by kernel_rfl) (by kernel_rfl)
theorem go17 : GoF Try.prog 17 := GoF.of Try.func17 (by kernel_rfl) (by kernel_rfl)
theorem go19 : GoF Try.prog 19 := GoF.of Try.func19 (by kernel_rfl) (by kernel_rfl)
theorem go29 : GoF Try.prog 29 := GoF.of Try.func29 (by kernel_rfl) (by kernel_rfl)
theorem go39 : GoF Try.prog 39 := GoF.of Try.func39 (by kernel_rfl) (by kernel_rfl)
theorem go43 : GoF Try.prog 43 := GoF.of Try.func43 (by kernel_rfl) (by kernel_rfl)
theorem go44 : GoF Try.prog 44 := GoF.of Try.func44 (by kernel_rfl) (by kernel_rfl)
theorem go45 : GoF Try.prog 45 := GoF.of Try.func45 (by kernel_rfl) (by kernel_rfl)
theorem go46 : GoF Try.prog 46 := GoF.of Try.func46 (by kernel_rfl) (by kernel_rfl)
theorem go64 : GoF Try.prog 64 := GoF.of Try.func64 (by kernel_rfl) (by kernel_rfl)
/-! ### salvor/salvorlaw5.tea: function 46 -/
def tea.f (K : Nat) (a0 : Int) : Option ((List Int)) := (fEncode.f K 1 a0 1 (⟨#[116, 101, 97]⟩ : ByteArray) (⟨#[103, 114, 101, 101, 110]⟩ : ByteArray) 0 0 0 0 ByteArray.empty 0 0 0 0).bind fun t1 => if t1.2 ≠ 0 then (some ([] : List Int)) else (some t1.1)
theorem tea.calls {B : Nat} {w0 : World} {G : List HP} (K : Nat) (a0 : Int) (r : (List Int)) (H : tea.f K a0 = some r) (w : World) (hw : St B w0 (G) w) :
    Calls Try.prog 46 [.int .u64 a0].toArray w (fun e w' => ∃ A0 c0, e = .returned (.slice A0 r.length c0) ∧ St B w0 (own 5 1 A0 c0 (r.map (Value.int .u8)) :: G) w') := by
  unfold tea.f at H
  refine calls_of (n := 15) (s := [(0, .int .u64 a0)]) Try.func46 rfl rfl rfl rfl ?_ hw
  refine C.rs ?_
  refine J.p rfl rfl rfl rfl (Y.asg rfl) ?_
  refine J.nx ?_
  refine C.rs ?_
  refine J.p rfl rfl rfl rfl (Y.mv rfl) ?_
  refine J.p rfl rfl rfl rfl (Y.bld (cs := [.int .u64 a0, .int .i64 1, .string (⟨#[116, 101, 97]⟩ : ByteArray), .string (⟨#[103, 114, 101, 101, 110]⟩ : ByteArray)]) rfl pl44 ti44 rfl (by kernel_rfl)) ?_
  refine J.p rfl rfl rfl rfl (Y.bld (cs := [.int .i64 1, .int .u64 a0, .int .i64 1, .string (⟨#[116, 101, 97]⟩ : ByteArray), .string (⟨#[103, 114, 101, 101, 110]⟩ : ByteArray), .int .u64 0, .int .i64 0, .int .i64 0, .int .i64 0, .string ByteArray.empty, .int .i64 0, .int .i64 0, .int .i64 0, .int .u32 0]) rfl pl53 ti53 rfl (by kernel_rfl)) ?_
  obtain ⟨t1, hC2, H⟩ := bind_some H
  refine J.call (us := []) (cap := []) rfl rfl rfl go39 (fun w hw => by have hcc := fEncode.calls K 1 a0 1 (⟨#[116, 101, 97]⟩ : ByteArray) (⟨#[103, 114, 101, 101, 110]⟩ : ByteArray) 0 0 0 0 ByteArray.empty 0 0 0 0 t1 hC2 w hw; exact hcc) (fun e w1 h1 => ?_)
  obtain ⟨A3, c4, rfl, hw8⟩ := h1
  refine ⟨_, _, rfl, hw8, ?_⟩
  refine J.p rfl rfl rfl rfl (Y.mv rfl) ?_
  refine J.p rfl rfl rfl rfl (Y.ext rfl rfl) ?_
  refine J.p rfl rfl rfl rfl (Y.ext rfl rfl) ?_
  refine J.p rfl rfl rfl rfl (Y.asg rfl) ?_
  refine J.p rfl rfl rfl rfl (Y.asg rfl) ?_
  refine J.nx ?_
  refine C.seq ?_
  refine C.rs ?_
  refine J.p rfl rfl rfl rfl (Y.mv rfl) ?_
  refine J.p rfl rfl rfl rfl (Y.bin rfl rfl rfl) ?_
  refine J.nx ?_
  refine split2 H (fun c6 H => ?_) (fun c6 H => ?_)
  · refine C.condT (congrArg (fun b => some (Value.bool b)) (decide_eq_true c6)) ?_
    refine C.rs ?_
    refine J.p rfl rfl rfl rfl (Y.asg rfl) ?_
    refine J.nx ?_
    refine C.ret ?_
    obtain rfl := Option.some.inj H
    refine T.th ?_
    exact ret_ok (ks := [2]) rfl rfl (fun w h => ⟨none, 0, rfl, (St.pick [0] [_, _] (h.nilOwn 5 1) rfl)⟩)
  · refine C.condF (congrArg (fun b => some (Value.bool b)) (decide_eq_false c6)) ?_
    refine C.skip ?_
    refine N.nx ?_
    refine C.rs ?_
    refine J.p rfl rfl rfl rfl (Y.mv rfl) ?_
    refine J.p rfl rfl rfl rfl (Y.asg rfl) ?_
    refine J.nx ?_
    refine C.ret ?_
    obtain rfl := Option.some.inj H
    exact ret_ok (ks := [2]) rfl rfl (fun w h => ⟨A3, c4, rfl, h⟩)
/-! ### salvor/scan.next: function 45 -/
def snext.l1 (K : Nat) (a0 : List Int) : Nat → (Int) → Option ((Int × Int × Int × Int × ByteArray × ByteArray × Int × Int × Int × Int × ByteArray × Int × Int × Int × Int × Int) ⊕ (Unit))
  | 0, _ => none
  | k + 1, i104 => if i104 < (a0.length : Int) then (thn (gd ((0 : Int) ≤ i104 ∧ ((Int.toNat i104) ≤ a0.length ∧ a0.length ≤ a0.length)) ((IndexByte.f ((a0.take a0.length).drop (Int.toNat i104)) 167).bind fun t131 => if t131 < 0 then ((some (.inr ())).bind fun q => some (.inl q)) else (gd ((0 : Int) ≤ (IntKind.wrap .i64 ((IntKind.wrap .i64 (i104 + t131)) + 1)) ∧ ((Int.toNat (IntKind.wrap .i64 ((IntKind.wrap .i64 (i104 + t131)) + 1))) ≤ a0.length ∧ a0.length ≤ a0.length)) ((IndexByte.f ((a0.take a0.length).drop (Int.toNat (IntKind.wrap .i64 ((IntKind.wrap .i64 (i104 + t131)) + 1)))) 167).bind fun t136 => (if 0 ≤ t136 then (some (IntKind.wrap .i64 ((IntKind.wrap .i64 ((IntKind.wrap .i64 (i104 + t131)) + 1)) + t136))) else (some (a0.length : Int))).bind fun o141 => gd ((0 : Int) ≤ o141 ∧ (0 ≤ (Int.toNat o141) ∧ (Int.toNat o141) ≤ a0.length)) ((fDecode.f K ((a0.take (Int.toNat o141)).drop 0) (IntKind.wrap .i64 (i104 + t131))).bind fun t145 => if t145.2.2.2.2.2.2.2.2.2.2.2.2.2.2.2 = 0 then (some (.inl (.inl ((IntKind.wrap .i64 (i104 + t131), t145.1, t145.2.1, t145.2.2.1, t145.2.2.2.1, t145.2.2.2.2.1, t145.2.2.2.2.2.1, t145.2.2.2.2.2.2.1, t145.2.2.2.2.2.2.2.1, t145.2.2.2.2.2.2.2.2.1, t145.2.2.2.2.2.2.2.2.2.1, t145.2.2.2.2.2.2.2.2.2.2.1, t145.2.2.2.2.2.2.2.2.2.2.2.1, t145.2.2.2.2.2.2.2.2.2.2.2.2.1, t145.2.2.2.2.2.2.2.2.2.2.2.2.2.1, t145.2.2.2.2.2.2.2.2.2.2.2.2.2.2.1))))) else (some (.inr (IntKind.wrap .i64 (i104 + t131))))))))) fun o128 => snext.l1 K a0 k (IntKind.wrap .i64 (o128 + 1))) else (some (.inr ()))
def snext.f (K : Nat) (a0 : List Int) (a1 : Int) : Option (Int × Int × Int × Int × ByteArray × ByteArray × Int × Int × Int × Int × ByteArray × Int × Int × Int × Int × Int) := thn (snext.l1 K a0 K a1) fun o53 => some (-1, 0, 0, 0, ByteArray.empty, ByteArray.empty, 0, 0, 0, 0, ByteArray.empty, 0, 0, 0, 0, 0)
theorem snext.calls {B : Nat} {w0 : World} {G : List HP} (K : Nat) (a0 : List Int) (a1 : Int) (Aa0 : Option Addr) (ca0 : Nat) (ha0 : RdG B w0 G Aa0 (a0.map (Value.int .u8))) (ka0 : a0.length ≤ ca0) (r : Int × Int × Int × Int × ByteArray × ByteArray × Int × Int × Int × Int × ByteArray × Int × Int × Int × Int × Int) (H : snext.f K a0 a1 = some r) (w : World) (hw : St B w0 (G) w) :
    Calls Try.prog 45 [.slice Aa0 a0.length ca0, .int .i64 a1].toArray w (fun e w' => e = .returned (.tuple #[.int .i64 r.1, .agg #[.int .i64 r.2.1, .int .u64 r.2.2.1, .int .i64 r.2.2.2.1, .string r.2.2.2.2.1, .string r.2.2.2.2.2.1, .int .u64 r.2.2.2.2.2.2.1, .int .i64 r.2.2.2.2.2.2.2.1, .int .i64 r.2.2.2.2.2.2.2.2.1, .int .i64 r.2.2.2.2.2.2.2.2.2.1, .string r.2.2.2.2.2.2.2.2.2.2.1, .int .i64 r.2.2.2.2.2.2.2.2.2.2.2.1, .int .i64 r.2.2.2.2.2.2.2.2.2.2.2.2.1, .int .i64 r.2.2.2.2.2.2.2.2.2.2.2.2.2.1, .int .u32 r.2.2.2.2.2.2.2.2.2.2.2.2.2.2.1], .int .i64 r.2.2.2.2.2.2.2.2.2.2.2.2.2.2.2]) ∧ St B w0 (G) w') := by
  unfold snext.f at H
  refine calls_of (n := 58) (s := [(0, .slice Aa0 a0.length ca0), (1, .int .i64 a1)]) Try.func45 rfl rfl rfl rfl ?_ hw
  refine C.rs ?_
  refine J.p rfl rfl rfl rfl (Y.asg rfl) ?_
  refine J.alloc (L := [.int .i64 0, .int .u64 0, .int .i64 0, .string ByteArray.empty, .string ByteArray.empty, .int .u64 0, .int .i64 0, .int .i64 0, .int .i64 0, .string ByteArray.empty, .int .i64 0, .int .i64 0, .int .i64 0, .int .u32 0]) rfl ti53 rfl (fun g1 => ?_)
  refine J.p rfl rfl rfl rfl (Y.asg rfl) ?_
  refine J.nx ?_
  refine C.seq ?_
  refine C.rs ?_
  refine J.p rfl rfl rfl rfl (Y.mv rfl) ?_
  refine J.p rfl rfl rfl rfl (Y.asg rfl) ?_
  refine J.nx ?_
  refine C.joinNR H (fun (o53 : Unit) (j54 : Unit) => [(5, .pointer (some ⟨g1, 0, none⟩))]) (fun (o53 : Unit) (j54 : Unit) => cells g1 53 [.int .i64 0, .int .u64 0, .int .i64 0, .string ByteArray.empty, .string ByteArray.empty, .int .u64 0, .int .i64 0, .int .i64 0, .int .i64 0, .string ByteArray.empty, .int .i64 0, .int .i64 0, .int .i64 0, .int .u32 0] :: G) (fun (o53 : Unit) (j54 : Unit) => True) (fun o51 H HK52 => ?_) (fun o53 j54 H _ => ?_)
  · refine C.blk ?_
    refine C.loop (fun (i : Nat × (Int) × (Unit)) => [(0, .slice Aa0 a0.length ca0), (5, .pointer (some ⟨g1, 0, none⟩)), (7, .int .i64 i.2.1)]) (fun (i : Nat × (Int) × (Unit)) => cells g1 53 [.int .i64 0, .int .u64 0, .int .i64 0, .string ByteArray.empty, .string ByteArray.empty, .int .u64 0, .int .i64 0, .int .i64 0, .int .i64 0, .string ByteArray.empty, .int .i64 0, .int .i64 0, .int .i64 0, .int .u32 0] :: G) (fun (i : Nat × (Int) × (Unit)) => snext.l1 K a0 i.1 i.2.1 = some o51 ∧ (True)) (fun i => i.1) (K, a1, ()) ⟨H, trivial⟩ (by exact ⟨rfl, rfl, rfl, trivial⟩) (by exact fun w h => h) ?_
    rintro ⟨k153, i104, j105⟩ ⟨H, _⟩
    replace H : snext.l1 K a0 k153 i104 = some o51 := H
    obtain ⟨k103, rfl⟩ : ∃ m, k153 = m + 1 := by cases k153 with | zero => exact absurd H (by simp [snext.l1]) | succ m => exact ⟨m, rfl⟩
    rw [snext.l1] at H
    refine C.at (s' := [(0, .slice Aa0 a0.length ca0), (5, .pointer (some ⟨g1, 0, none⟩)), (7, .int .i64 i104)]) (G' := cells g1 53 [.int .i64 0, .int .u64 0, .int .i64 0, .string ByteArray.empty, .string ByteArray.empty, .int .u64 0, .int .i64 0, .int .i64 0, .int .i64 0, .string ByteArray.empty, .int .i64 0, .int .i64 0, .int .i64 0, .int .u32 0] :: G) rfl rfl ?_
    refine C.seq ?_
    refine C.rs ?_
    refine J.p rfl rfl rfl rfl (Y.mv rfl) ?_
    refine J.p rfl rfl rfl rfl (Y.mv rfl) ?_
    refine J.p rfl rfl rfl rfl (Y.lenS Try.underlying22 rfl) ?_
    refine J.p rfl rfl rfl rfl (Y.bin rfl rfl rfl) ?_
    refine J.nx ?_
    refine split2 H (fun c106 H => ?_) (fun c106 H => ?_)
    · refine C.condT (congrArg (fun b => some (Value.bool b)) (decide_eq_true c106)) ?_
      refine C.skip ?_
      refine N.nx ?_
      refine C.joinR H (fun (o128 : Int) (j129 : Unit) => [(0, .slice Aa0 a0.length ca0), (5, .pointer (some ⟨g1, 0, none⟩)), (7, .int .i64 o128)]) (fun (o128 : Int) (j129 : Unit) => cells g1 53 [.int .i64 0, .int .u64 0, .int .i64 0, .string ByteArray.empty, .string ByteArray.empty, .int .u64 0, .int .i64 0, .int .i64 0, .int .i64 0, .string ByteArray.empty, .int .i64 0, .int .i64 0, .int .i64 0, .int .u32 0] :: G) (fun (o128 : Int) (j129 : Unit) => True) (fun o126 H HK127 => ?_) (fun o128 j129 H _ => ?_)
      · refine C.blk ?_
        refine C.rs ?_
        refine J.p rfl rfl rfl rfl (Y.mv rfl) ?_
        refine J.p rfl rfl rfl rfl (Y.mv rfl) ?_
        obtain ⟨p130, H⟩ := gd_some H
        refine J.p rfl rfl rfl rfl (Y.slcL Try.underlying22 ti5 rfl (bnd.yes rfl p130.1) bnd.no p130.2 ka0) ?_
        obtain ⟨t131, hC132, H⟩ := bind_some H
        refine J.call (us := []) (cap := []) rfl rfl rfl go65 (fun w hw => by have hcc := IndexByte.calls ((a0.take a0.length).drop (Int.toNat i104)) 167 (subA 1 Aa0 ca0 (Int.toNat i104)) (ca0 - (Int.toNat i104)) (RdG.subL (l := (Int.toNat i104)) (h := a0.length) (ha0.suf [_] rfl) ka0) (hc_sub ka0) t131 hC132 w hw; exact hcc) (fun e w1 h1 => ?_)
        obtain ⟨rfl, hw152⟩ := h1
        refine ⟨_, _, rfl, hw152, ?_⟩
        refine J.p rfl rfl rfl rfl (Y.asg rfl) ?_
        refine J.nx ?_
        refine C.seq ?_
        refine C.rs ?_
        refine J.p rfl rfl rfl rfl (Y.mv rfl) ?_
        refine J.p rfl rfl rfl rfl (Y.bin rfl rfl rfl) ?_
        refine J.nx ?_
        refine split2 H (fun c133 H => ?_) (fun c133 H => ?_)
        · refine C.condT (congrArg (fun b => some (Value.bool b)) (decide_eq_true c133)) ?_
          obtain ⟨q134, Hq134, e⟩ := bind_some H
          obtain rfl := Option.some.inj e
          obtain rfl := fin_inl HK127
          have H := Hq134
          refine C.exit ?_
          refine X.th ?_
          refine X.ms rfl ?_
          refine X.th ?_
          refine X.th ?_
          refine X.hit ?_
          obtain rfl := Option.some.inj H
          exact N.meet ((), ()) ⟨fin_inr HK52, trivial⟩ (by exact ⟨rfl, trivial⟩) (by exact fun w h => h)
        · refine C.condF (congrArg (fun b => some (Value.bool b)) (decide_eq_false c133)) ?_
          refine C.skip ?_
          refine N.nx ?_
          refine C.rs ?_
          refine J.p rfl rfl rfl rfl (Y.mv rfl) ?_
          refine J.p rfl rfl rfl rfl (Y.mv rfl) ?_
          refine J.p rfl rfl rfl rfl (Y.bin rfl rfl rfl) ?_
          refine J.p rfl rfl rfl rfl (Y.asg rfl) ?_
          refine J.nx ?_
          refine C.rs ?_
          refine J.p rfl rfl rfl rfl (Y.mv rfl) ?_
          refine J.p rfl rfl rfl rfl (Y.lenS Try.underlying22 rfl) ?_
          refine J.p rfl rfl rfl rfl (Y.asg rfl) ?_
          refine J.nx ?_
          refine C.seq ?_
          refine C.rs ?_
          refine J.p rfl rfl rfl rfl (Y.mv rfl) ?_
          refine J.p rfl rfl rfl rfl (Y.mv rfl) ?_
          refine J.p rfl rfl rfl rfl (Y.bin rfl rfl rfl) ?_
          obtain ⟨p135, H⟩ := gd_some H
          refine J.p rfl rfl rfl rfl (Y.slcL Try.underlying22 ti5 rfl (bnd.yes rfl p135.1) bnd.no p135.2 ka0) ?_
          obtain ⟨t136, hC137, H⟩ := bind_some H
          refine J.call (us := []) (cap := []) rfl rfl rfl go65 (fun w hw => by have hcc := IndexByte.calls ((a0.take a0.length).drop (Int.toNat (IntKind.wrap .i64 ((IntKind.wrap .i64 (i104 + t131)) + 1)))) 167 (subA 1 Aa0 ca0 (Int.toNat (IntKind.wrap .i64 ((IntKind.wrap .i64 (i104 + t131)) + 1)))) (ca0 - (Int.toNat (IntKind.wrap .i64 ((IntKind.wrap .i64 (i104 + t131)) + 1)))) (RdG.subL (l := (Int.toNat (IntKind.wrap .i64 ((IntKind.wrap .i64 (i104 + t131)) + 1)))) (h := a0.length) (ha0.suf [_] rfl) ka0) (hc_sub ka0) t136 hC137 w hw; exact hcc) (fun e w1 h1 => ?_)
          obtain ⟨rfl, hw151⟩ := h1
          refine ⟨_, _, rfl, hw151, ?_⟩
          refine J.p rfl rfl rfl rfl (Y.asg rfl) ?_
          refine J.nx ?_
          refine C.rs ?_
          refine J.p rfl rfl rfl rfl (Y.mv rfl) ?_
          refine J.p rfl rfl rfl rfl (Y.bin rfl rfl rfl) ?_
          refine J.nx ?_
          refine C.joinN H (fun (o141 : Int) (j142 : Unit) => [(0, .slice Aa0 a0.length ca0), (5, .pointer (some ⟨g1, 0, none⟩)), (7, .int .i64 (IntKind.wrap .i64 (i104 + t131))), (9, .int .i64 o141)]) (fun (o141 : Int) (j142 : Unit) => cells g1 53 [.int .i64 0, .int .u64 0, .int .i64 0, .string ByteArray.empty, .string ByteArray.empty, .int .u64 0, .int .i64 0, .int .i64 0, .int .i64 0, .string ByteArray.empty, .int .i64 0, .int .i64 0, .int .i64 0, .int .u32 0] :: G) (fun (o141 : Int) (j142 : Unit) => True) (fun o139 H HK140 => ?_) (fun o141 j142 H _ => ?_)
          · refine split2 H (fun c143 H => ?_) (fun c143 H => ?_)
            · refine C.condT (congrArg (fun b => some (Value.bool b)) (decide_eq_true c143)) ?_
              refine C.reg ?_
              refine J.p rfl rfl rfl rfl (Y.mv rfl) ?_
              refine J.p rfl rfl rfl rfl (Y.bin rfl rfl rfl) ?_
              refine J.p rfl rfl rfl rfl (Y.mv rfl) ?_
              refine J.p rfl rfl rfl rfl (Y.bin rfl rfl rfl) ?_
              refine J.p rfl rfl rfl rfl (Y.asg rfl) ?_
              refine J.nil ?_
              obtain rfl := Option.some.inj H
              exact N.meet (IntKind.wrap .i64 ((IntKind.wrap .i64 ((IntKind.wrap .i64 (i104 + t131)) + 1)) + t136), ()) ⟨HK140, trivial⟩ (by exact ⟨rfl, rfl, rfl, rfl, trivial⟩) (by exact fun w h => h)
            · refine C.condF (congrArg (fun b => some (Value.bool b)) (decide_eq_false c143)) ?_
              refine C.skip ?_
              obtain rfl := Option.some.inj H
              exact N.meet ((a0.length : Int), ()) ⟨HK140, trivial⟩ (by exact ⟨rfl, rfl, rfl, rfl, trivial⟩) (by exact fun w h => h)
          · refine N.at (s' := [(0, .slice Aa0 a0.length ca0), (5, .pointer (some ⟨g1, 0, none⟩)), (7, .int .i64 (IntKind.wrap .i64 (i104 + t131))), (9, .int .i64 o141)]) (G' := cells g1 53 [.int .i64 0, .int .u64 0, .int .i64 0, .string ByteArray.empty, .string ByteArray.empty, .int .u64 0, .int .i64 0, .int .i64 0, .int .i64 0, .string ByteArray.empty, .int .i64 0, .int .i64 0, .int .i64 0, .int .u32 0] :: G) rfl rfl ?_
            refine N.nx ?_
            refine C.rs ?_
            refine J.p rfl rfl rfl rfl (Y.mv rfl) ?_
            refine J.p rfl rfl rfl rfl (Y.mv rfl) ?_
            obtain ⟨p144, H⟩ := gd_some H
            refine J.p rfl rfl rfl rfl (Y.slcL Try.underlying22 ti5 rfl bnd.no (bnd.yes rfl p144.1) p144.2 ka0) ?_
            refine J.p rfl rfl rfl rfl (Y.mv rfl) ?_
            obtain ⟨t145, hC146, H⟩ := bind_some H
            refine J.call (us := []) (cap := []) rfl rfl rfl go29 (fun w hw => by have hcc := fDecode.calls K ((a0.take (Int.toNat o141)).drop 0) (IntKind.wrap .i64 (i104 + t131)) (subA 1 Aa0 ca0 0) (ca0 - 0) (RdG.subL (l := 0) (h := (Int.toNat o141)) (ha0.suf [_] rfl) ka0) (hc_sub ka0) t145 hC146 w hw; exact hcc) (fun e w1 h1 => ?_)
            obtain ⟨rfl, hw150⟩ := h1
            refine ⟨_, _, rfl, hw150, ?_⟩
            refine J.p rfl rfl rfl rfl (Y.mv rfl) ?_
            refine J.p rfl rfl rfl rfl (Y.ext rfl rfl) ?_
            refine J.p rfl rfl rfl rfl (Y.ext rfl rfl) ?_
            refine J.p rfl rfl rfl rfl (Y.ext rfl rfl) ?_
            refine J.alloc (L := [.int .i64 0, .int .u64 0, .int .i64 0, .string ByteArray.empty, .string ByteArray.empty, .int .u64 0, .int .i64 0, .int .i64 0, .int .i64 0, .string ByteArray.empty, .int .i64 0, .int .i64 0, .int .i64 0, .int .u32 0]) rfl ti53 rfl (fun g147 => ?_)
            refine J.stA (us := [.int .i64 t145.1, .int .u64 t145.2.1, .int .i64 t145.2.2.1, .string t145.2.2.2.1, .string t145.2.2.2.2.1, .int .u64 t145.2.2.2.2.2.1, .int .i64 t145.2.2.2.2.2.2.1, .int .i64 t145.2.2.2.2.2.2.2.1, .int .i64 t145.2.2.2.2.2.2.2.2.1, .string t145.2.2.2.2.2.2.2.2.2.1, .int .i64 t145.2.2.2.2.2.2.2.2.2.2.1, .int .i64 t145.2.2.2.2.2.2.2.2.2.2.2.1, .int .i64 t145.2.2.2.2.2.2.2.2.2.2.2.2.1, .int .u32 t145.2.2.2.2.2.2.2.2.2.2.2.2.2.1]) (L' := [.int .i64 t145.1, .int .u64 t145.2.1, .int .i64 t145.2.2.1, .string t145.2.2.2.1, .string t145.2.2.2.2.1, .int .u64 t145.2.2.2.2.2.1, .int .i64 t145.2.2.2.2.2.2.1, .int .i64 t145.2.2.2.2.2.2.2.1, .int .i64 t145.2.2.2.2.2.2.2.2.1, .string t145.2.2.2.2.2.2.2.2.2.1, .int .i64 t145.2.2.2.2.2.2.2.2.2.2.1, .int .i64 t145.2.2.2.2.2.2.2.2.2.2.2.1, .int .i64 t145.2.2.2.2.2.2.2.2.2.2.2.2.1, .int .u32 t145.2.2.2.2.2.2.2.2.2.2.2.2.2.1]) ti53 rfl rfl rfl rfl rfl rfl ?_
            refine J.p rfl rfl rfl rfl (Y.asg rfl) ?_
            refine J.p rfl rfl rfl rfl (Y.asg rfl) ?_
            refine J.nx ?_
            refine C.rs ?_
            refine J.p rfl rfl rfl rfl (Y.mv rfl) ?_
            refine J.p rfl rfl rfl rfl (Y.bin rfl rfl rfl) ?_
            refine J.nx ?_
            refine split2 H (fun c149 H => ?_) (fun c149 H => ?_)
            · refine C.condT (congrArg (fun b => some (Value.bool b)) (decide_eq_true c149)) ?_
              refine C.seq ?_
              refine C.imp (G' := cells g1 53 [.int .i64 0, .int .u64 0, .int .i64 0, .string ByteArray.empty, .string ByteArray.empty, .int .u64 0, .int .i64 0, .int .i64 0, .int .i64 0, .string ByteArray.empty, .int .i64 0, .int .i64 0, .int .i64 0, .int .u32 0] :: cells g147 53 [.int .i64 t145.1, .int .u64 t145.2.1, .int .i64 t145.2.2.1, .string t145.2.2.2.1, .string t145.2.2.2.2.1, .int .u64 t145.2.2.2.2.2.1, .int .i64 t145.2.2.2.2.2.2.1, .int .i64 t145.2.2.2.2.2.2.2.1, .int .i64 t145.2.2.2.2.2.2.2.2.1, .string t145.2.2.2.2.2.2.2.2.2.1, .int .i64 t145.2.2.2.2.2.2.2.2.2.2.1, .int .i64 t145.2.2.2.2.2.2.2.2.2.2.2.1, .int .i64 t145.2.2.2.2.2.2.2.2.2.2.2.2.1, .int .u32 t145.2.2.2.2.2.2.2.2.2.2.2.2.2.1] :: G) (fun w h => (St.pick [1, 0] [_, _] h rfl)) ?_
              refine C.drawn (fuel := 6) (ls := [false, false, false, false, false, false]) [] (cells g147 53 [.int .i64 t145.1, .int .u64 t145.2.1, .int .i64 t145.2.2.1, .string t145.2.2.2.1, .string t145.2.2.2.2.1, .int .u64 t145.2.2.2.2.2.1, .int .i64 t145.2.2.2.2.2.2.1, .int .i64 t145.2.2.2.2.2.2.2.1, .int .i64 t145.2.2.2.2.2.2.2.2.1, .string t145.2.2.2.2.2.2.2.2.2.1, .int .i64 t145.2.2.2.2.2.2.2.2.2.2.1, .int .i64 t145.2.2.2.2.2.2.2.2.2.2.2.1, .int .i64 t145.2.2.2.2.2.2.2.2.2.2.2.2.1, .int .u32 t145.2.2.2.2.2.2.2.2.2.2.2.2.2.1] :: G) mx rfl rfl ?_
              refine D.p (ls' := [true, false, false, false, false, false]) 0 rfl rfl rfl rfl (by kernel_rfl) rfl (Y.mv rfl) ?_
              refine D.r (ls' := [true, true, false, false, false, false]) 1 1 1 rfl rfl rfl rfl (by kernel_rfl) (by kernel_rfl) rfl rfl (Y.ldCA (us := [.int .i64 t145.1, .int .u64 t145.2.1, .int .i64 t145.2.2.1, .string t145.2.2.2.1, .string t145.2.2.2.2.1, .int .u64 t145.2.2.2.2.2.1, .int .i64 t145.2.2.2.2.2.2.1, .int .i64 t145.2.2.2.2.2.2.2.1, .int .i64 t145.2.2.2.2.2.2.2.2.1, .string t145.2.2.2.2.2.2.2.2.2.1, .int .i64 t145.2.2.2.2.2.2.2.2.2.2.1, .int .i64 t145.2.2.2.2.2.2.2.2.2.2.2.1, .int .i64 t145.2.2.2.2.2.2.2.2.2.2.2.2.1, .int .u32 t145.2.2.2.2.2.2.2.2.2.2.2.2.2.1]) 0 Try.underlying53 rfl ti53 rfl rfl rfl rfl) ?_
              refine D.p (ls' := [true, true, true, false, false, false]) 2 rfl rfl rfl rfl (by kernel_rfl) rfl (Y.mv rfl) ?_
              refine D.p (ls' := [true, true, true, true, false, false]) 3 rfl rfl rfl rfl (by kernel_rfl) rfl (Y.asg rfl) ?_
              refine D.any [4] (by kernel_rfl) rfl ⟨?_, trivial⟩
              refine DW.j (ls' := [true, true, true, true, true, false]) rfl rfl ?_
              refine J.stA (us := [.int .i64 t145.1, .int .u64 t145.2.1, .int .i64 t145.2.2.1, .string t145.2.2.2.1, .string t145.2.2.2.2.1, .int .u64 t145.2.2.2.2.2.1, .int .i64 t145.2.2.2.2.2.2.1, .int .i64 t145.2.2.2.2.2.2.2.1, .int .i64 t145.2.2.2.2.2.2.2.2.1, .string t145.2.2.2.2.2.2.2.2.2.1, .int .i64 t145.2.2.2.2.2.2.2.2.2.2.1, .int .i64 t145.2.2.2.2.2.2.2.2.2.2.2.1, .int .i64 t145.2.2.2.2.2.2.2.2.2.2.2.2.1, .int .u32 t145.2.2.2.2.2.2.2.2.2.2.2.2.2.1]) (L' := [.int .i64 t145.1, .int .u64 t145.2.1, .int .i64 t145.2.2.1, .string t145.2.2.2.1, .string t145.2.2.2.2.1, .int .u64 t145.2.2.2.2.2.1, .int .i64 t145.2.2.2.2.2.2.1, .int .i64 t145.2.2.2.2.2.2.2.1, .int .i64 t145.2.2.2.2.2.2.2.2.1, .string t145.2.2.2.2.2.2.2.2.2.1, .int .i64 t145.2.2.2.2.2.2.2.2.2.2.1, .int .i64 t145.2.2.2.2.2.2.2.2.2.2.2.1, .int .i64 t145.2.2.2.2.2.2.2.2.2.2.2.2.1, .int .u32 t145.2.2.2.2.2.2.2.2.2.2.2.2.2.1]) ti53 rfl rfl rfl rfl rfl rfl ?_
              refine J.nil ?_
              refine D.backK 1 rfl ?_
              refine D.p (ls' := [true, true, true, true, true, true]) 5 rfl rfl rfl rfl (by kernel_rfl) rfl (Y.asg rfl) ?_
              refine D.nil (by kernel_rfl) ?_
              refine N.nx ?_
              refine C.ret ?_
              obtain rfl := Option.some.inj H
              obtain rfl := fin_inl HK127
              obtain rfl := fin_inl HK52
              refine T.ib ?_
              refine T.th ?_
              refine T.th ?_
              refine T.ib ?_
              refine T.th ?_
              refine T.th ?_
              exact ret_okG (rvs := [.tmp 4, .cell 5 53, .tmp 6]) (vs := [.int .i64 (IntKind.wrap .i64 (i104 + t131)), .agg #[.int .i64 t145.1, .int .u64 t145.2.1, .int .i64 t145.2.2.1, .string t145.2.2.2.1, .string t145.2.2.2.2.1, .int .u64 t145.2.2.2.2.2.1, .int .i64 t145.2.2.2.2.2.2.1, .int .i64 t145.2.2.2.2.2.2.2.1, .int .i64 t145.2.2.2.2.2.2.2.2.1, .string t145.2.2.2.2.2.2.2.2.2.1, .int .i64 t145.2.2.2.2.2.2.2.2.2.2.1, .int .i64 t145.2.2.2.2.2.2.2.2.2.2.2.1, .int .i64 t145.2.2.2.2.2.2.2.2.2.2.2.2.1, .int .u32 t145.2.2.2.2.2.2.2.2.2.2.2.2.2.1], .int .i64 t145.2.2.2.2.2.2.2.2.2.2.2.2.2.2.1]) rfl ⟨RV.tmp rfl, RV.cellA (us := [.int .i64 t145.1, .int .u64 t145.2.1, .int .i64 t145.2.2.1, .string t145.2.2.2.1, .string t145.2.2.2.2.1, .int .u64 t145.2.2.2.2.2.1, .int .i64 t145.2.2.2.2.2.2.1, .int .i64 t145.2.2.2.2.2.2.2.1, .int .i64 t145.2.2.2.2.2.2.2.2.1, .string t145.2.2.2.2.2.2.2.2.2.1, .int .i64 t145.2.2.2.2.2.2.2.2.2.2.1, .int .i64 t145.2.2.2.2.2.2.2.2.2.2.2.1, .int .i64 t145.2.2.2.2.2.2.2.2.2.2.2.2.1, .int .u32 t145.2.2.2.2.2.2.2.2.2.2.2.2.2.1]) 0 Try.underlying53 rfl ti53 rfl rfl rfl rfl, RV.tmp rfl, trivial⟩ (fun w h => ⟨rfl, (St.pick [] [_, _] h rfl)⟩)
            · refine C.condF (congrArg (fun b => some (Value.bool b)) (decide_eq_false c149)) ?_
              refine C.skip ?_
              refine N.ib ?_
              obtain rfl := Option.some.inj H
              exact N.meet (IntKind.wrap .i64 (i104 + t131), ()) ⟨fin_inr HK127, trivial⟩ (by exact ⟨rfl, rfl, rfl, trivial⟩) (by exact fun w h => (St.pick [1] [_, _] h rfl))
      · refine C.at (s' := [(0, .slice Aa0 a0.length ca0), (5, .pointer (some ⟨g1, 0, none⟩)), (7, .int .i64 o128)]) (G' := cells g1 53 [.int .i64 0, .int .u64 0, .int .i64 0, .string ByteArray.empty, .string ByteArray.empty, .int .u64 0, .int .i64 0, .int .i64 0, .int .i64 0, .string ByteArray.empty, .int .i64 0, .int .i64 0, .int .i64 0, .int .u32 0] :: G) rfl rfl ?_
        refine C.reg ?_
        refine J.p rfl rfl rfl rfl (Y.mv rfl) ?_
        refine J.p rfl rfl rfl rfl (Y.bin rfl rfl rfl) ?_
        refine J.p rfl rfl rfl rfl (Y.asg rfl) ?_
        refine J.nil ?_
        exact N.again (k103, IntKind.wrap .i64 (o128 + 1), ()) ⟨H, trivial⟩ (Nat.lt_succ_self _) (by exact ⟨rfl, rfl, rfl, trivial⟩) (by exact fun w h => h)
    · refine C.condF (congrArg (fun b => some (Value.bool b)) (decide_eq_false c106)) ?_
      refine C.exit ?_
      refine X.th ?_
      refine X.th ?_
      refine X.hit ?_
      obtain rfl := Option.some.inj H
      exact N.meet ((), ()) ⟨fin_inr HK52, trivial⟩ (by exact ⟨rfl, trivial⟩) (by exact fun w h => h)
  · refine N.at (s' := [(5, .pointer (some ⟨g1, 0, none⟩))]) (G' := cells g1 53 [.int .i64 0, .int .u64 0, .int .i64 0, .string ByteArray.empty, .string ByteArray.empty, .int .u64 0, .int .i64 0, .int .i64 0, .int .i64 0, .string ByteArray.empty, .int .i64 0, .int .i64 0, .int .i64 0, .int .u32 0] :: G) rfl rfl ?_
    refine N.nx ?_
    refine C.rs ?_
    refine J.p rfl rfl rfl rfl (Y.bld (cs := [.int .i64 0, .int .u64 0, .int .i64 0, .string ByteArray.empty, .string ByteArray.empty, .int .u64 0, .int .i64 0, .int .i64 0, .int .i64 0, .string ByteArray.empty, .int .i64 0, .int .i64 0, .int .i64 0, .int .u32 0]) rfl pl53 ti53 rfl (by kernel_rfl)) ?_
    refine J.p rfl rfl rfl rfl (Y.asg rfl) ?_
    refine J.stA (us := [.int .i64 0, .int .u64 0, .int .i64 0, .string ByteArray.empty, .string ByteArray.empty, .int .u64 0, .int .i64 0, .int .i64 0, .int .i64 0, .string ByteArray.empty, .int .i64 0, .int .i64 0, .int .i64 0, .int .u32 0]) (L' := [.int .i64 0, .int .u64 0, .int .i64 0, .string ByteArray.empty, .string ByteArray.empty, .int .u64 0, .int .i64 0, .int .i64 0, .int .i64 0, .string ByteArray.empty, .int .i64 0, .int .i64 0, .int .i64 0, .int .u32 0]) ti53 rfl rfl rfl rfl rfl rfl ?_
    refine J.p rfl rfl rfl rfl (Y.asg rfl) ?_
    refine J.nx ?_
    refine C.ret ?_
    obtain rfl := Option.some.inj H
    exact ret_okG (rvs := [.tmp 4, .cell 5 53, .tmp 6]) (vs := [.int .i64 (-1), .agg #[.int .i64 0, .int .u64 0, .int .i64 0, .string ByteArray.empty, .string ByteArray.empty, .int .u64 0, .int .i64 0, .int .i64 0, .int .i64 0, .string ByteArray.empty, .int .i64 0, .int .i64 0, .int .i64 0, .int .u32 0], .int .i64 0]) rfl ⟨RV.tmp rfl, RV.cellA (us := [.int .i64 0, .int .u64 0, .int .i64 0, .string ByteArray.empty, .string ByteArray.empty, .int .u64 0, .int .i64 0, .int .i64 0, .int .i64 0, .string ByteArray.empty, .int .i64 0, .int .i64 0, .int .i64 0, .int .u32 0]) 0 Try.underlying53 rfl ti53 rfl rfl rfl rfl, RV.tmp rfl, trivial⟩ (fun w h => ⟨rfl, (St.pick [] [_] h rfl)⟩)
/-! ### salvor/scan.Next: function 17 -/
def sNext.f (K : Nat) (a0 : List Int) (a1 : Int) : Option (Int × Int) := (snext.f K a0 (max a1 0)).bind fun t1 => some (t1.1, t1.2.2.2.2.2.2.2.2.2.2.2.2.2.2.2)
theorem sNext.calls {B : Nat} {w0 : World} {G : List HP} (K : Nat) (a0 : List Int) (a1 : Int) (Aa0 : Option Addr) (ca0 : Nat) (ha0 : RdG B w0 G Aa0 (a0.map (Value.int .u8))) (ka0 : a0.length ≤ ca0) (r : Int × Int) (H : sNext.f K a0 a1 = some r) (w : World) (hw : St B w0 (G) w) :
    Calls Try.prog 17 [.slice Aa0 a0.length ca0, .int .i64 a1].toArray w (fun e w' => e = .returned (.tuple #[.int .i64 r.1, .int .i64 r.2]) ∧ St B w0 (G) w') := by
  unfold sNext.f at H
  refine calls_of (n := 19) (s := [(0, .slice Aa0 a0.length ca0), (1, .int .i64 a1)]) Try.func17 rfl rfl rfl rfl ?_ hw
  refine C.rs ?_
  refine J.p rfl rfl rfl rfl (Y.asg rfl) ?_
  refine J.p rfl rfl rfl rfl (Y.asg rfl) ?_
  refine J.nx ?_
  refine C.rs ?_
  refine J.p rfl rfl rfl rfl (Y.mv rfl) ?_
  refine J.p rfl rfl rfl rfl (Y.mv rfl) ?_
  refine J.p rfl rfl rfl rfl (Y.mx rfl rfl) ?_
  obtain ⟨t1, hC2, H⟩ := bind_some H
  refine J.call (us := []) (cap := []) rfl rfl rfl go45 (fun w hw => by have hcc := snext.calls K a0 (max a1 0) Aa0 ca0 ha0 ka0 t1 hC2 w hw; exact hcc) (fun e w1 h1 => ?_)
  obtain ⟨rfl, hw5⟩ := h1
  refine ⟨_, _, rfl, hw5, ?_⟩
  refine J.p rfl rfl rfl rfl (Y.mv rfl) ?_
  refine J.p rfl rfl rfl rfl (Y.ext rfl rfl) ?_
  refine J.p rfl rfl rfl rfl (Y.ext rfl rfl) ?_
  refine J.p rfl rfl rfl rfl (Y.ext rfl rfl) ?_
  refine J.alloc (L := [.int .i64 0, .int .u64 0, .int .i64 0, .string ByteArray.empty, .string ByteArray.empty, .int .u64 0, .int .i64 0, .int .i64 0, .int .i64 0, .string ByteArray.empty, .int .i64 0, .int .i64 0, .int .i64 0, .int .u32 0]) rfl ti53 rfl (fun g3 => ?_)
  refine J.p rfl rfl rfl rfl (Y.asg rfl) ?_
  refine J.stA (us := [.int .i64 t1.2.1, .int .u64 t1.2.2.1, .int .i64 t1.2.2.2.1, .string t1.2.2.2.2.1, .string t1.2.2.2.2.2.1, .int .u64 t1.2.2.2.2.2.2.1, .int .i64 t1.2.2.2.2.2.2.2.1, .int .i64 t1.2.2.2.2.2.2.2.2.1, .int .i64 t1.2.2.2.2.2.2.2.2.2.1, .string t1.2.2.2.2.2.2.2.2.2.2.1, .int .i64 t1.2.2.2.2.2.2.2.2.2.2.2.1, .int .i64 t1.2.2.2.2.2.2.2.2.2.2.2.2.1, .int .i64 t1.2.2.2.2.2.2.2.2.2.2.2.2.2.1, .int .u32 t1.2.2.2.2.2.2.2.2.2.2.2.2.2.2.1]) (L' := [.int .i64 t1.2.1, .int .u64 t1.2.2.1, .int .i64 t1.2.2.2.1, .string t1.2.2.2.2.1, .string t1.2.2.2.2.2.1, .int .u64 t1.2.2.2.2.2.2.1, .int .i64 t1.2.2.2.2.2.2.2.1, .int .i64 t1.2.2.2.2.2.2.2.2.1, .int .i64 t1.2.2.2.2.2.2.2.2.2.1, .string t1.2.2.2.2.2.2.2.2.2.2.1, .int .i64 t1.2.2.2.2.2.2.2.2.2.2.2.1, .int .i64 t1.2.2.2.2.2.2.2.2.2.2.2.2.1, .int .i64 t1.2.2.2.2.2.2.2.2.2.2.2.2.2.1, .int .u32 t1.2.2.2.2.2.2.2.2.2.2.2.2.2.2.1]) ti53 rfl rfl rfl rfl rfl rfl ?_
  refine J.p rfl rfl rfl rfl (Y.asg rfl) ?_
  refine J.nx ?_
  refine C.rs ?_
  refine J.p rfl rfl rfl rfl (Y.mv rfl) ?_
  refine J.p rfl rfl rfl rfl (Y.mv rfl) ?_
  refine J.p rfl rfl rfl rfl (Y.asg rfl) ?_
  refine J.p rfl rfl rfl rfl (Y.asg rfl) ?_
  refine J.nx ?_
  refine C.ret ?_
  obtain rfl := Option.some.inj H
  exact ret_ok (ks := [4, 5]) rfl rfl (fun w h => ⟨rfl, (St.pick [] [_] h rfl)⟩)
/-! ### salvor/scan.all$1: function 64 -/
def sallF.l1 {S E : Type} (K : Nat) (a1_0 : List Int) (step : S → (Int × Int × Int × ByteArray × ByteArray × Int × Int × Int × Int × ByteArray × Int × Int × Int × Int × Int × Int) → Option (S ⊕ E)) : Nat → (Int × S) → Option ((S ⊕ E))
  | 0, _ => none
  | k + 1, i50 => (snext.f K a1_0 i50.1).bind fun t52 => if t52.1 < 0 then (some (.inl i50.2)) else ((step i50.2 (t52.2.1, t52.2.2.1, t52.2.2.2.1, t52.2.2.2.2.1, t52.2.2.2.2.2.1, t52.2.2.2.2.2.2.1, t52.2.2.2.2.2.2.2.1, t52.2.2.2.2.2.2.2.2.1, t52.2.2.2.2.2.2.2.2.2.1, t52.2.2.2.2.2.2.2.2.2.2.1, t52.2.2.2.2.2.2.2.2.2.2.2.1, t52.2.2.2.2.2.2.2.2.2.2.2.2.1, t52.2.2.2.2.2.2.2.2.2.2.2.2.2.1, t52.2.2.2.2.2.2.2.2.2.2.2.2.2.2.1, t52.1, t52.2.2.2.2.2.2.2.2.2.2.2.2.2.2.2)).bind fun o57 => ysel o57 (fun σ58 => sallF.l1 K a1_0 step k (IntKind.wrap .i64 (t52.1 + (max t52.2.2.2.2.2.2.2.2.2.2.2.2.2.2.2 1)), σ58)) (fun e59 => some (.inr e59)))
def sallF.f {S E : Type} (K : Nat) (step : S → (Int × Int × Int × ByteArray × ByteArray × Int × Int × Int × Int × ByteArray × Int × Int × Int × Int × Int × Int) → Option (S ⊕ E)) (σ : S) (a1_0 : List Int) : Option ((S ⊕ E)) := sallF.l1 K a1_0 step K (0, σ)
theorem sallF.calls {S E : Type} {B : Nat} {w0 : World} {G : List HP} (K : Nat) (step : S → (Int × Int × Int × ByteArray × ByteArray × Int × Int × Int × Int × ByteArray × Int × Int × Int × Int × Int × Int) → Option (S ⊕ E)) (σ : S) (a1_0 : List Int) (Yy : S ⊕ E → HP) (a0 : Value) (ga1 : Nat) (Aa1_0 : Option Addr) (ca1_0 : Nat) (hy : YieldOk Try.prog B w0 G a0 encY124 Yy step) (ha1_0 : RdG B w0 G Aa1_0 (a1_0.map (Value.int .u8))) (ka1_0 : a1_0.length ≤ ca1_0) (ha1 : RdG B w0 G (some ⟨ga1, 0, none⟩) [.slice Aa1_0 a1_0.length ca1_0]) (r : (S ⊕ E)) (H : sallF.f K step σ a1_0 = some r) (w : World) (hw : St B w0 (Yy (.inl σ) :: G) w) :
    Calls Try.prog 64 [a0, .pointer (some ⟨ga1, 0, none⟩)].toArray w (fun e w' => e = .returned (.tuple #[]) ∧ St B w0 (Yy r :: G) w') := by
  unfold sallF.f at H
  refine calls_of (n := 29) (s := [(0, a0), (1, .pointer (some ⟨ga1, 0, none⟩))]) Try.func64 rfl rfl rfl rfl ?_ hw
  refine C.rs ?_
  refine J.p rfl rfl rfl rfl (Y.asg rfl) ?_
  refine J.nx ?_
  refine C.blk ?_
  refine C.loop (fun (i : Nat × (Int × S) × (Unit)) => [(0, a0), (1, .pointer (some ⟨ga1, 0, none⟩)), (3, .int .i64 i.2.1.1)]) (fun (i : Nat × (Int × S) × (Unit)) => Yy (.inl i.2.1.2) :: G) (fun (i : Nat × (Int × S) × (Unit)) => sallF.l1 K a1_0 step i.1 i.2.1 = some r ∧ (True)) (fun i => i.1) (K, (0, σ), ()) ⟨H, trivial⟩ (by exact ⟨rfl, rfl, rfl, trivial⟩) (by exact fun w h => h) ?_
  rintro ⟨k62, i50, j51⟩ ⟨H, _⟩
  replace H : sallF.l1 K a1_0 step k62 i50 = some r := H
  obtain ⟨k49, rfl⟩ : ∃ m, k62 = m + 1 := by cases k62 with | zero => exact absurd H (by simp [sallF.l1]) | succ m => exact ⟨m, rfl⟩
  rw [sallF.l1] at H
  refine C.at (s' := [(0, a0), (1, .pointer (some ⟨ga1, 0, none⟩)), (3, .int .i64 i50.1)]) (G' := Yy (.inl i50.2) :: G) rfl rfl ?_
  refine C.blk ?_
  refine C.rs ?_
  refine J.r rfl rfl rfl rfl (Y.ldR Try.underlying22 rfl rfl (ha1.suf [_] rfl) rfl) ?_
  refine J.p rfl rfl rfl rfl (Y.mv rfl) ?_
  obtain ⟨t52, hC53, H⟩ := bind_some H
  refine J.call (us := []) (cap := []) rfl rfl rfl go45 (fun w hw => by have hcc := snext.calls K a1_0 i50.1 Aa1_0 ca1_0 (ha1_0.suf [_] rfl) ka1_0 t52 hC53 w hw; exact hcc) (fun e w1 h1 => ?_)
  obtain ⟨rfl, hw61⟩ := h1
  refine ⟨_, _, rfl, hw61, ?_⟩
  refine J.p rfl rfl rfl rfl (Y.mv rfl) ?_
  refine J.p rfl rfl rfl rfl (Y.ext rfl rfl) ?_
  refine J.p rfl rfl rfl rfl (Y.ext rfl rfl) ?_
  refine J.p rfl rfl rfl rfl (Y.ext rfl rfl) ?_
  refine J.alloc (L := [.int .i64 0, .int .u64 0, .int .i64 0, .string ByteArray.empty, .string ByteArray.empty, .int .u64 0, .int .i64 0, .int .i64 0, .int .i64 0, .string ByteArray.empty, .int .i64 0, .int .i64 0, .int .i64 0, .int .u32 0]) rfl ti53 rfl (fun g54 => ?_)
  refine J.p rfl rfl rfl rfl (Y.asg rfl) ?_
  refine J.stA (us := [.int .i64 t52.2.1, .int .u64 t52.2.2.1, .int .i64 t52.2.2.2.1, .string t52.2.2.2.2.1, .string t52.2.2.2.2.2.1, .int .u64 t52.2.2.2.2.2.2.1, .int .i64 t52.2.2.2.2.2.2.2.1, .int .i64 t52.2.2.2.2.2.2.2.2.1, .int .i64 t52.2.2.2.2.2.2.2.2.2.1, .string t52.2.2.2.2.2.2.2.2.2.2.1, .int .i64 t52.2.2.2.2.2.2.2.2.2.2.2.1, .int .i64 t52.2.2.2.2.2.2.2.2.2.2.2.2.1, .int .i64 t52.2.2.2.2.2.2.2.2.2.2.2.2.2.1, .int .u32 t52.2.2.2.2.2.2.2.2.2.2.2.2.2.2.1]) (L' := [.int .i64 t52.2.1, .int .u64 t52.2.2.1, .int .i64 t52.2.2.2.1, .string t52.2.2.2.2.1, .string t52.2.2.2.2.2.1, .int .u64 t52.2.2.2.2.2.2.1, .int .i64 t52.2.2.2.2.2.2.2.1, .int .i64 t52.2.2.2.2.2.2.2.2.1, .int .i64 t52.2.2.2.2.2.2.2.2.2.1, .string t52.2.2.2.2.2.2.2.2.2.2.1, .int .i64 t52.2.2.2.2.2.2.2.2.2.2.2.1, .int .i64 t52.2.2.2.2.2.2.2.2.2.2.2.2.1, .int .i64 t52.2.2.2.2.2.2.2.2.2.2.2.2.2.1, .int .u32 t52.2.2.2.2.2.2.2.2.2.2.2.2.2.2.1]) ti53 rfl rfl rfl rfl rfl rfl ?_
  refine J.p rfl rfl rfl rfl (Y.asg rfl) ?_
  refine J.nx ?_
  refine C.seq ?_
  refine C.rs ?_
  refine J.p rfl rfl rfl rfl (Y.mv rfl) ?_
  refine J.p rfl rfl rfl rfl (Y.bin rfl rfl rfl) ?_
  refine J.p rfl rfl rfl rfl (Y.mv rfl) ?_
  refine split2 H (fun c56 H => ?_) (fun c56 H => ?_)
  · refine J.as (k := 16) rfl (congrArg Value.bool (decide_eq_true c56)) ?_
    refine J.skip rfl rfl ?_
    refine J.skip rfl rfl ?_
    refine J.skip rfl rfl ?_
    refine J.skip rfl rfl ?_
    refine J.skip rfl rfl ?_
    refine J.skip rfl rfl ?_
    refine J.skip rfl rfl ?_
    refine J.p rfl rfl rfl rfl (Y.pickT rfl rfl) ?_
    refine J.nx ?_
    refine C.condT rfl ?_
    refine C.ret ?_
    obtain rfl := Option.some.inj H
    refine T.th ?_
    refine T.ib ?_
    refine T.th ?_
    refine T.ib ?_
    exact ret_ok (ks := []) rfl rfl (fun w h => ⟨rfl, (St.pick [1] [_, _] h rfl)⟩)
  · refine J.as (k := 16) rfl (congrArg Value.bool (decide_eq_false c56)) ?_
    refine J.p rfl rfl rfl rfl (Y.mv rfl) ?_
    refine J.r rfl rfl rfl rfl (Y.ldCA (us := [.int .i64 t52.2.1, .int .u64 t52.2.2.1, .int .i64 t52.2.2.2.1, .string t52.2.2.2.2.1, .string t52.2.2.2.2.2.1, .int .u64 t52.2.2.2.2.2.2.1, .int .i64 t52.2.2.2.2.2.2.2.1, .int .i64 t52.2.2.2.2.2.2.2.2.1, .int .i64 t52.2.2.2.2.2.2.2.2.2.1, .string t52.2.2.2.2.2.2.2.2.2.2.1, .int .i64 t52.2.2.2.2.2.2.2.2.2.2.2.1, .int .i64 t52.2.2.2.2.2.2.2.2.2.2.2.2.1, .int .i64 t52.2.2.2.2.2.2.2.2.2.2.2.2.2.1, .int .u32 t52.2.2.2.2.2.2.2.2.2.2.2.2.2.2.1]) 0 Try.underlying53 rfl ti53 rfl rfl rfl rfl) ?_
    refine J.p rfl rfl rfl rfl (Y.mv rfl) ?_
    refine J.p rfl rfl rfl rfl (Y.mv rfl) ?_
    refine J.p rfl rfl rfl rfl (Y.bld (cs := [.int .i64 t52.2.1, .int .u64 t52.2.2.1, .int .i64 t52.2.2.2.1, .string t52.2.2.2.2.1, .string t52.2.2.2.2.2.1, .int .u64 t52.2.2.2.2.2.2.1, .int .i64 t52.2.2.2.2.2.2.2.1, .int .i64 t52.2.2.2.2.2.2.2.2.1, .int .i64 t52.2.2.2.2.2.2.2.2.2.1, .string t52.2.2.2.2.2.2.2.2.2.2.1, .int .i64 t52.2.2.2.2.2.2.2.2.2.2.2.1, .int .i64 t52.2.2.2.2.2.2.2.2.2.2.2.2.1, .int .i64 t52.2.2.2.2.2.2.2.2.2.2.2.2.2.1, .int .u32 t52.2.2.2.2.2.2.2.2.2.2.2.2.2.2.1, .int .i64 t52.1, .int .i64 t52.2.2.2.2.2.2.2.2.2.2.2.2.2.2.2]) rfl pl102 ti102 rfl (by kernel_rfl)) ?_
    refine J.want rfl ?_
    refine J.pull 1 rfl rfl ?_
    obtain ⟨o57, hC60, H⟩ := bind_some H
    refine J.yield (σ := i50.2) (x := (t52.2.1, t52.2.2.1, t52.2.2.2.1, t52.2.2.2.2.1, t52.2.2.2.2.2.1, t52.2.2.2.2.2.2.1, t52.2.2.2.2.2.2.2.1, t52.2.2.2.2.2.2.2.2.1, t52.2.2.2.2.2.2.2.2.2.1, t52.2.2.2.2.2.2.2.2.2.2.1, t52.2.2.2.2.2.2.2.2.2.2.2.1, t52.2.2.2.2.2.2.2.2.2.2.2.2.1, t52.2.2.2.2.2.2.2.2.2.2.2.2.2.1, t52.2.2.2.2.2.2.2.2.2.2.2.2.2.2.1, t52.1, t52.2.2.2.2.2.2.2.2.2.2.2.2.2.2.2)) rfl hy hC60 rfl rfl [_] rfl (fun σ58 ho => ?_) (fun e59 ho => ?_)
    · subst ho
      replace H := ysel_inl H
      refine J.imp (G' := Yy (.inl σ58) :: cells g54 53 [.int .i64 t52.2.1, .int .u64 t52.2.2.1, .int .i64 t52.2.2.2.1, .string t52.2.2.2.2.1, .string t52.2.2.2.2.2.1, .int .u64 t52.2.2.2.2.2.2.1, .int .i64 t52.2.2.2.2.2.2.2.1, .int .i64 t52.2.2.2.2.2.2.2.2.1, .int .i64 t52.2.2.2.2.2.2.2.2.2.1, .string t52.2.2.2.2.2.2.2.2.2.2.1, .int .i64 t52.2.2.2.2.2.2.2.2.2.2.2.1, .int .i64 t52.2.2.2.2.2.2.2.2.2.2.2.2.1, .int .i64 t52.2.2.2.2.2.2.2.2.2.2.2.2.2.1, .int .u32 t52.2.2.2.2.2.2.2.2.2.2.2.2.2.2.1] :: G) (fun w h => h) ?_
      refine J.p rfl rfl rfl rfl (Y.notb rfl) ?_
      refine J.p rfl rfl rfl rfl (Y.pickF rfl rfl) ?_
      refine J.nx ?_
      refine C.condF rfl ?_
      refine C.skip ?_
      refine N.nx ?_
      refine C.reg ?_
      refine J.p rfl rfl rfl rfl (Y.mv rfl) ?_
      refine J.p rfl rfl rfl rfl (Y.mv rfl) ?_
      refine J.p rfl rfl rfl rfl (Y.mx rfl rfl) ?_
      refine J.p rfl rfl rfl rfl (Y.bin rfl rfl rfl) ?_
      refine J.p rfl rfl rfl rfl (Y.asg rfl) ?_
      refine J.nil ?_
      refine N.ib ?_
      exact N.again (k49, (IntKind.wrap .i64 (t52.1 + (max t52.2.2.2.2.2.2.2.2.2.2.2.2.2.2.2 1)), σ58), ()) ⟨H, trivial⟩ (Nat.lt_succ_self _) (by exact ⟨rfl, rfl, rfl, trivial⟩) (by exact fun w h => (St.pick [0] [_, _] h rfl))
    · subst ho
      replace H := ysel_inr H
      refine J.imp (G' := Yy (.inr e59) :: cells g54 53 [.int .i64 t52.2.1, .int .u64 t52.2.2.1, .int .i64 t52.2.2.2.1, .string t52.2.2.2.2.1, .string t52.2.2.2.2.2.1, .int .u64 t52.2.2.2.2.2.2.1, .int .i64 t52.2.2.2.2.2.2.2.1, .int .i64 t52.2.2.2.2.2.2.2.2.1, .int .i64 t52.2.2.2.2.2.2.2.2.2.1, .string t52.2.2.2.2.2.2.2.2.2.2.1, .int .i64 t52.2.2.2.2.2.2.2.2.2.2.2.1, .int .i64 t52.2.2.2.2.2.2.2.2.2.2.2.2.1, .int .i64 t52.2.2.2.2.2.2.2.2.2.2.2.2.2.1, .int .u32 t52.2.2.2.2.2.2.2.2.2.2.2.2.2.2.1] :: G) (fun w h => h) ?_
      refine J.p rfl rfl rfl rfl (Y.notb rfl) ?_
      refine J.p rfl rfl rfl rfl (Y.pickF rfl rfl) ?_
      refine J.nx ?_
      refine C.condT rfl ?_
      refine C.ret ?_
      obtain rfl := Option.some.inj H
      refine T.th ?_
      refine T.ib ?_
      refine T.th ?_
      refine T.ib ?_
      exact ret_ok (ks := []) rfl rfl (fun w h => ⟨rfl, (St.pick [0] [_, _] h rfl)⟩)
/-! ### salvor/scan.all: function 44 -/
def sall.f (a0 : List Int) : Option (Unit) := some ()
theorem sall.calls {B : Nat} {w0 : World} {G : List HP} (a0 : List Int) (Aa0 : Option Addr) (ca0 : Nat) (ha0 : RdG B w0 G Aa0 (a0.map (Value.int .u8))) (ka0 : a0.length ≤ ca0) (r : Unit) (H : sall.f a0 = some r) (w : World) (hw : St B w0 (G) w) :
    Calls Try.prog 44 [.slice Aa0 a0.length ca0].toArray w (fun e w' => ∃ gf0, e = .returned (.func (.func 64) #[] #[.pointer (some ⟨gf0, 0, none⟩)]) ∧ St B w0 (cells gf0 22 [.slice Aa0 a0.length ca0] :: G) w') := by
  unfold sall.f at H
  refine calls_of (n := 4) (s := [(0, .slice Aa0 a0.length ca0)]) Try.func44 rfl rfl rfl rfl ?_ hw
  refine C.rs ?_
  refine J.box (L := [.slice Aa0 a0.length ca0]) rfl rfl rfl (fun g1 => ?_)
  refine J.p rfl rfl rfl rfl (Y.asg rfl) ?_
  refine J.nx ?_
  refine C.rs ?_
  refine J.p rfl rfl rfl rfl (Y.mkf rfl rfl) ?_
  refine J.p rfl rfl rfl rfl (Y.asg rfl) ?_
  refine J.nx ?_
  refine C.ret ?_
  obtain rfl := Option.some.inj H
  exact ret_ok (ks := [2]) rfl rfl (fun w h => ⟨g1, rfl, h⟩)
/-! ### salvor/scan.Extents$1: function 43 -/
def junk.f (a0 : Int) (a1_0 : Int) (a2_0 : List T40_) : Option (Int × (List T40_)) := if a1_0 < a0 then (gd ((a2_0.length + [(true, a1_0, IntKind.wrap .i64 (a0 - a1_0))].length) * 24 ≤ 140737488355328) (some (a1_0, (a2_0 ++ [(true, a1_0, IntKind.wrap .i64 (a0 - a1_0))])))) else (some (a1_0, a2_0))
theorem junk.calls {B : Nat} {w0 : World} {G : List HP} (a0 : Int) (a1_0 : Int) (a2_0 : List T40_) (ga1 : Nat) (ga2 : Nat) (Aa2_0 : Option Addr) (ca2_0 : Nat) (r : Int × (List T40_)) (H : junk.f a0 a1_0 a2_0 = some r) (w : World) (hw : St B w0 (cells ga1 3 [.int .i64 a1_0] :: cells ga2 28 [.slice Aa2_0 a2_0.length ca2_0] :: own 40 3 Aa2_0 ca2_0 (a2_0.flatMap encT40_) :: G) w) :
    Calls Try.prog 43 [.int .i64 a0, .pointer (some ⟨ga1, 0, none⟩), .pointer (some ⟨ga2, 0, none⟩)].toArray w (fun e w' => ∃ A1 c1, e = .returned (.tuple #[]) ∧ St B w0 (cells ga1 3 [.int .i64 r.1] :: cells ga2 28 [.slice A1 r.2.length c1] :: own 40 3 A1 c1 (r.2.flatMap encT40_) :: G) w') := by
  unfold junk.f at H
  refine calls_of (n := 15) (s := [(0, .int .i64 a0), (1, .pointer (some ⟨ga1, 0, none⟩)), (2, .pointer (some ⟨ga2, 0, none⟩))]) Try.func43 rfl rfl rfl rfl ?_ hw
  refine C.rs ?_
  refine J.p rfl rfl rfl rfl (Y.mv rfl) ?_
  refine J.r rfl rfl rfl rfl (Y.ldC 0 Try.underlying3 rfl rfl rfl rfl) ?_
  refine J.p rfl rfl rfl rfl (Y.bin rfl rfl rfl) ?_
  refine J.nx ?_
  refine split2 H (fun c1 H => ?_) (fun c1 H => ?_)
  · refine C.condT (congrArg (fun b => some (Value.bool b)) (decide_eq_true c1)) ?_
    refine C.reg ?_
    refine J.r rfl rfl rfl rfl (Y.ldC 1 Try.underlying28 rfl rfl rfl rfl) ?_
    refine J.r rfl rfl rfl rfl (Y.ldC 0 Try.underlying3 rfl rfl rfl rfl) ?_
    refine J.p rfl rfl rfl rfl (Y.mv rfl) ?_
    refine J.r rfl rfl rfl rfl (Y.ldC 0 Try.underlying3 rfl rfl rfl rfl) ?_
    refine J.p rfl rfl rfl rfl (Y.bin rfl rfl rfl) ?_
    refine J.p rfl rfl rfl rfl (Y.bld (cs := [.bool true, .int .i64 a1_0, .int .i64 (IntKind.wrap .i64 (a0 - a1_0))]) rfl pl40 ti40 rfl (by kernel_rfl)) ?_
    refine J.bsM (enc := encT40_) (xs := [(true, a1_0, IntKind.wrap .i64 (a0 - a1_0))]) (zs := [.bool false, .int .i64 0, .int .i64 0]) lenT40_ rfl Try.underlying28 ti40 (by kernel_rfl) rfl (by kernel_rfl) rfl rfl rfl (fun A2 => ?_)
    refine J.pull 3 rfl rfl ?_
    obtain ⟨p6, H⟩ := gd_some H
    refine J.appM (enc := encT40_) (xs := a2_0) (ys := [(true, a1_0, IntKind.wrap .i64 (a0 - a1_0))]) lenT40_ oneT40_ rfl Try.underlying28 ti40 rfl (by decide) (by decide) rfl rfl (RdG.own 1 rfl) p6 (fun A4 c5 => ?_)
    refine J.pull 1 rfl rfl (J.drop ?_)
    refine J.pull 2 rfl rfl ?_
    refine J.stE (L' := [.slice A4 (a2_0 ++ [(true, a1_0, IntKind.wrap .i64 (a0 - a1_0))]).length c5]) ti28 rfl rfl rfl rfl rfl ?_
    refine J.nil ?_
    obtain rfl := Option.some.inj H
    exact end_ok (ks := []) rfl rfl (fun w h => ⟨A4, c5, rfl, (St.pick [2, 0, 1] [_, _, _] h rfl)⟩)
  · refine C.condF (congrArg (fun b => some (Value.bool b)) (decide_eq_false c1)) ?_
    refine C.skip ?_
    obtain rfl := Option.some.inj H
    exact end_ok (ks := []) rfl rfl (fun w h => ⟨Aa2_0, ca2_0, rfl, h⟩)
/-! ### salvor/scan.Extents: function 14 -/
def sExtents.f (K : Nat) (a0 : List Int) : Option ((List T40_)) := (sall.f a0).bind fun t7 => (sallF.f K (fun (i47 : Int × (List T40_)) (x54 : Int × Int × Int × ByteArray × ByteArray × Int × Int × Int × Int × ByteArray × Int × Int × Int × Int × Int × Int) => (junk.f x54.2.2.2.2.2.2.2.2.2.2.2.2.2.2.1 i47.1 i47.2).bind fun t61 => gd ((t61.2.length + [(false, x54.2.2.2.2.2.2.2.2.2.2.2.2.2.2.1, x54.2.2.2.2.2.2.2.2.2.2.2.2.2.2.2)].length) * 24 ≤ 140737488355328) (some (.inl (IntKind.wrap .i64 (x54.2.2.2.2.2.2.2.2.2.2.2.2.2.2.1 + x54.2.2.2.2.2.2.2.2.2.2.2.2.2.2.2), (t61.2 ++ [(false, x54.2.2.2.2.2.2.2.2.2.2.2.2.2.2.1, x54.2.2.2.2.2.2.2.2.2.2.2.2.2.2.2)]))))) (0, ([] : List T40_)) a0).bind fun t52 => ysel t52 (fun i47 => (junk.f (a0.length : Int) i47.1 i47.2).bind fun t74 => some t74.2) ((fun (e : Empty) => none))
theorem sExtents.calls {B : Nat} {w0 : World} {G : List HP} (K : Nat) (a0 : List Int) (Aa0 : Option Addr) (ca0 : Nat) (ha0 : RdG B w0 G Aa0 (a0.map (Value.int .u8))) (ka0 : a0.length ≤ ca0) (r : (List T40_)) (H : sExtents.f K a0 = some r) (w : World) (hw : St B w0 (G) w) :
    Calls Try.prog 14 [.slice Aa0 a0.length ca0].toArray w (fun e w' => ∃ A0 c0, e = .returned (.slice A0 r.length c0) ∧ St B w0 (own 40 3 A0 c0 (r.flatMap encT40_) :: G) w') := by
  unfold sExtents.f at H
  refine calls_ofM (n := 33) (s := [(0, .slice Aa0 a0.length ca0)]) Try.func14 rfl rfl rfl rfl ?_ hw
  refine C.rs ?_
  refine J.p rfl rfl rfl rfl (Y.asg rfl) ?_
  refine J.nx ?_
  refine C.rs ?_
  refine J.alloc (L := [.slice none 0 0]) rfl ti28 rfl (fun g1 => ?_)
  refine J.nx ?_
  refine C.rs ?_
  refine J.alloc (L := [.int .i64 0]) rfl ti3 rfl (fun g3 => ?_)
  refine J.stE (L' := [.int .i64 0]) ti3 rfl rfl rfl rfl rfl ?_
  refine J.nx ?_
  refine C.rs ?_
  refine J.p rfl rfl rfl rfl (Y.mkf rfl rfl) ?_
  refine J.alloc (L := [.nilFunc]) rfl ti97 rfl (fun g5 => ?_)
  refine J.stE (L' := [.func (.func 43) #[] #[.pointer (some ⟨g3, 0, none⟩), .pointer (some ⟨g1, 0, none⟩)]]) ti97 rfl rfl rfl rfl rfl ?_
  refine J.nx ?_
  refine C.seq ?_
  refine C.rs ?_
  refine J.p rfl rfl rfl rfl (Y.mv rfl) ?_
  obtain ⟨t7, hC8, H⟩ := bind_some H
  refine J.call (us := []) (cap := []) rfl rfl rfl go44 (fun w hw => by have hcc := sall.calls a0 Aa0 ca0 (ha0.suf [_, _, _, _] rfl) ka0 t7 hC8 w hw; exact hcc) (fun e w1 h1 => ?_)
  obtain ⟨g9, rfl, hw80⟩ := h1
  refine ⟨_, _, rfl, hw80, ?_⟩
  refine J.nx ?_
  refine C.blk ?_
  refine C.sub (s' := [(0, .slice Aa0 a0.length ca0), (2, .slice none 0 0), (3, .pointer (some ⟨g1, 0, none⟩)), (4, .pointer (some ⟨g3, 0, none⟩)), (5, .pointer (some ⟨g5, 0, none⟩)), (9, .func (.func 64) #[] #[.pointer (some ⟨g9, 0, none⟩)])]) (by exact ⟨rfl, rfl, rfl, rfl, rfl, rfl, trivial⟩) ?_
  have hkey : ∀ Gx, Gx = (cells g9 22 [.slice Aa0 a0.length ca0] :: G) → RdG B w0 Gx Aa0 (a0.map (Value.int .u8)) ∧ RdG B w0 Gx (some ⟨g9, 0, none⟩) [.slice Aa0 a0.length ca0] ∧ True := by rintro _ rfl; exact ⟨(ha0.suf [_] rfl), (RdG.cells 0 rfl), trivial⟩
  obtain ⟨hb57, hb58, _⟩ := hkey _ rfl
  obtain ⟨t52, hC53, H⟩ := bind_some H
  refine C.rangeF' (E := Empty) (Gb := cells g9 22 [.slice Aa0 a0.length ca0] :: G) (caps := [.pointer (some ⟨g9, 0, none⟩)]) encY124 (fun (i47 : Int × (List T40_)) (j48 : (Option Addr) × Nat) => [cells g5 97 [.func (.func 43) #[] #[.pointer (some ⟨g3, 0, none⟩), .pointer (some ⟨g1, 0, none⟩)]], cells g3 3 [.int .i64 i47.1], own 40 3 j48.1 j48.2 (i47.2.flatMap encT40_), cells g1 28 [.slice j48.1 i47.2.length j48.2]]) (fun (i47 : Int × (List T40_)) (j48 : (Option Addr) × Nat) => True) (fun (e : Empty) (k : Unit) => e.elim) (fun (e : Empty) (k : Unit) => e.elim) (fun (e : Empty) => e.elim) (fun (x54 : Int × Int × Int × ByteArray × ByteArray × Int × Int × Int × Int × ByteArray × Int × Int × Int × Int × Int × Int) (z73 : Nat) => [cells z73 102 [.int .i64 x54.1, .int .u64 x54.2.1, .int .i64 x54.2.2.1, .string x54.2.2.2.1, .string x54.2.2.2.2.1, .int .u64 x54.2.2.2.2.2.1, .int .i64 x54.2.2.2.2.2.2.1, .int .i64 x54.2.2.2.2.2.2.2.1, .int .i64 x54.2.2.2.2.2.2.2.2.1, .string x54.2.2.2.2.2.2.2.2.2.1, .int .i64 x54.2.2.2.2.2.2.2.2.2.2.1, .int .i64 x54.2.2.2.2.2.2.2.2.2.2.2.1, .int .i64 x54.2.2.2.2.2.2.2.2.2.2.2.2.1, .int .u32 x54.2.2.2.2.2.2.2.2.2.2.2.2.2.1, .int .i64 x54.2.2.2.2.2.2.2.2.2.2.2.2.2.2.1, .int .i64 x54.2.2.2.2.2.2.2.2.2.2.2.2.2.2.2]]) (fun (x54 : Int × Int × Int × ByteArray × ByteArray × Int × Int × Int × Int × ByteArray × Int × Int × Int × Int × Int × Int) (z73 : Nat) => [(0, .slice Aa0 a0.length ca0), (2, .slice none 0 0), (3, .pointer (some ⟨g1, 0, none⟩)), (4, .pointer (some ⟨g3, 0, none⟩)), (5, .pointer (some ⟨g5, 0, none⟩)), (6, .pointer (some ⟨z73, 0, none⟩)), (9, .func (.func 64) #[] #[.pointer (some ⟨g9, 0, none⟩)]), (10, .agg #[.int .i64 x54.1, .int .u64 x54.2.1, .int .i64 x54.2.2.1, .string x54.2.2.2.1, .string x54.2.2.2.2.1, .int .u64 x54.2.2.2.2.2.1, .int .i64 x54.2.2.2.2.2.2.1, .int .i64 x54.2.2.2.2.2.2.2.1, .int .i64 x54.2.2.2.2.2.2.2.2.1, .string x54.2.2.2.2.2.2.2.2.2.1, .int .i64 x54.2.2.2.2.2.2.2.2.2.2.1, .int .i64 x54.2.2.2.2.2.2.2.2.2.2.2.1, .int .i64 x54.2.2.2.2.2.2.2.2.2.2.2.2.1, .int .u32 x54.2.2.2.2.2.2.2.2.2.2.2.2.2.1, .int .i64 x54.2.2.2.2.2.2.2.2.2.2.2.2.2.2.1, .int .i64 x54.2.2.2.2.2.2.2.2.2.2.2.2.2.2.2])]) _ (0, ([] : List T40_)) (none, 0) t52 rfl go64 (fun _ => rfl) (by rfl) (by decide) (pf_of rfl) trivial (fun w h => (St.pick [5, 2, 3, 0, 4, 1] [_, _, _, _, _, _] (h.nilOwn 40 3) rfl)) (fun Yy yv hy w hw => sallF.calls K _ _ a0 Yy yv g9 Aa0 ca0 hy (ha0.suf [_] rfl) ka0 (RdG.cells 0 rfl) _ hC53 w hw) (fun l i47 j48 x54 L55 _ => ?_) (fun l i47 j48 x54 z73 o L55 G hGG H _ hl56 => ?_) (fun ds50 i47 j48 hr _ => ?_) (fun ds50 e k hr hx => ?_)
  · refine C.sub (s' := [(0, .slice Aa0 a0.length ca0), (2, .slice none 0 0), (3, .pointer (some ⟨g1, 0, none⟩)), (4, .pointer (some ⟨g3, 0, none⟩)), (5, .pointer (some ⟨g5, 0, none⟩)), (9, .func (.func 64) #[] #[.pointer (some ⟨g9, 0, none⟩)]), (10, .agg #[.int .i64 x54.1, .int .u64 x54.2.1, .int .i64 x54.2.2.1, .string x54.2.2.2.1, .string x54.2.2.2.2.1, .int .u64 x54.2.2.2.2.2.1, .int .i64 x54.2.2.2.2.2.2.1, .int .i64 x54.2.2.2.2.2.2.2.1, .int .i64 x54.2.2.2.2.2.2.2.2.1, .string x54.2.2.2.2.2.2.2.2.2.1, .int .i64 x54.2.2.2.2.2.2.2.2.2.2.1, .int .i64 x54.2.2.2.2.2.2.2.2.2.2.2.1, .int .i64 x54.2.2.2.2.2.2.2.2.2.2.2.2.1, .int .u32 x54.2.2.2.2.2.2.2.2.2.2.2.2.2.1, .int .i64 x54.2.2.2.2.2.2.2.2.2.2.2.2.2.2.1, .int .i64 x54.2.2.2.2.2.2.2.2.2.2.2.2.2.2.2])]) (by exact ⟨rfl, rfl, rfl, rfl, rfl, rfl, rfl, trivial⟩) ?_
    refine C.reg ?_
    refine J.alloc (L := [.int .i64 0, .int .u64 0, .int .i64 0, .string ByteArray.empty, .string ByteArray.empty, .int .u64 0, .int .i64 0, .int .i64 0, .int .i64 0, .string ByteArray.empty, .int .i64 0, .int .i64 0, .int .i64 0, .int .u32 0, .int .i64 0, .int .i64 0]) rfl ti102 rfl (fun g59 => ?_)
    refine J.stA (us := [.int .i64 x54.1, .int .u64 x54.2.1, .int .i64 x54.2.2.1, .string x54.2.2.2.1, .string x54.2.2.2.2.1, .int .u64 x54.2.2.2.2.2.1, .int .i64 x54.2.2.2.2.2.2.1, .int .i64 x54.2.2.2.2.2.2.2.1, .int .i64 x54.2.2.2.2.2.2.2.2.1, .string x54.2.2.2.2.2.2.2.2.2.1, .int .i64 x54.2.2.2.2.2.2.2.2.2.2.1, .int .i64 x54.2.2.2.2.2.2.2.2.2.2.2.1, .int .i64 x54.2.2.2.2.2.2.2.2.2.2.2.2.1, .int .u32 x54.2.2.2.2.2.2.2.2.2.2.2.2.2.1, .int .i64 x54.2.2.2.2.2.2.2.2.2.2.2.2.2.2.1, .int .i64 x54.2.2.2.2.2.2.2.2.2.2.2.2.2.2.2]) (L' := [.int .i64 x54.1, .int .u64 x54.2.1, .int .i64 x54.2.2.1, .string x54.2.2.2.1, .string x54.2.2.2.2.1, .int .u64 x54.2.2.2.2.2.1, .int .i64 x54.2.2.2.2.2.2.1, .int .i64 x54.2.2.2.2.2.2.2.1, .int .i64 x54.2.2.2.2.2.2.2.2.1, .string x54.2.2.2.2.2.2.2.2.2.1, .int .i64 x54.2.2.2.2.2.2.2.2.2.2.1, .int .i64 x54.2.2.2.2.2.2.2.2.2.2.2.1, .int .i64 x54.2.2.2.2.2.2.2.2.2.2.2.2.1, .int .u32 x54.2.2.2.2.2.2.2.2.2.2.2.2.2.1, .int .i64 x54.2.2.2.2.2.2.2.2.2.2.2.2.2.2.1, .int .i64 x54.2.2.2.2.2.2.2.2.2.2.2.2.2.2.2]) ti102 rfl rfl rfl rfl rfl rfl ?_
    refine J.nil ?_
    exact N.asg g59 (by exact ⟨rfl, rfl, rfl, rfl, rfl, rfl, rfl, rfl, trivial⟩) (fun w h => h)
  · obtain ⟨g59, hz⟩ := (⟨z73, rfl⟩ : ∃ g, g = z73)
    subst hz
    replace hb57 := RdG.suf hb57 L55 hGG
    replace hb58 := RdG.suf hb58 L55 hGG
    refine C.at (s' := [(0, .slice Aa0 a0.length ca0), (2, .slice none 0 0), (3, .pointer (some ⟨g1, 0, none⟩)), (4, .pointer (some ⟨g3, 0, none⟩)), (5, .pointer (some ⟨g5, 0, none⟩)), (6, .pointer (some ⟨g59, 0, none⟩)), (9, .func (.func 64) #[] #[.pointer (some ⟨g9, 0, none⟩)]), (10, .agg #[.int .i64 x54.1, .int .u64 x54.2.1, .int .i64 x54.2.2.1, .string x54.2.2.2.1, .string x54.2.2.2.2.1, .int .u64 x54.2.2.2.2.2.1, .int .i64 x54.2.2.2.2.2.2.1, .int .i64 x54.2.2.2.2.2.2.2.1, .int .i64 x54.2.2.2.2.2.2.2.2.1, .string x54.2.2.2.2.2.2.2.2.2.1, .int .i64 x54.2.2.2.2.2.2.2.2.2.2.1, .int .i64 x54.2.2.2.2.2.2.2.2.2.2.2.1, .int .i64 x54.2.2.2.2.2.2.2.2.2.2.2.2.1, .int .u32 x54.2.2.2.2.2.2.2.2.2.2.2.2.2.1, .int .i64 x54.2.2.2.2.2.2.2.2.2.2.2.2.2.2.1, .int .i64 x54.2.2.2.2.2.2.2.2.2.2.2.2.2.2.2])]) (G' := cells g59 102 [.int .i64 x54.1, .int .u64 x54.2.1, .int .i64 x54.2.2.1, .string x54.2.2.2.1, .string x54.2.2.2.2.1, .int .u64 x54.2.2.2.2.2.1, .int .i64 x54.2.2.2.2.2.2.1, .int .i64 x54.2.2.2.2.2.2.2.1, .int .i64 x54.2.2.2.2.2.2.2.2.1, .string x54.2.2.2.2.2.2.2.2.2.1, .int .i64 x54.2.2.2.2.2.2.2.2.2.2.1, .int .i64 x54.2.2.2.2.2.2.2.2.2.2.2.1, .int .i64 x54.2.2.2.2.2.2.2.2.2.2.2.2.1, .int .u32 x54.2.2.2.2.2.2.2.2.2.2.2.2.2.1, .int .i64 x54.2.2.2.2.2.2.2.2.2.2.2.2.2.2.1, .int .i64 x54.2.2.2.2.2.2.2.2.2.2.2.2.2.2.2] :: cells g5 97 [.func (.func 43) #[] #[.pointer (some ⟨g3, 0, none⟩), .pointer (some ⟨g1, 0, none⟩)]] :: cells g3 3 [.int .i64 i47.1] :: own 40 3 j48.1 j48.2 (i47.2.flatMap encT40_) :: cells g1 28 [.slice j48.1 i47.2.length j48.2] :: G) rfl rfl ?_
    refine C.blk ?_
    refine C.rs ?_
    refine J.r rfl rfl rfl rfl (Y.ldC 1 Try.underlying97 rfl rfl rfl rfl) ?_
    refine J.p rfl rfl rfl rfl (Y.fa0 fa102_1 rfl rfl) ?_
    refine J.r rfl rfl rfl rfl (Y.ldC 0 Try.underlying3 rfl rfl rfl rfl) ?_
    refine J.pull 3 rfl rfl ?_
    refine J.pull 4 rfl rfl ?_
    refine J.pull 4 rfl rfl ?_
    obtain ⟨t61, hC62, H⟩ := bind_some H
    refine J.call (us := []) (cap := [.pointer (some ⟨g3, 0, none⟩), .pointer (some ⟨g1, 0, none⟩)]) rfl rfl rfl go43 (fun w hw => by have hcc := junk.calls x54.2.2.2.2.2.2.2.2.2.2.2.2.2.2.1 i47.1 i47.2 g3 g1 j48.1 j48.2 t61 hC62 w hw; exact hcc) (fun e w1 h1 => ?_)
    obtain ⟨A63, c64, rfl, hw72⟩ := h1
    refine ⟨_, _, rfl, hw72, ?_⟩
    refine J.nx ?_
    refine C.rs ?_
    refine J.r rfl rfl rfl rfl (Y.ldC 1 Try.underlying28 rfl rfl rfl rfl) ?_
    refine J.p rfl rfl rfl rfl (Y.fa0 fa102_1 rfl rfl) ?_
    refine J.r rfl rfl rfl rfl (Y.ldC 3 Try.underlying3 rfl rfl rfl rfl) ?_
    refine J.p rfl rfl rfl rfl (Y.fa0 fa102_2 rfl rfl) ?_
    refine J.r rfl rfl rfl rfl (Y.ldC 3 Try.underlying3 rfl rfl rfl rfl) ?_
    refine J.p rfl rfl rfl rfl (Y.bld (cs := [.bool false, .int .i64 x54.2.2.2.2.2.2.2.2.2.2.2.2.2.2.1, .int .i64 x54.2.2.2.2.2.2.2.2.2.2.2.2.2.2.2]) rfl pl40 ti40 rfl (by kernel_rfl)) ?_
    refine J.bsM (enc := encT40_) (xs := [(false, x54.2.2.2.2.2.2.2.2.2.2.2.2.2.2.1, x54.2.2.2.2.2.2.2.2.2.2.2.2.2.2.2)]) (zs := [.bool false, .int .i64 0, .int .i64 0]) lenT40_ rfl Try.underlying28 ti40 (by kernel_rfl) rfl (by kernel_rfl) rfl rfl rfl (fun A66 => ?_)
    refine J.pull 3 rfl rfl ?_
    obtain ⟨p70, H⟩ := gd_some H
    refine J.appM (enc := encT40_) (xs := t61.2) (ys := [(false, x54.2.2.2.2.2.2.2.2.2.2.2.2.2.2.1, x54.2.2.2.2.2.2.2.2.2.2.2.2.2.2.2)]) lenT40_ oneT40_ rfl Try.underlying28 ti40 rfl (by decide) (by decide) rfl rfl (RdG.own 1 rfl) p70 (fun A68 c69 => ?_)
    refine J.pull 1 rfl rfl (J.drop ?_)
    refine J.pull 2 rfl rfl ?_
    refine J.stE (L' := [.slice A68 (t61.2 ++ [(false, x54.2.2.2.2.2.2.2.2.2.2.2.2.2.2.1, x54.2.2.2.2.2.2.2.2.2.2.2.2.2.2.2)]).length c69]) ti28 rfl rfl rfl rfl rfl ?_
    refine J.nx ?_
    refine C.reg ?_
    refine J.p rfl rfl rfl rfl (Y.fa0 fa102_1 rfl rfl) ?_
    refine J.r rfl rfl rfl rfl (Y.ldC 3 Try.underlying3 rfl rfl rfl rfl) ?_
    refine J.p rfl rfl rfl rfl (Y.fa0 fa102_2 rfl rfl) ?_
    refine J.r rfl rfl rfl rfl (Y.ldC 3 Try.underlying3 rfl rfl rfl rfl) ?_
    refine J.p rfl rfl rfl rfl (Y.bin rfl rfl rfl) ?_
    refine J.pull 2 rfl rfl ?_
    refine J.stE (L' := [.int .i64 (IntKind.wrap .i64 (x54.2.2.2.2.2.2.2.2.2.2.2.2.2.2.1 + x54.2.2.2.2.2.2.2.2.2.2.2.2.2.2.2))]) ti3 rfl rfl rfl rfl rfl ?_
    refine J.nil ?_
    refine N.ib ?_
    obtain rfl := Option.some.inj H
    exact N.round (IntKind.wrap .i64 (x54.2.2.2.2.2.2.2.2.2.2.2.2.2.2.1 + x54.2.2.2.2.2.2.2.2.2.2.2.2.2.2.2), (t61.2 ++ [(false, x54.2.2.2.2.2.2.2.2.2.2.2.2.2.2.1, x54.2.2.2.2.2.2.2.2.2.2.2.2.2.2.2)])) (A68, c69) rfl trivial (by exact fun w h => (St.pick [4, 0, 2, 1] [_, _, _, _, _] h rfl))
  · subst hr
    replace H := ysel_inl H
    refine N.at (s' := [(0, .slice Aa0 a0.length ca0), (2, .slice none 0 0), (3, .pointer (some ⟨g1, 0, none⟩)), (4, .pointer (some ⟨g3, 0, none⟩)), (5, .pointer (some ⟨g5, 0, none⟩)), (9, .func (.func 64) #[] #[.pointer (some ⟨g9, 0, none⟩)])]) (G' := dblks ds50 :: cells g5 97 [.func (.func 43) #[] #[.pointer (some ⟨g3, 0, none⟩), .pointer (some ⟨g1, 0, none⟩)]] :: cells g3 3 [.int .i64 i47.1] :: own 40 3 j48.1 j48.2 (i47.2.flatMap encT40_) :: cells g1 28 [.slice j48.1 i47.2.length j48.2] :: cells g9 22 [.slice Aa0 a0.length ca0] :: G) rfl rfl ?_
    refine N.ib ?_
    refine N.nx ?_
    refine C.rs ?_
    refine J.r rfl rfl rfl rfl (Y.ldC 1 Try.underlying97 rfl rfl rfl rfl) ?_
    refine J.p rfl rfl rfl rfl (Y.mv rfl) ?_
    refine J.p rfl rfl rfl rfl (Y.lenS Try.underlying22 rfl) ?_
    refine J.pull 3 rfl rfl ?_
    refine J.pull 4 rfl rfl ?_
    refine J.pull 4 rfl rfl ?_
    obtain ⟨t74, hC75, H⟩ := bind_some H
    refine J.call (us := []) (cap := [.pointer (some ⟨g3, 0, none⟩), .pointer (some ⟨g1, 0, none⟩)]) rfl rfl rfl go43 (fun w hw => by have hcc := junk.calls (a0.length : Int) i47.1 i47.2 g3 g1 j48.1 j48.2 t74 hC75 w hw; exact hcc) (fun e w1 h1 => ?_)
    obtain ⟨A76, c77, rfl, hw79⟩ := h1
    refine ⟨_, _, rfl, hw79, ?_⟩
    refine J.nx ?_
    refine C.rs ?_
    refine J.r rfl rfl rfl rfl (Y.ldC 1 Try.underlying28 rfl rfl rfl rfl) ?_
    refine J.p rfl rfl rfl rfl (Y.asg rfl) ?_
    refine J.nx ?_
    refine C.ret ?_
    obtain rfl := Option.some.inj H
    exact ret_okM (cells g3 3 [.int .i64 t74.1] :: cells g1 28 [.slice A76 t74.2.length c77] :: own 40 3 A76 c77 (t74.2.flatMap encT40_) :: cells g5 97 [.func (.func 43) #[] #[.pointer (some ⟨g3, 0, none⟩), .pointer (some ⟨g1, 0, none⟩)]] :: cells g9 22 [.slice Aa0 a0.length ca0] :: G) (rvs := [.tmp 2]) (vs := [.slice A76 t74.2.length c77]) rfl ⟨RV.tmp rfl, trivial⟩ (fun w h => (St.pick [3, 0, 1, 2, 4, 5] [_, _, _, _, _, _] h rfl)) (fun w h => ⟨A76, c77, rfl, (St.pick [2] [_, _, _, _, _] h rfl)⟩)
  · exact e.elim
/-! ### salvor/scan.Clean: function 19 -/
def sClean.f (K : Nat) (a0 : List Int) : Option ((List Int)) := (sall.f a0).bind fun t5 => (sallF.f K (fun (i31 : (List Int)) (x38 : Int × Int × Int × ByteArray × ByteArray × Int × Int × Int × Int × ByteArray × Int × Int × Int × Int × Int × Int) => gd ((0 : Int) ≤ x38.2.2.2.2.2.2.2.2.2.2.2.2.2.2.1 ∧ (0 : Int) ≤ (IntKind.wrap .i64 (x38.2.2.2.2.2.2.2.2.2.2.2.2.2.2.1 + x38.2.2.2.2.2.2.2.2.2.2.2.2.2.2.2)) ∧ ((Int.toNat x38.2.2.2.2.2.2.2.2.2.2.2.2.2.2.1) ≤ (Int.toNat (IntKind.wrap .i64 (x38.2.2.2.2.2.2.2.2.2.2.2.2.2.2.1 + x38.2.2.2.2.2.2.2.2.2.2.2.2.2.2.2))) ∧ (Int.toNat (IntKind.wrap .i64 (x38.2.2.2.2.2.2.2.2.2.2.2.2.2.2.1 + x38.2.2.2.2.2.2.2.2.2.2.2.2.2.2.2))) ≤ a0.length)) (gd ((i31.length + ((a0.take (Int.toNat (IntKind.wrap .i64 (x38.2.2.2.2.2.2.2.2.2.2.2.2.2.2.1 + x38.2.2.2.2.2.2.2.2.2.2.2.2.2.2.2)))).drop (Int.toNat x38.2.2.2.2.2.2.2.2.2.2.2.2.2.2.1)).length) * 1 ≤ 140737488355328) (some (.inl (i31 ++ ((a0.take (Int.toNat (IntKind.wrap .i64 (x38.2.2.2.2.2.2.2.2.2.2.2.2.2.2.1 + x38.2.2.2.2.2.2.2.2.2.2.2.2.2.2.2)))).drop (Int.toNat x38.2.2.2.2.2.2.2.2.2.2.2.2.2.2.1))))))) ([] : List Int) a0).bind fun t36 => ysel t36 (fun i31 => some i31) ((fun (e : Empty) => none))
theorem sClean.calls {B : Nat} {w0 : World} {G : List HP} (K : Nat) (a0 : List Int) (Aa0 : Option Addr) (ca0 : Nat) (ha0 : RdG B w0 G Aa0 (a0.map (Value.int .u8))) (ka0 : a0.length ≤ ca0) (r : (List Int)) (H : sClean.f K a0 = some r) (w : World) (hw : St B w0 (G) w) :
    Calls Try.prog 19 [.slice Aa0 a0.length ca0].toArray w (fun e w' => ∃ A0 c0, e = .returned (.slice A0 r.length c0) ∧ St B w0 (own 5 1 A0 c0 (r.map (Value.int .u8)) :: G) w') := by
  unfold sClean.f at H
  refine calls_ofM (n := 20) (s := [(0, .slice Aa0 a0.length ca0)]) Try.func19 rfl rfl rfl rfl ?_ hw
  refine C.rs ?_
  refine J.box (L := [.slice Aa0 a0.length ca0]) rfl rfl rfl (fun g1 => ?_)
  refine J.p rfl rfl rfl rfl (Y.asg rfl) ?_
  refine J.nx ?_
  refine C.rs ?_
  refine J.alloc (L := [.slice none 0 0]) rfl ti22 rfl (fun g3 => ?_)
  refine J.nx ?_
  refine C.seq ?_
  refine C.rs ?_
  refine J.r rfl rfl rfl rfl (Y.ldC 1 Try.underlying22 rfl rfl rfl rfl) ?_
  obtain ⟨t5, hC6, H⟩ := bind_some H
  refine J.call (us := []) (cap := []) rfl rfl rfl go44 (fun w hw => by have hcc := sall.calls a0 Aa0 ca0 (ha0.suf [_, _, _] rfl) ka0 t5 hC6 w hw; exact hcc) (fun e w1 h1 => ?_)
  obtain ⟨g7, rfl, hw52⟩ := h1
  refine ⟨_, _, rfl, hw52, ?_⟩
  refine J.nx ?_
  refine C.blk ?_
  refine C.sub (s' := [(1, .pointer (some ⟨g1, 0, none⟩)), (2, .slice none 0 0), (3, .pointer (some ⟨g3, 0, none⟩)), (6, .func (.func 64) #[] #[.pointer (some ⟨g7, 0, none⟩)])]) (by exact ⟨rfl, rfl, rfl, rfl, trivial⟩) ?_
  have hkey : ∀ Gx, Gx = (cells g7 22 [.slice Aa0 a0.length ca0] :: cells g1 22 [.slice Aa0 a0.length ca0] :: G) → RdG B w0 Gx (some ⟨g1, 0, none⟩) [.slice Aa0 a0.length ca0] ∧ RdG B w0 Gx Aa0 (a0.map (Value.int .u8)) ∧ RdG B w0 Gx (some ⟨g7, 0, none⟩) [.slice Aa0 a0.length ca0] ∧ True := by rintro _ rfl; exact ⟨(RdG.cells 1 rfl), (ha0.suf [_, _] rfl), (RdG.cells 0 rfl), trivial⟩
  obtain ⟨hb41, hb42, hb43, _⟩ := hkey _ rfl
  obtain ⟨t36, hC37, H⟩ := bind_some H
  refine C.rangeF' (E := Empty) (Gb := cells g7 22 [.slice Aa0 a0.length ca0] :: cells g1 22 [.slice Aa0 a0.length ca0] :: G) (caps := [.pointer (some ⟨g7, 0, none⟩)]) encY124 (fun (i31 : (List Int)) (j32 : (Option Addr) × Nat) => [own 5 1 j32.1 j32.2 (i31.map (Value.int .u8)), cells g3 22 [.slice j32.1 i31.length j32.2]]) (fun (i31 : (List Int)) (j32 : (Option Addr) × Nat) => True) (fun (e : Empty) (k : Unit) => e.elim) (fun (e : Empty) (k : Unit) => e.elim) (fun (e : Empty) => e.elim) (fun (x38 : Int × Int × Int × ByteArray × ByteArray × Int × Int × Int × Int × ByteArray × Int × Int × Int × Int × Int × Int) (z51 : Nat) => [cells z51 102 [.int .i64 x38.1, .int .u64 x38.2.1, .int .i64 x38.2.2.1, .string x38.2.2.2.1, .string x38.2.2.2.2.1, .int .u64 x38.2.2.2.2.2.1, .int .i64 x38.2.2.2.2.2.2.1, .int .i64 x38.2.2.2.2.2.2.2.1, .int .i64 x38.2.2.2.2.2.2.2.2.1, .string x38.2.2.2.2.2.2.2.2.2.1, .int .i64 x38.2.2.2.2.2.2.2.2.2.2.1, .int .i64 x38.2.2.2.2.2.2.2.2.2.2.2.1, .int .i64 x38.2.2.2.2.2.2.2.2.2.2.2.2.1, .int .u32 x38.2.2.2.2.2.2.2.2.2.2.2.2.2.1, .int .i64 x38.2.2.2.2.2.2.2.2.2.2.2.2.2.2.1, .int .i64 x38.2.2.2.2.2.2.2.2.2.2.2.2.2.2.2]]) (fun (x38 : Int × Int × Int × ByteArray × ByteArray × Int × Int × Int × Int × ByteArray × Int × Int × Int × Int × Int × Int) (z51 : Nat) => [(1, .pointer (some ⟨g1, 0, none⟩)), (2, .slice none 0 0), (3, .pointer (some ⟨g3, 0, none⟩)), (4, .pointer (some ⟨z51, 0, none⟩)), (6, .func (.func 64) #[] #[.pointer (some ⟨g7, 0, none⟩)]), (7, .agg #[.int .i64 x38.1, .int .u64 x38.2.1, .int .i64 x38.2.2.1, .string x38.2.2.2.1, .string x38.2.2.2.2.1, .int .u64 x38.2.2.2.2.2.1, .int .i64 x38.2.2.2.2.2.2.1, .int .i64 x38.2.2.2.2.2.2.2.1, .int .i64 x38.2.2.2.2.2.2.2.2.1, .string x38.2.2.2.2.2.2.2.2.2.1, .int .i64 x38.2.2.2.2.2.2.2.2.2.2.1, .int .i64 x38.2.2.2.2.2.2.2.2.2.2.2.1, .int .i64 x38.2.2.2.2.2.2.2.2.2.2.2.2.1, .int .u32 x38.2.2.2.2.2.2.2.2.2.2.2.2.2.1, .int .i64 x38.2.2.2.2.2.2.2.2.2.2.2.2.2.2.1, .int .i64 x38.2.2.2.2.2.2.2.2.2.2.2.2.2.2.2])]) _ ([] : List Int) (none, 0) t36 rfl go64 (fun _ => rfl) (by rfl) (by decide) (pf_of rfl) trivial (fun w h => (St.pick [4, 0, 2, 1, 3] [_, _, _, _, _] (h.nilOwn 5 1) rfl)) (fun Yy yv hy w hw => sallF.calls K _ _ a0 Yy yv g7 Aa0 ca0 hy (ha0.suf [_, _] rfl) ka0 (RdG.cells 0 rfl) _ hC37 w hw) (fun l i31 j32 x38 L39 _ => ?_) (fun l i31 j32 x38 z51 o L39 G hGG H _ hl40 => ?_) (fun ds34 i31 j32 hr _ => ?_) (fun ds34 e k hr hx => ?_)
  · refine C.sub (s' := [(1, .pointer (some ⟨g1, 0, none⟩)), (2, .slice none 0 0), (3, .pointer (some ⟨g3, 0, none⟩)), (6, .func (.func 64) #[] #[.pointer (some ⟨g7, 0, none⟩)]), (7, .agg #[.int .i64 x38.1, .int .u64 x38.2.1, .int .i64 x38.2.2.1, .string x38.2.2.2.1, .string x38.2.2.2.2.1, .int .u64 x38.2.2.2.2.2.1, .int .i64 x38.2.2.2.2.2.2.1, .int .i64 x38.2.2.2.2.2.2.2.1, .int .i64 x38.2.2.2.2.2.2.2.2.1, .string x38.2.2.2.2.2.2.2.2.2.1, .int .i64 x38.2.2.2.2.2.2.2.2.2.2.1, .int .i64 x38.2.2.2.2.2.2.2.2.2.2.2.1, .int .i64 x38.2.2.2.2.2.2.2.2.2.2.2.2.1, .int .u32 x38.2.2.2.2.2.2.2.2.2.2.2.2.2.1, .int .i64 x38.2.2.2.2.2.2.2.2.2.2.2.2.2.2.1, .int .i64 x38.2.2.2.2.2.2.2.2.2.2.2.2.2.2.2])]) (by exact ⟨rfl, rfl, rfl, rfl, rfl, trivial⟩) ?_
    refine C.reg ?_
    refine J.alloc (L := [.int .i64 0, .int .u64 0, .int .i64 0, .string ByteArray.empty, .string ByteArray.empty, .int .u64 0, .int .i64 0, .int .i64 0, .int .i64 0, .string ByteArray.empty, .int .i64 0, .int .i64 0, .int .i64 0, .int .u32 0, .int .i64 0, .int .i64 0]) rfl ti102 rfl (fun g44 => ?_)
    refine J.stA (us := [.int .i64 x38.1, .int .u64 x38.2.1, .int .i64 x38.2.2.1, .string x38.2.2.2.1, .string x38.2.2.2.2.1, .int .u64 x38.2.2.2.2.2.1, .int .i64 x38.2.2.2.2.2.2.1, .int .i64 x38.2.2.2.2.2.2.2.1, .int .i64 x38.2.2.2.2.2.2.2.2.1, .string x38.2.2.2.2.2.2.2.2.2.1, .int .i64 x38.2.2.2.2.2.2.2.2.2.2.1, .int .i64 x38.2.2.2.2.2.2.2.2.2.2.2.1, .int .i64 x38.2.2.2.2.2.2.2.2.2.2.2.2.1, .int .u32 x38.2.2.2.2.2.2.2.2.2.2.2.2.2.1, .int .i64 x38.2.2.2.2.2.2.2.2.2.2.2.2.2.2.1, .int .i64 x38.2.2.2.2.2.2.2.2.2.2.2.2.2.2.2]) (L' := [.int .i64 x38.1, .int .u64 x38.2.1, .int .i64 x38.2.2.1, .string x38.2.2.2.1, .string x38.2.2.2.2.1, .int .u64 x38.2.2.2.2.2.1, .int .i64 x38.2.2.2.2.2.2.1, .int .i64 x38.2.2.2.2.2.2.2.1, .int .i64 x38.2.2.2.2.2.2.2.2.1, .string x38.2.2.2.2.2.2.2.2.2.1, .int .i64 x38.2.2.2.2.2.2.2.2.2.2.1, .int .i64 x38.2.2.2.2.2.2.2.2.2.2.2.1, .int .i64 x38.2.2.2.2.2.2.2.2.2.2.2.2.1, .int .u32 x38.2.2.2.2.2.2.2.2.2.2.2.2.2.1, .int .i64 x38.2.2.2.2.2.2.2.2.2.2.2.2.2.2.1, .int .i64 x38.2.2.2.2.2.2.2.2.2.2.2.2.2.2.2]) ti102 rfl rfl rfl rfl rfl rfl ?_
    refine J.nil ?_
    exact N.asg g44 (by exact ⟨rfl, rfl, rfl, rfl, rfl, rfl, trivial⟩) (fun w h => h)
  · obtain ⟨g44, hz⟩ := (⟨z51, rfl⟩ : ∃ g, g = z51)
    subst hz
    replace hb41 := RdG.suf hb41 L39 hGG
    replace hb42 := RdG.suf hb42 L39 hGG
    replace hb43 := RdG.suf hb43 L39 hGG
    refine C.at (s' := [(1, .pointer (some ⟨g1, 0, none⟩)), (2, .slice none 0 0), (3, .pointer (some ⟨g3, 0, none⟩)), (4, .pointer (some ⟨g44, 0, none⟩)), (6, .func (.func 64) #[] #[.pointer (some ⟨g7, 0, none⟩)]), (7, .agg #[.int .i64 x38.1, .int .u64 x38.2.1, .int .i64 x38.2.2.1, .string x38.2.2.2.1, .string x38.2.2.2.2.1, .int .u64 x38.2.2.2.2.2.1, .int .i64 x38.2.2.2.2.2.2.1, .int .i64 x38.2.2.2.2.2.2.2.1, .int .i64 x38.2.2.2.2.2.2.2.2.1, .string x38.2.2.2.2.2.2.2.2.2.1, .int .i64 x38.2.2.2.2.2.2.2.2.2.2.1, .int .i64 x38.2.2.2.2.2.2.2.2.2.2.2.1, .int .i64 x38.2.2.2.2.2.2.2.2.2.2.2.2.1, .int .u32 x38.2.2.2.2.2.2.2.2.2.2.2.2.2.1, .int .i64 x38.2.2.2.2.2.2.2.2.2.2.2.2.2.2.1, .int .i64 x38.2.2.2.2.2.2.2.2.2.2.2.2.2.2.2])]) (G' := cells g44 102 [.int .i64 x38.1, .int .u64 x38.2.1, .int .i64 x38.2.2.1, .string x38.2.2.2.1, .string x38.2.2.2.2.1, .int .u64 x38.2.2.2.2.2.1, .int .i64 x38.2.2.2.2.2.2.1, .int .i64 x38.2.2.2.2.2.2.2.1, .int .i64 x38.2.2.2.2.2.2.2.2.1, .string x38.2.2.2.2.2.2.2.2.2.1, .int .i64 x38.2.2.2.2.2.2.2.2.2.2.1, .int .i64 x38.2.2.2.2.2.2.2.2.2.2.2.1, .int .i64 x38.2.2.2.2.2.2.2.2.2.2.2.2.1, .int .u32 x38.2.2.2.2.2.2.2.2.2.2.2.2.2.1, .int .i64 x38.2.2.2.2.2.2.2.2.2.2.2.2.2.2.1, .int .i64 x38.2.2.2.2.2.2.2.2.2.2.2.2.2.2.2] :: own 5 1 j32.1 j32.2 (i31.map (Value.int .u8)) :: cells g3 22 [.slice j32.1 i31.length j32.2] :: G) rfl rfl ?_
    refine C.blk ?_
    refine C.imp (G' := own 5 1 j32.1 j32.2 (i31.map (Value.int .u8)) :: cells g3 22 [.slice j32.1 i31.length j32.2] :: cells g44 102 [.int .i64 x38.1, .int .u64 x38.2.1, .int .i64 x38.2.2.1, .string x38.2.2.2.1, .string x38.2.2.2.2.1, .int .u64 x38.2.2.2.2.2.1, .int .i64 x38.2.2.2.2.2.2.1, .int .i64 x38.2.2.2.2.2.2.2.1, .int .i64 x38.2.2.2.2.2.2.2.2.1, .string x38.2.2.2.2.2.2.2.2.2.1, .int .i64 x38.2.2.2.2.2.2.2.2.2.2.1, .int .i64 x38.2.2.2.2.2.2.2.2.2.2.2.1, .int .i64 x38.2.2.2.2.2.2.2.2.2.2.2.2.1, .int .u32 x38.2.2.2.2.2.2.2.2.2.2.2.2.2.1, .int .i64 x38.2.2.2.2.2.2.2.2.2.2.2.2.2.2.1, .int .i64 x38.2.2.2.2.2.2.2.2.2.2.2.2.2.2.2] :: G) (fun w h => (St.pick [1, 2, 0] [_, _, _] h rfl)) ?_
    refine C.drawn (fuel := 12) (ls := [false, false, false, false, false, false, false, false, false, false, false, false]) [] (cells g44 102 [.int .i64 x38.1, .int .u64 x38.2.1, .int .i64 x38.2.2.1, .string x38.2.2.2.1, .string x38.2.2.2.2.1, .int .u64 x38.2.2.2.2.2.1, .int .i64 x38.2.2.2.2.2.2.1, .int .i64 x38.2.2.2.2.2.2.2.1, .int .i64 x38.2.2.2.2.2.2.2.2.1, .string x38.2.2.2.2.2.2.2.2.2.1, .int .i64 x38.2.2.2.2.2.2.2.2.2.2.1, .int .i64 x38.2.2.2.2.2.2.2.2.2.2.2.1, .int .i64 x38.2.2.2.2.2.2.2.2.2.2.2.2.1, .int .u32 x38.2.2.2.2.2.2.2.2.2.2.2.2.2.1, .int .i64 x38.2.2.2.2.2.2.2.2.2.2.2.2.2.2.1, .int .i64 x38.2.2.2.2.2.2.2.2.2.2.2.2.2.2.2] :: G) mx rfl rfl ?_
    refine D.r (ls' := [false, true, false, false, false, false, false, false, false, false, false, false]) 1 1 2 rfl rfl rfl rfl (by kernel_rfl) (by kernel_rfl) rfl rfl (Y.ldR Try.underlying22 rfl rfl (hb41.suf [_] rfl) rfl) ?_
    refine D.p (ls' := [false, true, true, false, false, false, false, false, false, false, false, false]) 2 rfl rfl rfl rfl (by kernel_rfl) rfl (Y.fa0 fa102_1 rfl rfl) ?_
    refine D.r (ls' := [false, true, true, true, false, false, false, false, false, false, false, false]) 3 1 2 rfl rfl rfl rfl (by kernel_rfl) (by kernel_rfl) rfl rfl (Y.ldC 0 Try.underlying3 rfl rfl rfl rfl) ?_
    refine D.p (ls' := [false, true, true, true, true, false, false, false, false, false, false, false]) 4 rfl rfl rfl rfl (by kernel_rfl) rfl (Y.fa0 fa102_1 rfl rfl) ?_
    refine D.r (ls' := [false, true, true, true, true, true, false, false, false, false, false, false]) 5 1 2 rfl rfl rfl rfl (by kernel_rfl) (by kernel_rfl) rfl rfl (Y.ldC 0 Try.underlying3 rfl rfl rfl rfl) ?_
    refine D.p (ls' := [false, true, true, true, true, true, true, false, false, false, false, false]) 6 rfl rfl rfl rfl (by kernel_rfl) rfl (Y.fa0 fa102_2 rfl rfl) ?_
    refine D.r (ls' := [false, true, true, true, true, true, true, true, false, false, false, false]) 7 1 2 rfl rfl rfl rfl (by kernel_rfl) (by kernel_rfl) rfl rfl (Y.ldC 0 Try.underlying3 rfl rfl rfl rfl) ?_
    refine D.p (ls' := [false, true, true, true, true, true, true, true, true, false, false, false]) 8 rfl rfl rfl rfl (by kernel_rfl) rfl (Y.bin rfl rfl rfl) ?_
    obtain ⟨p46, H⟩ := gd_some H
    refine D.p (ls' := [false, true, true, true, true, true, true, true, true, true, false, false]) 9 rfl rfl rfl rfl (by kernel_rfl) rfl (Y.slcL Try.underlying22 ti5 rfl (bnd.yes rfl p46.1) (bnd.yes rfl p46.2.1) p46.2.2 ka0) ?_
    refine D.any [0] (by kernel_rfl) rfl ⟨?_, trivial⟩
    refine DW.j (ls' := [true, true, true, true, true, true, true, true, true, true, false, false]) rfl rfl ?_
    refine J.r rfl rfl rfl rfl (Y.ldC 1 Try.underlying22 rfl rfl rfl rfl) ?_
    refine J.nil ?_
    refine D.backK 2 rfl ?_
    refine D.any [10] (by kernel_rfl) rfl ⟨?_, trivial⟩
    refine DW.j (ls' := [true, true, true, true, true, true, true, true, true, true, true, false]) rfl rfl ?_
    obtain ⟨p49, H⟩ := gd_some H
    refine J.appL (enc := (Value.int .u8)) (xs := i31) (ys := ((a0.take (Int.toNat (IntKind.wrap .i64 (x38.2.2.2.2.2.2.2.2.2.2.2.2.2.2.1 + x38.2.2.2.2.2.2.2.2.2.2.2.2.2.2.2)))).drop (Int.toNat x38.2.2.2.2.2.2.2.2.2.2.2.2.2.2.1))) rfl Try.underlying22 ti5 rfl (by decide) rfl rfl (fun _ => rfl) (RdG.subL (l := (Int.toNat x38.2.2.2.2.2.2.2.2.2.2.2.2.2.2.1)) (h := (Int.toNat (IntKind.wrap .i64 (x38.2.2.2.2.2.2.2.2.2.2.2.2.2.2.1 + x38.2.2.2.2.2.2.2.2.2.2.2.2.2.2.2)))) (hb42.suf [_, _, _] rfl) ka0) p49 (fun A47 c48 => ?_)
    refine J.nil ?_
    refine D.backK 2 rfl ?_
    refine D.any [11] (by kernel_rfl) rfl ⟨?_, trivial⟩
    refine DW.j (ls' := [true, true, true, true, true, true, true, true, true, true, true, true]) rfl rfl ?_
    refine J.pull 1 rfl rfl ?_
    refine J.stE (L' := [.slice A47 (i31 ++ ((a0.take (Int.toNat (IntKind.wrap .i64 (x38.2.2.2.2.2.2.2.2.2.2.2.2.2.2.1 + x38.2.2.2.2.2.2.2.2.2.2.2.2.2.2.2)))).drop (Int.toNat x38.2.2.2.2.2.2.2.2.2.2.2.2.2.2.1))).length c48]) ti22 rfl rfl rfl rfl rfl ?_
    refine J.nil ?_
    refine D.backK 2 rfl ?_
    refine D.nil (by kernel_rfl) ?_
    refine N.ib ?_
    obtain rfl := Option.some.inj H
    exact N.round (i31 ++ ((a0.take (Int.toNat (IntKind.wrap .i64 (x38.2.2.2.2.2.2.2.2.2.2.2.2.2.2.1 + x38.2.2.2.2.2.2.2.2.2.2.2.2.2.2.2)))).drop (Int.toNat x38.2.2.2.2.2.2.2.2.2.2.2.2.2.2.1))) (A47, c48) rfl trivial (by exact fun w h => (St.pick [1, 0] [_, _, _] h rfl))
  · subst hr
    replace H := ysel_inl H
    refine N.at (s' := [(1, .pointer (some ⟨g1, 0, none⟩)), (2, .slice none 0 0), (3, .pointer (some ⟨g3, 0, none⟩)), (6, .func (.func 64) #[] #[.pointer (some ⟨g7, 0, none⟩)])]) (G' := dblks ds34 :: own 5 1 j32.1 j32.2 (i31.map (Value.int .u8)) :: cells g3 22 [.slice j32.1 i31.length j32.2] :: cells g7 22 [.slice Aa0 a0.length ca0] :: cells g1 22 [.slice Aa0 a0.length ca0] :: G) rfl rfl ?_
    refine N.ib ?_
    refine N.nx ?_
    refine C.rs ?_
    refine J.r rfl rfl rfl rfl (Y.ldC 2 Try.underlying22 rfl rfl rfl rfl) ?_
    refine J.p rfl rfl rfl rfl (Y.asg rfl) ?_
    refine J.nx ?_
    refine C.ret ?_
    obtain rfl := Option.some.inj H
    exact ret_okM (own 5 1 j32.1 j32.2 (i31.map (Value.int .u8)) :: cells g3 22 [.slice j32.1 i31.length j32.2] :: cells g7 22 [.slice Aa0 a0.length ca0] :: cells g1 22 [.slice Aa0 a0.length ca0] :: G) (rvs := [.tmp 2]) (vs := [.slice j32.1 i31.length j32.2]) rfl ⟨RV.tmp rfl, trivial⟩ (fun w h => h) (fun w h => ⟨j32.1, j32.2, rfl, (St.pick [0] [_, _, _, _] h rfl)⟩)
  · exact e.elim
/-! ### salvor/scan.Frames$1: function 54 -/
def sFramesF.f {S E : Type} (K : Nat) (step : S → (Int × Int × Int × Int × ByteArray × ByteArray × Int × Int × Int × Int × ByteArray × Int × Int × Int × Int) → Option (S ⊕ E)) (σ : S) (a1_0 : List Int) : Option ((S ⊕ E)) := (sall.f a1_0).bind fun t3 => (sallF.f K (fun (i17 : S) (x24 : Int × Int × Int × ByteArray × ByteArray × Int × Int × Int × Int × ByteArray × Int × Int × Int × Int × Int × Int) => (step i17 (x24.2.2.2.2.2.2.2.2.2.2.2.2.2.2.1, x24.1, x24.2.1, x24.2.2.1, x24.2.2.2.1, x24.2.2.2.2.1, x24.2.2.2.2.2.1, x24.2.2.2.2.2.2.1, x24.2.2.2.2.2.2.2.1, x24.2.2.2.2.2.2.2.2.1, x24.2.2.2.2.2.2.2.2.2.1, x24.2.2.2.2.2.2.2.2.2.2.1, x24.2.2.2.2.2.2.2.2.2.2.2.1, x24.2.2.2.2.2.2.2.2.2.2.2.2.1, x24.2.2.2.2.2.2.2.2.2.2.2.2.2.1)).bind fun o33 => ysel o33 (fun σ34 => some (.inl σ34)) (fun e35 => some (.inr e35))) σ a1_0).bind fun t22 => ysel t22 (fun i17 => some (.inl i17)) (fun e20 => some (.inr e20))
theorem sFramesF.calls {S E : Type} {B : Nat} {w0 : World} {G : List HP} (K : Nat) (step : S → (Int × Int × Int × Int × ByteArray × ByteArray × Int × Int × Int × Int × ByteArray × Int × Int × Int × Int) → Option (S ⊕ E)) (σ : S) (a1_0 : List Int) (Yy : S ⊕ E → HP) (a0 : Value) (ga1 : Nat) (Aa1_0 : Option Addr) (ca1_0 : Nat) (hy : YieldOk Try.prog B w0 G a0 encY118 Yy step) (ha1_0 : RdG B w0 G Aa1_0 (a1_0.map (Value.int .u8))) (ka1_0 : a1_0.length ≤ ca1_0) (ha1 : RdG B w0 G (some ⟨ga1, 0, none⟩) [.slice Aa1_0 a1_0.length ca1_0]) (r : (S ⊕ E)) (H : sFramesF.f K step σ a1_0 = some r) (w : World) (hw : St B w0 (Yy (.inl σ) :: G) w) :
    Calls Try.prog 54 [a0, .pointer (some ⟨ga1, 0, none⟩)].toArray w (fun e w' => e = .returned (.tuple #[]) ∧ St B w0 (Yy r :: G) w') := by
  unfold sFramesF.f at H
  refine calls_ofM (n := 14) (s := [(0, a0), (1, .pointer (some ⟨ga1, 0, none⟩))]) Try.func54 rfl rfl rfl rfl ?_ hw
  refine C.rs ?_
  refine J.box (L := [a0]) rfl rfl hy.1 (fun g1 => ?_)
  refine J.nx ?_
  refine C.rs ?_
  refine J.r rfl rfl rfl rfl (Y.ldR Try.underlying22 rfl rfl (ha1.suf [_, _, _] rfl) rfl) ?_
  obtain ⟨t3, hC4, H⟩ := bind_some H
  refine J.call (us := []) (cap := []) rfl rfl rfl go44 (fun w hw => by have hcc := sall.calls a1_0 Aa1_0 ca1_0 (ha1_0.suf [_, _, _] rfl) ka1_0 t3 hC4 w hw; exact hcc) (fun e w1 h1 => ?_)
  obtain ⟨g5, rfl, hw38⟩ := h1
  refine ⟨_, _, rfl, hw38, ?_⟩
  refine J.nx ?_
  refine C.blk ?_
  refine C.sub (s' := [(2, .pointer (some ⟨g1, 0, none⟩)), (5, .func (.func 64) #[] #[.pointer (some ⟨g5, 0, none⟩)])]) (by exact ⟨rfl, rfl, trivial⟩) ?_
  have hkey : ∀ Gx, Gx = (cells g5 22 [.slice Aa1_0 a1_0.length ca1_0] :: cells g1 118 [a0] :: G) → RdG B w0 Gx (some ⟨g1, 0, none⟩) [a0] ∧ RdG B w0 Gx (some ⟨g5, 0, none⟩) [.slice Aa1_0 a1_0.length ca1_0] ∧ RdG B w0 Gx Aa1_0 (a1_0.map (Value.int .u8)) ∧ True := by rintro _ rfl; exact ⟨(RdG.cells 1 rfl), (RdG.cells 0 rfl), (ha1_0.suf [_, _] rfl), trivial⟩
  obtain ⟨hb27, hb28, hb29, _⟩ := hkey _ rfl
  obtain ⟨t22, hC23, H⟩ := bind_some H
  refine C.rangeF' (E := E) (Gb := cells g5 22 [.slice Aa1_0 a1_0.length ca1_0] :: cells g1 118 [a0] :: G) (caps := [.pointer (some ⟨g5, 0, none⟩)]) encY124 (fun (i17 : S) (j18 : Unit) => [Yy (.inl i17)]) (fun (i17 : S) (j18 : Unit) => True) (fun (e20 : E) (k21 : Unit) => [Yy (.inr e20)]) (fun (e20 : E) (k21 : Unit) => True) (fun (_ : E) => .ret) (fun (x24 : Int × Int × Int × ByteArray × ByteArray × Int × Int × Int × Int × ByteArray × Int × Int × Int × Int × Int × Int) (z37 : Nat) => [cells z37 102 [.int .i64 x24.1, .int .u64 x24.2.1, .int .i64 x24.2.2.1, .string x24.2.2.2.1, .string x24.2.2.2.2.1, .int .u64 x24.2.2.2.2.2.1, .int .i64 x24.2.2.2.2.2.2.1, .int .i64 x24.2.2.2.2.2.2.2.1, .int .i64 x24.2.2.2.2.2.2.2.2.1, .string x24.2.2.2.2.2.2.2.2.2.1, .int .i64 x24.2.2.2.2.2.2.2.2.2.2.1, .int .i64 x24.2.2.2.2.2.2.2.2.2.2.2.1, .int .i64 x24.2.2.2.2.2.2.2.2.2.2.2.2.1, .int .u32 x24.2.2.2.2.2.2.2.2.2.2.2.2.2.1, .int .i64 x24.2.2.2.2.2.2.2.2.2.2.2.2.2.2.1, .int .i64 x24.2.2.2.2.2.2.2.2.2.2.2.2.2.2.2]]) (fun (x24 : Int × Int × Int × ByteArray × ByteArray × Int × Int × Int × Int × ByteArray × Int × Int × Int × Int × Int × Int) (z37 : Nat) => [(2, .pointer (some ⟨g1, 0, none⟩)), (3, .pointer (some ⟨z37, 0, none⟩)), (5, .func (.func 64) #[] #[.pointer (some ⟨g5, 0, none⟩)]), (6, .agg #[.int .i64 x24.1, .int .u64 x24.2.1, .int .i64 x24.2.2.1, .string x24.2.2.2.1, .string x24.2.2.2.2.1, .int .u64 x24.2.2.2.2.2.1, .int .i64 x24.2.2.2.2.2.2.1, .int .i64 x24.2.2.2.2.2.2.2.1, .int .i64 x24.2.2.2.2.2.2.2.2.1, .string x24.2.2.2.2.2.2.2.2.2.1, .int .i64 x24.2.2.2.2.2.2.2.2.2.2.1, .int .i64 x24.2.2.2.2.2.2.2.2.2.2.2.1, .int .i64 x24.2.2.2.2.2.2.2.2.2.2.2.2.1, .int .u32 x24.2.2.2.2.2.2.2.2.2.2.2.2.2.1, .int .i64 x24.2.2.2.2.2.2.2.2.2.2.2.2.2.2.1, .int .i64 x24.2.2.2.2.2.2.2.2.2.2.2.2.2.2.2])]) _ σ () t22 rfl go64 (fun _ => rfl) (by rfl) (by decide) (pf_of rfl) trivial (fun w h => (St.pick [2, 3, 0, 1] [_, _, _, _] h rfl)) (fun Yy yv hy w hw => sallF.calls K _ _ a1_0 Yy yv g5 Aa1_0 ca1_0 hy (ha1_0.suf [_, _] rfl) ka1_0 (RdG.cells 0 rfl) _ hC23 w hw) (fun l i17 j18 x24 L25 _ => ?_) (fun l i17 j18 x24 z37 o L25 G hGG H _ hl26 => ?_) (fun ds19 i17 j18 hr _ => ?_) (fun ds19 e20 k21 hr hx => ?_)
  · refine C.sub (s' := [(2, .pointer (some ⟨g1, 0, none⟩)), (5, .func (.func 64) #[] #[.pointer (some ⟨g5, 0, none⟩)]), (6, .agg #[.int .i64 x24.1, .int .u64 x24.2.1, .int .i64 x24.2.2.1, .string x24.2.2.2.1, .string x24.2.2.2.2.1, .int .u64 x24.2.2.2.2.2.1, .int .i64 x24.2.2.2.2.2.2.1, .int .i64 x24.2.2.2.2.2.2.2.1, .int .i64 x24.2.2.2.2.2.2.2.2.1, .string x24.2.2.2.2.2.2.2.2.2.1, .int .i64 x24.2.2.2.2.2.2.2.2.2.2.1, .int .i64 x24.2.2.2.2.2.2.2.2.2.2.2.1, .int .i64 x24.2.2.2.2.2.2.2.2.2.2.2.2.1, .int .u32 x24.2.2.2.2.2.2.2.2.2.2.2.2.2.1, .int .i64 x24.2.2.2.2.2.2.2.2.2.2.2.2.2.2.1, .int .i64 x24.2.2.2.2.2.2.2.2.2.2.2.2.2.2.2])]) (by exact ⟨rfl, rfl, rfl, trivial⟩) ?_
    refine C.reg ?_
    refine J.alloc (L := [.int .i64 0, .int .u64 0, .int .i64 0, .string ByteArray.empty, .string ByteArray.empty, .int .u64 0, .int .i64 0, .int .i64 0, .int .i64 0, .string ByteArray.empty, .int .i64 0, .int .i64 0, .int .i64 0, .int .u32 0, .int .i64 0, .int .i64 0]) rfl ti102 rfl (fun g31 => ?_)
    refine J.stA (us := [.int .i64 x24.1, .int .u64 x24.2.1, .int .i64 x24.2.2.1, .string x24.2.2.2.1, .string x24.2.2.2.2.1, .int .u64 x24.2.2.2.2.2.1, .int .i64 x24.2.2.2.2.2.2.1, .int .i64 x24.2.2.2.2.2.2.2.1, .int .i64 x24.2.2.2.2.2.2.2.2.1, .string x24.2.2.2.2.2.2.2.2.2.1, .int .i64 x24.2.2.2.2.2.2.2.2.2.2.1, .int .i64 x24.2.2.2.2.2.2.2.2.2.2.2.1, .int .i64 x24.2.2.2.2.2.2.2.2.2.2.2.2.1, .int .u32 x24.2.2.2.2.2.2.2.2.2.2.2.2.2.1, .int .i64 x24.2.2.2.2.2.2.2.2.2.2.2.2.2.2.1, .int .i64 x24.2.2.2.2.2.2.2.2.2.2.2.2.2.2.2]) (L' := [.int .i64 x24.1, .int .u64 x24.2.1, .int .i64 x24.2.2.1, .string x24.2.2.2.1, .string x24.2.2.2.2.1, .int .u64 x24.2.2.2.2.2.1, .int .i64 x24.2.2.2.2.2.2.1, .int .i64 x24.2.2.2.2.2.2.2.1, .int .i64 x24.2.2.2.2.2.2.2.2.1, .string x24.2.2.2.2.2.2.2.2.2.1, .int .i64 x24.2.2.2.2.2.2.2.2.2.2.1, .int .i64 x24.2.2.2.2.2.2.2.2.2.2.2.1, .int .i64 x24.2.2.2.2.2.2.2.2.2.2.2.2.1, .int .u32 x24.2.2.2.2.2.2.2.2.2.2.2.2.2.1, .int .i64 x24.2.2.2.2.2.2.2.2.2.2.2.2.2.2.1, .int .i64 x24.2.2.2.2.2.2.2.2.2.2.2.2.2.2.2]) ti102 rfl rfl rfl rfl rfl rfl ?_
    refine J.nil ?_
    exact N.asg g31 (by exact ⟨rfl, rfl, rfl, rfl, trivial⟩) (fun w h => h)
  · obtain ⟨g31, hz⟩ := (⟨z37, rfl⟩ : ∃ g, g = z37)
    subst hz
    replace hb27 := RdG.suf hb27 L25 hGG
    replace hb28 := RdG.suf hb28 L25 hGG
    replace hb29 := RdG.suf hb29 L25 hGG
    have hy30 := YieldOk.suf (YieldOk.suf hy [cells g5 22 [.slice Aa1_0 a1_0.length ca1_0], cells g1 118 [a0]] rfl) L25 hGG
    refine C.at (s' := [(2, .pointer (some ⟨g1, 0, none⟩)), (3, .pointer (some ⟨g31, 0, none⟩)), (5, .func (.func 64) #[] #[.pointer (some ⟨g5, 0, none⟩)]), (6, .agg #[.int .i64 x24.1, .int .u64 x24.2.1, .int .i64 x24.2.2.1, .string x24.2.2.2.1, .string x24.2.2.2.2.1, .int .u64 x24.2.2.2.2.2.1, .int .i64 x24.2.2.2.2.2.2.1, .int .i64 x24.2.2.2.2.2.2.2.1, .int .i64 x24.2.2.2.2.2.2.2.2.1, .string x24.2.2.2.2.2.2.2.2.2.1, .int .i64 x24.2.2.2.2.2.2.2.2.2.2.1, .int .i64 x24.2.2.2.2.2.2.2.2.2.2.2.1, .int .i64 x24.2.2.2.2.2.2.2.2.2.2.2.2.1, .int .u32 x24.2.2.2.2.2.2.2.2.2.2.2.2.2.1, .int .i64 x24.2.2.2.2.2.2.2.2.2.2.2.2.2.2.1, .int .i64 x24.2.2.2.2.2.2.2.2.2.2.2.2.2.2.2])]) (G' := cells g31 102 [.int .i64 x24.1, .int .u64 x24.2.1, .int .i64 x24.2.2.1, .string x24.2.2.2.1, .string x24.2.2.2.2.1, .int .u64 x24.2.2.2.2.2.1, .int .i64 x24.2.2.2.2.2.2.1, .int .i64 x24.2.2.2.2.2.2.2.1, .int .i64 x24.2.2.2.2.2.2.2.2.1, .string x24.2.2.2.2.2.2.2.2.2.1, .int .i64 x24.2.2.2.2.2.2.2.2.2.2.1, .int .i64 x24.2.2.2.2.2.2.2.2.2.2.2.1, .int .i64 x24.2.2.2.2.2.2.2.2.2.2.2.2.1, .int .u32 x24.2.2.2.2.2.2.2.2.2.2.2.2.2.1, .int .i64 x24.2.2.2.2.2.2.2.2.2.2.2.2.2.2.1, .int .i64 x24.2.2.2.2.2.2.2.2.2.2.2.2.2.2.2] :: Yy (.inl i17) :: G) rfl rfl ?_
    refine C.blk ?_
    refine C.rs ?_
    refine J.r rfl rfl rfl rfl (Y.ldR Try.underlying118 rfl rfl (hb27.suf [_, _] rfl) rfl) ?_
    refine J.p rfl rfl rfl rfl (Y.fa0 fa102_1 rfl rfl) ?_
    refine J.r rfl rfl rfl rfl (Y.ldC 0 Try.underlying3 rfl rfl rfl rfl) ?_
    refine J.p rfl rfl rfl rfl (Y.fa0 fa102_0 rfl rfl) ?_
    refine J.r rfl rfl rfl rfl (Y.ldCA (us := [.int .i64 x24.1, .int .u64 x24.2.1, .int .i64 x24.2.2.1, .string x24.2.2.2.1, .string x24.2.2.2.2.1, .int .u64 x24.2.2.2.2.2.1, .int .i64 x24.2.2.2.2.2.2.1, .int .i64 x24.2.2.2.2.2.2.2.1, .int .i64 x24.2.2.2.2.2.2.2.2.1, .string x24.2.2.2.2.2.2.2.2.2.1, .int .i64 x24.2.2.2.2.2.2.2.2.2.2.1, .int .i64 x24.2.2.2.2.2.2.2.2.2.2.2.1, .int .i64 x24.2.2.2.2.2.2.2.2.2.2.2.2.1, .int .u32 x24.2.2.2.2.2.2.2.2.2.2.2.2.2.1]) 0 Try.underlying53 rfl ti53 rfl rfl rfl rfl) ?_
    refine J.pull 1 rfl rfl ?_
    obtain ⟨o33, hC36, H⟩ := bind_some H
    refine J.yield (σ := i17) (x := (x24.2.2.2.2.2.2.2.2.2.2.2.2.2.2.1, x24.1, x24.2.1, x24.2.2.1, x24.2.2.2.1, x24.2.2.2.2.1, x24.2.2.2.2.2.1, x24.2.2.2.2.2.2.1, x24.2.2.2.2.2.2.2.1, x24.2.2.2.2.2.2.2.2.1, x24.2.2.2.2.2.2.2.2.2.1, x24.2.2.2.2.2.2.2.2.2.2.1, x24.2.2.2.2.2.2.2.2.2.2.2.1, x24.2.2.2.2.2.2.2.2.2.2.2.2.1, x24.2.2.2.2.2.2.2.2.2.2.2.2.2.1)) rfl hy30 hC36 rfl rfl [_] rfl (fun σ34 ho => ?_) (fun e35 ho => ?_)
    · subst ho
      replace H := ysel_inl H
      refine J.imp (G' := Yy (.inl σ34) :: cells g31 102 [.int .i64 x24.1, .int .u64 x24.2.1, .int .i64 x24.2.2.1, .string x24.2.2.2.1, .string x24.2.2.2.2.1, .int .u64 x24.2.2.2.2.2.1, .int .i64 x24.2.2.2.2.2.2.1, .int .i64 x24.2.2.2.2.2.2.2.1, .int .i64 x24.2.2.2.2.2.2.2.2.1, .string x24.2.2.2.2.2.2.2.2.2.1, .int .i64 x24.2.2.2.2.2.2.2.2.2.2.1, .int .i64 x24.2.2.2.2.2.2.2.2.2.2.2.1, .int .i64 x24.2.2.2.2.2.2.2.2.2.2.2.2.1, .int .u32 x24.2.2.2.2.2.2.2.2.2.2.2.2.2.1, .int .i64 x24.2.2.2.2.2.2.2.2.2.2.2.2.2.2.1, .int .i64 x24.2.2.2.2.2.2.2.2.2.2.2.2.2.2.2] :: G) (fun w h => h) ?_
      refine J.p rfl rfl rfl rfl (Y.notb rfl) ?_
      refine J.nx ?_
      refine C.condF rfl ?_
      refine C.skip ?_
      refine N.ib ?_
      obtain rfl := Option.some.inj H
      exact N.round σ34 () rfl trivial (by exact fun w h => (St.pick [0] [_, _] h rfl))
    · subst ho
      replace H := ysel_inr H
      refine J.imp (G' := Yy (.inr e35) :: cells g31 102 [.int .i64 x24.1, .int .u64 x24.2.1, .int .i64 x24.2.2.1, .string x24.2.2.2.1, .string x24.2.2.2.2.1, .int .u64 x24.2.2.2.2.2.1, .int .i64 x24.2.2.2.2.2.2.1, .int .i64 x24.2.2.2.2.2.2.2.1, .int .i64 x24.2.2.2.2.2.2.2.2.1, .string x24.2.2.2.2.2.2.2.2.2.1, .int .i64 x24.2.2.2.2.2.2.2.2.2.2.1, .int .i64 x24.2.2.2.2.2.2.2.2.2.2.2.1, .int .i64 x24.2.2.2.2.2.2.2.2.2.2.2.2.1, .int .u32 x24.2.2.2.2.2.2.2.2.2.2.2.2.2.1, .int .i64 x24.2.2.2.2.2.2.2.2.2.2.2.2.2.2.1, .int .i64 x24.2.2.2.2.2.2.2.2.2.2.2.2.2.2.2] :: G) (fun w h => h) ?_
      refine J.p rfl rfl rfl rfl (Y.notb rfl) ?_
      refine J.nx ?_
      refine C.condT rfl ?_
      refine C.ret ?_
      obtain rfl := Option.some.inj H
      refine T.ib ?_
      exact T.round e35 () rfl rfl trivial (by exact fun w h => (St.pick [0] [_, _] h rfl))
  · subst hr
    replace H := ysel_inl H
    refine N.at (s' := [(2, .pointer (some ⟨g1, 0, none⟩)), (5, .func (.func 64) #[] #[.pointer (some ⟨g5, 0, none⟩)])]) (G' := dblks ds19 :: Yy (.inl i17) :: cells g5 22 [.slice Aa1_0 a1_0.length ca1_0] :: cells g1 118 [a0] :: G) rfl rfl ?_
    refine N.ib ?_
    obtain rfl := Option.some.inj H
    exact end_okM (Yy (.inl i17) :: cells g5 22 [.slice Aa1_0 a1_0.length ca1_0] :: cells g1 118 [a0] :: G) (rvs := []) (vs := []) rfl trivial (fun w h => h) (fun w h => ⟨rfl, (St.pick [0] [_, _, _] h rfl)⟩)
  · subst hr
    replace H := ysel_inr H
    refine C.at (s' := [(2, .pointer (some ⟨g1, 0, none⟩)), (5, .func (.func 64) #[] #[.pointer (some ⟨g5, 0, none⟩)])]) (G' := dblks ds19 :: Yy (.inr e20) :: cells g5 22 [.slice Aa1_0 a1_0.length ca1_0] :: cells g1 118 [a0] :: G) rfl rfl ?_
    refine C.ret ?_
    obtain rfl := Option.some.inj H
    refine T.ib ?_
    exact ret_okM (Yy (.inr e20) :: cells g5 22 [.slice Aa1_0 a1_0.length ca1_0] :: cells g1 118 [a0] :: G) (rvs := []) (vs := []) rfl trivial (fun w h => h) (fun w h => ⟨rfl, (St.pick [0] [_, _, _] h rfl)⟩)
/-! ### salvor/scan.Frames: function 34 -/
def sFrames.f (a0 : List Int) : Option (Unit) := some ()
theorem sFrames.calls {B : Nat} {w0 : World} {G : List HP} (a0 : List Int) (Aa0 : Option Addr) (ca0 : Nat) (ha0 : RdG B w0 G Aa0 (a0.map (Value.int .u8))) (ka0 : a0.length ≤ ca0) (r : Unit) (H : sFrames.f a0 = some r) (w : World) (hw : St B w0 (G) w) :
    Calls Try.prog 34 [.slice Aa0 a0.length ca0].toArray w (fun e w' => ∃ gf0, e = .returned (.func (.func 54) #[] #[.pointer (some ⟨gf0, 0, none⟩)]) ∧ St B w0 (cells gf0 22 [.slice Aa0 a0.length ca0] :: G) w') := by
  unfold sFrames.f at H
  refine calls_of (n := 4) (s := [(0, .slice Aa0 a0.length ca0)]) Try.func34 rfl rfl rfl rfl ?_ hw
  refine C.rs ?_
  refine J.box (L := [.slice Aa0 a0.length ca0]) rfl rfl rfl (fun g1 => ?_)
  refine J.p rfl rfl rfl rfl (Y.asg rfl) ?_
  refine J.nx ?_
  refine C.rs ?_
  refine J.p rfl rfl rfl rfl (Y.mkf rfl rfl) ?_
  refine J.p rfl rfl rfl rfl (Y.asg rfl) ?_
  refine J.nx ?_
  refine C.ret ?_
  obtain rfl := Option.some.inj H
  exact ret_ok (ks := [2]) rfl rfl (fun w h => ⟨g1, rfl, h⟩)
/-! ### salvor/salvorlaw5.works: function 28 -/
def works.f (K : Nat) : Option (Bool) := (tea.f K 1).bind fun t1 => (tea.f K 2).bind fun t6 => gd ((([] : List Int).length + [1, 2].length) * 1 ≤ 140737488355328) (gd (((([] : List Int) ++ [1, 2]).length + t1.length) * 1 ≤ 140737488355328) (gd ((((([] : List Int) ++ [1, 2]) ++ t1).length + t6.length) * 1 ≤ 140737488355328) ((sExtents.f K (((([] : List Int) ++ [1, 2]) ++ t1) ++ t6)).bind fun t27 => (sNext.f K (((([] : List Int) ++ [1, 2]) ++ t1) ++ t6) 0).bind fun t33 => (sClean.f K (((([] : List Int) ++ [1, 2]) ++ t1) ++ t6)).bind fun t36 => (if (t1.length : Int) = 0 then (some true) else (if (t27.length : Int) ≠ 3 then (some true) else (if t33.1 ≠ 2 then (some true) else (if t33.2 ≠ (t1.length : Int) then (some true) else (some (decide ((t36.length : Int) ≠ (IntKind.wrap .i64 ((t1.length : Int) + (t6.length : Int)))))))))).bind fun o45 => if o45 = true then (some false) else (gd ((0 : Int) ≤ 0 ∧ 0 < (t27.length : Int)) (gd ((0 : Int) ≤ 0 ∧ 0 < (t27.length : Int)) (if ((rd t27 0).1) = true ∧ ((rd t27 0).2.1) = 0 ∧ ((rd t27 0).2.2) = 2 ∧ True then (gd ((0 : Int) ≤ 1 ∧ 1 < (t27.length : Int)) (gd ((0 : Int) ≤ 1 ∧ 1 < (t27.length : Int)) (if ((rd t27 1).1) = false ∧ ((rd t27 1).2.1) = 2 ∧ ((rd t27 1).2.2) = (t1.length : Int) ∧ True then (gd ((0 : Int) ≤ 2 ∧ 2 < (t27.length : Int)) (gd ((0 : Int) ≤ 2 ∧ 2 < (t27.length : Int)) (some (decide (((rd t27 2).1) = false ∧ ((rd t27 2).2.1) = (IntKind.wrap .i64 (2 + (t1.length : Int))) ∧ ((rd t27 2).2.2) = (t6.length : Int) ∧ True))))) else (some false)))) else (some false)))))))
theorem works.calls {B : Nat} {w0 : World} {G : List HP} (K : Nat) (r : Bool) (H : works.f K = some r) (w : World) (hw : St B w0 (G) w) :
    Calls Try.prog 28 [].toArray w (fun e w' => e = .returned (.bool r) ∧ St B w0 (G) w') := by
  unfold works.f at H
  refine calls_of (n := 82) (s := []) Try.func28 rfl rfl rfl rfl ?_ hw
  refine C.rs ?_
  refine J.p rfl rfl rfl rfl (Y.asg rfl) ?_
  refine J.nx ?_
  refine C.rs ?_
  obtain ⟨t1, hC2, H⟩ := bind_some H
  refine J.call (us := []) (cap := []) rfl rfl rfl go46 (fun w hw => by have hcc := tea.calls K 1 t1 hC2 w hw; exact hcc) (fun e w1 h1 => ?_)
  obtain ⟨A3, c4, rfl, hw72⟩ := h1
  refine ⟨_, _, rfl, hw72, ?_⟩
  refine J.p rfl rfl rfl rfl (Y.asg rfl) ?_
  refine J.nx ?_
  refine C.rs ?_
  obtain ⟨t6, hC7, H⟩ := bind_some H
  refine J.call (us := []) (cap := []) rfl rfl rfl go46 (fun w hw => by have hcc := tea.calls K 2 t6 hC7 w hw; exact hcc) (fun e w1 h1 => ?_)
  obtain ⟨A8, c9, rfl, hw71⟩ := h1
  refine ⟨_, _, rfl, hw71, ?_⟩
  refine J.p rfl rfl rfl rfl (Y.asg rfl) ?_
  refine J.nx ?_
  refine C.rs ?_
  refine J.p rfl rfl rfl rfl (Y.asg rfl) ?_
  refine J.nx ?_
  refine C.rs ?_
  refine J.p rfl rfl rfl rfl (Y.mv rfl) ?_
  refine J.bsL (enc := (Value.int .u8)) (xs := [1, 2]) rfl Try.underlying22 ti5 rfl rfl rfl rfl rfl (fun A11 => ?_)
  refine J.nilOwn 5 1 ?_
  obtain ⟨p16, H⟩ := gd_some H
  refine J.appL (enc := (Value.int .u8)) (xs := ([] : List Int)) (ys := [1, 2]) rfl Try.underlying22 ti5 rfl (by decide) rfl rfl (fun _ => rfl) (RdG.own 1 rfl) p16 (fun A14 c15 => ?_)
  refine J.pull 1 rfl rfl (J.drop ?_)
  refine J.p rfl rfl rfl rfl (Y.asg rfl) ?_
  refine J.nx ?_
  refine C.rs ?_
  refine J.p rfl rfl rfl rfl (Y.mv rfl) ?_
  refine J.p rfl rfl rfl rfl (Y.mv rfl) ?_
  obtain ⟨p20, H⟩ := gd_some H
  refine J.appL (enc := (Value.int .u8)) (xs := (([] : List Int) ++ [1, 2])) (ys := t1) rfl Try.underlying22 ti5 rfl (by decide) rfl rfl (fun _ => rfl) (RdG.own 2 rfl) p20 (fun A18 c19 => ?_)
  refine J.p rfl rfl rfl rfl (Y.asg rfl) ?_
  refine J.nx ?_
  refine C.rs ?_
  refine J.p rfl rfl rfl rfl (Y.mv rfl) ?_
  refine J.p rfl rfl rfl rfl (Y.mv rfl) ?_
  obtain ⟨p24, H⟩ := gd_some H
  refine J.appL (enc := (Value.int .u8)) (xs := ((([] : List Int) ++ [1, 2]) ++ t1)) (ys := t6) rfl Try.underlying22 ti5 rfl (by decide) rfl rfl (fun _ => rfl) (RdG.own 1 rfl) p24 (fun A22 c23 => ?_)
  refine J.p rfl rfl rfl rfl (Y.asg rfl) ?_
  refine J.nx ?_
  refine C.rs ?_
  refine J.p rfl rfl rfl rfl (Y.mv rfl) ?_
  refine J.know (own_leL 0 rfl) (fun hc26 => ?_)
  obtain ⟨t27, hC28, H⟩ := bind_some H
  refine J.call (us := []) (cap := []) rfl rfl rfl go14 (fun w hw => by have hcc := sExtents.calls K (((([] : List Int) ++ [1, 2]) ++ t1) ++ t6) A22 c23 (RdG.own 0 rfl) hc26 t27 hC28 w hw; exact hcc) (fun e w1 h1 => ?_)
  obtain ⟨A29, c30, rfl, hw70⟩ := h1
  refine ⟨_, _, rfl, hw70, ?_⟩
  refine J.p rfl rfl rfl rfl (Y.asg rfl) ?_
  refine J.nx ?_
  refine C.rs ?_
  refine J.p rfl rfl rfl rfl (Y.mv rfl) ?_
  refine J.know (own_leL 1 rfl) (fun hc32 => ?_)
  obtain ⟨t33, hC34, H⟩ := bind_some H
  refine J.call (us := []) (cap := []) rfl rfl rfl go17 (fun w hw => by have hcc := sNext.calls K (((([] : List Int) ++ [1, 2]) ++ t1) ++ t6) 0 A22 c23 (RdG.own 1 rfl) hc32 t33 hC34 w hw; exact hcc) (fun e w1 h1 => ?_)
  obtain ⟨rfl, hw69⟩ := h1
  refine ⟨_, _, rfl, hw69, ?_⟩
  refine J.p rfl rfl rfl rfl (Y.mv rfl) ?_
  refine J.p rfl rfl rfl rfl (Y.ext rfl rfl) ?_
  refine J.p rfl rfl rfl rfl (Y.ext rfl rfl) ?_
  refine J.p rfl rfl rfl rfl (Y.asg rfl) ?_
  refine J.p rfl rfl rfl rfl (Y.asg rfl) ?_
  refine J.nx ?_
  refine C.rs ?_
  refine J.p rfl rfl rfl rfl (Y.mv rfl) ?_
  refine J.know (own_leL 1 rfl) (fun hc35 => ?_)
  obtain ⟨t36, hC37, H⟩ := bind_some H
  refine J.call (us := []) (cap := []) rfl rfl rfl go19 (fun w hw => by have hcc := sClean.calls K (((([] : List Int) ++ [1, 2]) ++ t1) ++ t6) A22 c23 (RdG.own 1 rfl) hc35 t36 hC37 w hw; exact hcc) (fun e w1 h1 => ?_)
  obtain ⟨A38, c39, rfl, hw68⟩ := h1
  refine ⟨_, _, rfl, hw68, ?_⟩
  refine J.p rfl rfl rfl rfl (Y.asg rfl) ?_
  refine J.nx ?_
  refine C.seq ?_
  refine C.rs ?_
  refine J.joinB H (fun (o45 : Bool) (j46 : Unit) => [(1, .slice A3 t1.length c4), (2, .slice A8 t6.length c9), (4, .slice A29 t27.length c30), (55, .bool o45)]) (fun (o45 : Bool) (j46 : Unit) => own 5 1 A3 c4 (t1.map (Value.int .u8)) :: own 5 1 A8 c9 (t6.map (Value.int .u8)) :: own 40 3 A29 c30 (t27.flatMap encT40_) :: G) (fun (o45 : Bool) (j46 : Unit) => True) (fun o47 H HK48 => ?_) (fun o45 j46 H _ => ?_)
  · refine J.p rfl rfl rfl rfl (Y.mv rfl) ?_
    refine J.p rfl rfl rfl rfl (Y.lenS Try.underlying22 rfl) ?_
    refine J.p rfl rfl rfl rfl (Y.bin rfl rfl rfl) ?_
    refine J.p rfl rfl rfl rfl (Y.mv rfl) ?_
    refine split2 H (fun c49 H => ?_) (fun c49 H => ?_)
    · refine J.as (k := 31) rfl (congrArg Value.bool (decide_eq_true c49)) ?_
      refine J.skip rfl rfl ?_
      refine J.skip rfl rfl ?_
      refine J.skip rfl rfl ?_
      refine J.p rfl rfl rfl rfl (Y.pickT rfl rfl) ?_
      refine J.p rfl rfl rfl rfl (Y.mv rfl) ?_
      refine J.skip rfl rfl ?_
      refine J.skip rfl rfl ?_
      refine J.p rfl rfl rfl rfl (Y.pickT rfl rfl) ?_
      refine J.p rfl rfl rfl rfl (Y.mv rfl) ?_
      refine J.skip rfl rfl ?_
      refine J.skip rfl rfl ?_
      refine J.skip rfl rfl ?_
      refine J.skip rfl rfl ?_
      refine J.p rfl rfl rfl rfl (Y.pickT rfl rfl) ?_
      refine J.p rfl rfl rfl rfl (Y.mv rfl) ?_
      refine J.skip rfl rfl ?_
      refine J.skip rfl rfl ?_
      refine J.skip rfl rfl ?_
      refine J.skip rfl rfl ?_
      refine J.skip rfl rfl ?_
      refine J.skip rfl rfl ?_
      refine J.skip rfl rfl ?_
      refine J.skip rfl rfl ?_
      refine J.p rfl rfl rfl rfl (Y.pickT rfl rfl) ?_
      refine J.nil ?_
      obtain rfl := Option.some.inj H
      exact N.meet (true, ()) ⟨HK48, trivial⟩ (by exact ⟨rfl, rfl, rfl, rfl, trivial⟩) (by exact fun w h => (St.pick [4, 3, 1] [_, _, _, _, _] h rfl))
    · refine J.as (k := 31) rfl (congrArg Value.bool (decide_eq_false c49)) ?_
      refine J.p rfl rfl rfl rfl (Y.mv rfl) ?_
      refine J.p rfl rfl rfl rfl (Y.lenS Try.underlying28 rfl) ?_
      refine J.p rfl rfl rfl rfl (Y.bin rfl rfl rfl) ?_
      refine J.p rfl rfl rfl rfl (Y.pickF rfl rfl) ?_
      refine J.p rfl rfl rfl rfl (Y.mv rfl) ?_
      refine split2 H (fun c50 H => ?_) (fun c50 H => ?_)
      · refine J.as (k := 36) rfl (congrArg Value.bool (decide_eq_true c50)) ?_
        refine J.skip rfl rfl ?_
        refine J.skip rfl rfl ?_
        refine J.p rfl rfl rfl rfl (Y.pickT rfl rfl) ?_
        refine J.p rfl rfl rfl rfl (Y.mv rfl) ?_
        refine J.skip rfl rfl ?_
        refine J.skip rfl rfl ?_
        refine J.skip rfl rfl ?_
        refine J.skip rfl rfl ?_
        refine J.p rfl rfl rfl rfl (Y.pickT rfl rfl) ?_
        refine J.p rfl rfl rfl rfl (Y.mv rfl) ?_
        refine J.skip rfl rfl ?_
        refine J.skip rfl rfl ?_
        refine J.skip rfl rfl ?_
        refine J.skip rfl rfl ?_
        refine J.skip rfl rfl ?_
        refine J.skip rfl rfl ?_
        refine J.skip rfl rfl ?_
        refine J.skip rfl rfl ?_
        refine J.p rfl rfl rfl rfl (Y.pickT rfl rfl) ?_
        refine J.nil ?_
        obtain rfl := Option.some.inj H
        exact N.meet (true, ()) ⟨HK48, trivial⟩ (by exact ⟨rfl, rfl, rfl, rfl, trivial⟩) (by exact fun w h => (St.pick [4, 3, 1] [_, _, _, _, _] h rfl))
      · refine J.as (k := 36) rfl (congrArg Value.bool (decide_eq_false c50)) ?_
        refine J.p rfl rfl rfl rfl (Y.mv rfl) ?_
        refine J.p rfl rfl rfl rfl (Y.bin rfl rfl rfl) ?_
        refine J.p rfl rfl rfl rfl (Y.pickF rfl rfl) ?_
        refine J.p rfl rfl rfl rfl (Y.mv rfl) ?_
        refine split2 H (fun c51 H => ?_) (fun c51 H => ?_)
        · refine J.as (k := 40) rfl (congrArg Value.bool (decide_eq_true c51)) ?_
          refine J.skip rfl rfl ?_
          refine J.skip rfl rfl ?_
          refine J.skip rfl rfl ?_
          refine J.skip rfl rfl ?_
          refine J.p rfl rfl rfl rfl (Y.pickT rfl rfl) ?_
          refine J.p rfl rfl rfl rfl (Y.mv rfl) ?_
          refine J.skip rfl rfl ?_
          refine J.skip rfl rfl ?_
          refine J.skip rfl rfl ?_
          refine J.skip rfl rfl ?_
          refine J.skip rfl rfl ?_
          refine J.skip rfl rfl ?_
          refine J.skip rfl rfl ?_
          refine J.skip rfl rfl ?_
          refine J.p rfl rfl rfl rfl (Y.pickT rfl rfl) ?_
          refine J.nil ?_
          obtain rfl := Option.some.inj H
          exact N.meet (true, ()) ⟨HK48, trivial⟩ (by exact ⟨rfl, rfl, rfl, rfl, trivial⟩) (by exact fun w h => (St.pick [4, 3, 1] [_, _, _, _, _] h rfl))
        · refine J.as (k := 40) rfl (congrArg Value.bool (decide_eq_false c51)) ?_
          refine J.p rfl rfl rfl rfl (Y.mv rfl) ?_
          refine J.p rfl rfl rfl rfl (Y.mv rfl) ?_
          refine J.p rfl rfl rfl rfl (Y.lenS Try.underlying22 rfl) ?_
          refine J.p rfl rfl rfl rfl (Y.bin rfl rfl rfl) ?_
          refine J.p rfl rfl rfl rfl (Y.pickF rfl rfl) ?_
          refine J.p rfl rfl rfl rfl (Y.mv rfl) ?_
          refine split2 H (fun c52 H => ?_) (fun c52 H => ?_)
          · refine J.as (k := 46) rfl (congrArg Value.bool (decide_eq_true c52)) ?_
            refine J.skip rfl rfl ?_
            refine J.skip rfl rfl ?_
            refine J.skip rfl rfl ?_
            refine J.skip rfl rfl ?_
            refine J.skip rfl rfl ?_
            refine J.skip rfl rfl ?_
            refine J.skip rfl rfl ?_
            refine J.skip rfl rfl ?_
            refine J.p rfl rfl rfl rfl (Y.pickT rfl rfl) ?_
            refine J.nil ?_
            obtain rfl := Option.some.inj H
            exact N.meet (true, ()) ⟨HK48, trivial⟩ (by exact ⟨rfl, rfl, rfl, rfl, trivial⟩) (by exact fun w h => (St.pick [4, 3, 1] [_, _, _, _, _] h rfl))
          · refine J.as (k := 46) rfl (congrArg Value.bool (decide_eq_false c52)) ?_
            refine J.p rfl rfl rfl rfl (Y.mv rfl) ?_
            refine J.p rfl rfl rfl rfl (Y.lenS Try.underlying22 rfl) ?_
            refine J.p rfl rfl rfl rfl (Y.mv rfl) ?_
            refine J.p rfl rfl rfl rfl (Y.lenS Try.underlying22 rfl) ?_
            refine J.p rfl rfl rfl rfl (Y.mv rfl) ?_
            refine J.p rfl rfl rfl rfl (Y.lenS Try.underlying22 rfl) ?_
            refine J.p rfl rfl rfl rfl (Y.bin rfl rfl rfl) ?_
            refine J.p rfl rfl rfl rfl (Y.bin rfl rfl rfl) ?_
            refine J.p rfl rfl rfl rfl (Y.pickF rfl rfl) ?_
            refine J.nil ?_
            obtain rfl := Option.some.inj H
            exact N.meet (decide ((t36.length : Int) ≠ (IntKind.wrap .i64 ((t1.length : Int) + (t6.length : Int)))), ()) ⟨HK48, trivial⟩ (by exact ⟨rfl, rfl, rfl, rfl, trivial⟩) (by exact fun w h => (St.pick [4, 3, 1] [_, _, _, _, _] h rfl))
  · refine C.at (s' := [(1, .slice A3 t1.length c4), (2, .slice A8 t6.length c9), (4, .slice A29 t27.length c30), (55, .bool o45)]) (G' := own 5 1 A3 c4 (t1.map (Value.int .u8)) :: own 5 1 A8 c9 (t6.map (Value.int .u8)) :: own 40 3 A29 c30 (t27.flatMap encT40_) :: G) rfl rfl ?_
    refine split2 H (fun c53 H => ?_) (fun c53 H => ?_)
    · refine C.condT (congrArg (fun b => some (Value.bool b)) (c53)) ?_
      refine C.rs ?_
      refine J.p rfl rfl rfl rfl (Y.asg rfl) ?_
      refine J.nx ?_
      refine C.ret ?_
      obtain rfl := Option.some.inj H
      refine T.th ?_
      exact ret_ok (ks := [0]) rfl rfl (fun w h => ⟨rfl, (St.pick [] [_, _, _] h rfl)⟩)
    · refine C.condF (congrArg (fun b => some (Value.bool b)) (nt c53)) ?_
      refine C.skip ?_
      refine N.nx ?_
      refine C.rs ?_
      refine J.p rfl rfl rfl rfl (Y.mv rfl) ?_
      obtain ⟨p56, H⟩ := gd_some H
      refine J.know (RdG.someM lenT40_ (by decide) (RdG.own 2 rfl) p56) (fun hh => ?_)
      obtain ⟨a54, ha55⟩ := hh
      refine J.p rfl rfl rfl rfl (Y.ixa Try.underlying28 ti40 rfl rfl p56 ha55) ?_
      obtain ⟨p57, H⟩ := gd_some H
      refine J.r rfl rfl rfl rfl (Y.ldM (us := [.bool ((rd t27 0).1), .int .i64 ((rd t27 0).2.1), .int .i64 ((rd t27 0).2.2)]) lenT40_ Try.underlying40 rfl ti40 rfl ha55 p57 (RdG.own 2 rfl) rfl) ?_
      refine J.p rfl rfl rfl rfl (Y.bld (cs := [.bool true, .int .i64 0, .int .i64 2]) rfl pl40 ti40 rfl (by kernel_rfl)) ?_
      refine J.p rfl rfl rfl rfl (Y.eqst Try.eqGuardType40 rfl (EqV.struct Try.underlying40 Try.stoodInHeld40 (EqFs.cons rfl (part_one (v := .bool ((rd t27 0).1)) Try.underlying4 rfl (by kernel_rfl)) (part_one (v := .bool true) Try.underlying4 rfl (by kernel_rfl)) (EqV.bool 0 Try.underlying4) (EqFs.cons rfl (part_one (v := .int .i64 ((rd t27 0).2.1)) Try.underlying3 rfl (by kernel_rfl)) (part_one (v := .int .i64 0) Try.underlying3 rfl (by kernel_rfl)) (EqV.int 0 Try.underlying3) (EqFs.cons rfl (part_one (v := .int .i64 ((rd t27 0).2.2)) Try.underlying3 rfl (by kernel_rfl)) (part_one (v := .int .i64 2) Try.underlying3 rfl (by kernel_rfl)) (EqV.int 0 Try.underlying3) EqFs.nil)))) rfl rfl) ?_
      refine J.p rfl rfl rfl rfl (Y.mv rfl) ?_
      refine split2 H (fun c58 H => ?_) (fun c58 H => ?_)
      · refine J.as (k := 61) rfl (congrArg Value.bool (decide_eq_true c58)) ?_
        refine J.p rfl rfl rfl rfl (Y.mv rfl) ?_
        obtain ⟨p61, H⟩ := gd_some H
        refine J.know (RdG.someM lenT40_ (by decide) (RdG.own 2 rfl) p61) (fun hh => ?_)
        obtain ⟨a59, ha60⟩ := hh
        refine J.p rfl rfl rfl rfl (Y.ixa Try.underlying28 ti40 rfl rfl p61 ha60) ?_
        obtain ⟨p62, H⟩ := gd_some H
        refine J.r rfl rfl rfl rfl (Y.ldM (us := [.bool ((rd t27 1).1), .int .i64 ((rd t27 1).2.1), .int .i64 ((rd t27 1).2.2)]) lenT40_ Try.underlying40 rfl ti40 rfl ha60 p62 (RdG.own 2 rfl) rfl) ?_
        refine J.p rfl rfl rfl rfl (Y.mv rfl) ?_
        refine J.p rfl rfl rfl rfl (Y.lenS Try.underlying22 rfl) ?_
        refine J.p rfl rfl rfl rfl (Y.bld (cs := [.bool false, .int .i64 2, .int .i64 (t1.length : Int)]) rfl pl40 ti40 rfl (by kernel_rfl)) ?_
        refine J.p rfl rfl rfl rfl (Y.eqst Try.eqGuardType40 rfl (EqV.struct Try.underlying40 Try.stoodInHeld40 (EqFs.cons rfl (part_one (v := .bool ((rd t27 1).1)) Try.underlying4 rfl (by kernel_rfl)) (part_one (v := .bool false) Try.underlying4 rfl (by kernel_rfl)) (EqV.bool 0 Try.underlying4) (EqFs.cons rfl (part_one (v := .int .i64 ((rd t27 1).2.1)) Try.underlying3 rfl (by kernel_rfl)) (part_one (v := .int .i64 2) Try.underlying3 rfl (by kernel_rfl)) (EqV.int 0 Try.underlying3) (EqFs.cons rfl (part_one (v := .int .i64 ((rd t27 1).2.2)) Try.underlying3 rfl (by kernel_rfl)) (part_one (v := .int .i64 (t1.length : Int)) Try.underlying3 rfl (by kernel_rfl)) (EqV.int 0 Try.underlying3) EqFs.nil)))) rfl rfl) ?_
        refine J.p rfl rfl rfl rfl (Y.pickT rfl rfl) ?_
        refine J.p rfl rfl rfl rfl (Y.mv rfl) ?_
        refine split2 H (fun c63 H => ?_) (fun c63 H => ?_)
        · refine J.as (k := 70) rfl (congrArg Value.bool (decide_eq_true c63)) ?_
          refine J.p rfl rfl rfl rfl (Y.mv rfl) ?_
          obtain ⟨p66, H⟩ := gd_some H
          refine J.know (RdG.someM lenT40_ (by decide) (RdG.own 2 rfl) p66) (fun hh => ?_)
          obtain ⟨a64, ha65⟩ := hh
          refine J.p rfl rfl rfl rfl (Y.ixa Try.underlying28 ti40 rfl rfl p66 ha65) ?_
          obtain ⟨p67, H⟩ := gd_some H
          refine J.r rfl rfl rfl rfl (Y.ldM (us := [.bool ((rd t27 2).1), .int .i64 ((rd t27 2).2.1), .int .i64 ((rd t27 2).2.2)]) lenT40_ Try.underlying40 rfl ti40 rfl ha65 p67 (RdG.own 2 rfl) rfl) ?_
          refine J.p rfl rfl rfl rfl (Y.mv rfl) ?_
          refine J.p rfl rfl rfl rfl (Y.lenS Try.underlying22 rfl) ?_
          refine J.p rfl rfl rfl rfl (Y.bin rfl rfl rfl) ?_
          refine J.p rfl rfl rfl rfl (Y.mv rfl) ?_
          refine J.p rfl rfl rfl rfl (Y.lenS Try.underlying22 rfl) ?_
          refine J.p rfl rfl rfl rfl (Y.bld (cs := [.bool false, .int .i64 (IntKind.wrap .i64 (2 + (t1.length : Int))), .int .i64 (t6.length : Int)]) rfl pl40 ti40 rfl (by kernel_rfl)) ?_
          refine J.p rfl rfl rfl rfl (Y.eqst Try.eqGuardType40 rfl (EqV.struct Try.underlying40 Try.stoodInHeld40 (EqFs.cons rfl (part_one (v := .bool ((rd t27 2).1)) Try.underlying4 rfl (by kernel_rfl)) (part_one (v := .bool false) Try.underlying4 rfl (by kernel_rfl)) (EqV.bool 0 Try.underlying4) (EqFs.cons rfl (part_one (v := .int .i64 ((rd t27 2).2.1)) Try.underlying3 rfl (by kernel_rfl)) (part_one (v := .int .i64 (IntKind.wrap .i64 (2 + (t1.length : Int)))) Try.underlying3 rfl (by kernel_rfl)) (EqV.int 0 Try.underlying3) (EqFs.cons rfl (part_one (v := .int .i64 ((rd t27 2).2.2)) Try.underlying3 rfl (by kernel_rfl)) (part_one (v := .int .i64 (t6.length : Int)) Try.underlying3 rfl (by kernel_rfl)) (EqV.int 0 Try.underlying3) EqFs.nil)))) rfl rfl) ?_
          refine J.p rfl rfl rfl rfl (Y.pickT rfl rfl) ?_
          refine J.p rfl rfl rfl rfl (Y.asg rfl) ?_
          refine J.nx ?_
          refine C.ret ?_
          obtain rfl := Option.some.inj H
          exact ret_ok (ks := [0]) rfl rfl (fun w h => ⟨rfl, (St.pick [] [_, _, _] h rfl)⟩)
        · refine J.as (k := 70) rfl (congrArg Value.bool (decide_eq_false c63)) ?_
          refine J.skip rfl rfl ?_
          refine J.skip rfl rfl ?_
          refine J.skip rfl rfl ?_
          refine J.skip rfl rfl ?_
          refine J.skip rfl rfl ?_
          refine J.skip rfl rfl ?_
          refine J.skip rfl rfl ?_
          refine J.skip rfl rfl ?_
          refine J.skip rfl rfl ?_
          refine J.skip rfl rfl ?_
          refine J.p rfl rfl rfl rfl (Y.pickF rfl rfl) ?_
          refine J.p rfl rfl rfl rfl (Y.asg rfl) ?_
          refine J.nx ?_
          refine C.ret ?_
          obtain rfl := Option.some.inj H
          exact ret_ok (ks := [0]) rfl rfl (fun w h => ⟨rfl, (St.pick [] [_, _, _] h rfl)⟩)
      · refine J.as (k := 61) rfl (congrArg Value.bool (decide_eq_false c58)) ?_
        refine J.skip rfl rfl ?_
        refine J.skip rfl rfl ?_
        refine J.skip rfl rfl ?_
        refine J.skip rfl rfl ?_
        refine J.skip rfl rfl ?_
        refine J.skip rfl rfl ?_
        refine J.skip rfl rfl ?_
        refine J.p rfl rfl rfl rfl (Y.pickF rfl rfl) ?_
        refine J.p rfl rfl rfl rfl (Y.mv rfl) ?_
        refine J.skip rfl rfl ?_
        refine J.skip rfl rfl ?_
        refine J.skip rfl rfl ?_
        refine J.skip rfl rfl ?_
        refine J.skip rfl rfl ?_
        refine J.skip rfl rfl ?_
        refine J.skip rfl rfl ?_
        refine J.skip rfl rfl ?_
        refine J.skip rfl rfl ?_
        refine J.skip rfl rfl ?_
        refine J.p rfl rfl rfl rfl (Y.pickF rfl rfl) ?_
        refine J.p rfl rfl rfl rfl (Y.asg rfl) ?_
        refine J.nx ?_
        refine C.ret ?_
        obtain rfl := Option.some.inj H
        exact ret_ok (ks := [0]) rfl rfl (fun w h => ⟨rfl, (St.pick [] [_, _, _] h rfl)⟩)
end Go.Proofs.Ytkblnahoidbfkaa
