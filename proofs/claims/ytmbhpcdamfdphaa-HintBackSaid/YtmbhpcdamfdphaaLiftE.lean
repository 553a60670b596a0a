/- Own text, printed by the lifting program: each Go function beside a plain function, and the proof that a call of the one comes to the other. Conditions: what came in can be read. -/
import Derived.Test.YtmbhpcdamfdphaaLiftB
set_option linter.unusedVariables false
set_option linter.unusedSimpArgs false
set_option maxRecDepth 10000
set_option maxHeartbeats 4000000
namespace Go.Proofs.Ytmbhpcdamfdphaa
open Go Go.Sx
abbrev T84_ := Int × Int × Int × ByteArray × ByteArray × Int × Int × Int × Int × ByteArray × Int × Int × Int × Int × Int × Int
abbrev encT84_ (x : T84_) : List Value := [.int .i64 x.1, .int .u64 x.2.1, .int .i64 x.2.2.1, .string x.2.2.2.1, .string x.2.2.2.2.1, .int .u64 x.2.2.2.2.2.1, .int .i64 x.2.2.2.2.2.2.1, .int .i64 x.2.2.2.2.2.2.2.1, .int .i64 x.2.2.2.2.2.2.2.2.1, .string x.2.2.2.2.2.2.2.2.2.1, .int .i64 x.2.2.2.2.2.2.2.2.2.2.1, .int .i64 x.2.2.2.2.2.2.2.2.2.2.2.1, .int .i64 x.2.2.2.2.2.2.2.2.2.2.2.2.1, .int .u32 x.2.2.2.2.2.2.2.2.2.2.2.2.2.1, .int .i64 x.2.2.2.2.2.2.2.2.2.2.2.2.2.2.1, .int .i64 x.2.2.2.2.2.2.2.2.2.2.2.2.2.2.2]
theorem lenT84_ : ∀ x : T84_, (encT84_ x).length = 16 := fun _ => rfl
theorem oneT84_ : ∀ (x : T84_), ∀ u ∈ encT84_ x, u.oneCell' = true := by intro x u hu; simp only [List.mem_cons, List.not_mem_nil, or_false] at hu; rcases hu with rfl | rfl | rfl | rfl | rfl | rfl | rfl | rfl | rfl | rfl | rfl | rfl | rfl | rfl | rfl | rfl <;> rfl
theorem ti56 : TI Try.prog 56 1 24 (.slice none 0 0) := TI.of (by kernel_rfl)
theorem ti84 : TI Try.prog 84 16 152 (.agg #[.int .i64 0, .int .u64 0, .int .i64 0, .string ByteArray.empty, .string ByteArray.empty, .int .u64 0, .int .i64 0, .int .i64 0, .int .i64 0, .string ByteArray.empty, .int .i64 0, .int .i64 0, .int .i64 0, .int .u32 0, .int .i64 0, .int .i64 0]) := TI.of (by kernel_rfl)
theorem ti95 : TI Try.prog 95 16 152 (.agg #[.int .i64 0, .int .u64 0, .int .i64 0, .string ByteArray.empty, .string ByteArray.empty, .int .u64 0, .int .i64 0, .int .i64 0, .int .i64 0, .string ByteArray.empty, .int .i64 0, .int .i64 0, .int .i64 0, .int .u32 0, .int .i64 0, .int .i64 0]) := TI.of (by kernel_rfl)
theorem ti96 : TI Try.prog 96 1 24 (.slice none 0 0) := TI.of (by kernel_rfl)
theorem fa95_0 : FA Try.prog 95 0 0 := FA.of Try.underlying95 rfl ti54 (by decide) rfl
theorem fa95_1 : FA Try.prog 95 1 14 := FA.of Try.underlying95 rfl ti3 (by decide) rfl
theorem fa95_2 : FA Try.prog 95 2 15 := FA.of Try.underlying95 rfl ti3 (by decide) rfl
theorem pl84 : PL Try.prog 84 [(0, 14), (14, 1), (15, 1)] := PL.of Try.underlying84 (by kernel_rfl)
theorem pl95 : PL Try.prog 95 [(0, 14), (14, 1), (15, 1)] := PL.of Try.underlying95 (by kernel_rfl)
def encY120 (x : Int × Int × Int × ByteArray × ByteArray × Int × Int × Int × Int × ByteArray × Int × Int × Int × Int × Int × Int) : List Value := [.agg #[Value.int .i64 x.1, Value.int .u64 x.2.1, Value.int .i64 x.2.2.1, Value.string x.2.2.2.1, Value.string x.2.2.2.2.1, Value.int .u64 x.2.2.2.2.2.1, Value.int .i64 x.2.2.2.2.2.2.1, Value.int .i64 x.2.2.2.2.2.2.2.1, Value.int .i64 x.2.2.2.2.2.2.2.2.1, Value.string x.2.2.2.2.2.2.2.2.2.1, Value.int .i64 x.2.2.2.2.2.2.2.2.2.2.1, Value.int .i64 x.2.2.2.2.2.2.2.2.2.2.2.1, Value.int .i64 x.2.2.2.2.2.2.2.2.2.2.2.2.1, Value.int .u32 x.2.2.2.2.2.2.2.2.2.2.2.2.2.1, Value.int .i64 x.2.2.2.2.2.2.2.2.2.2.2.2.2.2.1, Value.int .i64 x.2.2.2.2.2.2.2.2.2.2.2.2.2.2.2]]
def encY124 (x : Int × Int × Int × Int × ByteArray × ByteArray × Int × Int × Int × Int × ByteArray × Int × Int × Int × Int) : List Value := [Value.int .i64 x.1, .agg #[Value.int .i64 x.2.1, Value.int .u64 x.2.2.1, Value.int .i64 x.2.2.2.1, Value.string x.2.2.2.2.1, Value.string x.2.2.2.2.2.1, Value.int .u64 x.2.2.2.2.2.2.1, Value.int .i64 x.2.2.2.2.2.2.2.1, Value.int .i64 x.2.2.2.2.2.2.2.2.1, Value.int .i64 x.2.2.2.2.2.2.2.2.2.1, Value.string x.2.2.2.2.2.2.2.2.2.2.1, Value.int .i64 x.2.2.2.2.2.2.2.2.2.2.2.1, Value.int .i64 x.2.2.2.2.2.2.2.2.2.2.2.2.1, Value.int .i64 x.2.2.2.2.2.2.2.2.2.2.2.2.2.1, Value.int .u32 x.2.2.2.2.2.2.2.2.2.2.2.2.2.2]]
theorem go45 : GoF Try.prog 45 := GoF.of Try.func45 (by kernel_rfl) (by kernel_rfl)
theorem go50 : GoF Try.prog 50 := GoF.of Try.func50 (by kernel_rfl) (by kernel_rfl)
theorem go51 : GoF Try.prog 51 := GoF.of Try.func51 (by kernel_rfl) (by kernel_rfl)
theorem go72 : GoF Try.prog 72 := GoF.of Try.func72 (by kernel_rfl) (by kernel_rfl)
theorem go73 : GoF Try.prog 73 := GoF.of Try.func73 (by kernel_rfl) (by kernel_rfl)
theorem go74 : GoF Try.prog 74 := GoF.of Try.func74 (by kernel_rfl) (by kernel_rfl)
/-! ### salvor/scan.next: function 73 -/
def snext.l1 (K : Nat) (a0 : List Int) : Nat → (Int) → Option ((Int × Int × Int × Int × ByteArray × ByteArray × Int × Int × Int × Int × ByteArray × Int × Int × Int × Int × Int) ⊕ (Unit))
  | 0, _ => none
  | k + 1, i104 => if i104 < (a0.length : Int) then (thn (gd ((0 : Int) ≤ i104 ∧ ((Int.toNat i104) ≤ a0.length ∧ a0.length ≤ a0.length)) ((IndexByte.f ((a0.take a0.length).drop (Int.toNat i104)) 167).bind fun t131 => if t131 < 0 then ((some (.inr ())).bind fun q => some (.inl q)) else (gd ((0 : Int) ≤ (IntKind.wrap .i64 ((IntKind.wrap .i64 (i104 + t131)) + 1)) ∧ ((Int.toNat (IntKind.wrap .i64 ((IntKind.wrap .i64 (i104 + t131)) + 1))) ≤ a0.length ∧ a0.length ≤ a0.length)) ((IndexByte.f ((a0.take a0.length).drop (Int.toNat (IntKind.wrap .i64 ((IntKind.wrap .i64 (i104 + t131)) + 1)))) 167).bind fun t136 => (if 0 ≤ t136 then (some (IntKind.wrap .i64 ((IntKind.wrap .i64 ((IntKind.wrap .i64 (i104 + t131)) + 1)) + t136))) else (some (a0.length : Int))).bind fun o141 => gd ((0 : Int) ≤ o141 ∧ (0 ≤ (Int.toNat o141) ∧ (Int.toNat o141) ≤ a0.length)) ((fDecode.f K ((a0.take (Int.toNat o141)).drop 0) (IntKind.wrap .i64 (i104 + t131))).bind fun t145 => if t145.2.2.2.2.2.2.2.2.2.2.2.2.2.2.2 = 0 then (some (.inl (.inl ((IntKind.wrap .i64 (i104 + t131), t145.1, t145.2.1, t145.2.2.1, t145.2.2.2.1, t145.2.2.2.2.1, t145.2.2.2.2.2.1, t145.2.2.2.2.2.2.1, t145.2.2.2.2.2.2.2.1, t145.2.2.2.2.2.2.2.2.1, t145.2.2.2.2.2.2.2.2.2.1, t145.2.2.2.2.2.2.2.2.2.2.1, t145.2.2.2.2.2.2.2.2.2.2.2.1, t145.2.2.2.2.2.2.2.2.2.2.2.2.1, t145.2.2.2.2.2.2.2.2.2.2.2.2.2.1, t145.2.2.2.2.2.2.2.2.2.2.2.2.2.2.1))))) else (some (.inr (IntKind.wrap .i64 (i104 + t131))))))))) fun o128 => snext.l1 K a0 k (IntKind.wrap .i64 (o128 + 1))) else (some (.inr ()))
def snext.f (K : Nat) (a0 : List Int) (a1 : Int) : Option (Int × Int × Int × Int × ByteArray × ByteArray × Int × Int × Int × Int × ByteArray × Int × Int × Int × Int × Int) := thn (snext.l1 K a0 K a1) fun o53 => some (-1, 0, 0, 0, ByteArray.empty, ByteArray.empty, 0, 0, 0, 0, ByteArray.empty, 0, 0, 0, 0, 0)
theorem snext.calls {B : Nat} {w0 : World} {G : List HP} (K : Nat) (a0 : List Int) (a1 : Int) (Aa0 : Option Addr) (ca0 : Nat) (ha0 : RdG B w0 G Aa0 (a0.map (Value.int .u8))) (ka0 : a0.length ≤ ca0) (r : Int × Int × Int × Int × ByteArray × ByteArray × Int × Int × Int × Int × ByteArray × Int × Int × Int × Int × Int) (H : snext.f K a0 a1 = some r) (w : World) (hw : St B w0 (G) w) :
    Calls Try.prog 73 [.slice Aa0 a0.length ca0, .int .i64 a1].toArray w (fun e w' => e = .returned (.tuple #[.int .i64 r.1, .agg #[.int .i64 r.2.1, .int .u64 r.2.2.1, .int .i64 r.2.2.2.1, .string r.2.2.2.2.1, .string r.2.2.2.2.2.1, .int .u64 r.2.2.2.2.2.2.1, .int .i64 r.2.2.2.2.2.2.2.1, .int .i64 r.2.2.2.2.2.2.2.2.1, .int .i64 r.2.2.2.2.2.2.2.2.2.1, .string r.2.2.2.2.2.2.2.2.2.2.1, .int .i64 r.2.2.2.2.2.2.2.2.2.2.2.1, .int .i64 r.2.2.2.2.2.2.2.2.2.2.2.2.1, .int .i64 r.2.2.2.2.2.2.2.2.2.2.2.2.2.1, .int .u32 r.2.2.2.2.2.2.2.2.2.2.2.2.2.2.1], .int .i64 r.2.2.2.2.2.2.2.2.2.2.2.2.2.2.2]) ∧ St B w0 (G) w') := by
  unfold snext.f at H
  refine calls_of (n := 58) (s := [(0, .slice Aa0 a0.length ca0), (1, .int .i64 a1)]) Try.func73 rfl rfl rfl rfl ?_ hw
  refine C.rs ?_
  refine J.p rfl rfl rfl rfl (Y.asg rfl) ?_
  refine J.alloc (L := [.int .i64 0, .int .u64 0, .int .i64 0, .string ByteArray.empty, .string ByteArray.empty, .int .u64 0, .int .i64 0, .int .i64 0, .int .i64 0, .string ByteArray.empty, .int .i64 0, .int .i64 0, .int .i64 0, .int .u32 0]) rfl ti54 rfl (fun g1 => ?_)
  refine J.p rfl rfl rfl rfl (Y.asg rfl) ?_
  refine J.nx ?_
  refine C.seq ?_
  refine C.rs ?_
  refine J.p rfl rfl rfl rfl (Y.mv rfl) ?_
  refine J.p rfl rfl rfl rfl (Y.asg rfl) ?_
  refine J.nx ?_
  refine C.joinNR H (fun (o53 : Unit) (j54 : Unit) => [(5, .pointer (some ⟨g1, 0, none⟩))]) (fun (o53 : Unit) (j54 : Unit) => cells g1 54 [.int .i64 0, .int .u64 0, .int .i64 0, .string ByteArray.empty, .string ByteArray.empty, .int .u64 0, .int .i64 0, .int .i64 0, .int .i64 0, .string ByteArray.empty, .int .i64 0, .int .i64 0, .int .i64 0, .int .u32 0] :: G) (fun (o53 : Unit) (j54 : Unit) => True) (fun o51 H HK52 => ?_) (fun o53 j54 H _ => ?_)
  · refine C.blk ?_
    refine C.loop (fun (i : Nat × (Int) × (Unit)) => [(0, .slice Aa0 a0.length ca0), (5, .pointer (some ⟨g1, 0, none⟩)), (7, .int .i64 i.2.1)]) (fun (i : Nat × (Int) × (Unit)) => cells g1 54 [.int .i64 0, .int .u64 0, .int .i64 0, .string ByteArray.empty, .string ByteArray.empty, .int .u64 0, .int .i64 0, .int .i64 0, .int .i64 0, .string ByteArray.empty, .int .i64 0, .int .i64 0, .int .i64 0, .int .u32 0] :: G) (fun (i : Nat × (Int) × (Unit)) => snext.l1 K a0 i.1 i.2.1 = some o51 ∧ (True)) (fun i => i.1) (K, a1, ()) ⟨H, trivial⟩ (by exact ⟨rfl, rfl, rfl, trivial⟩) (by exact fun w h => h) ?_
    rintro ⟨k153, i104, j105⟩ ⟨H, _⟩
    replace H : snext.l1 K a0 k153 i104 = some o51 := H
    obtain ⟨k103, rfl⟩ : ∃ m, k153 = m + 1 := by cases k153 with | zero => exact absurd H (by simp [snext.l1]) | succ m => exact ⟨m, rfl⟩
    rw [snext.l1] at H
    refine C.at (s' := [(0, .slice Aa0 a0.length ca0), (5, .pointer (some ⟨g1, 0, none⟩)), (7, .int .i64 i104)]) (G' := cells g1 54 [.int .i64 0, .int .u64 0, .int .i64 0, .string ByteArray.empty, .string ByteArray.empty, .int .u64 0, .int .i64 0, .int .i64 0, .int .i64 0, .string ByteArray.empty, .int .i64 0, .int .i64 0, .int .i64 0, .int .u32 0] :: G) rfl rfl ?_
    refine C.seq ?_
    refine C.rs ?_
    refine J.p rfl rfl rfl rfl (Y.mv rfl) ?_
    refine J.p rfl rfl rfl rfl (Y.mv rfl) ?_
    refine J.p rfl rfl rfl rfl (Y.lenS Try.underlying22 rfl) ?_
    refine J.p rfl rfl rfl rfl (Y.bin rfl rfl rfl) ?_
    refine J.nx ?_
    refine split2 H (fun c106 H => ?_) (fun c106 H => ?_)
    · refine C.condT (congrArg (fun b => some (Value.bool b)) (decide_eq_true c106)) ?_
      refine C.skip ?_
      refine N.nx ?_
      refine C.joinR H (fun (o128 : Int) (j129 : Unit) => [(0, .slice Aa0 a0.length ca0), (5, .pointer (some ⟨g1, 0, none⟩)), (7, .int .i64 o128)]) (fun (o128 : Int) (j129 : Unit) => cells g1 54 [.int .i64 0, .int .u64 0, .int .i64 0, .string ByteArray.empty, .string ByteArray.empty, .int .u64 0, .int .i64 0, .int .i64 0, .int .i64 0, .string ByteArray.empty, .int .i64 0, .int .i64 0, .int .i64 0, .int .u32 0] :: G) (fun (o128 : Int) (j129 : Unit) => True) (fun o126 H HK127 => ?_) (fun o128 j129 H _ => ?_)
      · refine C.blk ?_
        refine C.rs ?_
        refine J.p rfl rfl rfl rfl (Y.mv rfl) ?_
        refine J.p rfl rfl rfl rfl (Y.mv rfl) ?_
        obtain ⟨p130, H⟩ := gd_some H
        refine J.p rfl rfl rfl rfl (Y.slcL Try.underlying22 ti5 rfl (bnd.yes rfl p130.1) bnd.no p130.2 ka0) ?_
        obtain ⟨t131, hC132, H⟩ := bind_some H
        refine J.call (us := []) (cap := []) rfl rfl rfl go81 (fun w hw => by have hcc := IndexByte.calls ((a0.take a0.length).drop (Int.toNat i104)) 167 (subA 1 Aa0 ca0 (Int.toNat i104)) (ca0 - (Int.toNat i104)) (RdG.subL (l := (Int.toNat i104)) (h := a0.length) (ha0.suf [_] rfl) ka0) (hc_sub ka0) t131 hC132 w hw; exact hcc) (fun e w1 h1 => ?_)
        obtain ⟨rfl, hw152⟩ := h1
        refine ⟨_, _, rfl, hw152, ?_⟩
        refine J.p rfl rfl rfl rfl (Y.asg rfl) ?_
        refine J.nx ?_
        refine C.seq ?_
        refine C.rs ?_
        refine J.p rfl rfl rfl rfl (Y.mv rfl) ?_
        refine J.p rfl rfl rfl rfl (Y.bin rfl rfl rfl) ?_
        refine J.nx ?_
        refine split2 H (fun c133 H => ?_) (fun c133 H => ?_)
        · refine C.condT (congrArg (fun b => some (Value.bool b)) (decide_eq_true c133)) ?_
          obtain ⟨q134, Hq134, e⟩ := bind_some H
          obtain rfl := Option.some.inj e
          obtain rfl := fin_inl HK127
          have H := Hq134
          refine C.exit ?_
          refine X.th ?_
          refine X.ms rfl ?_
          refine X.th ?_
          refine X.th ?_
          refine X.hit ?_
          obtain rfl := Option.some.inj H
          exact N.meet ((), ()) ⟨fin_inr HK52, trivial⟩ (by exact ⟨rfl, trivial⟩) (by exact fun w h => h)
        · refine C.condF (congrArg (fun b => some (Value.bool b)) (decide_eq_false c133)) ?_
          refine C.skip ?_
          refine N.nx ?_
          refine C.rs ?_
          refine J.p rfl rfl rfl rfl (Y.mv rfl) ?_
          refine J.p rfl rfl rfl rfl (Y.mv rfl) ?_
          refine J.p rfl rfl rfl rfl (Y.bin rfl rfl rfl) ?_
          refine J.p rfl rfl rfl rfl (Y.asg rfl) ?_
          refine J.nx ?_
          refine C.rs ?_
          refine J.p rfl rfl rfl rfl (Y.mv rfl) ?_
          refine J.p rfl rfl rfl rfl (Y.lenS Try.underlying22 rfl) ?_
          refine J.p rfl rfl rfl rfl (Y.asg rfl) ?_
          refine J.nx ?_
          refine C.seq ?_
          refine C.rs ?_
          refine J.p rfl rfl rfl rfl (Y.mv rfl) ?_
          refine J.p rfl rfl rfl rfl (Y.mv rfl) ?_
          refine J.p rfl rfl rfl rfl (Y.bin rfl rfl rfl) ?_
          obtain ⟨p135, H⟩ := gd_some H
          refine J.p rfl rfl rfl rfl (Y.slcL Try.underlying22 ti5 rfl (bnd.yes rfl p135.1) bnd.no p135.2 ka0) ?_
          obtain ⟨t136, hC137, H⟩ := bind_some H
          refine J.call (us := []) (cap := []) rfl rfl rfl go81 (fun w hw => by have hcc := IndexByte.calls ((a0.take a0.length).drop (Int.toNat (IntKind.wrap .i64 ((IntKind.wrap .i64 (i104 + t131)) + 1)))) 167 (subA 1 Aa0 ca0 (Int.toNat (IntKind.wrap .i64 ((IntKind.wrap .i64 (i104 + t131)) + 1)))) (ca0 - (Int.toNat (IntKind.wrap .i64 ((IntKind.wrap .i64 (i104 + t131)) + 1)))) (RdG.subL (l := (Int.toNat (IntKind.wrap .i64 ((IntKind.wrap .i64 (i104 + t131)) + 1)))) (h := a0.length) (ha0.suf [_] rfl) ka0) (hc_sub ka0) t136 hC137 w hw; exact hcc) (fun e w1 h1 => ?_)
          obtain ⟨rfl, hw151⟩ := h1
          refine ⟨_, _, rfl, hw151, ?_⟩
          refine J.p rfl rfl rfl rfl (Y.asg rfl) ?_
          refine J.nx ?_
          refine C.rs ?_
          refine J.p rfl rfl rfl rfl (Y.mv rfl) ?_
          refine J.p rfl rfl rfl rfl (Y.bin rfl rfl rfl) ?_
          refine J.nx ?_
          refine C.joinN H (fun (o141 : Int) (j142 : Unit) => [(0, .slice Aa0 a0.length ca0), (5, .pointer (some ⟨g1, 0, none⟩)), (7, .int .i64 (IntKind.wrap .i64 (i104 + t131))), (9, .int .i64 o141)]) (fun (o141 : Int) (j142 : Unit) => cells g1 54 [.int .i64 0, .int .u64 0, .int .i64 0, .string ByteArray.empty, .string ByteArray.empty, .int .u64 0, .int .i64 0, .int .i64 0, .int .i64 0, .string ByteArray.empty, .int .i64 0, .int .i64 0, .int .i64 0, .int .u32 0] :: G) (fun (o141 : Int) (j142 : Unit) => True) (fun o139 H HK140 => ?_) (fun o141 j142 H _ => ?_)
          · refine split2 H (fun c143 H => ?_) (fun c143 H => ?_)
            · refine C.condT (congrArg (fun b => some (Value.bool b)) (decide_eq_true c143)) ?_
              refine C.reg ?_
              refine J.p rfl rfl rfl rfl (Y.mv rfl) ?_
              refine J.p rfl rfl rfl rfl (Y.bin rfl rfl rfl) ?_
              refine J.p rfl rfl rfl rfl (Y.mv rfl) ?_
              refine J.p rfl rfl rfl rfl (Y.bin rfl rfl rfl) ?_
              refine J.p rfl rfl rfl rfl (Y.asg rfl) ?_
              refine J.nil ?_
              obtain rfl := Option.some.inj H
              exact N.meet (IntKind.wrap .i64 ((IntKind.wrap .i64 ((IntKind.wrap .i64 (i104 + t131)) + 1)) + t136), ()) ⟨HK140, trivial⟩ (by exact ⟨rfl, rfl, rfl, rfl, trivial⟩) (by exact fun w h => h)
            · refine C.condF (congrArg (fun b => some (Value.bool b)) (decide_eq_false c143)) ?_
              refine C.skip ?_
              obtain rfl := Option.some.inj H
              exact N.meet ((a0.length : Int), ()) ⟨HK140, trivial⟩ (by exact ⟨rfl, rfl, rfl, rfl, trivial⟩) (by exact fun w h => h)
          · refine N.at (s' := [(0, .slice Aa0 a0.length ca0), (5, .pointer (some ⟨g1, 0, none⟩)), (7, .int .i64 (IntKind.wrap .i64 (i104 + t131))), (9, .int .i64 o141)]) (G' := cells g1 54 [.int .i64 0, .int .u64 0, .int .i64 0, .string ByteArray.empty, .string ByteArray.empty, .int .u64 0, .int .i64 0, .int .i64 0, .int .i64 0, .string ByteArray.empty, .int .i64 0, .int .i64 0, .int .i64 0, .int .u32 0] :: G) rfl rfl ?_
            refine N.nx ?_
            refine C.rs ?_
            refine J.p rfl rfl rfl rfl (Y.mv rfl) ?_
            refine J.p rfl rfl rfl rfl (Y.mv rfl) ?_
            obtain ⟨p144, H⟩ := gd_some H
            refine J.p rfl rfl rfl rfl (Y.slcL Try.underlying22 ti5 rfl bnd.no (bnd.yes rfl p144.1) p144.2 ka0) ?_
            refine J.p rfl rfl rfl rfl (Y.mv rfl) ?_
            obtain ⟨t145, hC146, H⟩ := bind_some H
            refine J.call (us := []) (cap := []) rfl rfl rfl go45 (fun w hw => by have hcc := fDecode.calls K ((a0.take (Int.toNat o141)).drop 0) (IntKind.wrap .i64 (i104 + t131)) (subA 1 Aa0 ca0 0) (ca0 - 0) (RdG.subL (l := 0) (h := (Int.toNat o141)) (ha0.suf [_] rfl) ka0) (hc_sub ka0) t145 hC146 w hw; exact hcc) (fun e w1 h1 => ?_)
            obtain ⟨rfl, hw150⟩ := h1
            refine ⟨_, _, rfl, hw150, ?_⟩
            refine J.p rfl rfl rfl rfl (Y.mv rfl) ?_
            refine J.p rfl rfl rfl rfl (Y.ext rfl rfl) ?_
            refine J.p rfl rfl rfl rfl (Y.ext rfl rfl) ?_
            refine J.p rfl rfl rfl rfl (Y.ext rfl rfl) ?_
            refine J.alloc (L := [.int .i64 0, .int .u64 0, .int .i64 0, .string ByteArray.empty, .string ByteArray.empty, .int .u64 0, .int .i64 0, .int .i64 0, .int .i64 0, .string ByteArray.empty, .int .i64 0, .int .i64 0, .int .i64 0, .int .u32 0]) rfl ti54 rfl (fun g147 => ?_)
            refine J.stA (us := [.int .i64 t145.1, .int .u64 t145.2.1, .int .i64 t145.2.2.1, .string t145.2.2.2.1, .string t145.2.2.2.2.1, .int .u64 t145.2.2.2.2.2.1, .int .i64 t145.2.2.2.2.2.2.1, .int .i64 t145.2.2.2.2.2.2.2.1, .int .i64 t145.2.2.2.2.2.2.2.2.1, .string t145.2.2.2.2.2.2.2.2.2.1, .int .i64 t145.2.2.2.2.2.2.2.2.2.2.1, .int .i64 t145.2.2.2.2.2.2.2.2.2.2.2.1, .int .i64 t145.2.2.2.2.2.2.2.2.2.2.2.2.1, .int .u32 t145.2.2.2.2.2.2.2.2.2.2.2.2.2.1]) (L' := [.int .i64 t145.1, .int .u64 t145.2.1, .int .i64 t145.2.2.1, .string t145.2.2.2.1, .string t145.2.2.2.2.1, .int .u64 t145.2.2.2.2.2.1, .int .i64 t145.2.2.2.2.2.2.1, .int .i64 t145.2.2.2.2.2.2.2.1, .int .i64 t145.2.2.2.2.2.2.2.2.1, .string t145.2.2.2.2.2.2.2.2.2.1, .int .i64 t145.2.2.2.2.2.2.2.2.2.2.1, .int .i64 t145.2.2.2.2.2.2.2.2.2.2.2.1, .int .i64 t145.2.2.2.2.2.2.2.2.2.2.2.2.1, .int .u32 t145.2.2.2.2.2.2.2.2.2.2.2.2.2.1]) ti54 rfl rfl rfl rfl rfl rfl ?_
            refine J.p rfl rfl rfl rfl (Y.asg rfl) ?_
            refine J.p rfl rfl rfl rfl (Y.asg rfl) ?_
            refine J.nx ?_
            refine C.rs ?_
            refine J.p rfl rfl rfl rfl (Y.mv rfl) ?_
            refine J.p rfl rfl rfl rfl (Y.bin rfl rfl rfl) ?_
            refine J.nx ?_
            refine split2 H (fun c149 H => ?_) (fun c149 H => ?_)
            · refine C.condT (congrArg (fun b => some (Value.bool b)) (decide_eq_true c149)) ?_
              refine C.seq ?_
              refine C.imp (G' := cells g1 54 [.int .i64 0, .int .u64 0, .int .i64 0, .string ByteArray.empty, .string ByteArray.empty, .int .u64 0, .int .i64 0, .int .i64 0, .int .i64 0, .string ByteArray.empty, .int .i64 0, .int .i64 0, .int .i64 0, .int .u32 0] :: cells g147 54 [.int .i64 t145.1, .int .u64 t145.2.1, .int .i64 t145.2.2.1, .string t145.2.2.2.1, .string t145.2.2.2.2.1, .int .u64 t145.2.2.2.2.2.1, .int .i64 t145.2.2.2.2.2.2.1, .int .i64 t145.2.2.2.2.2.2.2.1, .int .i64 t145.2.2.2.2.2.2.2.2.1, .string t145.2.2.2.2.2.2.2.2.2.1, .int .i64 t145.2.2.2.2.2.2.2.2.2.2.1, .int .i64 t145.2.2.2.2.2.2.2.2.2.2.2.1, .int .i64 t145.2.2.2.2.2.2.2.2.2.2.2.2.1, .int .u32 t145.2.2.2.2.2.2.2.2.2.2.2.2.2.1] :: G) (fun w h => (St.pick [1, 0] [_, _] h rfl)) ?_
              refine C.drawn (fuel := 6) (ls := [false, false, false, false, false, false]) [] (cells g147 54 [.int .i64 t145.1, .int .u64 t145.2.1, .int .i64 t145.2.2.1, .string t145.2.2.2.1, .string t145.2.2.2.2.1, .int .u64 t145.2.2.2.2.2.1, .int .i64 t145.2.2.2.2.2.2.1, .int .i64 t145.2.2.2.2.2.2.2.1, .int .i64 t145.2.2.2.2.2.2.2.2.1, .string t145.2.2.2.2.2.2.2.2.2.1, .int .i64 t145.2.2.2.2.2.2.2.2.2.2.1, .int .i64 t145.2.2.2.2.2.2.2.2.2.2.2.1, .int .i64 t145.2.2.2.2.2.2.2.2.2.2.2.2.1, .int .u32 t145.2.2.2.2.2.2.2.2.2.2.2.2.2.1] :: G) mx rfl rfl ?_
              refine D.p (ls' := [true, false, false, false, false, false]) 0 rfl rfl rfl rfl (by kernel_rfl) rfl (Y.mv rfl) ?_
              refine D.r (ls' := [true, true, false, false, false, false]) 1 1 1 rfl rfl rfl rfl (by kernel_rfl) (by kernel_rfl) rfl rfl (Y.ldCA (us := [.int .i64 t145.1, .int .u64 t145.2.1, .int .i64 t145.2.2.1, .string t145.2.2.2.1, .string t145.2.2.2.2.1, .int .u64 t145.2.2.2.2.2.1, .int .i64 t145.2.2.2.2.2.2.1, .int .i64 t145.2.2.2.2.2.2.2.1, .int .i64 t145.2.2.2.2.2.2.2.2.1, .string t145.2.2.2.2.2.2.2.2.2.1, .int .i64 t145.2.2.2.2.2.2.2.2.2.2.1, .int .i64 t145.2.2.2.2.2.2.2.2.2.2.2.1, .int .i64 t145.2.2.2.2.2.2.2.2.2.2.2.2.1, .int .u32 t145.2.2.2.2.2.2.2.2.2.2.2.2.2.1]) 0 Try.underlying54 rfl ti54 rfl rfl rfl rfl) ?_
              refine D.p (ls' := [true, true, true, false, false, false]) 2 rfl rfl rfl rfl (by kernel_rfl) rfl (Y.mv rfl) ?_
              refine D.p (ls' := [true, true, true, true, false, false]) 3 rfl rfl rfl rfl (by kernel_rfl) rfl (Y.asg rfl) ?_
              refine D.any [4] (by kernel_rfl) rfl ⟨?_, trivial⟩
              refine DW.j (ls' := [true, true, true, true, true, false]) rfl rfl ?_
              refine J.stA (us := [.int .i64 t145.1, .int .u64 t145.2.1, .int .i64 t145.2.2.1, .string t145.2.2.2.1, .string t145.2.2.2.2.1, .int .u64 t145.2.2.2.2.2.1, .int .i64 t145.2.2.2.2.2.2.1, .int .i64 t145.2.2.2.2.2.2.2.1, .int .i64 t145.2.2.2.2.2.2.2.2.1, .string t145.2.2.2.2.2.2.2.2.2.1, .int .i64 t145.2.2.2.2.2.2.2.2.2.2.1, .int .i64 t145.2.2.2.2.2.2.2.2.2.2.2.1, .int .i64 t145.2.2.2.2.2.2.2.2.2.2.2.2.1, .int .u32 t145.2.2.2.2.2.2.2.2.2.2.2.2.2.1]) (L' := [.int .i64 t145.1, .int .u64 t145.2.1, .int .i64 t145.2.2.1, .string t145.2.2.2.1, .string t145.2.2.2.2.1, .int .u64 t145.2.2.2.2.2.1, .int .i64 t145.2.2.2.2.2.2.1, .int .i64 t145.2.2.2.2.2.2.2.1, .int .i64 t145.2.2.2.2.2.2.2.2.1, .string t145.2.2.2.2.2.2.2.2.2.1, .int .i64 t145.2.2.2.2.2.2.2.2.2.2.1, .int .i64 t145.2.2.2.2.2.2.2.2.2.2.2.1, .int .i64 t145.2.2.2.2.2.2.2.2.2.2.2.2.1, .int .u32 t145.2.2.2.2.2.2.2.2.2.2.2.2.2.1]) ti54 rfl rfl rfl rfl rfl rfl ?_
              refine J.nil ?_
              refine D.backK 1 rfl ?_
              refine D.p (ls' := [true, true, true, true, true, true]) 5 rfl rfl rfl rfl (by kernel_rfl) rfl (Y.asg rfl) ?_
              refine D.nil (by kernel_rfl) ?_
              refine N.nx ?_
              refine C.ret ?_
              obtain rfl := Option.some.inj H
              obtain rfl := fin_inl HK127
              obtain rfl := fin_inl HK52
              refine T.ib ?_
              refine T.th ?_
              refine T.th ?_
              refine T.ib ?_
              refine T.th ?_
              refine T.th ?_
              exact ret_okG (rvs := [.tmp 4, .cell 5 54, .tmp 6]) (vs := [.int .i64 (IntKind.wrap .i64 (i104 + t131)), .agg #[.int .i64 t145.1, .int .u64 t145.2.1, .int .i64 t145.2.2.1, .string t145.2.2.2.1, .string t145.2.2.2.2.1, .int .u64 t145.2.2.2.2.2.1, .int .i64 t145.2.2.2.2.2.2.1, .int .i64 t145.2.2.2.2.2.2.2.1, .int .i64 t145.2.2.2.2.2.2.2.2.1, .string t145.2.2.2.2.2.2.2.2.2.1, .int .i64 t145.2.2.2.2.2.2.2.2.2.2.1, .int .i64 t145.2.2.2.2.2.2.2.2.2.2.2.1, .int .i64 t145.2.2.2.2.2.2.2.2.2.2.2.2.1, .int .u32 t145.2.2.2.2.2.2.2.2.2.2.2.2.2.1], .int .i64 t145.2.2.2.2.2.2.2.2.2.2.2.2.2.2.1]) rfl ⟨RV.tmp rfl, RV.cellA (us := [.int .i64 t145.1, .int .u64 t145.2.1, .int .i64 t145.2.2.1, .string t145.2.2.2.1, .string t145.2.2.2.2.1, .int .u64 t145.2.2.2.2.2.1, .int .i64 t145.2.2.2.2.2.2.1, .int .i64 t145.2.2.2.2.2.2.2.1, .int .i64 t145.2.2.2.2.2.2.2.2.1, .string t145.2.2.2.2.2.2.2.2.2.1, .int .i64 t145.2.2.2.2.2.2.2.2.2.2.1, .int .i64 t145.2.2.2.2.2.2.2.2.2.2.2.1, .int .i64 t145.2.2.2.2.2.2.2.2.2.2.2.2.1, .int .u32 t145.2.2.2.2.2.2.2.2.2.2.2.2.2.1]) 0 Try.underlying54 rfl ti54 rfl rfl rfl rfl, RV.tmp rfl, trivial⟩ (fun w h => ⟨rfl, (St.pick [] [_, _] h rfl)⟩)
            · refine C.condF (congrArg (fun b => some (Value.bool b)) (decide_eq_false c149)) ?_
              refine C.skip ?_
              refine N.ib ?_
              obtain rfl := Option.some.inj H
              exact N.meet (IntKind.wrap .i64 (i104 + t131), ()) ⟨fin_inr HK127, trivial⟩ (by exact ⟨rfl, rfl, rfl, trivial⟩) (by exact fun w h => (St.pick [1] [_, _] h rfl))
      · refine C.at (s' := [(0, .slice Aa0 a0.length ca0), (5, .pointer (some ⟨g1, 0, none⟩)), (7, .int .i64 o128)]) (G' := cells g1 54 [.int .i64 0, .int .u64 0, .int .i64 0, .string ByteArray.empty, .string ByteArray.empty, .int .u64 0, .int .i64 0, .int .i64 0, .int .i64 0, .string ByteArray.empty, .int .i64 0, .int .i64 0, .int .i64 0, .int .u32 0] :: G) rfl rfl ?_
        refine C.reg ?_
        refine J.p rfl rfl rfl rfl (Y.mv rfl) ?_
        refine J.p rfl rfl rfl rfl (Y.bin rfl rfl rfl) ?_
        refine J.p rfl rfl rfl rfl (Y.asg rfl) ?_
        refine J.nil ?_
        exact N.again (k103, IntKind.wrap .i64 (o128 + 1), ()) ⟨H, trivial⟩ (Nat.lt_succ_self _) (by exact ⟨rfl, rfl, rfl, trivial⟩) (by exact fun w h => h)
    · refine C.condF (congrArg (fun b => some (Value.bool b)) (decide_eq_false c106)) ?_
      refine C.exit ?_
      refine X.th ?_
      refine X.th ?_
      refine X.hit ?_
      obtain rfl := Option.some.inj H
      exact N.meet ((), ()) ⟨fin_inr HK52, trivial⟩ (by exact ⟨rfl, trivial⟩) (by exact fun w h => h)
  · refine N.at (s' := [(5, .pointer (some ⟨g1, 0, none⟩))]) (G' := cells g1 54 [.int .i64 0, .int .u64 0, .int .i64 0, .string ByteArray.empty, .string ByteArray.empty, .int .u64 0, .int .i64 0, .int .i64 0, .int .i64 0, .string ByteArray.empty, .int .i64 0, .int .i64 0, .int .i64 0, .int .u32 0] :: G) rfl rfl ?_
    refine N.nx ?_
    refine C.rs ?_
    refine J.p rfl rfl rfl rfl (Y.bld (cs := [.int .i64 0, .int .u64 0, .int .i64 0, .string ByteArray.empty, .string ByteArray.empty, .int .u64 0, .int .i64 0, .int .i64 0, .int .i64 0, .string ByteArray.empty, .int .i64 0, .int .i64 0, .int .i64 0, .int .u32 0]) rfl pl54 ti54 rfl (by kernel_rfl)) ?_
    refine J.p rfl rfl rfl rfl (Y.asg rfl) ?_
    refine J.stA (us := [.int .i64 0, .int .u64 0, .int .i64 0, .string ByteArray.empty, .string ByteArray.empty, .int .u64 0, .int .i64 0, .int .i64 0, .int .i64 0, .string ByteArray.empty, .int .i64 0, .int .i64 0, .int .i64 0, .int .u32 0]) (L' := [.int .i64 0, .int .u64 0, .int .i64 0, .string ByteArray.empty, .string ByteArray.empty, .int .u64 0, .int .i64 0, .int .i64 0, .int .i64 0, .string ByteArray.empty, .int .i64 0, .int .i64 0, .int .i64 0, .int .u32 0]) ti54 rfl rfl rfl rfl rfl rfl ?_
    refine J.p rfl rfl rfl rfl (Y.asg rfl) ?_
    refine J.nx ?_
    refine C.ret ?_
    obtain rfl := Option.some.inj H
    exact ret_okG (rvs := [.tmp 4, .cell 5 54, .tmp 6]) (vs := [.int .i64 (-1), .agg #[.int .i64 0, .int .u64 0, .int .i64 0, .string ByteArray.empty, .string ByteArray.empty, .int .u64 0, .int .i64 0, .int .i64 0, .int .i64 0, .string ByteArray.empty, .int .i64 0, .int .i64 0, .int .i64 0, .int .u32 0], .int .i64 0]) rfl ⟨RV.tmp rfl, RV.cellA (us := [.int .i64 0, .int .u64 0, .int .i64 0, .string ByteArray.empty, .string ByteArray.empty, .int .u64 0, .int .i64 0, .int .i64 0, .int .i64 0, .string ByteArray.empty, .int .i64 0, .int .i64 0, .int .i64 0, .int .u32 0]) 0 Try.underlying54 rfl ti54 rfl rfl rfl rfl, RV.tmp rfl, trivial⟩ (fun w h => ⟨rfl, (St.pick [] [_] h rfl)⟩)
/-! ### salvor/scan.all$1: function 72 -/
def sallF.l1 {S E : Type} (K : Nat) (a1_0 : List Int) (step : S → (Int × Int × Int × ByteArray × ByteArray × Int × Int × Int × Int × ByteArray × Int × Int × Int × Int × Int × Int) → Option (S ⊕ E)) : Nat → (Int × S) → Option ((S ⊕ E))
  | 0, _ => none
  | k + 1, i50 => (snext.f K a1_0 i50.1).bind fun t52 => if t52.1 < 0 then (some (.inl i50.2)) else ((step i50.2 (t52.2.1, t52.2.2.1, t52.2.2.2.1, t52.2.2.2.2.1, t52.2.2.2.2.2.1, t52.2.2.2.2.2.2.1, t52.2.2.2.2.2.2.2.1, t52.2.2.2.2.2.2.2.2.1, t52.2.2.2.2.2.2.2.2.2.1, t52.2.2.2.2.2.2.2.2.2.2.1, t52.2.2.2.2.2.2.2.2.2.2.2.1, t52.2.2.2.2.2.2.2.2.2.2.2.2.1, t52.2.2.2.2.2.2.2.2.2.2.2.2.2.1, t52.2.2.2.2.2.2.2.2.2.2.2.2.2.2.1, t52.1, t52.2.2.2.2.2.2.2.2.2.2.2.2.2.2.2)).bind fun o57 => ysel o57 (fun σ58 => sallF.l1 K a1_0 step k (IntKind.wrap .i64 (t52.1 + (max t52.2.2.2.2.2.2.2.2.2.2.2.2.2.2.2 1)), σ58)) (fun e59 => some (.inr e59)))
def sallF.f {S E : Type} (K : Nat) (step : S → (Int × Int × Int × ByteArray × ByteArray × Int × Int × Int × Int × ByteArray × Int × Int × Int × Int × Int × Int) → Option (S ⊕ E)) (σ : S) (a1_0 : List Int) : Option ((S ⊕ E)) := sallF.l1 K a1_0 step K (0, σ)
theorem sallF.calls {S E : Type} {B : Nat} {w0 : World} {G : List HP} (K : Nat) (step : S → (Int × Int × Int × ByteArray × ByteArray × Int × Int × Int × Int × ByteArray × Int × Int × Int × Int × Int × Int) → Option (S ⊕ E)) (σ : S) (a1_0 : List Int) (Yy : S ⊕ E → HP) (a0 : Value) (ga1 : Nat) (Aa1_0 : Option Addr) (ca1_0 : Nat) (hy : YieldOk Try.prog B w0 G a0 encY120 Yy step) (ha1_0 : RdG B w0 G Aa1_0 (a1_0.map (Value.int .u8))) (ka1_0 : a1_0.length ≤ ca1_0) (ha1 : RdG B w0 G (some ⟨ga1, 0, none⟩) [.slice Aa1_0 a1_0.length ca1_0]) (r : (S ⊕ E)) (H : sallF.f K step σ a1_0 = some r) (w : World) (hw : St B w0 (Yy (.inl σ) :: G) w) :
    Calls Try.prog 72 [a0, .pointer (some ⟨ga1, 0, none⟩)].toArray w (fun e w' => e = .returned (.tuple #[]) ∧ St B w0 (Yy r :: G) w') := by
  unfold sallF.f at H
  refine calls_of (n := 29) (s := [(0, a0), (1, .pointer (some ⟨ga1, 0, none⟩))]) Try.func72 rfl rfl rfl rfl ?_ hw
  refine C.rs ?_
  refine J.p rfl rfl rfl rfl (Y.asg rfl) ?_
  refine J.nx ?_
  refine C.blk ?_
  refine C.loop (fun (i : Nat × (Int × S) × (Unit)) => [(0, a0), (1, .pointer (some ⟨ga1, 0, none⟩)), (3, .int .i64 i.2.1.1)]) (fun (i : Nat × (Int × S) × (Unit)) => Yy (.inl i.2.1.2) :: G) (fun (i : Nat × (Int × S) × (Unit)) => sallF.l1 K a1_0 step i.1 i.2.1 = some r ∧ (True)) (fun i => i.1) (K, (0, σ), ()) ⟨H, trivial⟩ (by exact ⟨rfl, rfl, rfl, trivial⟩) (by exact fun w h => h) ?_
  rintro ⟨k62, i50, j51⟩ ⟨H, _⟩
  replace H : sallF.l1 K a1_0 step k62 i50 = some r := H
  obtain ⟨k49, rfl⟩ : ∃ m, k62 = m + 1 := by cases k62 with | zero => exact absurd H (by simp [sallF.l1]) | succ m => exact ⟨m, rfl⟩
  rw [sallF.l1] at H
  refine C.at (s' := [(0, a0), (1, .pointer (some ⟨ga1, 0, none⟩)), (3, .int .i64 i50.1)]) (G' := Yy (.inl i50.2) :: G) rfl rfl ?_
  refine C.blk ?_
  refine C.rs ?_
  refine J.r rfl rfl rfl rfl (Y.ldR Try.underlying22 rfl rfl (ha1.suf [_] rfl) rfl) ?_
  refine J.p rfl rfl rfl rfl (Y.mv rfl) ?_
  obtain ⟨t52, hC53, H⟩ := bind_some H
  refine J.call (us := []) (cap := []) rfl rfl rfl go73 (fun w hw => by have hcc := snext.calls K a1_0 i50.1 Aa1_0 ca1_0 (ha1_0.suf [_] rfl) ka1_0 t52 hC53 w hw; exact hcc) (fun e w1 h1 => ?_)
  obtain ⟨rfl, hw61⟩ := h1
  refine ⟨_, _, rfl, hw61, ?_⟩
  refine J.p rfl rfl rfl rfl (Y.mv rfl) ?_
  refine J.p rfl rfl rfl rfl (Y.ext rfl rfl) ?_
  refine J.p rfl rfl rfl rfl (Y.ext rfl rfl) ?_
  refine J.p rfl rfl rfl rfl (Y.ext rfl rfl) ?_
  refine J.alloc (L := [.int .i64 0, .int .u64 0, .int .i64 0, .string ByteArray.empty, .string ByteArray.empty, .int .u64 0, .int .i64 0, .int .i64 0, .int .i64 0, .string ByteArray.empty, .int .i64 0, .int .i64 0, .int .i64 0, .int .u32 0]) rfl ti54 rfl (fun g54 => ?_)
  refine J.p rfl rfl rfl rfl (Y.asg rfl) ?_
  refine J.stA (us := [.int .i64 t52.2.1, .int .u64 t52.2.2.1, .int .i64 t52.2.2.2.1, .string t52.2.2.2.2.1, .string t52.2.2.2.2.2.1, .int .u64 t52.2.2.2.2.2.2.1, .int .i64 t52.2.2.2.2.2.2.2.1, .int .i64 t52.2.2.2.2.2.2.2.2.1, .int .i64 t52.2.2.2.2.2.2.2.2.2.1, .string t52.2.2.2.2.2.2.2.2.2.2.1, .int .i64 t52.2.2.2.2.2.2.2.2.2.2.2.1, .int .i64 t52.2.2.2.2.2.2.2.2.2.2.2.2.1, .int .i64 t52.2.2.2.2.2.2.2.2.2.2.2.2.2.1, .int .u32 t52.2.2.2.2.2.2.2.2.2.2.2.2.2.2.1]) (L' := [.int .i64 t52.2.1, .int .u64 t52.2.2.1, .int .i64 t52.2.2.2.1, .string t52.2.2.2.2.1, .string t52.2.2.2.2.2.1, .int .u64 t52.2.2.2.2.2.2.1, .int .i64 t52.2.2.2.2.2.2.2.1, .int .i64 t52.2.2.2.2.2.2.2.2.1, .int .i64 t52.2.2.2.2.2.2.2.2.2.1, .string t52.2.2.2.2.2.2.2.2.2.2.1, .int .i64 t52.2.2.2.2.2.2.2.2.2.2.2.1, .int .i64 t52.2.2.2.2.2.2.2.2.2.2.2.2.1, .int .i64 t52.2.2.2.2.2.2.2.2.2.2.2.2.2.1, .int .u32 t52.2.2.2.2.2.2.2.2.2.2.2.2.2.2.1]) ti54 rfl rfl rfl rfl rfl rfl ?_
  refine J.p rfl rfl rfl rfl (Y.asg rfl) ?_
  refine J.nx ?_
  refine C.seq ?_
  refine C.rs ?_
  refine J.p rfl rfl rfl rfl (Y.mv rfl) ?_
  refine J.p rfl rfl rfl rfl (Y.bin rfl rfl rfl) ?_
  refine J.p rfl rfl rfl rfl (Y.mv rfl) ?_
  refine split2 H (fun c56 H => ?_) (fun c56 H => ?_)
  · refine J.as (k := 16) rfl (congrArg Value.bool (decide_eq_true c56)) ?_
    refine J.skip rfl rfl ?_
    refine J.skip rfl rfl ?_
    refine J.skip rfl rfl ?_
    refine J.skip rfl rfl ?_
    refine J.skip rfl rfl ?_
    refine J.skip rfl rfl ?_
    refine J.skip rfl rfl ?_
    refine J.p rfl rfl rfl rfl (Y.pickT rfl rfl) ?_
    refine J.nx ?_
    refine C.condT rfl ?_
    refine C.ret ?_
    obtain rfl := Option.some.inj H
    refine T.th ?_
    refine T.ib ?_
    refine T.th ?_
    refine T.ib ?_
    exact ret_ok (ks := []) rfl rfl (fun w h => ⟨rfl, (St.pick [1] [_, _] h rfl)⟩)
  · refine J.as (k := 16) rfl (congrArg Value.bool (decide_eq_false c56)) ?_
    refine J.p rfl rfl rfl rfl (Y.mv rfl) ?_
    refine J.r rfl rfl rfl rfl (Y.ldCA (us := [.int .i64 t52.2.1, .int .u64 t52.2.2.1, .int .i64 t52.2.2.2.1, .string t52.2.2.2.2.1, .string t52.2.2.2.2.2.1, .int .u64 t52.2.2.2.2.2.2.1, .int .i64 t52.2.2.2.2.2.2.2.1, .int .i64 t52.2.2.2.2.2.2.2.2.1, .int .i64 t52.2.2.2.2.2.2.2.2.2.1, .string t52.2.2.2.2.2.2.2.2.2.2.1, .int .i64 t52.2.2.2.2.2.2.2.2.2.2.2.1, .int .i64 t52.2.2.2.2.2.2.2.2.2.2.2.2.1, .int .i64 t52.2.2.2.2.2.2.2.2.2.2.2.2.2.1, .int .u32 t52.2.2.2.2.2.2.2.2.2.2.2.2.2.2.1]) 0 Try.underlying54 rfl ti54 rfl rfl rfl rfl) ?_
    refine J.p rfl rfl rfl rfl (Y.mv rfl) ?_
    refine J.p rfl rfl rfl rfl (Y.mv rfl) ?_
    refine J.p rfl rfl rfl rfl (Y.bld (cs := [.int .i64 t52.2.1, .int .u64 t52.2.2.1, .int .i64 t52.2.2.2.1, .string t52.2.2.2.2.1, .string t52.2.2.2.2.2.1, .int .u64 t52.2.2.2.2.2.2.1, .int .i64 t52.2.2.2.2.2.2.2.1, .int .i64 t52.2.2.2.2.2.2.2.2.1, .int .i64 t52.2.2.2.2.2.2.2.2.2.1, .string t52.2.2.2.2.2.2.2.2.2.2.1, .int .i64 t52.2.2.2.2.2.2.2.2.2.2.2.1, .int .i64 t52.2.2.2.2.2.2.2.2.2.2.2.2.1, .int .i64 t52.2.2.2.2.2.2.2.2.2.2.2.2.2.1, .int .u32 t52.2.2.2.2.2.2.2.2.2.2.2.2.2.2.1, .int .i64 t52.1, .int .i64 t52.2.2.2.2.2.2.2.2.2.2.2.2.2.2.2]) rfl pl95 ti95 rfl (by kernel_rfl)) ?_
    refine J.want rfl ?_
    refine J.pull 1 rfl rfl ?_
    obtain ⟨o57, hC60, H⟩ := bind_some H
    refine J.yield (σ := i50.2) (x := (t52.2.1, t52.2.2.1, t52.2.2.2.1, t52.2.2.2.2.1, t52.2.2.2.2.2.1, t52.2.2.2.2.2.2.1, t52.2.2.2.2.2.2.2.1, t52.2.2.2.2.2.2.2.2.1, t52.2.2.2.2.2.2.2.2.2.1, t52.2.2.2.2.2.2.2.2.2.2.1, t52.2.2.2.2.2.2.2.2.2.2.2.1, t52.2.2.2.2.2.2.2.2.2.2.2.2.1, t52.2.2.2.2.2.2.2.2.2.2.2.2.2.1, t52.2.2.2.2.2.2.2.2.2.2.2.2.2.2.1, t52.1, t52.2.2.2.2.2.2.2.2.2.2.2.2.2.2.2)) rfl hy hC60 rfl rfl [_] rfl (fun σ58 ho => ?_) (fun e59 ho => ?_)
    · subst ho
      replace H := ysel_inl H
      refine J.imp (G' := Yy (.inl σ58) :: cells g54 54 [.int .i64 t52.2.1, .int .u64 t52.2.2.1, .int .i64 t52.2.2.2.1, .string t52.2.2.2.2.1, .string t52.2.2.2.2.2.1, .int .u64 t52.2.2.2.2.2.2.1, .int .i64 t52.2.2.2.2.2.2.2.1, .int .i64 t52.2.2.2.2.2.2.2.2.1, .int .i64 t52.2.2.2.2.2.2.2.2.2.1, .string t52.2.2.2.2.2.2.2.2.2.2.1, .int .i64 t52.2.2.2.2.2.2.2.2.2.2.2.1, .int .i64 t52.2.2.2.2.2.2.2.2.2.2.2.2.1, .int .i64 t52.2.2.2.2.2.2.2.2.2.2.2.2.2.1, .int .u32 t52.2.2.2.2.2.2.2.2.2.2.2.2.2.2.1] :: G) (fun w h => h) ?_
      refine J.p rfl rfl rfl rfl (Y.notb rfl) ?_
      refine J.p rfl rfl rfl rfl (Y.pickF rfl rfl) ?_
      refine J.nx ?_
      refine C.condF rfl ?_
      refine C.skip ?_
      refine N.nx ?_
      refine C.reg ?_
      refine J.p rfl rfl rfl rfl (Y.mv rfl) ?_
      refine J.p rfl rfl rfl rfl (Y.mv rfl) ?_
      refine J.p rfl rfl rfl rfl (Y.mx rfl rfl) ?_
      refine J.p rfl rfl rfl rfl (Y.bin rfl rfl rfl) ?_
      refine J.p rfl rfl rfl rfl (Y.asg rfl) ?_
      refine J.nil ?_
      refine N.ib ?_
      exact N.again (k49, (IntKind.wrap .i64 (t52.1 + (max t52.2.2.2.2.2.2.2.2.2.2.2.2.2.2.2 1)), σ58), ()) ⟨H, trivial⟩ (Nat.lt_succ_self _) (by exact ⟨rfl, rfl, rfl, trivial⟩) (by exact fun w h => (St.pick [0] [_, _] h rfl))
    · subst ho
      replace H := ysel_inr H
      refine J.imp (G' := Yy (.inr e59) :: cells g54 54 [.int .i64 t52.2.1, .int .u64 t52.2.2.1, .int .i64 t52.2.2.2.1, .string t52.2.2.2.2.1, .string t52.2.2.2.2.2.1, .int .u64 t52.2.2.2.2.2.2.1, .int .i64 t52.2.2.2.2.2.2.2.1, .int .i64 t52.2.2.2.2.2.2.2.2.1, .int .i64 t52.2.2.2.2.2.2.2.2.2.1, .string t52.2.2.2.2.2.2.2.2.2.2.1, .int .i64 t52.2.2.2.2.2.2.2.2.2.2.2.1, .int .i64 t52.2.2.2.2.2.2.2.2.2.2.2.2.1, .int .i64 t52.2.2.2.2.2.2.2.2.2.2.2.2.2.1, .int .u32 t52.2.2.2.2.2.2.2.2.2.2.2.2.2.2.1] :: G) (fun w h => h) ?_
      refine J.p rfl rfl rfl rfl (Y.notb rfl) ?_
      refine J.p rfl rfl rfl rfl (Y.pickF rfl rfl) ?_
      refine J.nx ?_
      refine C.condT rfl ?_
      refine C.ret ?_
      obtain rfl := Option.some.inj H
      refine T.th ?_
      refine T.ib ?_
      refine T.th ?_
      refine T.ib ?_
      exact ret_ok (ks := []) rfl rfl (fun w h => ⟨rfl, (St.pick [0] [_, _] h rfl)⟩)
/-! ### salvor/scan.all: function 50 -/
def sall.f (a0 : List Int) : Option (Unit) := some ()
theorem sall.calls {B : Nat} {w0 : World} {G : List HP} (a0 : List Int) (Aa0 : Option Addr) (ca0 : Nat) (ha0 : RdG B w0 G Aa0 (a0.map (Value.int .u8))) (ka0 : a0.length ≤ ca0) (r : Unit) (H : sall.f a0 = some r) (w : World) (hw : St B w0 (G) w) :
    Calls Try.prog 50 [.slice Aa0 a0.length ca0].toArray w (fun e w' => ∃ gf0, e = .returned (.func (.func 72) #[] #[.pointer (some ⟨gf0, 0, none⟩)]) ∧ St B w0 (cells gf0 22 [.slice Aa0 a0.length ca0] :: G) w') := by
  unfold sall.f at H
  refine calls_of (n := 4) (s := [(0, .slice Aa0 a0.length ca0)]) Try.func50 rfl rfl rfl rfl ?_ hw
  refine C.rs ?_
  refine J.box (L := [.slice Aa0 a0.length ca0]) rfl rfl rfl (fun g1 => ?_)
  refine J.p rfl rfl rfl rfl (Y.asg rfl) ?_
  refine J.nx ?_
  refine C.rs ?_
  refine J.p rfl rfl rfl rfl (Y.mkf rfl rfl) ?_
  refine J.p rfl rfl rfl rfl (Y.asg rfl) ?_
  refine J.nx ?_
  refine C.ret ?_
  obtain rfl := Option.some.inj H
  exact ret_ok (ks := [2]) rfl rfl (fun w h => ⟨g1, rfl, h⟩)
/-! ### salvor/scan.Frames$1: function 75 -/
def sFramesF.f {S E : Type} (K : Nat) (step : S → (Int × Int × Int × Int × ByteArray × ByteArray × Int × Int × Int × Int × ByteArray × Int × Int × Int × Int) → Option (S ⊕ E)) (σ : S) (a1_0 : List Int) : Option ((S ⊕ E)) := (sall.f a1_0).bind fun t3 => (sallF.f K (fun (i17 : S) (x24 : Int × Int × Int × ByteArray × ByteArray × Int × Int × Int × Int × ByteArray × Int × Int × Int × Int × Int × Int) => (step i17 (x24.2.2.2.2.2.2.2.2.2.2.2.2.2.2.1, x24.1, x24.2.1, x24.2.2.1, x24.2.2.2.1, x24.2.2.2.2.1, x24.2.2.2.2.2.1, x24.2.2.2.2.2.2.1, x24.2.2.2.2.2.2.2.1, x24.2.2.2.2.2.2.2.2.1, x24.2.2.2.2.2.2.2.2.2.1, x24.2.2.2.2.2.2.2.2.2.2.1, x24.2.2.2.2.2.2.2.2.2.2.2.1, x24.2.2.2.2.2.2.2.2.2.2.2.2.1, x24.2.2.2.2.2.2.2.2.2.2.2.2.2.1)).bind fun o33 => ysel o33 (fun σ34 => some (.inl σ34)) (fun e35 => some (.inr e35))) σ a1_0).bind fun t22 => ysel t22 (fun i17 => some (.inl i17)) (fun e20 => some (.inr e20))
theorem sFramesF.calls {S E : Type} {B : Nat} {w0 : World} {G : List HP} (K : Nat) (step : S → (Int × Int × Int × Int × ByteArray × ByteArray × Int × Int × Int × Int × ByteArray × Int × Int × Int × Int) → Option (S ⊕ E)) (σ : S) (a1_0 : List Int) (Yy : S ⊕ E → HP) (a0 : Value) (ga1 : Nat) (Aa1_0 : Option Addr) (ca1_0 : Nat) (hy : YieldOk Try.prog B w0 G a0 encY124 Yy step) (ha1_0 : RdG B w0 G Aa1_0 (a1_0.map (Value.int .u8))) (ka1_0 : a1_0.length ≤ ca1_0) (ha1 : RdG B w0 G (some ⟨ga1, 0, none⟩) [.slice Aa1_0 a1_0.length ca1_0]) (r : (S ⊕ E)) (H : sFramesF.f K step σ a1_0 = some r) (w : World) (hw : St B w0 (Yy (.inl σ) :: G) w) :
    Calls Try.prog 75 [a0, .pointer (some ⟨ga1, 0, none⟩)].toArray w (fun e w' => e = .returned (.tuple #[]) ∧ St B w0 (Yy r :: G) w') := by
  unfold sFramesF.f at H
  refine calls_ofM (n := 14) (s := [(0, a0), (1, .pointer (some ⟨ga1, 0, none⟩))]) Try.func75 rfl rfl rfl rfl ?_ hw
  refine C.rs ?_
  refine J.box (L := [a0]) rfl rfl hy.1 (fun g1 => ?_)
  refine J.nx ?_
  refine C.rs ?_
  refine J.r rfl rfl rfl rfl (Y.ldR Try.underlying22 rfl rfl (ha1.suf [_, _, _] rfl) rfl) ?_
  obtain ⟨t3, hC4, H⟩ := bind_some H
  refine J.call (us := []) (cap := []) rfl rfl rfl go50 (fun w hw => by have hcc := sall.calls a1_0 Aa1_0 ca1_0 (ha1_0.suf [_, _, _] rfl) ka1_0 t3 hC4 w hw; exact hcc) (fun e w1 h1 => ?_)
  obtain ⟨g5, rfl, hw38⟩ := h1
  refine ⟨_, _, rfl, hw38, ?_⟩
  refine J.nx ?_
  refine C.blk ?_
  refine C.sub (s' := [(2, .pointer (some ⟨g1, 0, none⟩)), (5, .func (.func 72) #[] #[.pointer (some ⟨g5, 0, none⟩)])]) (by exact ⟨rfl, rfl, trivial⟩) ?_
  have hkey : ∀ Gx, Gx = (cells g5 22 [.slice Aa1_0 a1_0.length ca1_0] :: cells g1 124 [a0] :: G) → RdG B w0 Gx (some ⟨g1, 0, none⟩) [a0] ∧ RdG B w0 Gx (some ⟨g5, 0, none⟩) [.slice Aa1_0 a1_0.length ca1_0] ∧ RdG B w0 Gx Aa1_0 (a1_0.map (Value.int .u8)) ∧ True := by rintro _ rfl; exact ⟨(RdG.cells 1 rfl), (RdG.cells 0 rfl), (ha1_0.suf [_, _] rfl), trivial⟩
  obtain ⟨hb27, hb28, hb29, _⟩ := hkey _ rfl
  obtain ⟨t22, hC23, H⟩ := bind_some H
  refine C.rangeF' (E := E) (Gb := cells g5 22 [.slice Aa1_0 a1_0.length ca1_0] :: cells g1 124 [a0] :: G) (caps := [.pointer (some ⟨g5, 0, none⟩)]) encY120 (fun (i17 : S) (j18 : Unit) => [Yy (.inl i17)]) (fun (i17 : S) (j18 : Unit) => True) (fun (e20 : E) (k21 : Unit) => [Yy (.inr e20)]) (fun (e20 : E) (k21 : Unit) => True) (fun (_ : E) => .ret) (fun (x24 : Int × Int × Int × ByteArray × ByteArray × Int × Int × Int × Int × ByteArray × Int × Int × Int × Int × Int × Int) (z37 : Nat) => [cells z37 95 [.int .i64 x24.1, .int .u64 x24.2.1, .int .i64 x24.2.2.1, .string x24.2.2.2.1, .string x24.2.2.2.2.1, .int .u64 x24.2.2.2.2.2.1, .int .i64 x24.2.2.2.2.2.2.1, .int .i64 x24.2.2.2.2.2.2.2.1, .int .i64 x24.2.2.2.2.2.2.2.2.1, .string x24.2.2.2.2.2.2.2.2.2.1, .int .i64 x24.2.2.2.2.2.2.2.2.2.2.1, .int .i64 x24.2.2.2.2.2.2.2.2.2.2.2.1, .int .i64 x24.2.2.2.2.2.2.2.2.2.2.2.2.1, .int .u32 x24.2.2.2.2.2.2.2.2.2.2.2.2.2.1, .int .i64 x24.2.2.2.2.2.2.2.2.2.2.2.2.2.2.1, .int .i64 x24.2.2.2.2.2.2.2.2.2.2.2.2.2.2.2]]) (fun (x24 : Int × Int × Int × ByteArray × ByteArray × Int × Int × Int × Int × ByteArray × Int × Int × Int × Int × Int × Int) (z37 : Nat) => [(2, .pointer (some ⟨g1, 0, none⟩)), (3, .pointer (some ⟨z37, 0, none⟩)), (5, .func (.func 72) #[] #[.pointer (some ⟨g5, 0, none⟩)]), (6, .agg #[.int .i64 x24.1, .int .u64 x24.2.1, .int .i64 x24.2.2.1, .string x24.2.2.2.1, .string x24.2.2.2.2.1, .int .u64 x24.2.2.2.2.2.1, .int .i64 x24.2.2.2.2.2.2.1, .int .i64 x24.2.2.2.2.2.2.2.1, .int .i64 x24.2.2.2.2.2.2.2.2.1, .string x24.2.2.2.2.2.2.2.2.2.1, .int .i64 x24.2.2.2.2.2.2.2.2.2.2.1, .int .i64 x24.2.2.2.2.2.2.2.2.2.2.2.1, .int .i64 x24.2.2.2.2.2.2.2.2.2.2.2.2.1, .int .u32 x24.2.2.2.2.2.2.2.2.2.2.2.2.2.1, .int .i64 x24.2.2.2.2.2.2.2.2.2.2.2.2.2.2.1, .int .i64 x24.2.2.2.2.2.2.2.2.2.2.2.2.2.2.2])]) _ σ () t22 rfl go72 (fun _ => rfl) (by rfl) (by decide) (pf_of rfl) trivial (fun w h => (St.pick [2, 3, 0, 1] [_, _, _, _] h rfl)) (fun Yy yv hy w hw => sallF.calls K _ _ a1_0 Yy yv g5 Aa1_0 ca1_0 hy (ha1_0.suf [_, _] rfl) ka1_0 (RdG.cells 0 rfl) _ hC23 w hw) (fun l i17 j18 x24 L25 _ => ?_) (fun l i17 j18 x24 z37 o L25 G hGG H _ hl26 => ?_) (fun ds19 i17 j18 hr _ => ?_) (fun ds19 e20 k21 hr hx => ?_)
  · refine C.sub (s' := [(2, .pointer (some ⟨g1, 0, none⟩)), (5, .func (.func 72) #[] #[.pointer (some ⟨g5, 0, none⟩)]), (6, .agg #[.int .i64 x24.1, .int .u64 x24.2.1, .int .i64 x24.2.2.1, .string x24.2.2.2.1, .string x24.2.2.2.2.1, .int .u64 x24.2.2.2.2.2.1, .int .i64 x24.2.2.2.2.2.2.1, .int .i64 x24.2.2.2.2.2.2.2.1, .int .i64 x24.2.2.2.2.2.2.2.2.1, .string x24.2.2.2.2.2.2.2.2.2.1, .int .i64 x24.2.2.2.2.2.2.2.2.2.2.1, .int .i64 x24.2.2.2.2.2.2.2.2.2.2.2.1, .int .i64 x24.2.2.2.2.2.2.2.2.2.2.2.2.1, .int .u32 x24.2.2.2.2.2.2.2.2.2.2.2.2.2.1, .int .i64 x24.2.2.2.2.2.2.2.2.2.2.2.2.2.2.1, .int .i64 x24.2.2.2.2.2.2.2.2.2.2.2.2.2.2.2])]) (by exact ⟨rfl, rfl, rfl, trivial⟩) ?_
    refine C.reg ?_
    refine J.alloc (L := [.int .i64 0, .int .u64 0, .int .i64 0, .string ByteArray.empty, .string ByteArray.empty, .int .u64 0, .int .i64 0, .int .i64 0, .int .i64 0, .string ByteArray.empty, .int .i64 0, .int .i64 0, .int .i64 0, .int .u32 0, .int .i64 0, .int .i64 0]) rfl ti95 rfl (fun g31 => ?_)
    refine J.stA (us := [.int .i64 x24.1, .int .u64 x24.2.1, .int .i64 x24.2.2.1, .string x24.2.2.2.1, .string x24.2.2.2.2.1, .int .u64 x24.2.2.2.2.2.1, .int .i64 x24.2.2.2.2.2.2.1, .int .i64 x24.2.2.2.2.2.2.2.1, .int .i64 x24.2.2.2.2.2.2.2.2.1, .string x24.2.2.2.2.2.2.2.2.2.1, .int .i64 x24.2.2.2.2.2.2.2.2.2.2.1, .int .i64 x24.2.2.2.2.2.2.2.2.2.2.2.1, .int .i64 x24.2.2.2.2.2.2.2.2.2.2.2.2.1, .int .u32 x24.2.2.2.2.2.2.2.2.2.2.2.2.2.1, .int .i64 x24.2.2.2.2.2.2.2.2.2.2.2.2.2.2.1, .int .i64 x24.2.2.2.2.2.2.2.2.2.2.2.2.2.2.2]) (L' := [.int .i64 x24.1, .int .u64 x24.2.1, .int .i64 x24.2.2.1, .string x24.2.2.2.1, .string x24.2.2.2.2.1, .int .u64 x24.2.2.2.2.2.1, .int .i64 x24.2.2.2.2.2.2.1, .int .i64 x24.2.2.2.2.2.2.2.1, .int .i64 x24.2.2.2.2.2.2.2.2.1, .string x24.2.2.2.2.2.2.2.2.2.1, .int .i64 x24.2.2.2.2.2.2.2.2.2.2.1, .int .i64 x24.2.2.2.2.2.2.2.2.2.2.2.1, .int .i64 x24.2.2.2.2.2.2.2.2.2.2.2.2.1, .int .u32 x24.2.2.2.2.2.2.2.2.2.2.2.2.2.1, .int .i64 x24.2.2.2.2.2.2.2.2.2.2.2.2.2.2.1, .int .i64 x24.2.2.2.2.2.2.2.2.2.2.2.2.2.2.2]) ti95 rfl rfl rfl rfl rfl rfl ?_
    refine J.nil ?_
    exact N.asg g31 (by exact ⟨rfl, rfl, rfl, rfl, trivial⟩) (fun w h => h)
  · obtain ⟨g31, hz⟩ := (⟨z37, rfl⟩ : ∃ g, g = z37)
    subst hz
    replace hb27 := RdG.suf hb27 L25 hGG
    replace hb28 := RdG.suf hb28 L25 hGG
    replace hb29 := RdG.suf hb29 L25 hGG
    have hy30 := YieldOk.suf (YieldOk.suf hy [cells g5 22 [.slice Aa1_0 a1_0.length ca1_0], cells g1 124 [a0]] rfl) L25 hGG
    refine C.at (s' := [(2, .pointer (some ⟨g1, 0, none⟩)), (3, .pointer (some ⟨g31, 0, none⟩)), (5, .func (.func 72) #[] #[.pointer (some ⟨g5, 0, none⟩)]), (6, .agg #[.int .i64 x24.1, .int .u64 x24.2.1, .int .i64 x24.2.2.1, .string x24.2.2.2.1, .string x24.2.2.2.2.1, .int .u64 x24.2.2.2.2.2.1, .int .i64 x24.2.2.2.2.2.2.1, .int .i64 x24.2.2.2.2.2.2.2.1, .int .i64 x24.2.2.2.2.2.2.2.2.1, .string x24.2.2.2.2.2.2.2.2.2.1, .int .i64 x24.2.2.2.2.2.2.2.2.2.2.1, .int .i64 x24.2.2.2.2.2.2.2.2.2.2.2.1, .int .i64 x24.2.2.2.2.2.2.2.2.2.2.2.2.1, .int .u32 x24.2.2.2.2.2.2.2.2.2.2.2.2.2.1, .int .i64 x24.2.2.2.2.2.2.2.2.2.2.2.2.2.2.1, .int .i64 x24.2.2.2.2.2.2.2.2.2.2.2.2.2.2.2])]) (G' := cells g31 95 [.int .i64 x24.1, .int .u64 x24.2.1, .int .i64 x24.2.2.1, .string x24.2.2.2.1, .string x24.2.2.2.2.1, .int .u64 x24.2.2.2.2.2.1, .int .i64 x24.2.2.2.2.2.2.1, .int .i64 x24.2.2.2.2.2.2.2.1, .int .i64 x24.2.2.2.2.2.2.2.2.1, .string x24.2.2.2.2.2.2.2.2.2.1, .int .i64 x24.2.2.2.2.2.2.2.2.2.2.1, .int .i64 x24.2.2.2.2.2.2.2.2.2.2.2.1, .int .i64 x24.2.2.2.2.2.2.2.2.2.2.2.2.1, .int .u32 x24.2.2.2.2.2.2.2.2.2.2.2.2.2.1, .int .i64 x24.2.2.2.2.2.2.2.2.2.2.2.2.2.2.1, .int .i64 x24.2.2.2.2.2.2.2.2.2.2.2.2.2.2.2] :: Yy (.inl i17) :: G) rfl rfl ?_
    refine C.blk ?_
    refine C.rs ?_
    refine J.r rfl rfl rfl rfl (Y.ldR Try.underlying124 rfl rfl (hb27.suf [_, _] rfl) rfl) ?_
    refine J.p rfl rfl rfl rfl (Y.fa0 fa95_1 rfl rfl) ?_
    refine J.r rfl rfl rfl rfl (Y.ldC 0 Try.underlying3 rfl rfl rfl rfl) ?_
    refine J.p rfl rfl rfl rfl (Y.fa0 fa95_0 rfl rfl) ?_
    refine J.r rfl rfl rfl rfl (Y.ldCA (us := [.int .i64 x24.1, .int .u64 x24.2.1, .int .i64 x24.2.2.1, .string x24.2.2.2.1, .string x24.2.2.2.2.1, .int .u64 x24.2.2.2.2.2.1, .int .i64 x24.2.2.2.2.2.2.1, .int .i64 x24.2.2.2.2.2.2.2.1, .int .i64 x24.2.2.2.2.2.2.2.2.1, .string x24.2.2.2.2.2.2.2.2.2.1, .int .i64 x24.2.2.2.2.2.2.2.2.2.2.1, .int .i64 x24.2.2.2.2.2.2.2.2.2.2.2.1, .int .i64 x24.2.2.2.2.2.2.2.2.2.2.2.2.1, .int .u32 x24.2.2.2.2.2.2.2.2.2.2.2.2.2.1]) 0 Try.underlying54 rfl ti54 rfl rfl rfl rfl) ?_
    refine J.pull 1 rfl rfl ?_
    obtain ⟨o33, hC36, H⟩ := bind_some H
    refine J.yield (σ := i17) (x := (x24.2.2.2.2.2.2.2.2.2.2.2.2.2.2.1, x24.1, x24.2.1, x24.2.2.1, x24.2.2.2.1, x24.2.2.2.2.1, x24.2.2.2.2.2.1, x24.2.2.2.2.2.2.1, x24.2.2.2.2.2.2.2.1, x24.2.2.2.2.2.2.2.2.1, x24.2.2.2.2.2.2.2.2.2.1, x24.2.2.2.2.2.2.2.2.2.2.1, x24.2.2.2.2.2.2.2.2.2.2.2.1, x24.2.2.2.2.2.2.2.2.2.2.2.2.1, x24.2.2.2.2.2.2.2.2.2.2.2.2.2.1)) rfl hy30 hC36 rfl rfl [_] rfl (fun σ34 ho => ?_) (fun e35 ho => ?_)
    · subst ho
      replace H := ysel_inl H
      refine J.imp (G' := Yy (.inl σ34) :: cells g31 95 [.int .i64 x24.1, .int .u64 x24.2.1, .int .i64 x24.2.2.1, .string x24.2.2.2.1, .string x24.2.2.2.2.1, .int .u64 x24.2.2.2.2.2.1, .int .i64 x24.2.2.2.2.2.2.1, .int .i64 x24.2.2.2.2.2.2.2.1, .int .i64 x24.2.2.2.2.2.2.2.2.1, .string x24.2.2.2.2.2.2.2.2.2.1, .int .i64 x24.2.2.2.2.2.2.2.2.2.2.1, .int .i64 x24.2.2.2.2.2.2.2.2.2.2.2.1, .int .i64 x24.2.2.2.2.2.2.2.2.2.2.2.2.1, .int .u32 x24.2.2.2.2.2.2.2.2.2.2.2.2.2.1, .int .i64 x24.2.2.2.2.2.2.2.2.2.2.2.2.2.2.1, .int .i64 x24.2.2.2.2.2.2.2.2.2.2.2.2.2.2.2] :: G) (fun w h => h) ?_
      refine J.p rfl rfl rfl rfl (Y.notb rfl) ?_
      refine J.nx ?_
      refine C.condF rfl ?_
      refine C.skip ?_
      refine N.ib ?_
      obtain rfl := Option.some.inj H
      exact N.round σ34 () rfl trivial (by exact fun w h => (St.pick [0] [_, _] h rfl))
    · subst ho
      replace H := ysel_inr H
      refine J.imp (G' := Yy (.inr e35) :: cells g31 95 [.int .i64 x24.1, .int .u64 x24.2.1, .int .i64 x24.2.2.1, .string x24.2.2.2.1, .string x24.2.2.2.2.1, .int .u64 x24.2.2.2.2.2.1, .int .i64 x24.2.2.2.2.2.2.1, .int .i64 x24.2.2.2.2.2.2.2.1, .int .i64 x24.2.2.2.2.2.2.2.2.1, .string x24.2.2.2.2.2.2.2.2.2.1, .int .i64 x24.2.2.2.2.2.2.2.2.2.2.1, .int .i64 x24.2.2.2.2.2.2.2.2.2.2.2.1, .int .i64 x24.2.2.2.2.2.2.2.2.2.2.2.2.1, .int .u32 x24.2.2.2.2.2.2.2.2.2.2.2.2.2.1, .int .i64 x24.2.2.2.2.2.2.2.2.2.2.2.2.2.2.1, .int .i64 x24.2.2.2.2.2.2.2.2.2.2.2.2.2.2.2] :: G) (fun w h => h) ?_
      refine J.p rfl rfl rfl rfl (Y.notb rfl) ?_
      refine J.nx ?_
      refine C.condT rfl ?_
      refine C.ret ?_
      obtain rfl := Option.some.inj H
      refine T.ib ?_
      exact T.round e35 () rfl rfl trivial (by exact fun w h => (St.pick [0] [_, _] h rfl))
  · subst hr
    replace H := ysel_inl H
    refine N.at (s' := [(2, .pointer (some ⟨g1, 0, none⟩)), (5, .func (.func 72) #[] #[.pointer (some ⟨g5, 0, none⟩)])]) (G' := dblks ds19 :: Yy (.inl i17) :: cells g5 22 [.slice Aa1_0 a1_0.length ca1_0] :: cells g1 124 [a0] :: G) rfl rfl ?_
    refine N.ib ?_
    obtain rfl := Option.some.inj H
    exact end_okM (Yy (.inl i17) :: cells g5 22 [.slice Aa1_0 a1_0.length ca1_0] :: cells g1 124 [a0] :: G) (rvs := []) (vs := []) rfl trivial (fun w h => h) (fun w h => ⟨rfl, (St.pick [0] [_, _, _] h rfl)⟩)
  · subst hr
    replace H := ysel_inr H
    refine C.at (s' := [(2, .pointer (some ⟨g1, 0, none⟩)), (5, .func (.func 72) #[] #[.pointer (some ⟨g5, 0, none⟩)])]) (G' := dblks ds19 :: Yy (.inr e20) :: cells g5 22 [.slice Aa1_0 a1_0.length ca1_0] :: cells g1 124 [a0] :: G) rfl rfl ?_
    refine C.ret ?_
    obtain rfl := Option.some.inj H
    refine T.ib ?_
    exact ret_okM (Yy (.inr e20) :: cells g5 22 [.slice Aa1_0 a1_0.length ca1_0] :: cells g1 124 [a0] :: G) (rvs := []) (vs := []) rfl trivial (fun w h => h) (fun w h => ⟨rfl, (St.pick [0] [_, _, _] h rfl)⟩)
/-! ### salvor/scan.Frames: function 52 -/
def sFrames.f (a0 : List Int) : Option (Unit) := some ()
theorem sFrames.calls {B : Nat} {w0 : World} {G : List HP} (a0 : List Int) (Aa0 : Option Addr) (ca0 : Nat) (ha0 : RdG B w0 G Aa0 (a0.map (Value.int .u8))) (ka0 : a0.length ≤ ca0) (r : Unit) (H : sFrames.f a0 = some r) (w : World) (hw : St B w0 (G) w) :
    Calls Try.prog 52 [.slice Aa0 a0.length ca0].toArray w (fun e w' => ∃ gf0, e = .returned (.func (.func 75) #[] #[.pointer (some ⟨gf0, 0, none⟩)]) ∧ St B w0 (cells gf0 22 [.slice Aa0 a0.length ca0] :: G) w') := by
  unfold sFrames.f at H
  refine calls_of (n := 4) (s := [(0, .slice Aa0 a0.length ca0)]) Try.func52 rfl rfl rfl rfl ?_ hw
  refine C.rs ?_
  refine J.box (L := [.slice Aa0 a0.length ca0]) rfl rfl rfl (fun g1 => ?_)
  refine J.p rfl rfl rfl rfl (Y.asg rfl) ?_
  refine J.nx ?_
  refine C.rs ?_
  refine J.p rfl rfl rfl rfl (Y.mkf rfl rfl) ?_
  refine J.p rfl rfl rfl rfl (Y.asg rfl) ?_
  refine J.nx ?_
  refine C.ret ?_
  obtain rfl := Option.some.inj H
  exact ret_ok (ks := [2]) rfl rfl (fun w h => ⟨g1, rfl, h⟩)
/-! ### salvor/scan.Clean: function 23 -/
def sClean.f (K : Nat) (a0 : List Int) : Option ((List Int)) := (sall.f a0).bind fun t5 => (sallF.f K (fun (i31 : (List Int)) (x38 : Int × Int × Int × ByteArray × ByteArray × Int × Int × Int × Int × ByteArray × Int × Int × Int × Int × Int × Int) => gd ((0 : Int) ≤ x38.2.2.2.2.2.2.2.2.2.2.2.2.2.2.1 ∧ (0 : Int) ≤ (IntKind.wrap .i64 (x38.2.2.2.2.2.2.2.2.2.2.2.2.2.2.1 + x38.2.2.2.2.2.2.2.2.2.2.2.2.2.2.2)) ∧ ((Int.toNat x38.2.2.2.2.2.2.2.2.2.2.2.2.2.2.1) ≤ (Int.toNat (IntKind.wrap .i64 (x38.2.2.2.2.2.2.2.2.2.2.2.2.2.2.1 + x38.2.2.2.2.2.2.2.2.2.2.2.2.2.2.2))) ∧ (Int.toNat (IntKind.wrap .i64 (x38.2.2.2.2.2.2.2.2.2.2.2.2.2.2.1 + x38.2.2.2.2.2.2.2.2.2.2.2.2.2.2.2))) ≤ a0.length)) (gd ((i31.length + ((a0.take (Int.toNat (IntKind.wrap .i64 (x38.2.2.2.2.2.2.2.2.2.2.2.2.2.2.1 + x38.2.2.2.2.2.2.2.2.2.2.2.2.2.2.2)))).drop (Int.toNat x38.2.2.2.2.2.2.2.2.2.2.2.2.2.2.1)).length) * 1 ≤ 140737488355328) (some (.inl (i31 ++ ((a0.take (Int.toNat (IntKind.wrap .i64 (x38.2.2.2.2.2.2.2.2.2.2.2.2.2.2.1 + x38.2.2.2.2.2.2.2.2.2.2.2.2.2.2.2)))).drop (Int.toNat x38.2.2.2.2.2.2.2.2.2.2.2.2.2.2.1))))))) ([] : List Int) a0).bind fun t36 => ysel t36 (fun i31 => some i31) ((fun (e : Empty) => none))
theorem sClean.calls {B : Nat} {w0 : World} {G : List HP} (K : Nat) (a0 : List Int) (Aa0 : Option Addr) (ca0 : Nat) (ha0 : RdG B w0 G Aa0 (a0.map (Value.int .u8))) (ka0 : a0.length ≤ ca0) (r : (List Int)) (H : sClean.f K a0 = some r) (w : World) (hw : St B w0 (G) w) :
    Calls Try.prog 23 [.slice Aa0 a0.length ca0].toArray w (fun e w' => ∃ A0 c0, e = .returned (.slice A0 r.length c0) ∧ St B w0 (own 5 1 A0 c0 (r.map (Value.int .u8)) :: G) w') := by
  unfold sClean.f at H
  refine calls_ofM (n := 20) (s := [(0, .slice Aa0 a0.length ca0)]) Try.func23 rfl rfl rfl rfl ?_ hw
  refine C.rs ?_
  refine J.box (L := [.slice Aa0 a0.length ca0]) rfl rfl rfl (fun g1 => ?_)
  refine J.p rfl rfl rfl rfl (Y.asg rfl) ?_
  refine J.nx ?_
  refine C.rs ?_
  refine J.alloc (L := [.slice none 0 0]) rfl ti22 rfl (fun g3 => ?_)
  refine J.nx ?_
  refine C.seq ?_
  refine C.rs ?_
  refine J.r rfl rfl rfl rfl (Y.ldC 1 Try.underlying22 rfl rfl rfl rfl) ?_
  obtain ⟨t5, hC6, H⟩ := bind_some H
  refine J.call (us := []) (cap := []) rfl rfl rfl go50 (fun w hw => by have hcc := sall.calls a0 Aa0 ca0 (ha0.suf [_, _, _] rfl) ka0 t5 hC6 w hw; exact hcc) (fun e w1 h1 => ?_)
  obtain ⟨g7, rfl, hw52⟩ := h1
  refine ⟨_, _, rfl, hw52, ?_⟩
  refine J.nx ?_
  refine C.blk ?_
  refine C.sub (s' := [(1, .pointer (some ⟨g1, 0, none⟩)), (2, .slice none 0 0), (3, .pointer (some ⟨g3, 0, none⟩)), (6, .func (.func 72) #[] #[.pointer (some ⟨g7, 0, none⟩)])]) (by exact ⟨rfl, rfl, rfl, rfl, trivial⟩) ?_
  have hkey : ∀ Gx, Gx = (cells g7 22 [.slice Aa0 a0.length ca0] :: cells g1 22 [.slice Aa0 a0.length ca0] :: G) → RdG B w0 Gx (some ⟨g1, 0, none⟩) [.slice Aa0 a0.length ca0] ∧ RdG B w0 Gx Aa0 (a0.map (Value.int .u8)) ∧ RdG B w0 Gx (some ⟨g7, 0, none⟩) [.slice Aa0 a0.length ca0] ∧ True := by rintro _ rfl; exact ⟨(RdG.cells 1 rfl), (ha0.suf [_, _] rfl), (RdG.cells 0 rfl), trivial⟩
  obtain ⟨hb41, hb42, hb43, _⟩ := hkey _ rfl
  obtain ⟨t36, hC37, H⟩ := bind_some H
  refine C.rangeF' (E := Empty) (Gb := cells g7 22 [.slice Aa0 a0.length ca0] :: cells g1 22 [.slice Aa0 a0.length ca0] :: G) (caps := [.pointer (some ⟨g7, 0, none⟩)]) encY120 (fun (i31 : (List Int)) (j32 : (Option Addr) × Nat) => [own 5 1 j32.1 j32.2 (i31.map (Value.int .u8)), cells g3 22 [.slice j32.1 i31.length j32.2]]) (fun (i31 : (List Int)) (j32 : (Option Addr) × Nat) => True) (fun (e : Empty) (k : Unit) => e.elim) (fun (e : Empty) (k : Unit) => e.elim) (fun (e : Empty) => e.elim) (fun (x38 : Int × Int × Int × ByteArray × ByteArray × Int × Int × Int × Int × ByteArray × Int × Int × Int × Int × Int × Int) (z51 : Nat) => [cells z51 95 [.int .i64 x38.1, .int .u64 x38.2.1, .int .i64 x38.2.2.1, .string x38.2.2.2.1, .string x38.2.2.2.2.1, .int .u64 x38.2.2.2.2.2.1, .int .i64 x38.2.2.2.2.2.2.1, .int .i64 x38.2.2.2.2.2.2.2.1, .int .i64 x38.2.2.2.2.2.2.2.2.1, .string x38.2.2.2.2.2.2.2.2.2.1, .int .i64 x38.2.2.2.2.2.2.2.2.2.2.1, .int .i64 x38.2.2.2.2.2.2.2.2.2.2.2.1, .int .i64 x38.2.2.2.2.2.2.2.2.2.2.2.2.1, .int .u32 x38.2.2.2.2.2.2.2.2.2.2.2.2.2.1, .int .i64 x38.2.2.2.2.2.2.2.2.2.2.2.2.2.2.1, .int .i64 x38.2.2.2.2.2.2.2.2.2.2.2.2.2.2.2]]) (fun (x38 : Int × Int × Int × ByteArray × ByteArray × Int × Int × Int × Int × ByteArray × Int × Int × Int × Int × Int × Int) (z51 : Nat) => [(1, .pointer (some ⟨g1, 0, none⟩)), (2, .slice none 0 0), (3, .pointer (some ⟨g3, 0, none⟩)), (4, .pointer (some ⟨z51, 0, none⟩)), (6, .func (.func 72) #[] #[.pointer (some ⟨g7, 0, none⟩)]), (7, .agg #[.int .i64 x38.1, .int .u64 x38.2.1, .int .i64 x38.2.2.1, .string x38.2.2.2.1, .string x38.2.2.2.2.1, .int .u64 x38.2.2.2.2.2.1, .int .i64 x38.2.2.2.2.2.2.1, .int .i64 x38.2.2.2.2.2.2.2.1, .int .i64 x38.2.2.2.2.2.2.2.2.1, .string x38.2.2.2.2.2.2.2.2.2.1, .int .i64 x38.2.2.2.2.2.2.2.2.2.2.1, .int .i64 x38.2.2.2.2.2.2.2.2.2.2.2.1, .int .i64 x38.2.2.2.2.2.2.2.2.2.2.2.2.1, .int .u32 x38.2.2.2.2.2.2.2.2.2.2.2.2.2.1, .int .i64 x38.2.2.2.2.2.2.2.2.2.2.2.2.2.2.1, .int .i64 x38.2.2.2.2.2.2.2.2.2.2.2.2.2.2.2])]) _ ([] : List Int) (none, 0) t36 rfl go72 (fun _ => rfl) (by rfl) (by decide) (pf_of rfl) trivial (fun w h => (St.pick [4, 0, 2, 1, 3] [_, _, _, _, _] (h.nilOwn 5 1) rfl)) (fun Yy yv hy w hw => sallF.calls K _ _ a0 Yy yv g7 Aa0 ca0 hy (ha0.suf [_, _] rfl) ka0 (RdG.cells 0 rfl) _ hC37 w hw) (fun l i31 j32 x38 L39 _ => ?_) (fun l i31 j32 x38 z51 o L39 G hGG H _ hl40 => ?_) (fun ds34 i31 j32 hr _ => ?_) (fun ds34 e k hr hx => ?_)
  · refine C.sub (s' := [(1, .pointer (some ⟨g1, 0, none⟩)), (2, .slice none 0 0), (3, .pointer (some ⟨g3, 0, none⟩)), (6, .func (.func 72) #[] #[.pointer (some ⟨g7, 0, none⟩)]), (7, .agg #[.int .i64 x38.1, .int .u64 x38.2.1, .int .i64 x38.2.2.1, .string x38.2.2.2.1, .string x38.2.2.2.2.1, .int .u64 x38.2.2.2.2.2.1, .int .i64 x38.2.2.2.2.2.2.1, .int .i64 x38.2.2.2.2.2.2.2.1, .int .i64 x38.2.2.2.2.2.2.2.2.1, .string x38.2.2.2.2.2.2.2.2.2.1, .int .i64 x38.2.2.2.2.2.2.2.2.2.2.1, .int .i64 x38.2.2.2.2.2.2.2.2.2.2.2.1, .int .i64 x38.2.2.2.2.2.2.2.2.2.2.2.2.1, .int .u32 x38.2.2.2.2.2.2.2.2.2.2.2.2.2.1, .int .i64 x38.2.2.2.2.2.2.2.2.2.2.2.2.2.2.1, .int .i64 x38.2.2.2.2.2.2.2.2.2.2.2.2.2.2.2])]) (by exact ⟨rfl, rfl, rfl, rfl, rfl, trivial⟩) ?_
    refine C.reg ?_
    refine J.alloc (L := [.int .i64 0, .int .u64 0, .int .i64 0, .string ByteArray.empty, .string ByteArray.empty, .int .u64 0, .int .i64 0, .int .i64 0, .int .i64 0, .string ByteArray.empty, .int .i64 0, .int .i64 0, .int .i64 0, .int .u32 0, .int .i64 0, .int .i64 0]) rfl ti95 rfl (fun g44 => ?_)
    refine J.stA (us := [.int .i64 x38.1, .int .u64 x38.2.1, .int .i64 x38.2.2.1, .string x38.2.2.2.1, .string x38.2.2.2.2.1, .int .u64 x38.2.2.2.2.2.1, .int .i64 x38.2.2.2.2.2.2.1, .int .i64 x38.2.2.2.2.2.2.2.1, .int .i64 x38.2.2.2.2.2.2.2.2.1, .string x38.2.2.2.2.2.2.2.2.2.1, .int .i64 x38.2.2.2.2.2.2.2.2.2.2.1, .int .i64 x38.2.2.2.2.2.2.2.2.2.2.2.1, .int .i64 x38.2.2.2.2.2.2.2.2.2.2.2.2.1, .int .u32 x38.2.2.2.2.2.2.2.2.2.2.2.2.2.1, .int .i64 x38.2.2.2.2.2.2.2.2.2.2.2.2.2.2.1, .int .i64 x38.2.2.2.2.2.2.2.2.2.2.2.2.2.2.2]) (L' := [.int .i64 x38.1, .int .u64 x38.2.1, .int .i64 x38.2.2.1, .string x38.2.2.2.1, .string x38.2.2.2.2.1, .int .u64 x38.2.2.2.2.2.1, .int .i64 x38.2.2.2.2.2.2.1, .int .i64 x38.2.2.2.2.2.2.2.1, .int .i64 x38.2.2.2.2.2.2.2.2.1, .string x38.2.2.2.2.2.2.2.2.2.1, .int .i64 x38.2.2.2.2.2.2.2.2.2.2.1, .int .i64 x38.2.2.2.2.2.2.2.2.2.2.2.1, .int .i64 x38.2.2.2.2.2.2.2.2.2.2.2.2.1, .int .u32 x38.2.2.2.2.2.2.2.2.2.2.2.2.2.1, .int .i64 x38.2.2.2.2.2.2.2.2.2.2.2.2.2.2.1, .int .i64 x38.2.2.2.2.2.2.2.2.2.2.2.2.2.2.2]) ti95 rfl rfl rfl rfl rfl rfl ?_
    refine J.nil ?_
    exact N.asg g44 (by exact ⟨rfl, rfl, rfl, rfl, rfl, rfl, trivial⟩) (fun w h => h)
  · obtain ⟨g44, hz⟩ := (⟨z51, rfl⟩ : ∃ g, g = z51)
    subst hz
    replace hb41 := RdG.suf hb41 L39 hGG
    replace hb42 := RdG.suf hb42 L39 hGG
    replace hb43 := RdG.suf hb43 L39 hGG
    refine C.at (s' := [(1, .pointer (some ⟨g1, 0, none⟩)), (2, .slice none 0 0), (3, .pointer (some ⟨g3, 0, none⟩)), (4, .pointer (some ⟨g44, 0, none⟩)), (6, .func (.func 72) #[] #[.pointer (some ⟨g7, 0, none⟩)]), (7, .agg #[.int .i64 x38.1, .int .u64 x38.2.1, .int .i64 x38.2.2.1, .string x38.2.2.2.1, .string x38.2.2.2.2.1, .int .u64 x38.2.2.2.2.2.1, .int .i64 x38.2.2.2.2.2.2.1, .int .i64 x38.2.2.2.2.2.2.2.1, .int .i64 x38.2.2.2.2.2.2.2.2.1, .string x38.2.2.2.2.2.2.2.2.2.1, .int .i64 x38.2.2.2.2.2.2.2.2.2.2.1, .int .i64 x38.2.2.2.2.2.2.2.2.2.2.2.1, .int .i64 x38.2.2.2.2.2.2.2.2.2.2.2.2.1, .int .u32 x38.2.2.2.2.2.2.2.2.2.2.2.2.2.1, .int .i64 x38.2.2.2.2.2.2.2.2.2.2.2.2.2.2.1, .int .i64 x38.2.2.2.2.2.2.2.2.2.2.2.2.2.2.2])]) (G' := cells g44 95 [.int .i64 x38.1, .int .u64 x38.2.1, .int .i64 x38.2.2.1, .string x38.2.2.2.1, .string x38.2.2.2.2.1, .int .u64 x38.2.2.2.2.2.1, .int .i64 x38.2.2.2.2.2.2.1, .int .i64 x38.2.2.2.2.2.2.2.1, .int .i64 x38.2.2.2.2.2.2.2.2.1, .string x38.2.2.2.2.2.2.2.2.2.1, .int .i64 x38.2.2.2.2.2.2.2.2.2.2.1, .int .i64 x38.2.2.2.2.2.2.2.2.2.2.2.1, .int .i64 x38.2.2.2.2.2.2.2.2.2.2.2.2.1, .int .u32 x38.2.2.2.2.2.2.2.2.2.2.2.2.2.1, .int .i64 x38.2.2.2.2.2.2.2.2.2.2.2.2.2.2.1, .int .i64 x38.2.2.2.2.2.2.2.2.2.2.2.2.2.2.2] :: own 5 1 j32.1 j32.2 (i31.map (Value.int .u8)) :: cells g3 22 [.slice j32.1 i31.length j32.2] :: G) rfl rfl ?_
    refine C.blk ?_
    refine C.imp (G' := own 5 1 j32.1 j32.2 (i31.map (Value.int .u8)) :: cells g3 22 [.slice j32.1 i31.length j32.2] :: cells g44 95 [.int .i64 x38.1, .int .u64 x38.2.1, .int .i64 x38.2.2.1, .string x38.2.2.2.1, .string x38.2.2.2.2.1, .int .u64 x38.2.2.2.2.2.1, .int .i64 x38.2.2.2.2.2.2.1, .int .i64 x38.2.2.2.2.2.2.2.1, .int .i64 x38.2.2.2.2.2.2.2.2.1, .string x38.2.2.2.2.2.2.2.2.2.1, .int .i64 x38.2.2.2.2.2.2.2.2.2.2.1, .int .i64 x38.2.2.2.2.2.2.2.2.2.2.2.1, .int .i64 x38.2.2.2.2.2.2.2.2.2.2.2.2.1, .int .u32 x38.2.2.2.2.2.2.2.2.2.2.2.2.2.1, .int .i64 x38.2.2.2.2.2.2.2.2.2.2.2.2.2.2.1, .int .i64 x38.2.2.2.2.2.2.2.2.2.2.2.2.2.2.2] :: G) (fun w h => (St.pick [1, 2, 0] [_, _, _] h rfl)) ?_
    refine C.drawn (fuel := 12) (ls := [false, false, false, false, false, false, false, false, false, false, false, false]) [] (cells g44 95 [.int .i64 x38.1, .int .u64 x38.2.1, .int .i64 x38.2.2.1, .string x38.2.2.2.1, .string x38.2.2.2.2.1, .int .u64 x38.2.2.2.2.2.1, .int .i64 x38.2.2.2.2.2.2.1, .int .i64 x38.2.2.2.2.2.2.2.1, .int .i64 x38.2.2.2.2.2.2.2.2.1, .string x38.2.2.2.2.2.2.2.2.2.1, .int .i64 x38.2.2.2.2.2.2.2.2.2.2.1, .int .i64 x38.2.2.2.2.2.2.2.2.2.2.2.1, .int .i64 x38.2.2.2.2.2.2.2.2.2.2.2.2.1, .int .u32 x38.2.2.2.2.2.2.2.2.2.2.2.2.2.1, .int .i64 x38.2.2.2.2.2.2.2.2.2.2.2.2.2.2.1, .int .i64 x38.2.2.2.2.2.2.2.2.2.2.2.2.2.2.2] :: G) mx rfl rfl ?_
    refine D.r (ls' := [false, true, false, false, false, false, false, false, false, false, false, false]) 1 1 2 rfl rfl rfl rfl (by kernel_rfl) (by kernel_rfl) rfl rfl (Y.ldR Try.underlying22 rfl rfl (hb41.suf [_] rfl) rfl) ?_
    refine D.p (ls' := [false, true, true, false, false, false, false, false, false, false, false, false]) 2 rfl rfl rfl rfl (by kernel_rfl) rfl (Y.fa0 fa95_1 rfl rfl) ?_
    refine D.r (ls' := [false, true, true, true, false, false, false, false, false, false, false, false]) 3 1 2 rfl rfl rfl rfl (by kernel_rfl) (by kernel_rfl) rfl rfl (Y.ldC 0 Try.underlying3 rfl rfl rfl rfl) ?_
    refine D.p (ls' := [false, true, true, true, true, false, false, false, false, false, false, false]) 4 rfl rfl rfl rfl (by kernel_rfl) rfl (Y.fa0 fa95_1 rfl rfl) ?_
    refine D.r (ls' := [false, true, true, true, true, true, false, false, false, false, false, false]) 5 1 2 rfl rfl rfl rfl (by kernel_rfl) (by kernel_rfl) rfl rfl (Y.ldC 0 Try.underlying3 rfl rfl rfl rfl) ?_
    refine D.p (ls' := [false, true, true, true, true, true, true, false, false, false, false, false]) 6 rfl rfl rfl rfl (by kernel_rfl) rfl (Y.fa0 fa95_2 rfl rfl) ?_
    refine D.r (ls' := [false, true, true, true, true, true, true, true, false, false, false, false]) 7 1 2 rfl rfl rfl rfl (by kernel_rfl) (by kernel_rfl) rfl rfl (Y.ldC 0 Try.underlying3 rfl rfl rfl rfl) ?_
    refine D.p (ls' := [false, true, true, true, true, true, true, true, true, false, false, false]) 8 rfl rfl rfl rfl (by kernel_rfl) rfl (Y.bin rfl rfl rfl) ?_
    obtain ⟨p46, H⟩ := gd_some H
    refine D.p (ls' := [false, true, true, true, true, true, true, true, true, true, false, false]) 9 rfl rfl rfl rfl (by kernel_rfl) rfl (Y.slcL Try.underlying22 ti5 rfl (bnd.yes rfl p46.1) (bnd.yes rfl p46.2.1) p46.2.2 ka0) ?_
    refine D.any [0] (by kernel_rfl) rfl ⟨?_, trivial⟩
    refine DW.j (ls' := [true, true, true, true, true, true, true, true, true, true, false, false]) rfl rfl ?_
    refine J.r rfl rfl rfl rfl (Y.ldC 1 Try.underlying22 rfl rfl rfl rfl) ?_
    refine J.nil ?_
    refine D.backK 2 rfl ?_
    refine D.any [10] (by kernel_rfl) rfl ⟨?_, trivial⟩
    refine DW.j (ls' := [true, true, true, true, true, true, true, true, true, true, true, false]) rfl rfl ?_
    obtain ⟨p49, H⟩ := gd_some H
    refine J.appL (enc := (Value.int .u8)) (xs := i31) (ys := ((a0.take (Int.toNat (IntKind.wrap .i64 (x38.2.2.2.2.2.2.2.2.2.2.2.2.2.2.1 + x38.2.2.2.2.2.2.2.2.2.2.2.2.2.2.2)))).drop (Int.toNat x38.2.2.2.2.2.2.2.2.2.2.2.2.2.2.1))) rfl Try.underlying22 ti5 rfl (by decide) rfl rfl (fun _ => rfl) (RdG.subL (l := (Int.toNat x38.2.2.2.2.2.2.2.2.2.2.2.2.2.2.1)) (h := (Int.toNat (IntKind.wrap .i64 (x38.2.2.2.2.2.2.2.2.2.2.2.2.2.2.1 + x38.2.2.2.2.2.2.2.2.2.2.2.2.2.2.2)))) (hb42.suf [_, _, _] rfl) ka0) p49 (fun A47 c48 => ?_)
    refine J.nil ?_
    refine D.backK 2 rfl ?_
    refine D.any [11] (by kernel_rfl) rfl ⟨?_, trivial⟩
    refine DW.j (ls' := [true, true, true, true, true, true, true, true, true, true, true, true]) rfl rfl ?_
    refine J.pull 1 rfl rfl ?_
    refine J.stE (L' := [.slice A47 (i31 ++ ((a0.take (Int.toNat (IntKind.wrap .i64 (x38.2.2.2.2.2.2.2.2.2.2.2.2.2.2.1 + x38.2.2.2.2.2.2.2.2.2.2.2.2.2.2.2)))).drop (Int.toNat x38.2.2.2.2.2.2.2.2.2.2.2.2.2.2.1))).length c48]) ti22 rfl rfl rfl rfl rfl ?_
    refine J.nil ?_
    refine D.backK 2 rfl ?_
    refine D.nil (by kernel_rfl) ?_
    refine N.ib ?_
    obtain rfl := Option.some.inj H
    exact N.round (i31 ++ ((a0.take (Int.toNat (IntKind.wrap .i64 (x38.2.2.2.2.2.2.2.2.2.2.2.2.2.2.1 + x38.2.2.2.2.2.2.2.2.2.2.2.2.2.2.2)))).drop (Int.toNat x38.2.2.2.2.2.2.2.2.2.2.2.2.2.2.1))) (A47, c48) rfl trivial (by exact fun w h => (St.pick [1, 0] [_, _, _] h rfl))
  · subst hr
    replace H := ysel_inl H
    refine N.at (s' := [(1, .pointer (some ⟨g1, 0, none⟩)), (2, .slice none 0 0), (3, .pointer (some ⟨g3, 0, none⟩)), (6, .func (.func 72) #[] #[.pointer (some ⟨g7, 0, none⟩)])]) (G' := dblks ds34 :: own 5 1 j32.1 j32.2 (i31.map (Value.int .u8)) :: cells g3 22 [.slice j32.1 i31.length j32.2] :: cells g7 22 [.slice Aa0 a0.length ca0] :: cells g1 22 [.slice Aa0 a0.length ca0] :: G) rfl rfl ?_
    refine N.ib ?_
    refine N.nx ?_
    refine C.rs ?_
    refine J.r rfl rfl rfl rfl (Y.ldC 2 Try.underlying22 rfl rfl rfl rfl) ?_
    refine J.p rfl rfl rfl rfl (Y.asg rfl) ?_
    refine J.nx ?_
    refine C.ret ?_
    obtain rfl := Option.some.inj H
    exact ret_okM (own 5 1 j32.1 j32.2 (i31.map (Value.int .u8)) :: cells g3 22 [.slice j32.1 i31.length j32.2] :: cells g7 22 [.slice Aa0 a0.length ca0] :: cells g1 22 [.slice Aa0 a0.length ca0] :: G) (rvs := [.tmp 2]) (vs := [.slice j32.1 i31.length j32.2]) rfl ⟨RV.tmp rfl, trivial⟩ (fun w h => h) (fun w h => ⟨j32.1, j32.2, rfl, (St.pick [0] [_, _, _, _] h rfl)⟩)
  · exact e.elim
/-! ### slices.Index[[]salvor/api.Kind,salvor/api.Kind]: function 74 -/
def sindex.l1 (a0 : List Int) (a1 : Int) : Nat → (Int) → Option ((Int) ⊕ (Unit))
  | 0, _ => none
  | k + 1, i26 => if i26 < (a0.length : Int) then (gd ((0 : Int) ≤ i26 ∧ i26 < (a0.length : Int)) (if a1 = (rd a0 i26) then (some (.inl (i26))) else (sindex.l1 a0 a1 k (IntKind.wrap .i64 (i26 + 1))))) else (some (.inr ()))
def sindex.f (K : Nat) (a0 : List Int) (a1 : Int) : Option (Int) := thn (sindex.l1 a0 a1 K 0) fun o13 => some (-1)
theorem sindex.calls {B : Nat} {w0 : World} {G : List HP} (K : Nat) (a0 : List Int) (a1 : Int) (Aa0 : Option Addr) (ca0 : Nat) (ha0 : RdG B w0 G Aa0 (a0.map (Value.int .i64))) (ka0 : a0.length ≤ ca0) (r : Int) (H : sindex.f K a0 a1 = some r) (w : World) (hw : St B w0 (G) w) :
    Calls Try.prog 74 [.slice Aa0 a0.length ca0, .int .i64 a1].toArray w (fun e w' => e = .returned (.int .i64 r) ∧ St B w0 (G) w') := by
  unfold sindex.f at H
  refine calls_of (n := 19) (s := [(0, .slice Aa0 a0.length ca0), (1, .int .i64 a1)]) Try.func74 rfl rfl rfl rfl ?_ hw
  refine C.rs ?_
  refine J.p rfl rfl rfl rfl (Y.asg rfl) ?_
  refine J.nx ?_
  refine C.seq ?_
  refine C.rs ?_
  refine J.p rfl rfl rfl rfl (Y.mv rfl) ?_
  refine J.p rfl rfl rfl rfl (Y.lenS Try.underlying96 rfl) ?_
  refine J.p rfl rfl rfl rfl (Y.mv rfl) ?_
  refine J.nx ?_
  refine C.joinNR H (fun (o13 : Unit) (j14 : Unit) => []) (fun (o13 : Unit) (j14 : Unit) => G) (fun (o13 : Unit) (j14 : Unit) => True) (fun o11 H HK12 => ?_) (fun o13 j14 H _ => ?_)
  · refine C.blk ?_
    refine C.loop (fun (i : Nat × (Int) × (Unit)) => [(0, .slice Aa0 a0.length ca0), (1, .int .i64 a1), (7, .int .i64 (a0.length : Int)), (8, .int .i64 i.2.1)]) (fun (i : Nat × (Int) × (Unit)) => G) (fun (i : Nat × (Int) × (Unit)) => sindex.l1 a0 a1 i.1 i.2.1 = some o11 ∧ (True)) (fun i => i.1) (K, 0, ()) ⟨H, trivial⟩ (by exact ⟨rfl, rfl, rfl, rfl, trivial⟩) (by exact fun w h => h) ?_
    rintro ⟨k31, i26, j27⟩ ⟨H, _⟩
    replace H : sindex.l1 a0 a1 k31 i26 = some o11 := H
    obtain ⟨k25, rfl⟩ : ∃ m, k31 = m + 1 := by cases k31 with | zero => exact absurd H (by simp [sindex.l1]) | succ m => exact ⟨m, rfl⟩
    rw [sindex.l1] at H
    refine C.at (s' := [(0, .slice Aa0 a0.length ca0), (1, .int .i64 a1), (7, .int .i64 (a0.length : Int)), (8, .int .i64 i26)]) (G' := G) rfl rfl ?_
    refine C.rs ?_
    refine J.p rfl rfl rfl rfl (Y.bin rfl rfl rfl) ?_
    refine J.nx ?_
    refine C.seq ?_
    refine split2 H (fun c28 H => ?_) (fun c28 H => ?_)
    · refine C.condT (congrArg (fun b => some (Value.bool b)) (decide_eq_true c28)) ?_
      refine C.skip ?_
      refine N.nx ?_
      refine C.seq ?_
      refine C.blk ?_
      refine C.rs ?_
      refine J.p rfl rfl rfl rfl (Y.mv rfl) ?_
      refine J.p rfl rfl rfl rfl (Y.asg rfl) ?_
      refine J.nx ?_
      refine C.rs ?_
      refine J.p rfl rfl rfl rfl (Y.mv rfl) ?_
      refine J.p rfl rfl rfl rfl (Y.mv rfl) ?_
      refine J.p rfl rfl rfl rfl (Y.mv rfl) ?_
      obtain ⟨p29, H⟩ := gd_some H
      refine J.el rfl rfl rfl Try.underlying96 ti42 Try.underlying42 rfl rfl rfl p29 ha0 ?_
      refine J.p rfl rfl rfl rfl (Y.bin rfl rfl rfl) ?_
      refine J.nx ?_
      refine split2 H (fun c30 H => ?_) (fun c30 H => ?_)
      · refine C.condT (congrArg (fun b => some (Value.bool b)) (decide_eq_true c30)) ?_
        refine C.rs ?_
        refine J.p rfl rfl rfl rfl (Y.mv rfl) ?_
        refine J.p rfl rfl rfl rfl (Y.asg rfl) ?_
        refine J.nx ?_
        refine C.ret ?_
        obtain rfl := Option.some.inj H
        obtain rfl := fin_inl HK12
        refine T.ib ?_
        refine T.th ?_
        refine T.th ?_
        refine T.ib ?_
        refine T.th ?_
        refine T.th ?_
        exact ret_ok (ks := [4]) rfl rfl (fun w h => ⟨rfl, h⟩)
      · refine C.condF (congrArg (fun b => some (Value.bool b)) (decide_eq_false c30)) ?_
        refine C.skip ?_
        refine N.ib ?_
        refine N.nx ?_
        refine C.reg ?_
        refine J.p rfl rfl rfl rfl (Y.bin rfl rfl rfl) ?_
        refine J.p rfl rfl rfl rfl (Y.mv rfl) ?_
        refine J.nil ?_
        exact N.again (k25, IntKind.wrap .i64 (i26 + 1), ()) ⟨H, trivial⟩ (Nat.lt_succ_self _) (by exact ⟨rfl, rfl, rfl, rfl, trivial⟩) (by exact fun w h => h)
    · refine C.condF (congrArg (fun b => some (Value.bool b)) (decide_eq_false c28)) ?_
      refine C.exit ?_
      refine X.th ?_
      refine X.th ?_
      refine X.hit ?_
      obtain rfl := Option.some.inj H
      exact N.meet ((), ()) ⟨fin_inr HK12, trivial⟩ (by exact trivial) (by exact fun w h => h)
  · refine N.at (s' := []) (G' := G) rfl rfl ?_
    refine N.nx ?_
    refine C.rs ?_
    refine J.p rfl rfl rfl rfl (Y.asg rfl) ?_
    refine J.nx ?_
    refine C.ret ?_
    obtain rfl := Option.some.inj H
    exact ret_ok (ks := [4]) rfl rfl (fun w h => ⟨rfl, h⟩)
/-! ### slices.Contains[[]salvor/api.Kind,salvor/api.Kind]: function 51 -/
def contains.f (K : Nat) (a0 : List Int) (a1 : Int) : Option (Bool) := (sindex.f K a0 a1).bind fun t1 => some (decide (0 ≤ t1))
theorem contains.calls {B : Nat} {w0 : World} {G : List HP} (K : Nat) (a0 : List Int) (a1 : Int) (Aa0 : Option Addr) (ca0 : Nat) (ha0 : RdG B w0 G Aa0 (a0.map (Value.int .i64))) (ka0 : a0.length ≤ ca0) (r : Bool) (H : contains.f K a0 a1 = some r) (w : World) (hw : St B w0 (G) w) :
    Calls Try.prog 51 [.slice Aa0 a0.length ca0, .int .i64 a1].toArray w (fun e w' => e = .returned (.bool r) ∧ St B w0 (G) w') := by
  unfold contains.f at H
  refine calls_of (n := 9) (s := [(0, .slice Aa0 a0.length ca0), (1, .int .i64 a1)]) Try.func51 rfl rfl rfl rfl ?_ hw
  refine C.rs ?_
  refine J.p rfl rfl rfl rfl (Y.asg rfl) ?_
  refine J.nx ?_
  refine C.rs ?_
  refine J.p rfl rfl rfl rfl (Y.mv rfl) ?_
  refine J.p rfl rfl rfl rfl (Y.mv rfl) ?_
  obtain ⟨t1, hC2, H⟩ := bind_some H
  refine J.call (us := []) (cap := []) rfl rfl rfl go74 (fun w hw => by have hcc := sindex.calls K a0 a1 Aa0 ca0 ha0 ka0 t1 hC2 w hw; exact hcc) (fun e w1 h1 => ?_)
  obtain ⟨rfl, hw3⟩ := h1
  refine ⟨_, _, rfl, hw3, ?_⟩
  refine J.p rfl rfl rfl rfl (Y.bin rfl rfl rfl) ?_
  refine J.p rfl rfl rfl rfl (Y.asg rfl) ?_
  refine J.nx ?_
  refine C.ret ?_
  obtain rfl := Option.some.inj H
  exact ret_ok (ks := [4]) rfl rfl (fun w h => ⟨rfl, h⟩)
/-! ### salvor/scan.Records: function 24 -/
def sRecords.f (K : Nat) (a0 : List Int) (a1 : List Int) : Option ((List T84_)) := (if (a1.length : Int) = 0 then (some [1, 2]) else (some a1)).bind fun o8 => (sall.f a0).bind fun t19 => (sallF.f K (fun (i55 : (List T84_)) (x62 : Int × Int × Int × ByteArray × ByteArray × Int × Int × Int × Int × ByteArray × Int × Int × Int × Int × Int × Int) => (contains.f K o8 x62.1).bind fun t70 => if t70 = true then (gd ((i55.length + [(x62.1, x62.2.1, x62.2.2.1, x62.2.2.2.1, x62.2.2.2.2.1, x62.2.2.2.2.2.1, x62.2.2.2.2.2.2.1, x62.2.2.2.2.2.2.2.1, x62.2.2.2.2.2.2.2.2.1, x62.2.2.2.2.2.2.2.2.2.1, x62.2.2.2.2.2.2.2.2.2.2.1, x62.2.2.2.2.2.2.2.2.2.2.2.1, x62.2.2.2.2.2.2.2.2.2.2.2.2.1, x62.2.2.2.2.2.2.2.2.2.2.2.2.2.1, x62.2.2.2.2.2.2.2.2.2.2.2.2.2.2.1, x62.2.2.2.2.2.2.2.2.2.2.2.2.2.2.2)].length) * 152 ≤ 140737488355328) (some (.inl (i55 ++ [(x62.1, x62.2.1, x62.2.2.1, x62.2.2.2.1, x62.2.2.2.2.1, x62.2.2.2.2.2.1, x62.2.2.2.2.2.2.1, x62.2.2.2.2.2.2.2.1, x62.2.2.2.2.2.2.2.2.1, x62.2.2.2.2.2.2.2.2.2.1, x62.2.2.2.2.2.2.2.2.2.2.1, x62.2.2.2.2.2.2.2.2.2.2.2.1, x62.2.2.2.2.2.2.2.2.2.2.2.2.1, x62.2.2.2.2.2.2.2.2.2.2.2.2.2.1, x62.2.2.2.2.2.2.2.2.2.2.2.2.2.2.1, x62.2.2.2.2.2.2.2.2.2.2.2.2.2.2.2)])))) else (some (.inl i55))) ([] : List T84_) a0).bind fun t60 => ysel t60 (fun i55 => some i55) ((fun (e : Empty) => none))
theorem sRecords.calls {B : Nat} {w0 : World} {G : List HP} (K : Nat) (a0 : List Int) (a1 : List Int) (Aa0 : Option Addr) (ca0 : Nat) (Aa1 : Option Addr) (ca1 : Nat) (ha0 : RdG B w0 G Aa0 (a0.map (Value.int .u8))) (ka0 : a0.length ≤ ca0) (ha1 : RdG B w0 G Aa1 (a1.map (Value.int .i64))) (ka1 : a1.length ≤ ca1) (r : (List T84_)) (H : sRecords.f K a0 a1 = some r) (w : World) (hw : St B w0 (G) w) :
    Calls Try.prog 24 [.slice Aa0 a0.length ca0, .slice Aa1 a1.length ca1].toArray w (fun e w' => ∃ A0 c0, e = .returned (.slice A0 r.length c0) ∧ St B w0 (own 84 16 A0 c0 (r.flatMap encT84_) :: G) w') := by
  unfold sRecords.f at H
  refine calls_ofM (n := 30) (s := [(0, .slice Aa0 a0.length ca0), (1, .slice Aa1 a1.length ca1)]) Try.func24 rfl rfl rfl rfl ?_ hw
  refine C.rs ?_
  refine J.box (L := [.slice Aa1 a1.length ca1]) rfl rfl rfl (fun g1 => ?_)
  refine J.p rfl rfl rfl rfl (Y.asg rfl) ?_
  refine J.nx ?_
  refine C.seq ?_
  refine C.rs ?_
  refine J.r rfl rfl rfl rfl (Y.ldC 0 Try.underlying96 rfl rfl rfl rfl) ?_
  refine J.p rfl rfl rfl rfl (Y.lenS Try.underlying96 rfl) ?_
  refine J.p rfl rfl rfl rfl (Y.bin rfl rfl rfl) ?_
  refine J.nx ?_
  refine C.joinND H (fun (o8 : (List Int)) (j9 : (Option Addr) × Nat × (List Int) × (Option Addr) × Nat) => [(0, .slice Aa0 a0.length ca0), (3, .pointer (some ⟨g1, 0, none⟩))]) (fun (o8 : (List Int)) (j9 : (Option Addr) × Nat × (List Int) × (Option Addr) × Nat) => own 42 1 j9.1 j9.2.1 (j9.2.2.1.map (Value.int .i64)) :: cells g1 96 [.slice j9.2.2.2.1 o8.length j9.2.2.2.2] :: G) (fun (o8 : (List Int)) (j9 : (Option Addr) × Nat × (List Int) × (Option Addr) × Nat) => (RdG B w0 (own 42 1 j9.1 j9.2.1 (j9.2.2.1.map (Value.int .i64)) :: G) j9.2.2.2.1 (o8.map (Value.int .i64)) ∧ o8.length ≤ j9.2.2.2.2)) (fun o6 H HK7 => ?_) (fun ds12 o8 j9 H hx10 => ?_)
  · refine split2 H (fun c13 H => ?_) (fun c13 H => ?_)
    · refine C.condT (congrArg (fun b => some (Value.bool b)) (decide_eq_true c13)) ?_
      refine C.reg ?_
      refine J.bsL (enc := (Value.int .i64)) (xs := [1, 2]) rfl Try.underlying96 ti42 rfl rfl rfl rfl rfl (fun A14 => ?_)
      refine J.pull 1 rfl rfl ?_
      refine J.stE (L' := [.slice A14 [1, 2].length 2]) ti96 rfl rfl rfl rfl rfl ?_
      refine J.nil ?_
      obtain rfl := Option.some.inj H
      exact N.meetD ([1, 2], (A14, 2, [1, 2], A14, 2)) ⟨HK7, ⟨RdG.own 0 rfl, (show [1, 2].length ≤ 2 from Nat.le_refl _)⟩⟩ (by exact ⟨rfl, rfl, trivial⟩) (by exact fun w h => (St.pick [2, 1, 0] [_, _, _] h rfl))
    · refine C.condF (congrArg (fun b => some (Value.bool b)) (decide_eq_false c13)) ?_
      refine C.skip ?_
      obtain rfl := Option.some.inj H
      exact N.meetD (a1, (none, 0, ([] : List Int), Aa1, ca1)) ⟨HK7, ⟨RdG.suf ha1 [_] rfl, ka1⟩⟩ (by exact ⟨rfl, rfl, trivial⟩) (by exact fun w h => (St.pick [2, 0, 1] [_, _, _] (h.nilOwn 42 1) rfl))
  · refine N.at (s' := [(0, .slice Aa0 a0.length ca0), (3, .pointer (some ⟨g1, 0, none⟩))]) (G' := dblks ds12 :: own 42 1 j9.1 j9.2.1 (j9.2.2.1.map (Value.int .i64)) :: cells g1 96 [.slice j9.2.2.2.1 o8.length j9.2.2.2.2] :: G) rfl rfl ?_
    refine N.nx ?_
    refine C.rs ?_
    refine J.alloc (L := [.slice none 0 0]) rfl ti56 rfl (fun g17 => ?_)
    refine J.nx ?_
    refine C.seq ?_
    refine C.rs ?_
    refine J.p rfl rfl rfl rfl (Y.mv rfl) ?_
    obtain ⟨t19, hC20, H⟩ := bind_some H
    refine J.call (us := []) (cap := []) rfl rfl rfl go50 (fun w hw => by have hcc := sall.calls a0 Aa0 ca0 (ha0.suf [_, _, _, _] rfl) ka0 t19 hC20 w hw; exact hcc) (fun e w1 h1 => ?_)
    obtain ⟨g21, rfl, hw81⟩ := h1
    refine ⟨_, _, rfl, hw81, ?_⟩
    refine J.nx ?_
    refine C.blk ?_
    refine C.sub (s' := [(3, .pointer (some ⟨g1, 0, none⟩)), (5, .pointer (some ⟨g17, 0, none⟩)), (12, .func (.func 72) #[] #[.pointer (some ⟨g21, 0, none⟩)])]) (by exact ⟨rfl, rfl, rfl, trivial⟩) ?_
    have hkey : ∀ Gx, Gx = (cells g21 22 [.slice Aa0 a0.length ca0] :: own 42 1 j9.1 j9.2.1 (j9.2.2.1.map (Value.int .i64)) :: G) → RdG B w0 Gx (some ⟨g21, 0, none⟩) [.slice Aa0 a0.length ca0] ∧ RdG B w0 Gx Aa0 (a0.map (Value.int .u8)) ∧ RdG B w0 Gx j9.2.2.2.1 (o8.map (Value.int .i64)) ∧ True := by rintro _ rfl; exact ⟨(RdG.cells 0 rfl), (ha0.suf [_, _] rfl), (Inc.rd (Inc.mix [_, _] 1 rfl rfl) hx10.1), trivial⟩
    obtain ⟨hb65, hb66, hb67, _⟩ := hkey _ rfl
    obtain ⟨t60, hC61, H⟩ := bind_some H
    refine C.rangeF' (E := Empty) (Gb := cells g21 22 [.slice Aa0 a0.length ca0] :: own 42 1 j9.1 j9.2.1 (j9.2.2.1.map (Value.int .i64)) :: G) (caps := [.pointer (some ⟨g21, 0, none⟩)]) encY120 (fun (i55 : (List T84_)) (j56 : (Option Addr) × Nat) => [own 84 16 j56.1 j56.2 (i55.flatMap encT84_), cells g17 56 [.slice j56.1 i55.length j56.2], cells g1 96 [.slice j9.2.2.2.1 o8.length j9.2.2.2.2]]) (fun (i55 : (List T84_)) (j56 : (Option Addr) × Nat) => True) (fun (e : Empty) (k : Unit) => e.elim) (fun (e : Empty) (k : Unit) => e.elim) (fun (e : Empty) => e.elim) (fun (x62 : Int × Int × Int × ByteArray × ByteArray × Int × Int × Int × Int × ByteArray × Int × Int × Int × Int × Int × Int) (z80 : Nat) => [cells z80 95 [.int .i64 x62.1, .int .u64 x62.2.1, .int .i64 x62.2.2.1, .string x62.2.2.2.1, .string x62.2.2.2.2.1, .int .u64 x62.2.2.2.2.2.1, .int .i64 x62.2.2.2.2.2.2.1, .int .i64 x62.2.2.2.2.2.2.2.1, .int .i64 x62.2.2.2.2.2.2.2.2.1, .string x62.2.2.2.2.2.2.2.2.2.1, .int .i64 x62.2.2.2.2.2.2.2.2.2.2.1, .int .i64 x62.2.2.2.2.2.2.2.2.2.2.2.1, .int .i64 x62.2.2.2.2.2.2.2.2.2.2.2.2.1, .int .u32 x62.2.2.2.2.2.2.2.2.2.2.2.2.2.1, .int .i64 x62.2.2.2.2.2.2.2.2.2.2.2.2.2.2.1, .int .i64 x62.2.2.2.2.2.2.2.2.2.2.2.2.2.2.2]]) (fun (x62 : Int × Int × Int × ByteArray × ByteArray × Int × Int × Int × Int × ByteArray × Int × Int × Int × Int × Int × Int) (z80 : Nat) => [(3, .pointer (some ⟨g1, 0, none⟩)), (5, .pointer (some ⟨g17, 0, none⟩)), (6, .pointer (some ⟨z80, 0, none⟩)), (12, .func (.func 72) #[] #[.pointer (some ⟨g21, 0, none⟩)]), (13, .agg #[.int .i64 x62.1, .int .u64 x62.2.1, .int .i64 x62.2.2.1, .string x62.2.2.2.1, .string x62.2.2.2.2.1, .int .u64 x62.2.2.2.2.2.1, .int .i64 x62.2.2.2.2.2.2.1, .int .i64 x62.2.2.2.2.2.2.2.1, .int .i64 x62.2.2.2.2.2.2.2.2.1, .string x62.2.2.2.2.2.2.2.2.2.1, .int .i64 x62.2.2.2.2.2.2.2.2.2.2.1, .int .i64 x62.2.2.2.2.2.2.2.2.2.2.2.1, .int .i64 x62.2.2.2.2.2.2.2.2.2.2.2.2.1, .int .u32 x62.2.2.2.2.2.2.2.2.2.2.2.2.2.1, .int .i64 x62.2.2.2.2.2.2.2.2.2.2.2.2.2.2.1, .int .i64 x62.2.2.2.2.2.2.2.2.2.2.2.2.2.2.2])]) _ ([] : List T84_) (none, 0) t60 rfl go72 (fun _ => rfl) (by rfl) (by decide) (pf_of rfl) trivial (fun w h => (St.pick [3, 0, 2, 5, 1, 4] [_, _, _, _, _, _] (h.nilOwn 84 16) rfl)) (fun Yy yv hy w hw => sallF.calls K _ _ a0 Yy yv g21 Aa0 ca0 hy (ha0.suf [_, _] rfl) ka0 (RdG.cells 0 rfl) _ hC61 w hw) (fun l i55 j56 x62 L63 _ => ?_) (fun l i55 j56 x62 z80 o L63 G hGG H _ hl64 => ?_) (fun ds58 i55 j56 hr _ => ?_) (fun ds58 e k hr hx => ?_)
    · refine C.sub (s' := [(3, .pointer (some ⟨g1, 0, none⟩)), (5, .pointer (some ⟨g17, 0, none⟩)), (12, .func (.func 72) #[] #[.pointer (some ⟨g21, 0, none⟩)]), (13, .agg #[.int .i64 x62.1, .int .u64 x62.2.1, .int .i64 x62.2.2.1, .string x62.2.2.2.1, .string x62.2.2.2.2.1, .int .u64 x62.2.2.2.2.2.1, .int .i64 x62.2.2.2.2.2.2.1, .int .i64 x62.2.2.2.2.2.2.2.1, .int .i64 x62.2.2.2.2.2.2.2.2.1, .string x62.2.2.2.2.2.2.2.2.2.1, .int .i64 x62.2.2.2.2.2.2.2.2.2.2.1, .int .i64 x62.2.2.2.2.2.2.2.2.2.2.2.1, .int .i64 x62.2.2.2.2.2.2.2.2.2.2.2.2.1, .int .u32 x62.2.2.2.2.2.2.2.2.2.2.2.2.2.1, .int .i64 x62.2.2.2.2.2.2.2.2.2.2.2.2.2.2.1, .int .i64 x62.2.2.2.2.2.2.2.2.2.2.2.2.2.2.2])]) (by exact ⟨rfl, rfl, rfl, rfl, trivial⟩) ?_
      refine C.reg ?_
      refine J.alloc (L := [.int .i64 0, .int .u64 0, .int .i64 0, .string ByteArray.empty, .string ByteArray.empty, .int .u64 0, .int .i64 0, .int .i64 0, .int .i64 0, .string ByteArray.empty, .int .i64 0, .int .i64 0, .int .i64 0, .int .u32 0, .int .i64 0, .int .i64 0]) rfl ti95 rfl (fun g68 => ?_)
      refine J.stA (us := [.int .i64 x62.1, .int .u64 x62.2.1, .int .i64 x62.2.2.1, .string x62.2.2.2.1, .string x62.2.2.2.2.1, .int .u64 x62.2.2.2.2.2.1, .int .i64 x62.2.2.2.2.2.2.1, .int .i64 x62.2.2.2.2.2.2.2.1, .int .i64 x62.2.2.2.2.2.2.2.2.1, .string x62.2.2.2.2.2.2.2.2.2.1, .int .i64 x62.2.2.2.2.2.2.2.2.2.2.1, .int .i64 x62.2.2.2.2.2.2.2.2.2.2.2.1, .int .i64 x62.2.2.2.2.2.2.2.2.2.2.2.2.1, .int .u32 x62.2.2.2.2.2.2.2.2.2.2.2.2.2.1, .int .i64 x62.2.2.2.2.2.2.2.2.2.2.2.2.2.2.1, .int .i64 x62.2.2.2.2.2.2.2.2.2.2.2.2.2.2.2]) (L' := [.int .i64 x62.1, .int .u64 x62.2.1, .int .i64 x62.2.2.1, .string x62.2.2.2.1, .string x62.2.2.2.2.1, .int .u64 x62.2.2.2.2.2.1, .int .i64 x62.2.2.2.2.2.2.1, .int .i64 x62.2.2.2.2.2.2.2.1, .int .i64 x62.2.2.2.2.2.2.2.2.1, .string x62.2.2.2.2.2.2.2.2.2.1, .int .i64 x62.2.2.2.2.2.2.2.2.2.2.1, .int .i64 x62.2.2.2.2.2.2.2.2.2.2.2.1, .int .i64 x62.2.2.2.2.2.2.2.2.2.2.2.2.1, .int .u32 x62.2.2.2.2.2.2.2.2.2.2.2.2.2.1, .int .i64 x62.2.2.2.2.2.2.2.2.2.2.2.2.2.2.1, .int .i64 x62.2.2.2.2.2.2.2.2.2.2.2.2.2.2.2]) ti95 rfl rfl rfl rfl rfl rfl ?_
      refine J.nil ?_
      exact N.asg g68 (by exact ⟨rfl, rfl, rfl, rfl, rfl, trivial⟩) (fun w h => h)
    · obtain ⟨g68, hz⟩ := (⟨z80, rfl⟩ : ∃ g, g = z80)
      subst hz
      replace hb65 := RdG.suf hb65 L63 hGG
      replace hb66 := RdG.suf hb66 L63 hGG
      replace hb67 := RdG.suf hb67 L63 hGG
      refine C.at (s' := [(3, .pointer (some ⟨g1, 0, none⟩)), (5, .pointer (some ⟨g17, 0, none⟩)), (6, .pointer (some ⟨g68, 0, none⟩)), (12, .func (.func 72) #[] #[.pointer (some ⟨g21, 0, none⟩)]), (13, .agg #[.int .i64 x62.1, .int .u64 x62.2.1, .int .i64 x62.2.2.1, .string x62.2.2.2.1, .string x62.2.2.2.2.1, .int .u64 x62.2.2.2.2.2.1, .int .i64 x62.2.2.2.2.2.2.1, .int .i64 x62.2.2.2.2.2.2.2.1, .int .i64 x62.2.2.2.2.2.2.2.2.1, .string x62.2.2.2.2.2.2.2.2.2.1, .int .i64 x62.2.2.2.2.2.2.2.2.2.2.1, .int .i64 x62.2.2.2.2.2.2.2.2.2.2.2.1, .int .i64 x62.2.2.2.2.2.2.2.2.2.2.2.2.1, .int .u32 x62.2.2.2.2.2.2.2.2.2.2.2.2.2.1, .int .i64 x62.2.2.2.2.2.2.2.2.2.2.2.2.2.2.1, .int .i64 x62.2.2.2.2.2.2.2.2.2.2.2.2.2.2.2])]) (G' := cells g68 95 [.int .i64 x62.1, .int .u64 x62.2.1, .int .i64 x62.2.2.1, .string x62.2.2.2.1, .string x62.2.2.2.2.1, .int .u64 x62.2.2.2.2.2.1, .int .i64 x62.2.2.2.2.2.2.1, .int .i64 x62.2.2.2.2.2.2.2.1, .int .i64 x62.2.2.2.2.2.2.2.2.1, .string x62.2.2.2.2.2.2.2.2.2.1, .int .i64 x62.2.2.2.2.2.2.2.2.2.2.1, .int .i64 x62.2.2.2.2.2.2.2.2.2.2.2.1, .int .i64 x62.2.2.2.2.2.2.2.2.2.2.2.2.1, .int .u32 x62.2.2.2.2.2.2.2.2.2.2.2.2.2.1, .int .i64 x62.2.2.2.2.2.2.2.2.2.2.2.2.2.2.1, .int .i64 x62.2.2.2.2.2.2.2.2.2.2.2.2.2.2.2] :: own 84 16 j56.1 j56.2 (i55.flatMap encT84_) :: cells g17 56 [.slice j56.1 i55.length j56.2] :: cells g1 96 [.slice j9.2.2.2.1 o8.length j9.2.2.2.2] :: G) rfl rfl ?_
      refine C.blk ?_
      refine C.rs ?_
      refine J.r rfl rfl rfl rfl (Y.ldC 3 Try.underlying96 rfl rfl rfl rfl) ?_
      refine J.p rfl rfl rfl rfl (Y.fa0 fa95_0 rfl rfl) ?_
      refine J.p rfl rfl rfl rfl (Y.fa0 fa54_0 rfl rfl) ?_
      refine J.r rfl rfl rfl rfl (Y.ldC 0 Try.underlying42 rfl rfl rfl rfl) ?_
      obtain ⟨t70, hC71, H⟩ := bind_some H
      refine J.call (us := []) (cap := []) rfl rfl rfl go51 (fun w hw => by have hcc := contains.calls K o8 x62.1 j9.2.2.2.1 j9.2.2.2.2 (hb67.suf [_, _, _, _] rfl) hx10.2 t70 hC71 w hw; exact hcc) (fun e w1 h1 => ?_)
      obtain ⟨rfl, hw79⟩ := h1
      refine ⟨_, _, rfl, hw79, ?_⟩
      refine J.nx ?_
      refine split2 H (fun c72 H => ?_) (fun c72 H => ?_)
      · refine C.condT (congrArg (fun b => some (Value.bool b)) (c72)) ?_
        refine C.reg ?_
        refine J.r rfl rfl rfl rfl (Y.ldC 2 Try.underlying56 rfl rfl rfl rfl) ?_
        refine J.p rfl rfl rfl rfl (Y.fa0 fa95_0 rfl rfl) ?_
        refine J.r rfl rfl rfl rfl (Y.ldCA (us := [.int .i64 x62.1, .int .u64 x62.2.1, .int .i64 x62.2.2.1, .string x62.2.2.2.1, .string x62.2.2.2.2.1, .int .u64 x62.2.2.2.2.2.1, .int .i64 x62.2.2.2.2.2.2.1, .int .i64 x62.2.2.2.2.2.2.2.1, .int .i64 x62.2.2.2.2.2.2.2.2.1, .string x62.2.2.2.2.2.2.2.2.2.1, .int .i64 x62.2.2.2.2.2.2.2.2.2.2.1, .int .i64 x62.2.2.2.2.2.2.2.2.2.2.2.1, .int .i64 x62.2.2.2.2.2.2.2.2.2.2.2.2.1, .int .u32 x62.2.2.2.2.2.2.2.2.2.2.2.2.2.1]) 0 Try.underlying54 rfl ti54 rfl rfl rfl rfl) ?_
        refine J.p rfl rfl rfl rfl (Y.fa0 fa95_1 rfl rfl) ?_
        refine J.r rfl rfl rfl rfl (Y.ldC 0 Try.underlying3 rfl rfl rfl rfl) ?_
        refine J.p rfl rfl rfl rfl (Y.fa0 fa95_2 rfl rfl) ?_
        refine J.r rfl rfl rfl rfl (Y.ldC 0 Try.underlying3 rfl rfl rfl rfl) ?_
        refine J.p rfl rfl rfl rfl (Y.bld (cs := [.int .i64 x62.1, .int .u64 x62.2.1, .int .i64 x62.2.2.1, .string x62.2.2.2.1, .string x62.2.2.2.2.1, .int .u64 x62.2.2.2.2.2.1, .int .i64 x62.2.2.2.2.2.2.1, .int .i64 x62.2.2.2.2.2.2.2.1, .int .i64 x62.2.2.2.2.2.2.2.2.1, .string x62.2.2.2.2.2.2.2.2.2.1, .int .i64 x62.2.2.2.2.2.2.2.2.2.2.1, .int .i64 x62.2.2.2.2.2.2.2.2.2.2.2.1, .int .i64 x62.2.2.2.2.2.2.2.2.2.2.2.2.1, .int .u32 x62.2.2.2.2.2.2.2.2.2.2.2.2.2.1, .int .i64 x62.2.2.2.2.2.2.2.2.2.2.2.2.2.2.1, .int .i64 x62.2.2.2.2.2.2.2.2.2.2.2.2.2.2.2]) rfl pl84 ti84 rfl (by kernel_rfl)) ?_
        refine J.bsM (enc := encT84_) (xs := [(x62.1, x62.2.1, x62.2.2.1, x62.2.2.2.1, x62.2.2.2.2.1, x62.2.2.2.2.2.1, x62.2.2.2.2.2.2.1, x62.2.2.2.2.2.2.2.1, x62.2.2.2.2.2.2.2.2.1, x62.2.2.2.2.2.2.2.2.2.1, x62.2.2.2.2.2.2.2.2.2.2.1, x62.2.2.2.2.2.2.2.2.2.2.2.1, x62.2.2.2.2.2.2.2.2.2.2.2.2.1, x62.2.2.2.2.2.2.2.2.2.2.2.2.2.1, x62.2.2.2.2.2.2.2.2.2.2.2.2.2.2.1, x62.2.2.2.2.2.2.2.2.2.2.2.2.2.2.2)]) (zs := [.int .i64 0, .int .u64 0, .int .i64 0, .string ByteArray.empty, .string ByteArray.empty, .int .u64 0, .int .i64 0, .int .i64 0, .int .i64 0, .string ByteArray.empty, .int .i64 0, .int .i64 0, .int .i64 0, .int .u32 0, .int .i64 0, .int .i64 0]) lenT84_ rfl Try.underlying56 ti84 (by kernel_rfl) rfl (by kernel_rfl) rfl rfl rfl (fun A73 => ?_)
        refine J.pull 2 rfl rfl ?_
        obtain ⟨p77, H⟩ := gd_some H
        refine J.appM (enc := encT84_) (xs := i55) (ys := [(x62.1, x62.2.1, x62.2.2.1, x62.2.2.2.1, x62.2.2.2.2.1, x62.2.2.2.2.2.1, x62.2.2.2.2.2.2.1, x62.2.2.2.2.2.2.2.1, x62.2.2.2.2.2.2.2.2.1, x62.2.2.2.2.2.2.2.2.2.1, x62.2.2.2.2.2.2.2.2.2.2.1, x62.2.2.2.2.2.2.2.2.2.2.2.1, x62.2.2.2.2.2.2.2.2.2.2.2.2.1, x62.2.2.2.2.2.2.2.2.2.2.2.2.2.1, x62.2.2.2.2.2.2.2.2.2.2.2.2.2.2.1, x62.2.2.2.2.2.2.2.2.2.2.2.2.2.2.2)]) lenT84_ oneT84_ rfl Try.underlying56 ti84 rfl (by decide) (by decide) rfl rfl (RdG.own 1 rfl) p77 (fun A75 c76 => ?_)
        refine J.pull 1 rfl rfl (J.drop ?_)
        refine J.pull 2 rfl rfl ?_
        refine J.stE (L' := [.slice A75 (i55 ++ [(x62.1, x62.2.1, x62.2.2.1, x62.2.2.2.1, x62.2.2.2.2.1, x62.2.2.2.2.2.1, x62.2.2.2.2.2.2.1, x62.2.2.2.2.2.2.2.1, x62.2.2.2.2.2.2.2.2.1, x62.2.2.2.2.2.2.2.2.2.1, x62.2.2.2.2.2.2.2.2.2.2.1, x62.2.2.2.2.2.2.2.2.2.2.2.1, x62.2.2.2.2.2.2.2.2.2.2.2.2.1, x62.2.2.2.2.2.2.2.2.2.2.2.2.2.1, x62.2.2.2.2.2.2.2.2.2.2.2.2.2.2.1, x62.2.2.2.2.2.2.2.2.2.2.2.2.2.2.2)]).length c76]) ti56 rfl rfl rfl rfl rfl ?_
        refine J.nil ?_
        refine N.ib ?_
        obtain rfl := Option.some.inj H
        exact N.round (i55 ++ [(x62.1, x62.2.1, x62.2.2.1, x62.2.2.2.1, x62.2.2.2.2.1, x62.2.2.2.2.2.1, x62.2.2.2.2.2.2.1, x62.2.2.2.2.2.2.2.1, x62.2.2.2.2.2.2.2.2.1, x62.2.2.2.2.2.2.2.2.2.1, x62.2.2.2.2.2.2.2.2.2.2.1, x62.2.2.2.2.2.2.2.2.2.2.2.1, x62.2.2.2.2.2.2.2.2.2.2.2.2.1, x62.2.2.2.2.2.2.2.2.2.2.2.2.2.1, x62.2.2.2.2.2.2.2.2.2.2.2.2.2.2.1, x62.2.2.2.2.2.2.2.2.2.2.2.2.2.2.2)]) (A75, c76) rfl trivial (by exact fun w h => (St.pick [1, 0, 3] [_, _, _, _] h rfl))
      · refine C.condF (congrArg (fun b => some (Value.bool b)) (nt c72)) ?_
        refine C.skip ?_
        refine N.ib ?_
        obtain rfl := Option.some.inj H
        exact N.round i55 (j56.1, j56.2) rfl trivial (by exact fun w h => (St.pick [1, 2, 3] [_, _, _, _] h rfl))
    · subst hr
      replace H := ysel_inl H
      refine N.at (s' := [(3, .pointer (some ⟨g1, 0, none⟩)), (5, .pointer (some ⟨g17, 0, none⟩)), (12, .func (.func 72) #[] #[.pointer (some ⟨g21, 0, none⟩)])]) (G' := dblks ds58 :: own 84 16 j56.1 j56.2 (i55.flatMap encT84_) :: cells g17 56 [.slice j56.1 i55.length j56.2] :: cells g1 96 [.slice j9.2.2.2.1 o8.length j9.2.2.2.2] :: cells g21 22 [.slice Aa0 a0.length ca0] :: own 42 1 j9.1 j9.2.1 (j9.2.2.1.map (Value.int .i64)) :: G) rfl rfl ?_
      refine N.ib ?_
      refine N.nx ?_
      refine C.rs ?_
      refine J.r rfl rfl rfl rfl (Y.ldC 2 Try.underlying56 rfl rfl rfl rfl) ?_
      refine J.p rfl rfl rfl rfl (Y.asg rfl) ?_
      refine J.nx ?_
      refine C.ret ?_
      obtain rfl := Option.some.inj H
      exact ret_okM (own 84 16 j56.1 j56.2 (i55.flatMap encT84_) :: cells g17 56 [.slice j56.1 i55.length j56.2] :: cells g1 96 [.slice j9.2.2.2.1 o8.length j9.2.2.2.2] :: cells g21 22 [.slice Aa0 a0.length ca0] :: own 42 1 j9.1 j9.2.1 (j9.2.2.1.map (Value.int .i64)) :: G) (rvs := [.tmp 4]) (vs := [.slice j56.1 i55.length j56.2]) rfl ⟨RV.tmp rfl, trivial⟩ (fun w h => h) (fun w h => ⟨j56.1, j56.2, rfl, (St.pick [0] [_, _, _, _, _] h rfl)⟩)
    · exact e.elim
end Go.Proofs.Ytmbhpcdamfdphaa
