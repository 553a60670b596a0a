/- Own text, printed by the lifting program: each Go function beside a plain function, and the proof that a call of the one comes to the other. Conditions: what came in can be read. -/
import Derived.Test.YtkblnahoidbfkaaLiftC
set_option linter.unusedVariables false
set_option linter.unusedSimpArgs false
set_option maxRecDepth 10000
set_option maxHeartbeats 4000000
namespace Go.Proofs.Ytkblnahoidbfkaa
open Go Go.Sx
abbrev T80_ := Int × Int × Int × ByteArray × ByteArray × Int × Int × Int × Int × ByteArray × Int × Int × Int × Int × Int × Int
abbrev encT80_ (x : T80_) : List Value := [.int .i64 x.1, .int .u64 x.2.1, .int .i64 x.2.2.1, .string x.2.2.2.1, .string x.2.2.2.2.1, .int .u64 x.2.2.2.2.2.1, .int .i64 x.2.2.2.2.2.2.1, .int .i64 x.2.2.2.2.2.2.2.1, .int .i64 x.2.2.2.2.2.2.2.2.1, .string x.2.2.2.2.2.2.2.2.2.1, .int .i64 x.2.2.2.2.2.2.2.2.2.2.1, .int .i64 x.2.2.2.2.2.2.2.2.2.2.2.1, .int .i64 x.2.2.2.2.2.2.2.2.2.2.2.2.1, .int .u32 x.2.2.2.2.2.2.2.2.2.2.2.2.2.1, .int .i64 x.2.2.2.2.2.2.2.2.2.2.2.2.2.2.1, .int .i64 x.2.2.2.2.2.2.2.2.2.2.2.2.2.2.2]
theorem lenT80_ : ∀ x : T80_, (encT80_ x).length = 16 := fun _ => rfl
theorem oneT80_ : ∀ (x : T80_), ∀ u ∈ encT80_ x, u.oneCell' = true := by intro x u hu; simp only [List.mem_cons, List.not_mem_nil, or_false] at hu; rcases hu with rfl | rfl | rfl | rfl | rfl | rfl | rfl | rfl | rfl | rfl | rfl | rfl | rfl | rfl | rfl | rfl <;> rfl
theorem ti75 : TI Try.prog 75 1 24 (.slice none 0 0) := TI.of (by kernel_rfl)
theorem ti76 : TI Try.prog 76 1 24 (.slice none 0 0) := TI.of (by kernel_rfl)
theorem ti80 : TI Try.prog 80 16 152 (.agg #[.int .i64 0, .int .u64 0, .int .i64 0, .string ByteArray.empty, .string ByteArray.empty, .int .u64 0, .int .i64 0, .int .i64 0, .int .i64 0, .string ByteArray.empty, .int .i64 0, .int .i64 0, .int .i64 0, .int .u32 0, .int .i64 0, .int .i64 0]) := TI.of (by kernel_rfl)
theorem ti89 : TI Try.prog 89 1 24 (.slice none 0 0) := TI.of (by kernel_rfl)
theorem ti90 : TI Try.prog 90 1 24 (.slice none 0 0) := TI.of (by kernel_rfl)
theorem pl80 : PL Try.prog 80 [(0, 14), (14, 1), (15, 1)] := PL.of Try.underlying80 (by kernel_rfl)
theorem go40 : GoF Try.prog 40 := GoF.of Try.func40 (by kernel_rfl) (by kernel_rfl)
theorem go42 : GoF Try.prog 42 := GoF.of Try.func42 (by kernel_rfl) (by kernel_rfl)
theorem go55 : GoF Try.prog 55 := GoF.of Try.func55 (by kernel_rfl) (by kernel_rfl)
theorem go77 : GoF Try.prog 77 := GoF.of Try.func77 (by kernel_rfl) (by kernel_rfl)
/-! ### slices.Index[[]salvor/api.Kind,salvor/api.Kind]: function 77 -/
def sindex.l1 (a0 : List Int) (a1 : Int) : Nat → (Int) → Option ((Int) ⊕ (Unit))
  | 0, _ => none
  | k + 1, i26 => if i26 < (a0.length : Int) then (gd ((0 : Int) ≤ i26 ∧ i26 < (a0.length : Int)) (if a1 = (rd a0 i26) then (some (.inl (i26))) else (sindex.l1 a0 a1 k (IntKind.wrap .i64 (i26 + 1))))) else (some (.inr ()))
def sindex.f (K : Nat) (a0 : List Int) (a1 : Int) : Option (Int) := thn (sindex.l1 a0 a1 K 0) fun o13 => some (-1)
theorem sindex.calls {B : Nat} {w0 : World} {G : List HP} (K : Nat) (a0 : List Int) (a1 : Int) (Aa0 : Option Addr) (ca0 : Nat) (ha0 : RdG B w0 G Aa0 (a0.map (Value.int .i64))) (ka0 : a0.length ≤ ca0) (r : Int) (H : sindex.f K a0 a1 = some r) (w : World) (hw : St B w0 (G) w) :
    Calls Try.prog 77 [.slice Aa0 a0.length ca0, .int .i64 a1].toArray w (fun e w' => e = .returned (.int .i64 r) ∧ St B w0 (G) w') := by
  unfold sindex.f at H
  refine calls_of (n := 19) (s := [(0, .slice Aa0 a0.length ca0), (1, .int .i64 a1)]) Try.func77 rfl rfl rfl rfl ?_ hw
  refine C.rs ?_
  refine J.p rfl rfl rfl rfl (Y.asg rfl) ?_
  refine J.nx ?_
  refine C.seq ?_
  refine C.rs ?_
  refine J.p rfl rfl rfl rfl (Y.mv rfl) ?_
  refine J.p rfl rfl rfl rfl (Y.lenS Try.underlying75 rfl) ?_
  refine J.p rfl rfl rfl rfl (Y.mv rfl) ?_
  refine J.nx ?_
  refine C.joinNR H (fun (o13 : Unit) (j14 : Unit) => []) (fun (o13 : Unit) (j14 : Unit) => G) (fun (o13 : Unit) (j14 : Unit) => True) (fun o11 H HK12 => ?_) (fun o13 j14 H _ => ?_)
  · refine C.blk ?_
    refine C.loop (fun (i : Nat × (Int) × (Unit)) => [(0, .slice Aa0 a0.length ca0), (1, .int .i64 a1), (7, .int .i64 (a0.length : Int)), (8, .int .i64 i.2.1)]) (fun (i : Nat × (Int) × (Unit)) => G) (fun (i : Nat × (Int) × (Unit)) => sindex.l1 a0 a1 i.1 i.2.1 = some o11 ∧ (True)) (fun i => i.1) (K, 0, ()) ⟨H, trivial⟩ (by exact ⟨rfl, rfl, rfl, rfl, trivial⟩) (by exact fun w h => h) ?_
    rintro ⟨k31, i26, j27⟩ ⟨H, _⟩
    replace H : sindex.l1 a0 a1 k31 i26 = some o11 := H
    obtain ⟨k25, rfl⟩ : ∃ m, k31 = m + 1 := by cases k31 with | zero => exact absurd H (by simp [sindex.l1]) | succ m => exact ⟨m, rfl⟩
    rw [sindex.l1] at H
    refine C.at (s' := [(0, .slice Aa0 a0.length ca0), (1, .int .i64 a1), (7, .int .i64 (a0.length : Int)), (8, .int .i64 i26)]) (G' := G) rfl rfl ?_
    refine C.rs ?_
    refine J.p rfl rfl rfl rfl (Y.bin rfl rfl rfl) ?_
    refine J.nx ?_
    refine C.seq ?_
    refine split2 H (fun c28 H => ?_) (fun c28 H => ?_)
    · refine C.condT (congrArg (fun b => some (Value.bool b)) (decide_eq_true c28)) ?_
      refine C.skip ?_
      refine N.nx ?_
      refine C.seq ?_
      refine C.blk ?_
      refine C.rs ?_
      refine J.p rfl rfl rfl rfl (Y.mv rfl) ?_
      refine J.p rfl rfl rfl rfl (Y.asg rfl) ?_
      refine J.nx ?_
      refine C.rs ?_
      refine J.p rfl rfl rfl rfl (Y.mv rfl) ?_
      refine J.p rfl rfl rfl rfl (Y.mv rfl) ?_
      refine J.p rfl rfl rfl rfl (Y.mv rfl) ?_
      obtain ⟨p29, H⟩ := gd_some H
      refine J.el rfl rfl rfl Try.underlying75 ti41 Try.underlying41 rfl rfl rfl p29 ha0 ?_
      refine J.p rfl rfl rfl rfl (Y.bin rfl rfl rfl) ?_
      refine J.nx ?_
      refine split2 H (fun c30 H => ?_) (fun c30 H => ?_)
      · refine C.condT (congrArg (fun b => some (Value.bool b)) (decide_eq_true c30)) ?_
        refine C.rs ?_
        refine J.p rfl rfl rfl rfl (Y.mv rfl) ?_
        refine J.p rfl rfl rfl rfl (Y.asg rfl) ?_
        refine J.nx ?_
        refine C.ret ?_
        obtain rfl := Option.some.inj H
        obtain rfl := fin_inl HK12
        refine T.ib ?_
        refine T.th ?_
        refine T.th ?_
        refine T.ib ?_
        refine T.th ?_
        refine T.th ?_
        exact ret_ok (ks := [4]) rfl rfl (fun w h => ⟨rfl, h⟩)
      · refine C.condF (congrArg (fun b => some (Value.bool b)) (decide_eq_false c30)) ?_
        refine C.skip ?_
        refine N.ib ?_
        refine N.nx ?_
        refine C.reg ?_
        refine J.p rfl rfl rfl rfl (Y.bin rfl rfl rfl) ?_
        refine J.p rfl rfl rfl rfl (Y.mv rfl) ?_
        refine J.nil ?_
        exact N.again (k25, IntKind.wrap .i64 (i26 + 1), ()) ⟨H, trivial⟩ (Nat.lt_succ_self _) (by exact ⟨rfl, rfl, rfl, rfl, trivial⟩) (by exact fun w h => h)
    · refine C.condF (congrArg (fun b => some (Value.bool b)) (decide_eq_false c28)) ?_
      refine C.exit ?_
      refine X.th ?_
      refine X.th ?_
      refine X.hit ?_
      obtain rfl := Option.some.inj H
      exact N.meet ((), ()) ⟨fin_inr HK12, trivial⟩ (by exact trivial) (by exact fun w h => h)
  · refine N.at (s' := []) (G' := G) rfl rfl ?_
    refine N.nx ?_
    refine C.rs ?_
    refine J.p rfl rfl rfl rfl (Y.asg rfl) ?_
    refine J.nx ?_
    refine C.ret ?_
    obtain rfl := Option.some.inj H
    exact ret_ok (ks := [4]) rfl rfl (fun w h => ⟨rfl, h⟩)
/-! ### slices.Contains[[]salvor/api.Kind,salvor/api.Kind]: function 55 -/
def contains.f (K : Nat) (a0 : List Int) (a1 : Int) : Option (Bool) := (sindex.f K a0 a1).bind fun t1 => some (decide (0 ≤ t1))
theorem contains.calls {B : Nat} {w0 : World} {G : List HP} (K : Nat) (a0 : List Int) (a1 : Int) (Aa0 : Option Addr) (ca0 : Nat) (ha0 : RdG B w0 G Aa0 (a0.map (Value.int .i64))) (ka0 : a0.length ≤ ca0) (r : Bool) (H : contains.f K a0 a1 = some r) (w : World) (hw : St B w0 (G) w) :
    Calls Try.prog 55 [.slice Aa0 a0.length ca0, .int .i64 a1].toArray w (fun e w' => e = .returned (.bool r) ∧ St B w0 (G) w') := by
  unfold contains.f at H
  refine calls_of (n := 9) (s := [(0, .slice Aa0 a0.length ca0), (1, .int .i64 a1)]) Try.func55 rfl rfl rfl rfl ?_ hw
  refine C.rs ?_
  refine J.p rfl rfl rfl rfl (Y.asg rfl) ?_
  refine J.nx ?_
  refine C.rs ?_
  refine J.p rfl rfl rfl rfl (Y.mv rfl) ?_
  refine J.p rfl rfl rfl rfl (Y.mv rfl) ?_
  obtain ⟨t1, hC2, H⟩ := bind_some H
  refine J.call (us := []) (cap := []) rfl rfl rfl go77 (fun w hw => by have hcc := sindex.calls K a0 a1 Aa0 ca0 ha0 ka0 t1 hC2 w hw; exact hcc) (fun e w1 h1 => ?_)
  obtain ⟨rfl, hw3⟩ := h1
  refine ⟨_, _, rfl, hw3, ?_⟩
  refine J.p rfl rfl rfl rfl (Y.bin rfl rfl rfl) ?_
  refine J.p rfl rfl rfl rfl (Y.asg rfl) ?_
  refine J.nx ?_
  refine C.ret ?_
  obtain rfl := Option.some.inj H
  exact ret_ok (ks := [4]) rfl rfl (fun w h => ⟨rfl, h⟩)
/-! ### salvor/scan.Records: function 35 -/
def sRecords.f (K : Nat) (a0 : List Int) (a1 : List Int) : Option ((List T80_)) := (if (a1.length : Int) = 0 then (some [1, 2]) else (some a1)).bind fun o8 => (sall.f a0).bind fun t19 => (sallF.f K (fun (i55 : (List T80_)) (x62 : Int × Int × Int × ByteArray × ByteArray × Int × Int × Int × Int × ByteArray × Int × Int × Int × Int × Int × Int) => (contains.f K o8 x62.1).bind fun t70 => if t70 = true then (gd ((i55.length + [(x62.1, x62.2.1, x62.2.2.1, x62.2.2.2.1, x62.2.2.2.2.1, x62.2.2.2.2.2.1, x62.2.2.2.2.2.2.1, x62.2.2.2.2.2.2.2.1, x62.2.2.2.2.2.2.2.2.1, x62.2.2.2.2.2.2.2.2.2.1, x62.2.2.2.2.2.2.2.2.2.2.1, x62.2.2.2.2.2.2.2.2.2.2.2.1, x62.2.2.2.2.2.2.2.2.2.2.2.2.1, x62.2.2.2.2.2.2.2.2.2.2.2.2.2.1, x62.2.2.2.2.2.2.2.2.2.2.2.2.2.2.1, x62.2.2.2.2.2.2.2.2.2.2.2.2.2.2.2)].length) * 152 ≤ 140737488355328) (some (.inl (i55 ++ [(x62.1, x62.2.1, x62.2.2.1, x62.2.2.2.1, x62.2.2.2.2.1, x62.2.2.2.2.2.1, x62.2.2.2.2.2.2.1, x62.2.2.2.2.2.2.2.1, x62.2.2.2.2.2.2.2.2.1, x62.2.2.2.2.2.2.2.2.2.1, x62.2.2.2.2.2.2.2.2.2.2.1, x62.2.2.2.2.2.2.2.2.2.2.2.1, x62.2.2.2.2.2.2.2.2.2.2.2.2.1, x62.2.2.2.2.2.2.2.2.2.2.2.2.2.1, x62.2.2.2.2.2.2.2.2.2.2.2.2.2.2.1, x62.2.2.2.2.2.2.2.2.2.2.2.2.2.2.2)])))) else (some (.inl i55))) ([] : List T80_) a0).bind fun t60 => ysel t60 (fun i55 => some i55) ((fun (e : Empty) => none))
theorem sRecords.calls {B : Nat} {w0 : World} {G : List HP} (K : Nat) (a0 : List Int) (a1 : List Int) (Aa0 : Option Addr) (ca0 : Nat) (Aa1 : Option Addr) (ca1 : Nat) (ha0 : RdG B w0 G Aa0 (a0.map (Value.int .u8))) (ka0 : a0.length ≤ ca0) (ha1 : RdG B w0 G Aa1 (a1.map (Value.int .i64))) (ka1 : a1.length ≤ ca1) (r : (List T80_)) (H : sRecords.f K a0 a1 = some r) (w : World) (hw : St B w0 (G) w) :
    Calls Try.prog 35 [.slice Aa0 a0.length ca0, .slice Aa1 a1.length ca1].toArray w (fun e w' => ∃ A0 c0, e = .returned (.slice A0 r.length c0) ∧ St B w0 (own 80 16 A0 c0 (r.flatMap encT80_) :: G) w') := by
  unfold sRecords.f at H
  refine calls_ofM (n := 30) (s := [(0, .slice Aa0 a0.length ca0), (1, .slice Aa1 a1.length ca1)]) Try.func35 rfl rfl rfl rfl ?_ hw
  refine C.rs ?_
  refine J.box (L := [.slice Aa1 a1.length ca1]) rfl rfl rfl (fun g1 => ?_)
  refine J.p rfl rfl rfl rfl (Y.asg rfl) ?_
  refine J.nx ?_
  refine C.seq ?_
  refine C.rs ?_
  refine J.r rfl rfl rfl rfl (Y.ldC 0 Try.underlying75 rfl rfl rfl rfl) ?_
  refine J.p rfl rfl rfl rfl (Y.lenS Try.underlying75 rfl) ?_
  refine J.p rfl rfl rfl rfl (Y.bin rfl rfl rfl) ?_
  refine J.nx ?_
  refine C.joinND H (fun (o8 : (List Int)) (j9 : (Option Addr) × Nat × (List Int) × (Option Addr) × Nat) => [(0, .slice Aa0 a0.length ca0), (3, .pointer (some ⟨g1, 0, none⟩))]) (fun (o8 : (List Int)) (j9 : (Option Addr) × Nat × (List Int) × (Option Addr) × Nat) => own 41 1 j9.1 j9.2.1 (j9.2.2.1.map (Value.int .i64)) :: cells g1 75 [.slice j9.2.2.2.1 o8.length j9.2.2.2.2] :: G) (fun (o8 : (List Int)) (j9 : (Option Addr) × Nat × (List Int) × (Option Addr) × Nat) => (RdG B w0 (own 41 1 j9.1 j9.2.1 (j9.2.2.1.map (Value.int .i64)) :: G) j9.2.2.2.1 (o8.map (Value.int .i64)) ∧ o8.length ≤ j9.2.2.2.2)) (fun o6 H HK7 => ?_) (fun ds12 o8 j9 H hx10 => ?_)
  · refine split2 H (fun c13 H => ?_) (fun c13 H => ?_)
    · refine C.condT (congrArg (fun b => some (Value.bool b)) (decide_eq_true c13)) ?_
      refine C.reg ?_
      refine J.bsL (enc := (Value.int .i64)) (xs := [1, 2]) rfl Try.underlying75 ti41 rfl rfl rfl rfl rfl (fun A14 => ?_)
      refine J.pull 1 rfl rfl ?_
      refine J.stE (L' := [.slice A14 [1, 2].length 2]) ti75 rfl rfl rfl rfl rfl ?_
      refine J.nil ?_
      obtain rfl := Option.some.inj H
      exact N.meetD ([1, 2], (A14, 2, [1, 2], A14, 2)) ⟨HK7, ⟨RdG.own 0 rfl, (show [1, 2].length ≤ 2 from Nat.le_refl _)⟩⟩ (by exact ⟨rfl, rfl, trivial⟩) (by exact fun w h => (St.pick [2, 1, 0] [_, _, _] h rfl))
    · refine C.condF (congrArg (fun b => some (Value.bool b)) (decide_eq_false c13)) ?_
      refine C.skip ?_
      obtain rfl := Option.some.inj H
      exact N.meetD (a1, (none, 0, ([] : List Int), Aa1, ca1)) ⟨HK7, ⟨RdG.suf ha1 [_] rfl, ka1⟩⟩ (by exact ⟨rfl, rfl, trivial⟩) (by exact fun w h => (St.pick [2, 0, 1] [_, _, _] (h.nilOwn 41 1) rfl))
  · refine N.at (s' := [(0, .slice Aa0 a0.length ca0), (3, .pointer (some ⟨g1, 0, none⟩))]) (G' := dblks ds12 :: own 41 1 j9.1 j9.2.1 (j9.2.2.1.map (Value.int .i64)) :: cells g1 75 [.slice j9.2.2.2.1 o8.length j9.2.2.2.2] :: G) rfl rfl ?_
    refine N.nx ?_
    refine C.rs ?_
    refine J.alloc (L := [.slice none 0 0]) rfl ti76 rfl (fun g17 => ?_)
    refine J.nx ?_
    refine C.seq ?_
    refine C.rs ?_
    refine J.p rfl rfl rfl rfl (Y.mv rfl) ?_
    obtain ⟨t19, hC20, H⟩ := bind_some H
    refine J.call (us := []) (cap := []) rfl rfl rfl go44 (fun w hw => by have hcc := sall.calls a0 Aa0 ca0 (ha0.suf [_, _, _, _] rfl) ka0 t19 hC20 w hw; exact hcc) (fun e w1 h1 => ?_)
    obtain ⟨g21, rfl, hw81⟩ := h1
    refine ⟨_, _, rfl, hw81, ?_⟩
    refine J.nx ?_
    refine C.blk ?_
    refine C.sub (s' := [(3, .pointer (some ⟨g1, 0, none⟩)), (5, .pointer (some ⟨g17, 0, none⟩)), (12, .func (.func 64) #[] #[.pointer (some ⟨g21, 0, none⟩)])]) (by exact ⟨rfl, rfl, rfl, trivial⟩) ?_
    have hkey : ∀ Gx, Gx = (cells g21 22 [.slice Aa0 a0.length ca0] :: own 41 1 j9.1 j9.2.1 (j9.2.2.1.map (Value.int .i64)) :: G) → RdG B w0 Gx (some ⟨g21, 0, none⟩) [.slice Aa0 a0.length ca0] ∧ RdG B w0 Gx Aa0 (a0.map (Value.int .u8)) ∧ RdG B w0 Gx j9.2.2.2.1 (o8.map (Value.int .i64)) ∧ True := by rintro _ rfl; exact ⟨(RdG.cells 0 rfl), (ha0.suf [_, _] rfl), (Inc.rd (Inc.mix [_, _] 1 rfl rfl) hx10.1), trivial⟩
    obtain ⟨hb65, hb66, hb67, _⟩ := hkey _ rfl
    obtain ⟨t60, hC61, H⟩ := bind_some H
    refine C.rangeF' (E := Empty) (Gb := cells g21 22 [.slice Aa0 a0.length ca0] :: own 41 1 j9.1 j9.2.1 (j9.2.2.1.map (Value.int .i64)) :: G) (caps := [.pointer (some ⟨g21, 0, none⟩)]) encY124 (fun (i55 : (List T80_)) (j56 : (Option Addr) × Nat) => [own 80 16 j56.1 j56.2 (i55.flatMap encT80_), cells g17 76 [.slice j56.1 i55.length j56.2], cells g1 75 [.slice j9.2.2.2.1 o8.length j9.2.2.2.2]]) (fun (i55 : (List T80_)) (j56 : (Option Addr) × Nat) => True) (fun (e : Empty) (k : Unit) => e.elim) (fun (e : Empty) (k : Unit) => e.elim) (fun (e : Empty) => e.elim) (fun (x62 : Int × Int × Int × ByteArray × ByteArray × Int × Int × Int × Int × ByteArray × Int × Int × Int × Int × Int × Int) (z80 : Nat) => [cells z80 102 [.int .i64 x62.1, .int .u64 x62.2.1, .int .i64 x62.2.2.1, .string x62.2.2.2.1, .string x62.2.2.2.2.1, .int .u64 x62.2.2.2.2.2.1, .int .i64 x62.2.2.2.2.2.2.1, .int .i64 x62.2.2.2.2.2.2.2.1, .int .i64 x62.2.2.2.2.2.2.2.2.1, .string x62.2.2.2.2.2.2.2.2.2.1, .int .i64 x62.2.2.2.2.2.2.2.2.2.2.1, .int .i64 x62.2.2.2.2.2.2.2.2.2.2.2.1, .int .i64 x62.2.2.2.2.2.2.2.2.2.2.2.2.1, .int .u32 x62.2.2.2.2.2.2.2.2.2.2.2.2.2.1, .int .i64 x62.2.2.2.2.2.2.2.2.2.2.2.2.2.2.1, .int .i64 x62.2.2.2.2.2.2.2.2.2.2.2.2.2.2.2]]) (fun (x62 : Int × Int × Int × ByteArray × ByteArray × Int × Int × Int × Int × ByteArray × Int × Int × Int × Int × Int × Int) (z80 : Nat) => [(3, .pointer (some ⟨g1, 0, none⟩)), (5, .pointer (some ⟨g17, 0, none⟩)), (6, .pointer (some ⟨z80, 0, none⟩)), (12, .func (.func 64) #[] #[.pointer (some ⟨g21, 0, none⟩)]), (13, .agg #[.int .i64 x62.1, .int .u64 x62.2.1, .int .i64 x62.2.2.1, .string x62.2.2.2.1, .string x62.2.2.2.2.1, .int .u64 x62.2.2.2.2.2.1, .int .i64 x62.2.2.2.2.2.2.1, .int .i64 x62.2.2.2.2.2.2.2.1, .int .i64 x62.2.2.2.2.2.2.2.2.1, .string x62.2.2.2.2.2.2.2.2.2.1, .int .i64 x62.2.2.2.2.2.2.2.2.2.2.1, .int .i64 x62.2.2.2.2.2.2.2.2.2.2.2.1, .int .i64 x62.2.2.2.2.2.2.2.2.2.2.2.2.1, .int .u32 x62.2.2.2.2.2.2.2.2.2.2.2.2.2.1, .int .i64 x62.2.2.2.2.2.2.2.2.2.2.2.2.2.2.1, .int .i64 x62.2.2.2.2.2.2.2.2.2.2.2.2.2.2.2])]) _ ([] : List T80_) (none, 0) t60 rfl go64 (fun _ => rfl) (by rfl) (by decide) (pf_of rfl) trivial (fun w h => (St.pick [3, 0, 2, 5, 1, 4] [_, _, _, _, _, _] (h.nilOwn 80 16) rfl)) (fun Yy yv hy w hw => sallF.calls K _ _ a0 Yy yv g21 Aa0 ca0 hy (ha0.suf [_, _] rfl) ka0 (RdG.cells 0 rfl) _ hC61 w hw) (fun l i55 j56 x62 L63 _ => ?_) (fun l i55 j56 x62 z80 o L63 G hGG H _ hl64 => ?_) (fun ds58 i55 j56 hr _ => ?_) (fun ds58 e k hr hx => ?_)
    · refine C.sub (s' := [(3, .pointer (some ⟨g1, 0, none⟩)), (5, .pointer (some ⟨g17, 0, none⟩)), (12, .func (.func 64) #[] #[.pointer (some ⟨g21, 0, none⟩)]), (13, .agg #[.int .i64 x62.1, .int .u64 x62.2.1, .int .i64 x62.2.2.1, .string x62.2.2.2.1, .string x62.2.2.2.2.1, .int .u64 x62.2.2.2.2.2.1, .int .i64 x62.2.2.2.2.2.2.1, .int .i64 x62.2.2.2.2.2.2.2.1, .int .i64 x62.2.2.2.2.2.2.2.2.1, .string x62.2.2.2.2.2.2.2.2.2.1, .int .i64 x62.2.2.2.2.2.2.2.2.2.2.1, .int .i64 x62.2.2.2.2.2.2.2.2.2.2.2.1, .int .i64 x62.2.2.2.2.2.2.2.2.2.2.2.2.1, .int .u32 x62.2.2.2.2.2.2.2.2.2.2.2.2.2.1, .int .i64 x62.2.2.2.2.2.2.2.2.2.2.2.2.2.2.1, .int .i64 x62.2.2.2.2.2.2.2.2.2.2.2.2.2.2.2])]) (by exact ⟨rfl, rfl, rfl, rfl, trivial⟩) ?_
      refine C.reg ?_
      refine J.alloc (L := [.int .i64 0, .int .u64 0, .int .i64 0, .string ByteArray.empty, .string ByteArray.empty, .int .u64 0, .int .i64 0, .int .i64 0, .int .i64 0, .string ByteArray.empty, .int .i64 0, .int .i64 0, .int .i64 0, .int .u32 0, .int .i64 0, .int .i64 0]) rfl ti102 rfl (fun g68 => ?_)
      refine J.stA (us := [.int .i64 x62.1, .int .u64 x62.2.1, .int .i64 x62.2.2.1, .string x62.2.2.2.1, .string x62.2.2.2.2.1, .int .u64 x62.2.2.2.2.2.1, .int .i64 x62.2.2.2.2.2.2.1, .int .i64 x62.2.2.2.2.2.2.2.1, .int .i64 x62.2.2.2.2.2.2.2.2.1, .string x62.2.2.2.2.2.2.2.2.2.1, .int .i64 x62.2.2.2.2.2.2.2.2.2.2.1, .int .i64 x62.2.2.2.2.2.2.2.2.2.2.2.1, .int .i64 x62.2.2.2.2.2.2.2.2.2.2.2.2.1, .int .u32 x62.2.2.2.2.2.2.2.2.2.2.2.2.2.1, .int .i64 x62.2.2.2.2.2.2.2.2.2.2.2.2.2.2.1, .int .i64 x62.2.2.2.2.2.2.2.2.2.2.2.2.2.2.2]) (L' := [.int .i64 x62.1, .int .u64 x62.2.1, .int .i64 x62.2.2.1, .string x62.2.2.2.1, .string x62.2.2.2.2.1, .int .u64 x62.2.2.2.2.2.1, .int .i64 x62.2.2.2.2.2.2.1, .int .i64 x62.2.2.2.2.2.2.2.1, .int .i64 x62.2.2.2.2.2.2.2.2.1, .string x62.2.2.2.2.2.2.2.2.2.1, .int .i64 x62.2.2.2.2.2.2.2.2.2.2.1, .int .i64 x62.2.2.2.2.2.2.2.2.2.2.2.1, .int .i64 x62.2.2.2.2.2.2.2.2.2.2.2.2.1, .int .u32 x62.2.2.2.2.2.2.2.2.2.2.2.2.2.1, .int .i64 x62.2.2.2.2.2.2.2.2.2.2.2.2.2.2.1, .int .i64 x62.2.2.2.2.2.2.2.2.2.2.2.2.2.2.2]) ti102 rfl rfl rfl rfl rfl rfl ?_
      refine J.nil ?_
      exact N.asg g68 (by exact ⟨rfl, rfl, rfl, rfl, rfl, trivial⟩) (fun w h => h)
    · obtain ⟨g68, hz⟩ := (⟨z80, rfl⟩ : ∃ g, g = z80)
      subst hz
      replace hb65 := RdG.suf hb65 L63 hGG
      replace hb66 := RdG.suf hb66 L63 hGG
      replace hb67 := RdG.suf hb67 L63 hGG
      refine C.at (s' := [(3, .pointer (some ⟨g1, 0, none⟩)), (5, .pointer (some ⟨g17, 0, none⟩)), (6, .pointer (some ⟨g68, 0, none⟩)), (12, .func (.func 64) #[] #[.pointer (some ⟨g21, 0, none⟩)]), (13, .agg #[.int .i64 x62.1, .int .u64 x62.2.1, .int .i64 x62.2.2.1, .string x62.2.2.2.1, .string x62.2.2.2.2.1, .int .u64 x62.2.2.2.2.2.1, .int .i64 x62.2.2.2.2.2.2.1, .int .i64 x62.2.2.2.2.2.2.2.1, .int .i64 x62.2.2.2.2.2.2.2.2.1, .string x62.2.2.2.2.2.2.2.2.2.1, .int .i64 x62.2.2.2.2.2.2.2.2.2.2.1, .int .i64 x62.2.2.2.2.2.2.2.2.2.2.2.1, .int .i64 x62.2.2.2.2.2.2.2.2.2.2.2.2.1, .int .u32 x62.2.2.2.2.2.2.2.2.2.2.2.2.2.1, .int .i64 x62.2.2.2.2.2.2.2.2.2.2.2.2.2.2.1, .int .i64 x62.2.2.2.2.2.2.2.2.2.2.2.2.2.2.2])]) (G' := cells g68 102 [.int .i64 x62.1, .int .u64 x62.2.1, .int .i64 x62.2.2.1, .string x62.2.2.2.1, .string x62.2.2.2.2.1, .int .u64 x62.2.2.2.2.2.1, .int .i64 x62.2.2.2.2.2.2.1, .int .i64 x62.2.2.2.2.2.2.2.1, .int .i64 x62.2.2.2.2.2.2.2.2.1, .string x62.2.2.2.2.2.2.2.2.2.1, .int .i64 x62.2.2.2.2.2.2.2.2.2.2.1, .int .i64 x62.2.2.2.2.2.2.2.2.2.2.2.1, .int .i64 x62.2.2.2.2.2.2.2.2.2.2.2.2.1, .int .u32 x62.2.2.2.2.2.2.2.2.2.2.2.2.2.1, .int .i64 x62.2.2.2.2.2.2.2.2.2.2.2.2.2.2.1, .int .i64 x62.2.2.2.2.2.2.2.2.2.2.2.2.2.2.2] :: own 80 16 j56.1 j56.2 (i55.flatMap encT80_) :: cells g17 76 [.slice j56.1 i55.length j56.2] :: cells g1 75 [.slice j9.2.2.2.1 o8.length j9.2.2.2.2] :: G) rfl rfl ?_
      refine C.blk ?_
      refine C.rs ?_
      refine J.r rfl rfl rfl rfl (Y.ldC 3 Try.underlying75 rfl rfl rfl rfl) ?_
      refine J.p rfl rfl rfl rfl (Y.fa0 fa102_0 rfl rfl) ?_
      refine J.p rfl rfl rfl rfl (Y.fa0 fa53_0 rfl rfl) ?_
      refine J.r rfl rfl rfl rfl (Y.ldC 0 Try.underlying41 rfl rfl rfl rfl) ?_
      obtain ⟨t70, hC71, H⟩ := bind_some H
      refine J.call (us := []) (cap := []) rfl rfl rfl go55 (fun w hw => by have hcc := contains.calls K o8 x62.1 j9.2.2.2.1 j9.2.2.2.2 (hb67.suf [_, _, _, _] rfl) hx10.2 t70 hC71 w hw; exact hcc) (fun e w1 h1 => ?_)
      obtain ⟨rfl, hw79⟩ := h1
      refine ⟨_, _, rfl, hw79, ?_⟩
      refine J.nx ?_
      refine split2 H (fun c72 H => ?_) (fun c72 H => ?_)
      · refine C.condT (congrArg (fun b => some (Value.bool b)) (c72)) ?_
        refine C.reg ?_
        refine J.r rfl rfl rfl rfl (Y.ldC 2 Try.underlying76 rfl rfl rfl rfl) ?_
        refine J.p rfl rfl rfl rfl (Y.fa0 fa102_0 rfl rfl) ?_
        refine J.r rfl rfl rfl rfl (Y.ldCA (us := [.int .i64 x62.1, .int .u64 x62.2.1, .int .i64 x62.2.2.1, .string x62.2.2.2.1, .string x62.2.2.2.2.1, .int .u64 x62.2.2.2.2.2.1, .int .i64 x62.2.2.2.2.2.2.1, .int .i64 x62.2.2.2.2.2.2.2.1, .int .i64 x62.2.2.2.2.2.2.2.2.1, .string x62.2.2.2.2.2.2.2.2.2.1, .int .i64 x62.2.2.2.2.2.2.2.2.2.2.1, .int .i64 x62.2.2.2.2.2.2.2.2.2.2.2.1, .int .i64 x62.2.2.2.2.2.2.2.2.2.2.2.2.1, .int .u32 x62.2.2.2.2.2.2.2.2.2.2.2.2.2.1]) 0 Try.underlying53 rfl ti53 rfl rfl rfl rfl) ?_
        refine J.p rfl rfl rfl rfl (Y.fa0 fa102_1 rfl rfl) ?_
        refine J.r rfl rfl rfl rfl (Y.ldC 0 Try.underlying3 rfl rfl rfl rfl) ?_
        refine J.p rfl rfl rfl rfl (Y.fa0 fa102_2 rfl rfl) ?_
        refine J.r rfl rfl rfl rfl (Y.ldC 0 Try.underlying3 rfl rfl rfl rfl) ?_
        refine J.p rfl rfl rfl rfl (Y.bld (cs := [.int .i64 x62.1, .int .u64 x62.2.1, .int .i64 x62.2.2.1, .string x62.2.2.2.1, .string x62.2.2.2.2.1, .int .u64 x62.2.2.2.2.2.1, .int .i64 x62.2.2.2.2.2.2.1, .int .i64 x62.2.2.2.2.2.2.2.1, .int .i64 x62.2.2.2.2.2.2.2.2.1, .string x62.2.2.2.2.2.2.2.2.2.1, .int .i64 x62.2.2.2.2.2.2.2.2.2.2.1, .int .i64 x62.2.2.2.2.2.2.2.2.2.2.2.1, .int .i64 x62.2.2.2.2.2.2.2.2.2.2.2.2.1, .int .u32 x62.2.2.2.2.2.2.2.2.2.2.2.2.2.1, .int .i64 x62.2.2.2.2.2.2.2.2.2.2.2.2.2.2.1, .int .i64 x62.2.2.2.2.2.2.2.2.2.2.2.2.2.2.2]) rfl pl80 ti80 rfl (by kernel_rfl)) ?_
        refine J.bsM (enc := encT80_) (xs := [(x62.1, x62.2.1, x62.2.2.1, x62.2.2.2.1, x62.2.2.2.2.1, x62.2.2.2.2.2.1, x62.2.2.2.2.2.2.1, x62.2.2.2.2.2.2.2.1, x62.2.2.2.2.2.2.2.2.1, x62.2.2.2.2.2.2.2.2.2.1, x62.2.2.2.2.2.2.2.2.2.2.1, x62.2.2.2.2.2.2.2.2.2.2.2.1, x62.2.2.2.2.2.2.2.2.2.2.2.2.1, x62.2.2.2.2.2.2.2.2.2.2.2.2.2.1, x62.2.2.2.2.2.2.2.2.2.2.2.2.2.2.1, x62.2.2.2.2.2.2.2.2.2.2.2.2.2.2.2)]) (zs := [.int .i64 0, .int .u64 0, .int .i64 0, .string ByteArray.empty, .string ByteArray.empty, .int .u64 0, .int .i64 0, .int .i64 0, .int .i64 0, .string ByteArray.empty, .int .i64 0, .int .i64 0, .int .i64 0, .int .u32 0, .int .i64 0, .int .i64 0]) lenT80_ rfl Try.underlying76 ti80 (by kernel_rfl) rfl (by kernel_rfl) rfl rfl rfl (fun A73 => ?_)
        refine J.pull 2 rfl rfl ?_
        obtain ⟨p77, H⟩ := gd_some H
        refine J.appM (enc := encT80_) (xs := i55) (ys := [(x62.1, x62.2.1, x62.2.2.1, x62.2.2.2.1, x62.2.2.2.2.1, x62.2.2.2.2.2.1, x62.2.2.2.2.2.2.1, x62.2.2.2.2.2.2.2.1, x62.2.2.2.2.2.2.2.2.1, x62.2.2.2.2.2.2.2.2.2.1, x62.2.2.2.2.2.2.2.2.2.2.1, x62.2.2.2.2.2.2.2.2.2.2.2.1, x62.2.2.2.2.2.2.2.2.2.2.2.2.1, x62.2.2.2.2.2.2.2.2.2.2.2.2.2.1, x62.2.2.2.2.2.2.2.2.2.2.2.2.2.2.1, x62.2.2.2.2.2.2.2.2.2.2.2.2.2.2.2)]) lenT80_ oneT80_ rfl Try.underlying76 ti80 rfl (by decide) (by decide) rfl rfl (RdG.own 1 rfl) p77 (fun A75 c76 => ?_)
        refine J.pull 1 rfl rfl (J.drop ?_)
        refine J.pull 2 rfl rfl ?_
        refine J.stE (L' := [.slice A75 (i55 ++ [(x62.1, x62.2.1, x62.2.2.1, x62.2.2.2.1, x62.2.2.2.2.1, x62.2.2.2.2.2.1, x62.2.2.2.2.2.2.1, x62.2.2.2.2.2.2.2.1, x62.2.2.2.2.2.2.2.2.1, x62.2.2.2.2.2.2.2.2.2.1, x62.2.2.2.2.2.2.2.2.2.2.1, x62.2.2.2.2.2.2.2.2.2.2.2.1, x62.2.2.2.2.2.2.2.2.2.2.2.2.1, x62.2.2.2.2.2.2.2.2.2.2.2.2.2.1, x62.2.2.2.2.2.2.2.2.2.2.2.2.2.2.1, x62.2.2.2.2.2.2.2.2.2.2.2.2.2.2.2)]).length c76]) ti76 rfl rfl rfl rfl rfl ?_
        refine J.nil ?_
        refine N.ib ?_
        obtain rfl := Option.some.inj H
        exact N.round (i55 ++ [(x62.1, x62.2.1, x62.2.2.1, x62.2.2.2.1, x62.2.2.2.2.1, x62.2.2.2.2.2.1, x62.2.2.2.2.2.2.1, x62.2.2.2.2.2.2.2.1, x62.2.2.2.2.2.2.2.2.1, x62.2.2.2.2.2.2.2.2.2.1, x62.2.2.2.2.2.2.2.2.2.2.1, x62.2.2.2.2.2.2.2.2.2.2.2.1, x62.2.2.2.2.2.2.2.2.2.2.2.2.1, x62.2.2.2.2.2.2.2.2.2.2.2.2.2.1, x62.2.2.2.2.2.2.2.2.2.2.2.2.2.2.1, x62.2.2.2.2.2.2.2.2.2.2.2.2.2.2.2)]) (A75, c76) rfl trivial (by exact fun w h => (St.pick [1, 0, 3] [_, _, _, _] h rfl))
      · refine C.condF (congrArg (fun b => some (Value.bool b)) (nt c72)) ?_
        refine C.skip ?_
        refine N.ib ?_
        obtain rfl := Option.some.inj H
        exact N.round i55 (j56.1, j56.2) rfl trivial (by exact fun w h => (St.pick [1, 2, 3] [_, _, _, _] h rfl))
    · subst hr
      replace H := ysel_inl H
      refine N.at (s' := [(3, .pointer (some ⟨g1, 0, none⟩)), (5, .pointer (some ⟨g17, 0, none⟩)), (12, .func (.func 64) #[] #[.pointer (some ⟨g21, 0, none⟩)])]) (G' := dblks ds58 :: own 80 16 j56.1 j56.2 (i55.flatMap encT80_) :: cells g17 76 [.slice j56.1 i55.length j56.2] :: cells g1 75 [.slice j9.2.2.2.1 o8.length j9.2.2.2.2] :: cells g21 22 [.slice Aa0 a0.length ca0] :: own 41 1 j9.1 j9.2.1 (j9.2.2.1.map (Value.int .i64)) :: G) rfl rfl ?_
      refine N.ib ?_
      refine N.nx ?_
      refine C.rs ?_
      refine J.r rfl rfl rfl rfl (Y.ldC 2 Try.underlying76 rfl rfl rfl rfl) ?_
      refine J.p rfl rfl rfl rfl (Y.asg rfl) ?_
      refine J.nx ?_
      refine C.ret ?_
      obtain rfl := Option.some.inj H
      exact ret_okM (own 80 16 j56.1 j56.2 (i55.flatMap encT80_) :: cells g17 76 [.slice j56.1 i55.length j56.2] :: cells g1 75 [.slice j9.2.2.2.1 o8.length j9.2.2.2.2] :: cells g21 22 [.slice Aa0 a0.length ca0] :: own 41 1 j9.1 j9.2.1 (j9.2.2.1.map (Value.int .i64)) :: G) (rvs := [.tmp 4]) (vs := [.slice j56.1 i55.length j56.2]) rfl ⟨RV.tmp rfl, trivial⟩ (fun w h => h) (fun w h => ⟨j56.1, j56.2, rfl, (St.pick [0] [_, _, _, _, _] h rfl)⟩)
    · exact e.elim
end Go.Proofs.Ytkblnahoidbfkaa
