/- Own text, printed by the lifting program: each Go function beside a plain function, and the proof that a call of the one comes to the other. Conditions: what came in can be read. -/
import Derived.Test.YtocfkhpfpepcmaaSxIter
import Derived.Test.YtocfkhpfpepcmaaSxFlat
import Derived.Test.YtocfkhpfpepcmaaSxLib
import Derived.Test.YtocfkhpfpepcmaaProg
set_option linter.unusedVariables false
set_option linter.unusedSimpArgs false
set_option maxRecDepth 10000
set_option maxHeartbeats 4000000
namespace Go.Proofs.Ytocfkhpfpepcmaa
open Go Go.Sx
theorem ti5 : TI Try.prog 5 1 1 (.int .u8 0) := TI.of (by kernel_rfl)
theorem ti24 : TI Try.prog 24 1 8 (.int .u64 0) := TI.of (by kernel_rfl)
theorem mx : Try.prog.follows .mixedOrders = true := by kernel_rfl
theorem go15 : GoF Try.prog 15 := GoF.of Try.func15 (by kernel_rfl) (by kernel_rfl)
theorem go20 : GoF Try.prog 20 := GoF.of Try.func20 (by kernel_rfl) (by kernel_rfl)
theorem go21 : GoF Try.prog 21 := GoF.of Try.func21 (by kernel_rfl) (by kernel_rfl)
theorem go22 : GoF Try.prog 22 := GoF.of Try.func22 (by kernel_rfl) (by kernel_rfl)
theorem go38 : GoF Try.prog 38 := GoF.of Try.func38 (by kernel_rfl) (by kernel_rfl)
theorem go39 : GoF Try.prog 39 := GoF.of Try.func39 (by kernel_rfl) (by kernel_rfl)
/-! ### salvor/vint.Decode$1: function 39 -/
def DecodeF.f (a0 : Int) : Option (Bool) := some (decide (a0 < 128))
theorem DecodeF.calls {B : Nat} {w0 : World} {G : List HP} (a0 : Int) (r : Bool) (H : DecodeF.f a0 = some r) (w : World) (hw : St B w0 (G) w) :
    Calls Try.prog 39 [.int .u8 a0].toArray w (fun e w' => e = .returned (.bool r) ∧ St B w0 (G) w') := by
  unfold DecodeF.f at H
  refine calls_of (n := 5) (s := [(0, .int .u8 a0)]) Try.func39 rfl rfl rfl rfl ?_ hw
  refine C.rs ?_
  refine J.p rfl rfl rfl rfl (Y.asg rfl) ?_
  refine J.nx ?_
  refine C.rs ?_
  refine J.p rfl rfl rfl rfl (Y.mv rfl) ?_
  refine J.p rfl rfl rfl rfl (Y.bin rfl rfl rfl) ?_
  refine J.p rfl rfl rfl rfl (Y.asg rfl) ?_
  refine J.nx ?_
  refine C.ret ?_
  obtain rfl := Option.some.inj H
  exact ret_ok (ks := [2]) rfl rfl (fun w h => ⟨rfl, h⟩)
/-! ### slices.IndexFunc[[]byte,byte]: function 38 -/
def IndexFunc.l1 (a0 : List Int) : Nat → (Int) → Option ((Int) ⊕ (Unit))
  | 0, _ => none
  | k + 1, i38 => if i38 < (a0.length : Int) then (gd ((0 : Int) ≤ i38 ∧ i38 < (a0.length : Int)) ((DecodeF.f (rd a0 i38)).bind fun t42 => if t42 = true then (some (.inl (i38))) else (IndexFunc.l1 a0 k (IntKind.wrap .i64 (i38 + 1))))) else (some (.inr ()))
def IndexFunc.f (K : Nat) (a0 : List Int) : Option (Int) := thn (IndexFunc.l1 a0 K 0) fun o19 => some (-1)
theorem IndexFunc.calls {B : Nat} {w0 : World} {G : List HP} (K : Nat) (a0 : List Int) (Aa0 : Option Addr) (ca0 : Nat) (ha0 : RdG B w0 G Aa0 (a0.map (Value.int .u8))) (ka0 : a0.length ≤ ca0) (r : Int) (H : IndexFunc.f K a0 = some r) (w : World) (hw : St B w0 (G) w) :
    Calls Try.prog 38 [.slice Aa0 a0.length ca0, .func (.func 39) #[] #[]].toArray w (fun e w' => e = .returned (.int .i64 r) ∧ St B w0 (G) w') := by
  unfold IndexFunc.f at H
  refine calls_of (n := 19) (s := [(0, .slice Aa0 a0.length ca0), (1, .func (.func 39) #[] #[])]) Try.func38 rfl rfl rfl rfl ?_ hw
  refine C.rs ?_
  refine J.p rfl rfl rfl rfl (Y.asg rfl) ?_
  refine J.nx ?_
  refine C.seq ?_
  refine C.rs ?_
  refine J.p rfl rfl rfl rfl (Y.mv rfl) ?_
  refine J.p rfl rfl rfl rfl (Y.lenS Try.underlying22 rfl) ?_
  refine J.p rfl rfl rfl rfl (Y.mv rfl) ?_
  refine J.nx ?_
  refine C.joinNR H (fun (o19 : Unit) (j20 : Unit) => []) (fun (o19 : Unit) (j20 : Unit) => G) (fun (o19 : Unit) (j20 : Unit) => True) (fun o17 H HK18 => ?_) (fun o19 j20 H _ => ?_)
  · refine C.blk ?_
    refine C.loop (fun (i : Nat × (Int) × (Unit)) => [(0, .slice Aa0 a0.length ca0), (1, .func (.func 39) #[] #[]), (7, .int .i64 (a0.length : Int)), (8, .int .i64 i.2.1)]) (fun (i : Nat × (Int) × (Unit)) => G) (fun (i : Nat × (Int) × (Unit)) => IndexFunc.l1 a0 i.1 i.2.1 = some o17 ∧ (True)) (fun i => i.1) (K, 0, ()) ⟨H, trivial⟩ (by exact ⟨rfl, rfl, rfl, rfl, trivial⟩) (by exact fun w h => h) ?_
    rintro ⟨k46, i38, j39⟩ ⟨H, _⟩
    replace H : IndexFunc.l1 a0 k46 i38 = some o17 := H
    obtain ⟨k37, rfl⟩ : ∃ m, k46 = m + 1 := by cases k46 with | zero => exact absurd H (by simp [IndexFunc.l1]) | succ m => exact ⟨m, rfl⟩
    rw [IndexFunc.l1] at H
    refine C.at (s' := [(0, .slice Aa0 a0.length ca0), (1, .func (.func 39) #[] #[]), (7, .int .i64 (a0.length : Int)), (8, .int .i64 i38)]) (G' := G) rfl rfl ?_
    refine C.rs ?_
    refine J.p rfl rfl rfl rfl (Y.bin rfl rfl rfl) ?_
    refine J.nx ?_
    refine C.seq ?_
    refine split2 H (fun c40 H => ?_) (fun c40 H => ?_)
    · refine C.condT (congrArg (fun b => some (Value.bool b)) (decide_eq_true c40)) ?_
      refine C.skip ?_
      refine N.nx ?_
      refine C.seq ?_
      refine C.blk ?_
      refine C.rs ?_
      refine J.p rfl rfl rfl rfl (Y.mv rfl) ?_
      refine J.p rfl rfl rfl rfl (Y.asg rfl) ?_
      refine J.nx ?_
      refine C.rs ?_
      refine J.p rfl rfl rfl rfl (Y.mv rfl) ?_
      refine J.p rfl rfl rfl rfl (Y.mv rfl) ?_
      refine J.p rfl rfl rfl rfl (Y.mv rfl) ?_
      obtain ⟨p41, H⟩ := gd_some H
      refine J.el rfl rfl rfl Try.underlying22 ti5 Try.underlying5 rfl rfl rfl p41 ha0 ?_
      obtain ⟨t42, hC43, H⟩ := bind_some H
      refine J.call (us := []) (cap := []) rfl rfl rfl go39 (fun w hw => by have hcc := DecodeF.calls (rd a0 i38) t42 hC43 w hw; exact hcc) (fun e w1 h1 => ?_)
      obtain ⟨rfl, hw45⟩ := h1
      refine ⟨_, _, rfl, hw45, ?_⟩
      refine J.nx ?_
      refine split2 H (fun c44 H => ?_) (fun c44 H => ?_)
      · refine C.condT (congrArg (fun b => some (Value.bool b)) (c44)) ?_
        refine C.rs ?_
        refine J.p rfl rfl rfl rfl (Y.mv rfl) ?_
        refine J.p rfl rfl rfl rfl (Y.asg rfl) ?_
        refine J.nx ?_
        refine C.ret ?_
        obtain rfl := Option.some.inj H
        obtain rfl := fin_inl HK18
        refine T.ib ?_
        refine T.th ?_
        refine T.th ?_
        refine T.ib ?_
        refine T.th ?_
        refine T.th ?_
        exact ret_ok (ks := [4]) rfl rfl (fun w h => ⟨rfl, h⟩)
      · refine C.condF (congrArg (fun b => some (Value.bool b)) (nt c44)) ?_
        refine C.skip ?_
        refine N.ib ?_
        refine N.nx ?_
        refine C.reg ?_
        refine J.p rfl rfl rfl rfl (Y.bin rfl rfl rfl) ?_
        refine J.p rfl rfl rfl rfl (Y.mv rfl) ?_
        refine J.nil ?_
        exact N.again (k37, IntKind.wrap .i64 (i38 + 1), ()) ⟨H, trivial⟩ (Nat.lt_succ_self _) (by exact ⟨rfl, rfl, rfl, rfl, trivial⟩) (by exact fun w h => h)
    · refine C.condF (congrArg (fun b => some (Value.bool b)) (decide_eq_false c40)) ?_
      refine C.exit ?_
      refine X.th ?_
      refine X.th ?_
      refine X.hit ?_
      obtain rfl := Option.some.inj H
      exact N.meet ((), ()) ⟨fin_inr HK18, trivial⟩ (by exact trivial) (by exact fun w h => h)
  · refine N.at (s' := []) (G' := G) rfl rfl ?_
    refine N.nx ?_
    refine C.rs ?_
    refine J.p rfl rfl rfl rfl (Y.asg rfl) ?_
    refine J.nx ?_
    refine C.ret ?_
    obtain rfl := Option.some.inj H
    exact ret_ok (ks := [4]) rfl rfl (fun w h => ⟨rfl, h⟩)
/-! ### salvor/vint.Decode: function 15 -/
def Decode.l1 (a0 : List Int) (t2 : Int) : Nat → (Int × (List Int) × Int) → Option (Int)
  | 0, _ => none
  | k + 1, i122 => if i122.2.2 < (((a0.take (Int.toNat (IntKind.wrap .i64 (t2 + 1)))).drop 0).length : Int) then (gd ((0 : Int) ≤ i122.2.2 ∧ i122.2.2 < (i122.2.1.length : Int)) (gd ((0 : Int) ≤ (IntKind.wrap .i64 (7 * i122.2.2))) (Decode.l1 a0 t2 k (Sx.bits .or .u64 i122.1 (Sx.shl .u64 (IntKind.wrap .u64 (Sx.bits .and .u8 (rd i122.2.1 i122.2.2) 127)) (IntKind.wrap .i64 (7 * i122.2.2))), i122.2.1, IntKind.wrap .i64 (i122.2.2 + 1))))) else (some i122.1)
def Decode.f (K : Nat) (a0 : List Int) : Option (Int × Int × Int) := gd ((0 : Int) ≤ (min (a0.length : Int) 10) ∧ (0 ≤ (Int.toNat (min (a0.length : Int) 10)) ∧ (Int.toNat (min (a0.length : Int) 10)) ≤ a0.length)) ((IndexFunc.f K ((a0.take (Int.toNat (min (a0.length : Int) 10))).drop 0)).bind fun t2 => thn ((if t2 < 0 then (some (decide ((a0.length : Int) < 10))) else (some false)).bind fun o39 => if o39 = true then (some (.inl ((0, 0, 21)))) else (if t2 < 0 then (if t2 < 0 then (some (.inl ((0, 0, 22)))) else ((if 0 < t2 then (gd ((0 : Int) ≤ t2 ∧ t2 < (a0.length : Int)) (gd ((0 : Int) ≤ t2 ∧ t2 < (a0.length : Int)) (some (decide ((rd a0 t2) = 0))))) else (some false)).bind fun o52 => if o52 = true then (some (.inl ((0, 0, 23)))) else (some (.inr ())))) else ((if t2 = 9 then (gd ((0 : Int) ≤ t2 ∧ t2 < (a0.length : Int)) (gd ((0 : Int) ≤ t2 ∧ t2 < (a0.length : Int)) (some (decide (1 < (rd a0 t2)))))) else (some false)).bind fun o67 => if o67 = true then (some (.inl ((0, 0, 22)))) else ((if 0 < t2 then (gd ((0 : Int) ≤ t2 ∧ t2 < (a0.length : Int)) (gd ((0 : Int) ≤ t2 ∧ t2 < (a0.length : Int)) (some (decide ((rd a0 t2) = 0))))) else (some false)).bind fun o82 => if o82 = true then (some (.inl ((0, 0, 23)))) else (some (.inr ())))))) fun o36 => gd ((0 : Int) ≤ (IntKind.wrap .i64 (t2 + 1)) ∧ (0 ≤ (Int.toNat (IntKind.wrap .i64 (t2 + 1))) ∧ (Int.toNat (IntKind.wrap .i64 (t2 + 1))) ≤ a0.length)) ((Decode.l1 a0 t2 K (0, ((a0.take (Int.toNat (IntKind.wrap .i64 (t2 + 1)))).drop 0), 0)).bind fun o107 => some (o107, IntKind.wrap .i64 (t2 + 1), 0)))
theorem Decode.calls {B : Nat} {w0 : World} {G : List HP} (K : Nat) (a0 : List Int) (Aa0 : Option Addr) (ca0 : Nat) (ha0 : RdG B w0 G Aa0 (a0.map (Value.int .u8))) (ka0 : a0.length ≤ ca0) (r : Int × Int × Int) (H : Decode.f K a0 = some r) (w : World) (hw : St B w0 (G) w) :
    Calls Try.prog 15 [.slice Aa0 a0.length ca0].toArray w (fun e w' => e = .returned (.tuple #[.int .u64 r.1, .int .i64 r.2.1, .int .i64 r.2.2]) ∧ St B w0 (G) w') := by
  unfold Decode.f at H
  refine calls_of (n := 67) (s := [(0, .slice Aa0 a0.length ca0)]) Try.func15 rfl rfl rfl rfl ?_ hw
  refine C.rs ?_
  refine J.p rfl rfl rfl rfl (Y.asg rfl) ?_
  refine J.p rfl rfl rfl rfl (Y.asg rfl) ?_
  refine J.p rfl rfl rfl rfl (Y.asg rfl) ?_
  refine J.nx ?_
  refine C.rs ?_
  refine J.p rfl rfl rfl rfl (Y.mv rfl) ?_
  refine J.p rfl rfl rfl rfl (Y.mv rfl) ?_
  refine J.p rfl rfl rfl rfl (Y.lenS Try.underlying22 rfl) ?_
  refine J.p rfl rfl rfl rfl (Y.mn rfl rfl) ?_
  obtain ⟨p1, H⟩ := gd_some H
  refine J.p rfl rfl rfl rfl (Y.slcL Try.underlying22 ti5 rfl bnd.no (bnd.yes rfl p1.1) p1.2 ka0) ?_
  obtain ⟨t2, hC3, H⟩ := bind_some H
  refine J.call (us := []) (cap := []) rfl rfl rfl go38 (fun w hw => by have hcc := IndexFunc.calls K ((a0.take (Int.toNat (min (a0.length : Int) 10))).drop 0) (subA 1 Aa0 ca0 0) (ca0 - 0) (RdG.subL (l := 0) (h := (Int.toNat (min (a0.length : Int) 10))) ha0 ka0) (hc_sub ka0) t2 hC3 w hw; exact hcc) (fun e w1 h1 => ?_)
  obtain ⟨rfl, hw129⟩ := h1
  refine ⟨_, _, rfl, hw129, ?_⟩
  refine J.p rfl rfl rfl rfl (Y.asg rfl) ?_
  refine J.nx ?_
  refine C.joinR H (fun (o36 : Unit) (j37 : Unit) => [(0, .slice Aa0 a0.length ca0), (5, .int .i64 t2)]) (fun (o36 : Unit) (j37 : Unit) => G) (fun (o36 : Unit) (j37 : Unit) => True) (fun o34 H HK35 => ?_) (fun o36 j37 H _ => ?_)
  · refine C.blk ?_
    refine C.rs ?_
    refine J.joinB H (fun (o39 : Bool) (j40 : Unit) => [(0, .slice Aa0 a0.length ca0), (5, .int .i64 t2), (15, .bool o39)]) (fun (o39 : Bool) (j40 : Unit) => G) (fun (o39 : Bool) (j40 : Unit) => True) (fun o41 H HK42 => ?_) (fun o39 j40 H _ => ?_)
    · refine J.p rfl rfl rfl rfl (Y.mv rfl) ?_
      refine J.p rfl rfl rfl rfl (Y.bin rfl rfl rfl) ?_
      refine J.p rfl rfl rfl rfl (Y.mv rfl) ?_
      refine split2 H (fun c43 H => ?_) (fun c43 H => ?_)
      · refine J.as (k := 18) rfl (congrArg Value.bool (decide_eq_true c43)) ?_
        refine J.p rfl rfl rfl rfl (Y.mv rfl) ?_
        refine J.p rfl rfl rfl rfl (Y.lenS Try.underlying22 rfl) ?_
        refine J.p rfl rfl rfl rfl (Y.bin rfl rfl rfl) ?_
        refine J.p rfl rfl rfl rfl (Y.pickT rfl rfl) ?_
        refine J.p rfl rfl rfl rfl (Y.asg rfl) ?_
        refine J.nil ?_
        obtain rfl := Option.some.inj H
        exact N.meet (decide ((a0.length : Int) < 10), ()) ⟨HK42, trivial⟩ (by exact ⟨rfl, rfl, rfl, trivial⟩) (by exact fun w h => h)
      · refine J.as (k := 18) rfl (congrArg Value.bool (decide_eq_false c43)) ?_
        refine J.skip rfl rfl ?_
        refine J.skip rfl rfl ?_
        refine J.skip rfl rfl ?_
        refine J.p rfl rfl rfl rfl (Y.pickF rfl rfl) ?_
        refine J.p rfl rfl rfl rfl (Y.asg rfl) ?_
        refine J.nil ?_
        obtain rfl := Option.some.inj H
        exact N.meet (false, ()) ⟨HK42, trivial⟩ (by exact ⟨rfl, rfl, rfl, trivial⟩) (by exact fun w h => h)
    · refine C.at (s' := [(0, .slice Aa0 a0.length ca0), (5, .int .i64 t2), (15, .bool o39)]) (G' := G) rfl rfl ?_
      refine split2 H (fun c44 H => ?_) (fun c44 H => ?_)
      · refine C.condT (congrArg (fun b => some (Value.bool b)) (c44)) ?_
        refine C.rs ?_
        refine J.p rfl rfl rfl rfl (Y.asg rfl) ?_
        refine J.p rfl rfl rfl rfl (Y.asg rfl) ?_
        refine J.p rfl rfl rfl rfl (Y.asg rfl) ?_
        refine J.nx ?_
        refine C.ret ?_
        obtain rfl := Option.some.inj H
        obtain rfl := fin_inl HK35
        refine T.ib ?_
        refine T.th ?_
        exact ret_ok (ks := [2, 3, 4]) rfl rfl (fun w h => ⟨rfl, h⟩)
      · refine C.condF (congrArg (fun b => some (Value.bool b)) (nt c44)) ?_
        refine C.seq ?_
        refine C.rs ?_
        refine J.p rfl rfl rfl rfl (Y.mv rfl) ?_
        refine J.p rfl rfl rfl rfl (Y.bin rfl rfl rfl) ?_
        refine J.p rfl rfl rfl rfl (Y.asg rfl) ?_
        refine J.nx ?_
        refine split2 H (fun c45 H => ?_) (fun c45 H => ?_)
        · refine C.condT (congrArg (fun b => some (Value.bool b)) (decide_eq_true c45)) ?_
          refine C.skip ?_
          refine N.nx ?_
          refine split2 H (fun c46 H => ?_) (fun c46 H => ?_)
          · refine C.condT (congrArg (fun b => some (Value.bool b)) (decide_eq_true c46)) ?_
            refine C.rs ?_
            refine J.p rfl rfl rfl rfl (Y.asg rfl) ?_
            refine J.p rfl rfl rfl rfl (Y.asg rfl) ?_
            refine J.p rfl rfl rfl rfl (Y.asg rfl) ?_
            refine J.nx ?_
            refine C.ret ?_
            obtain rfl := Option.some.inj H
            obtain rfl := fin_inl HK35
            refine T.ib ?_
            refine T.th ?_
            exact ret_ok (ks := [2, 3, 4]) rfl rfl (fun w h => ⟨rfl, h⟩)
          · refine C.condF (congrArg (fun b => some (Value.bool b)) (decide_eq_false c46)) ?_
            refine C.rs ?_
            refine J.joinB H (fun (o52 : Bool) (j53 : Unit) => [(0, .slice Aa0 a0.length ca0), (5, .int .i64 t2), (35, .bool o52)]) (fun (o52 : Bool) (j53 : Unit) => G) (fun (o52 : Bool) (j53 : Unit) => True) (fun o54 H HK55 => ?_) (fun o52 j53 H _ => ?_)
            · refine J.p rfl rfl rfl rfl (Y.mv rfl) ?_
              refine J.p rfl rfl rfl rfl (Y.bin rfl rfl rfl) ?_
              refine J.p rfl rfl rfl rfl (Y.mv rfl) ?_
              refine split2 H (fun c56 H => ?_) (fun c56 H => ?_)
              · refine J.as (k := 38) rfl (congrArg Value.bool (decide_eq_true c56)) ?_
                refine J.p rfl rfl rfl rfl (Y.mv rfl) ?_
                refine J.p rfl rfl rfl rfl (Y.mv rfl) ?_
                obtain ⟨p59, H⟩ := gd_some H
                refine J.know (ha0.some_ (j := Int.toNat t2) (by rw [List.length_map]; exact idx_lt p59)) (fun hh => ?_)
                obtain ⟨a57, ha58⟩ := hh
                refine J.p rfl rfl rfl rfl (Y.ixa Try.underlying22 ti5 rfl rfl p59 ha58) ?_
                obtain ⟨p60, H⟩ := gd_some H
                refine J.r rfl rfl rfl rfl (Y.ldE Try.underlying5 rfl rfl ha58 p60 ha0) ?_
                refine J.p rfl rfl rfl rfl (Y.bin rfl rfl rfl) ?_
                refine J.p rfl rfl rfl rfl (Y.pickT rfl rfl) ?_
                refine J.p rfl rfl rfl rfl (Y.asg rfl) ?_
                refine J.nil ?_
                obtain rfl := Option.some.inj H
                exact N.meet (decide ((rd a0 t2) = 0), ()) ⟨HK55, trivial⟩ (by exact ⟨rfl, rfl, rfl, trivial⟩) (by exact fun w h => h)
              · refine J.as (k := 38) rfl (congrArg Value.bool (decide_eq_false c56)) ?_
                refine J.skip rfl rfl ?_
                refine J.skip rfl rfl ?_
                refine J.skip rfl rfl ?_
                refine J.skip rfl rfl ?_
                refine J.skip rfl rfl ?_
                refine J.p rfl rfl rfl rfl (Y.pickF rfl rfl) ?_
                refine J.p rfl rfl rfl rfl (Y.asg rfl) ?_
                refine J.nil ?_
                obtain rfl := Option.some.inj H
                exact N.meet (false, ()) ⟨HK55, trivial⟩ (by exact ⟨rfl, rfl, rfl, trivial⟩) (by exact fun w h => h)
            · refine C.at (s' := [(0, .slice Aa0 a0.length ca0), (5, .int .i64 t2), (35, .bool o52)]) (G' := G) rfl rfl ?_
              refine split2 H (fun c61 H => ?_) (fun c61 H => ?_)
              · refine C.condT (congrArg (fun b => some (Value.bool b)) (c61)) ?_
                refine C.rs ?_
                refine J.p rfl rfl rfl rfl (Y.asg rfl) ?_
                refine J.p rfl rfl rfl rfl (Y.asg rfl) ?_
                refine J.p rfl rfl rfl rfl (Y.asg rfl) ?_
                refine J.nx ?_
                refine C.ret ?_
                obtain rfl := Option.some.inj H
                obtain rfl := fin_inl HK35
                refine T.ib ?_
                refine T.th ?_
                exact ret_ok (ks := [2, 3, 4]) rfl rfl (fun w h => ⟨rfl, h⟩)
              · refine C.condF (congrArg (fun b => some (Value.bool b)) (nt c61)) ?_
                refine C.skip ?_
                refine N.ib ?_
                obtain rfl := Option.some.inj H
                exact N.meet ((), ()) ⟨fin_inr HK35, trivial⟩ (by exact ⟨rfl, rfl, trivial⟩) (by exact fun w h => h)
        · refine C.condF (congrArg (fun b => some (Value.bool b)) (decide_eq_false c45)) ?_
          refine C.reg ?_
          refine J.joinB H (fun (o67 : Bool) (j68 : Unit) => [(0, .slice Aa0 a0.length ca0), (5, .int .i64 t2), (23, .bool o67)]) (fun (o67 : Bool) (j68 : Unit) => G) (fun (o67 : Bool) (j68 : Unit) => True) (fun o69 H HK70 => ?_) (fun o67 j68 H _ => ?_)
          · refine J.p rfl rfl rfl rfl (Y.mv rfl) ?_
            refine J.p rfl rfl rfl rfl (Y.bin rfl rfl rfl) ?_
            refine J.p rfl rfl rfl rfl (Y.mv rfl) ?_
            refine split2 H (fun c71 H => ?_) (fun c71 H => ?_)
            · refine J.as (k := 28) rfl (congrArg Value.bool (decide_eq_true c71)) ?_
              refine J.p rfl rfl rfl rfl (Y.mv rfl) ?_
              refine J.p rfl rfl rfl rfl (Y.mv rfl) ?_
              obtain ⟨p74, H⟩ := gd_some H
              refine J.know (ha0.some_ (j := Int.toNat t2) (by rw [List.length_map]; exact idx_lt p74)) (fun hh => ?_)
              obtain ⟨a72, ha73⟩ := hh
              refine J.p rfl rfl rfl rfl (Y.ixa Try.underlying22 ti5 rfl rfl p74 ha73) ?_
              obtain ⟨p75, H⟩ := gd_some H
              refine J.r rfl rfl rfl rfl (Y.ldE Try.underlying5 rfl rfl ha73 p75 ha0) ?_
              refine J.p rfl rfl rfl rfl (Y.bin rfl rfl rfl) ?_
              refine J.p rfl rfl rfl rfl (Y.pickT rfl rfl) ?_
              refine J.p rfl rfl rfl rfl (Y.asg rfl) ?_
              refine J.nil ?_
              obtain rfl := Option.some.inj H
              exact N.meet (decide (1 < (rd a0 t2)), ()) ⟨HK70, trivial⟩ (by exact ⟨rfl, rfl, rfl, trivial⟩) (by exact fun w h => h)
            · refine J.as (k := 28) rfl (congrArg Value.bool (decide_eq_false c71)) ?_
              refine J.skip rfl rfl ?_
              refine J.skip rfl rfl ?_
              refine J.skip rfl rfl ?_
              refine J.skip rfl rfl ?_
              refine J.skip rfl rfl ?_
              refine J.p rfl rfl rfl rfl (Y.pickF rfl rfl) ?_
              refine J.p rfl rfl rfl rfl (Y.asg rfl) ?_
              refine J.nil ?_
              obtain rfl := Option.some.inj H
              exact N.meet (false, ()) ⟨HK70, trivial⟩ (by exact ⟨rfl, rfl, rfl, trivial⟩) (by exact fun w h => h)
          · refine C.at (s' := [(0, .slice Aa0 a0.length ca0), (5, .int .i64 t2), (23, .bool o67)]) (G' := G) rfl rfl ?_
            refine split2 H (fun c76 H => ?_) (fun c76 H => ?_)
            · refine C.condT (congrArg (fun b => some (Value.bool b)) (c76)) ?_
              refine C.rs ?_
              refine J.p rfl rfl rfl rfl (Y.asg rfl) ?_
              refine J.p rfl rfl rfl rfl (Y.asg rfl) ?_
              refine J.p rfl rfl rfl rfl (Y.asg rfl) ?_
              refine J.nx ?_
              refine C.ret ?_
              obtain rfl := Option.some.inj H
              obtain rfl := fin_inl HK35
              refine T.ib ?_
              refine T.th ?_
              exact ret_ok (ks := [2, 3, 4]) rfl rfl (fun w h => ⟨rfl, h⟩)
            · refine C.condF (congrArg (fun b => some (Value.bool b)) (nt c76)) ?_
              refine C.rs ?_
              refine J.joinB H (fun (o82 : Bool) (j83 : Unit) => [(0, .slice Aa0 a0.length ca0), (5, .int .i64 t2), (35, .bool o82)]) (fun (o82 : Bool) (j83 : Unit) => G) (fun (o82 : Bool) (j83 : Unit) => True) (fun o84 H HK85 => ?_) (fun o82 j83 H _ => ?_)
              · refine J.p rfl rfl rfl rfl (Y.mv rfl) ?_
                refine J.p rfl rfl rfl rfl (Y.bin rfl rfl rfl) ?_
                refine J.p rfl rfl rfl rfl (Y.mv rfl) ?_
                refine split2 H (fun c86 H => ?_) (fun c86 H => ?_)
                · refine J.as (k := 38) rfl (congrArg Value.bool (decide_eq_true c86)) ?_
                  refine J.p rfl rfl rfl rfl (Y.mv rfl) ?_
                  refine J.p rfl rfl rfl rfl (Y.mv rfl) ?_
                  obtain ⟨p89, H⟩ := gd_some H
                  refine J.know (ha0.some_ (j := Int.toNat t2) (by rw [List.length_map]; exact idx_lt p89)) (fun hh => ?_)
                  obtain ⟨a87, ha88⟩ := hh
                  refine J.p rfl rfl rfl rfl (Y.ixa Try.underlying22 ti5 rfl rfl p89 ha88) ?_
                  obtain ⟨p90, H⟩ := gd_some H
                  refine J.r rfl rfl rfl rfl (Y.ldE Try.underlying5 rfl rfl ha88 p90 ha0) ?_
                  refine J.p rfl rfl rfl rfl (Y.bin rfl rfl rfl) ?_
                  refine J.p rfl rfl rfl rfl (Y.pickT rfl rfl) ?_
                  refine J.p rfl rfl rfl rfl (Y.asg rfl) ?_
                  refine J.nil ?_
                  obtain rfl := Option.some.inj H
                  exact N.meet (decide ((rd a0 t2) = 0), ()) ⟨HK85, trivial⟩ (by exact ⟨rfl, rfl, rfl, trivial⟩) (by exact fun w h => h)
                · refine J.as (k := 38) rfl (congrArg Value.bool (decide_eq_false c86)) ?_
                  refine J.skip rfl rfl ?_
                  refine J.skip rfl rfl ?_
                  refine J.skip rfl rfl ?_
                  refine J.skip rfl rfl ?_
                  refine J.skip rfl rfl ?_
                  refine J.p rfl rfl rfl rfl (Y.pickF rfl rfl) ?_
                  refine J.p rfl rfl rfl rfl (Y.asg rfl) ?_
                  refine J.nil ?_
                  obtain rfl := Option.some.inj H
                  exact N.meet (false, ()) ⟨HK85, trivial⟩ (by exact ⟨rfl, rfl, rfl, trivial⟩) (by exact fun w h => h)
              · refine C.at (s' := [(0, .slice Aa0 a0.length ca0), (5, .int .i64 t2), (35, .bool o82)]) (G' := G) rfl rfl ?_
                refine split2 H (fun c91 H => ?_) (fun c91 H => ?_)
                · refine C.condT (congrArg (fun b => some (Value.bool b)) (c91)) ?_
                  refine C.rs ?_
                  refine J.p rfl rfl rfl rfl (Y.asg rfl) ?_
                  refine J.p rfl rfl rfl rfl (Y.asg rfl) ?_
                  refine J.p rfl rfl rfl rfl (Y.asg rfl) ?_
                  refine J.nx ?_
                  refine C.ret ?_
                  obtain rfl := Option.some.inj H
                  obtain rfl := fin_inl HK35
                  refine T.ib ?_
                  refine T.th ?_
                  exact ret_ok (ks := [2, 3, 4]) rfl rfl (fun w h => ⟨rfl, h⟩)
                · refine C.condF (congrArg (fun b => some (Value.bool b)) (nt c91)) ?_
                  refine C.skip ?_
                  refine N.ib ?_
                  obtain rfl := Option.some.inj H
                  exact N.meet ((), ()) ⟨fin_inr HK35, trivial⟩ (by exact ⟨rfl, rfl, trivial⟩) (by exact fun w h => h)
  · refine C.at (s' := [(0, .slice Aa0 a0.length ca0), (5, .int .i64 t2)]) (G' := G) rfl rfl ?_
    refine C.rs ?_
    refine J.p rfl rfl rfl rfl (Y.asg rfl) ?_
    refine J.nx ?_
    refine C.seq ?_
    refine C.rs ?_
    refine J.p rfl rfl rfl rfl (Y.mv rfl) ?_
    refine J.p rfl rfl rfl rfl (Y.mv rfl) ?_
    refine J.p rfl rfl rfl rfl (Y.bin rfl rfl rfl) ?_
    obtain ⟨p92, H⟩ := gd_some H
    refine J.p rfl rfl rfl rfl (Y.slcL Try.underlying22 ti5 rfl bnd.no (bnd.yes rfl p92.1) p92.2 ka0) ?_
    refine J.p rfl rfl rfl rfl (Y.lenS Try.underlying22 rfl) ?_
    refine J.p rfl rfl rfl rfl (Y.mv rfl) ?_
    refine J.nx ?_
    refine C.joinN H (fun (o107 : Int) (j108 : Unit) => [(5, .int .i64 t2), (6, .int .u64 o107)]) (fun (o107 : Int) (j108 : Unit) => G) (fun (o107 : Int) (j108 : Unit) => True) (fun o105 H HK106 => ?_) (fun o107 j108 H _ => ?_)
    · refine C.blk ?_
      refine C.loop (fun (i : Nat × (Int × (List Int) × Int) × ((Option Addr) × Nat)) => [(5, .int .i64 t2), (6, .int .u64 i.2.1.1), (48, .slice i.2.2.1 i.2.1.2.1.length i.2.2.2), (49, .int .i64 (((a0.take (Int.toNat (IntKind.wrap .i64 (t2 + 1)))).drop 0).length : Int)), (50, .int .i64 i.2.1.2.2)]) (fun (i : Nat × (Int × (List Int) × Int) × ((Option Addr) × Nat)) => G) (fun (i : Nat × (Int × (List Int) × Int) × ((Option Addr) × Nat)) => Decode.l1 a0 t2 i.1 i.2.1 = some o105 ∧ ((RdG B w0 G i.2.2.1 (i.2.1.2.1.map (Value.int .u8)) ∧ i.2.1.2.1.length ≤ i.2.2.2))) (fun i => i.1) (K, (0, ((a0.take (Int.toNat (IntKind.wrap .i64 (t2 + 1)))).drop 0), 0), (subA 1 Aa0 ca0 0, ca0 - 0)) ⟨H, ⟨(RdG.subL (l := 0) (h := (Int.toNat (IntKind.wrap .i64 (t2 + 1)))) ha0 ka0), (hc_sub ka0)⟩⟩ (by exact ⟨rfl, rfl, rfl, rfl, rfl, trivial⟩) (by exact fun w h => h) ?_
      rintro ⟨k128, i122, j123⟩ ⟨H, hx124⟩
      replace H : Decode.l1 a0 t2 k128 i122 = some o105 := H
      obtain ⟨k121, rfl⟩ : ∃ m, k128 = m + 1 := by cases k128 with | zero => exact absurd H (by simp [Decode.l1]) | succ m => exact ⟨m, rfl⟩
      rw [Decode.l1] at H
      refine C.at (s' := [(5, .int .i64 t2), (6, .int .u64 i122.1), (48, .slice j123.1 i122.2.1.length j123.2), (49, .int .i64 (((a0.take (Int.toNat (IntKind.wrap .i64 (t2 + 1)))).drop 0).length : Int)), (50, .int .i64 i122.2.2)]) (G' := G) rfl rfl ?_
      refine C.rs ?_
      refine J.p rfl rfl rfl rfl (Y.bin rfl rfl rfl) ?_
      refine J.nx ?_
      refine C.seq ?_
      refine split2 H (fun c125 H => ?_) (fun c125 H => ?_)
      · refine C.condT (congrArg (fun b => some (Value.bool b)) (decide_eq_true c125)) ?_
        refine C.skip ?_
        refine N.nx ?_
        refine C.seq ?_
        refine C.blk ?_
        refine C.rs ?_
        refine J.p rfl rfl rfl rfl (Y.mv rfl) ?_
        obtain ⟨p126, H⟩ := gd_some H
        refine J.el rfl rfl rfl Try.underlying22 ti5 Try.underlying5 rfl rfl rfl p126 hx124.1 ?_
        refine J.p rfl rfl rfl rfl (Y.asg rfl) ?_
        refine J.p rfl rfl rfl rfl (Y.asg rfl) ?_
        refine J.nx ?_
        refine C.reg ?_
        refine J.p rfl rfl rfl rfl (Y.mv rfl) ?_
        refine J.p rfl rfl rfl rfl (Y.mv rfl) ?_
        refine J.p rfl rfl rfl rfl (Y.bin rfl rfl rfl) ?_
        refine J.p rfl rfl rfl rfl (Y.conv Try.underlying5 Try.underlying24 rfl) ?_
        refine J.p rfl rfl rfl rfl (Y.mv rfl) ?_
        refine J.p rfl rfl rfl rfl (Y.bin rfl rfl rfl) ?_
        obtain ⟨p127, H⟩ := gd_some H
        refine J.p rfl rfl rfl rfl (Y.shl rfl rfl p127) ?_
        refine J.p rfl rfl rfl rfl (Y.bin rfl rfl rfl) ?_
        refine J.p rfl rfl rfl rfl (Y.asg rfl) ?_
        refine J.nil ?_
        refine N.ib ?_
        refine N.nx ?_
        refine C.reg ?_
        refine J.p rfl rfl rfl rfl (Y.bin rfl rfl rfl) ?_
        refine J.p rfl rfl rfl rfl (Y.mv rfl) ?_
        refine J.nil ?_
        exact N.again (k121, (Sx.bits .or .u64 i122.1 (Sx.shl .u64 (IntKind.wrap .u64 (Sx.bits .and .u8 (rd i122.2.1 i122.2.2) 127)) (IntKind.wrap .i64 (7 * i122.2.2))), i122.2.1, IntKind.wrap .i64 (i122.2.2 + 1)), (j123.1, j123.2)) ⟨H, ⟨hx124.1, hx124.2⟩⟩ (Nat.lt_succ_self _) (by exact ⟨rfl, rfl, rfl, rfl, rfl, trivial⟩) (by exact fun w h => h)
      · refine C.condF (congrArg (fun b => some (Value.bool b)) (decide_eq_false c125)) ?_
        refine C.exit ?_
        refine X.th ?_
        refine X.th ?_
        refine X.hit ?_
        obtain rfl := Option.some.inj H
        exact N.meet (i122.1, ()) ⟨HK106, trivial⟩ (by exact ⟨rfl, rfl, trivial⟩) (by exact fun w h => h)
    · refine N.at (s' := [(5, .int .i64 t2), (6, .int .u64 o107)]) (G' := G) rfl rfl ?_
      refine N.nx ?_
      refine C.rs ?_
      refine J.p rfl rfl rfl rfl (Y.mv rfl) ?_
      refine J.p rfl rfl rfl rfl (Y.mv rfl) ?_
      refine J.p rfl rfl rfl rfl (Y.bin rfl rfl rfl) ?_
      refine J.p rfl rfl rfl rfl (Y.asg rfl) ?_
      refine J.p rfl rfl rfl rfl (Y.asg rfl) ?_
      refine J.p rfl rfl rfl rfl (Y.asg rfl) ?_
      refine J.nx ?_
      refine C.ret ?_
      obtain rfl := Option.some.inj H
      exact ret_ok (ks := [2, 3, 4]) rfl rfl (fun w h => ⟨rfl, h⟩)
/-! ### salvor/vint.Encode: function 20 -/
def Encode.l2 : Nat → ((List Int) × Int) → Option ((List Int) × Int)
  | 0, _ => none
  | k + 1, i189 => if 127 < i189.2 then (gd ((i189.1.length + [Sx.bits .or .u8 (IntKind.wrap .u8 i189.2) 128].length) * 1 ≤ 140737488355328) (Encode.l2 k ((i189.1 ++ [Sx.bits .or .u8 (IntKind.wrap .u8 i189.2) 128]), Sx.shr .u64 i189.2 7))) else (some (i189.1, i189.2))
def Encode.l1 (K : Nat) (a0 : List Int) : Nat → ((List Int) × Int) → Option ((List Int))
  | 0, _ => none
  | k + 1, i139 => if i139.2 < (a0.length : Int) then (gd ((0 : Int) ≤ i139.2 ∧ i139.2 < (a0.length : Int)) ((Encode.l2 K (i139.1, rd a0 i139.2)).bind fun o166 => gd ((o166.1.length + [IntKind.wrap .u8 o166.2].length) * 1 ≤ 140737488355328) (Encode.l1 K a0 k ((o166.1 ++ [IntKind.wrap .u8 o166.2]), IntKind.wrap .i64 (i139.2 + 1))))) else (some i139.1)
def Encode.f (K : Nat) (a0 : List Int) : Option ((List Int)) := (Encode.l1 K a0 K (([] : List Int), 0)).bind fun o69 => some o69
theorem Encode.calls {B : Nat} {w0 : World} {G : List HP} (K : Nat) (a0 : List Int) (Aa0 : Option Addr) (ca0 : Nat) (ha0 : RdG B w0 G Aa0 (a0.map (Value.int .u64))) (ka0 : a0.length ≤ ca0) (r : (List Int)) (H : Encode.f K a0 = some r) (w : World) (hw : St B w0 (G) w) :
    Calls Try.prog 20 [.slice Aa0 a0.length ca0].toArray w (fun e w' => ∃ A0 c0, e = .returned (.slice A0 r.length c0) ∧ St B w0 (own 5 1 A0 c0 (r.map (Value.int .u8)) :: G) w') := by
  unfold Encode.f at H
  refine calls_of (n := 29) (s := [(0, .slice Aa0 a0.length ca0)]) Try.func20 rfl rfl rfl rfl ?_ hw
  refine C.rs ?_
  refine J.p rfl rfl rfl rfl (Y.asg rfl) ?_
  refine J.nx ?_
  refine C.rs ?_
  refine J.p rfl rfl rfl rfl (Y.asg rfl) ?_
  refine J.nx ?_
  refine C.seq ?_
  refine C.rs ?_
  refine J.p rfl rfl rfl rfl (Y.mv rfl) ?_
  refine J.p rfl rfl rfl rfl (Y.lenS Try.underlying52 rfl) ?_
  refine J.p rfl rfl rfl rfl (Y.mv rfl) ?_
  refine J.nx ?_
  refine C.joinN H (fun (o69 : (List Int)) (j70 : (Option Addr) × Nat) => [(3, .slice j70.1 o69.length j70.2)]) (fun (o69 : (List Int)) (j70 : (Option Addr) × Nat) => own 5 1 j70.1 j70.2 (o69.map (Value.int .u8)) :: G) (fun (o69 : (List Int)) (j70 : (Option Addr) × Nat) => True) (fun o67 H HK68 => ?_) (fun o69 j70 H _ => ?_)
  · refine C.blk ?_
    refine C.loop (fun (i : Nat × ((List Int) × Int) × ((Option Addr) × Nat)) => [(3, .slice i.2.2.1 i.2.1.1.length i.2.2.2), (6, .slice Aa0 a0.length ca0), (7, .int .i64 (a0.length : Int)), (8, .int .i64 i.2.1.2)]) (fun (i : Nat × ((List Int) × Int) × ((Option Addr) × Nat)) => own 5 1 i.2.2.1 i.2.2.2 (i.2.1.1.map (Value.int .u8)) :: G) (fun (i : Nat × ((List Int) × Int) × ((Option Addr) × Nat)) => Encode.l1 K a0 i.1 i.2.1 = some o67 ∧ (True)) (fun i => i.1) (K, (([] : List Int), 0), (none, 0)) ⟨H, trivial⟩ (by exact ⟨rfl, rfl, rfl, rfl, trivial⟩) (by exact fun w h => (h.nilOwn 5 1)) ?_
    rintro ⟨k206, i139, j140⟩ ⟨H, _⟩
    replace H : Encode.l1 K a0 k206 i139 = some o67 := H
    obtain ⟨k138, rfl⟩ : ∃ m, k206 = m + 1 := by cases k206 with | zero => exact absurd H (by simp [Encode.l1]) | succ m => exact ⟨m, rfl⟩
    rw [Encode.l1] at H
    refine C.at (s' := [(3, .slice j140.1 i139.1.length j140.2), (6, .slice Aa0 a0.length ca0), (7, .int .i64 (a0.length : Int)), (8, .int .i64 i139.2)]) (G' := own 5 1 j140.1 j140.2 (i139.1.map (Value.int .u8)) :: G) rfl rfl ?_
    refine C.rs ?_
    refine J.p rfl rfl rfl rfl (Y.bin rfl rfl rfl) ?_
    refine J.nx ?_
    refine C.seq ?_
    refine split2 H (fun c143 H => ?_) (fun c143 H => ?_)
    · refine C.condT (congrArg (fun b => some (Value.bool b)) (decide_eq_true c143)) ?_
      refine C.skip ?_
      refine N.nx ?_
      refine C.seq ?_
      refine C.blk ?_
      refine C.rs ?_
      obtain ⟨p144, H⟩ := gd_some H
      refine J.el rfl rfl rfl Try.underlying52 ti24 Try.underlying24 rfl rfl rfl p144 (ha0.suf [_] rfl) ?_
      refine J.p rfl rfl rfl rfl (Y.asg rfl) ?_
      refine J.nx ?_
      refine C.joinB H (fun (o166 : (List Int) × Int) (j167 : (Option Addr) × Nat) => [(3, .slice j167.1 o166.1.length j167.2), (5, .int .u64 o166.2), (6, .slice Aa0 a0.length ca0), (7, .int .i64 (a0.length : Int)), (8, .int .i64 i139.2)]) (fun (o166 : (List Int) × Int) (j167 : (Option Addr) × Nat) => own 5 1 j167.1 j167.2 (o166.1.map (Value.int .u8)) :: G) (fun (o166 : (List Int) × Int) (j167 : (Option Addr) × Nat) => True) (fun o164 H HK165 => ?_) (fun o166 j167 H _ => ?_)
      · refine C.blk ?_
        refine C.loop (fun (i : Nat × ((List Int) × Int) × ((Option Addr) × Nat)) => [(3, .slice i.2.2.1 i.2.1.1.length i.2.2.2), (5, .int .u64 i.2.1.2), (6, .slice Aa0 a0.length ca0), (7, .int .i64 (a0.length : Int)), (8, .int .i64 i139.2)]) (fun (i : Nat × ((List Int) × Int) × ((Option Addr) × Nat)) => own 5 1 i.2.2.1 i.2.2.2 (i.2.1.1.map (Value.int .u8)) :: G) (fun (i : Nat × ((List Int) × Int) × ((Option Addr) × Nat)) => Encode.l2 i.1 i.2.1 = some o164 ∧ (True)) (fun i => i.1) (K, (i139.1, rd a0 i139.2), (j140.1, j140.2)) ⟨H, trivial⟩ (by exact ⟨rfl, rfl, rfl, rfl, rfl, trivial⟩) (by exact fun w h => h) ?_
        rintro ⟨k199, i189, j190⟩ ⟨H, _⟩
        replace H : Encode.l2 k199 i189 = some o164 := H
        obtain ⟨k188, rfl⟩ : ∃ m, k199 = m + 1 := by cases k199 with | zero => exact absurd H (by simp [Encode.l2]) | succ m => exact ⟨m, rfl⟩
        rw [Encode.l2] at H
        refine C.at (s' := [(3, .slice j190.1 i189.1.length j190.2), (5, .int .u64 i189.2), (6, .slice Aa0 a0.length ca0), (7, .int .i64 (a0.length : Int)), (8, .int .i64 i139.2)]) (G' := own 5 1 j190.1 j190.2 (i189.1.map (Value.int .u8)) :: G) rfl rfl ?_
        refine C.seq ?_
        refine C.rs ?_
        refine J.p rfl rfl rfl rfl (Y.mv rfl) ?_
        refine J.p rfl rfl rfl rfl (Y.bin rfl rfl rfl) ?_
        refine J.nx ?_
        refine split2 H (fun c192 H => ?_) (fun c192 H => ?_)
        · refine C.condT (congrArg (fun b => some (Value.bool b)) (decide_eq_true c192)) ?_
          refine C.skip ?_
          refine N.nx ?_
          refine C.seq ?_
          refine C.blk ?_
          refine C.reg ?_
          refine J.p rfl rfl rfl rfl (Y.mv rfl) ?_
          refine J.p rfl rfl rfl rfl (Y.mv rfl) ?_
          refine J.p rfl rfl rfl rfl (Y.conv Try.underlying24 Try.underlying5 rfl) ?_
          refine J.p rfl rfl rfl rfl (Y.bin rfl rfl rfl) ?_
          refine J.bsL (enc := (Value.int .u8)) (xs := [Sx.bits .or .u8 (IntKind.wrap .u8 i189.2) 128]) rfl Try.underlying22 ti5 rfl rfl rfl rfl rfl (fun A193 => ?_)
          refine J.pull 1 rfl rfl ?_
          obtain ⟨p197, H⟩ := gd_some H
          refine J.appL (enc := (Value.int .u8)) (xs := i189.1) (ys := [Sx.bits .or .u8 (IntKind.wrap .u8 i189.2) 128]) rfl Try.underlying22 ti5 rfl (by decide) rfl rfl (fun _ => rfl) (RdG.own 1 rfl) p197 (fun A195 c196 => ?_)
          refine J.pull 1 rfl rfl (J.drop ?_)
          refine J.p rfl rfl rfl rfl (Y.asg rfl) ?_
          refine J.nil ?_
          refine N.ib ?_
          refine N.nx ?_
          refine C.reg ?_
          refine J.p rfl rfl rfl rfl (Y.mv rfl) ?_
          refine J.p rfl rfl rfl rfl (Y.shr rfl rfl (by decide)) ?_
          refine J.p rfl rfl rfl rfl (Y.asg rfl) ?_
          refine J.nil ?_
          exact N.again (k188, ((i189.1 ++ [Sx.bits .or .u8 (IntKind.wrap .u8 i189.2) 128]), Sx.shr .u64 i189.2 7), (A195, c196)) ⟨H, trivial⟩ (Nat.lt_succ_self _) (by exact ⟨rfl, rfl, rfl, rfl, rfl, trivial⟩) (by exact fun w h => h)
        · refine C.condF (congrArg (fun b => some (Value.bool b)) (decide_eq_false c192)) ?_
          refine C.exit ?_
          refine X.th ?_
          refine X.th ?_
          refine X.hit ?_
          obtain rfl := Option.some.inj H
          exact N.meet ((i189.1, i189.2), (j190.1, j190.2)) ⟨HK165, trivial⟩ (by exact ⟨rfl, rfl, rfl, rfl, rfl, trivial⟩) (by exact fun w h => h)
      · refine C.at (s' := [(3, .slice j167.1 o166.1.length j167.2), (5, .int .u64 o166.2), (6, .slice Aa0 a0.length ca0), (7, .int .i64 (a0.length : Int)), (8, .int .i64 i139.2)]) (G' := own 5 1 j167.1 j167.2 (o166.1.map (Value.int .u8)) :: G) rfl rfl ?_
        refine C.reg ?_
        refine J.p rfl rfl rfl rfl (Y.mv rfl) ?_
        refine J.p rfl rfl rfl rfl (Y.mv rfl) ?_
        refine J.p rfl rfl rfl rfl (Y.conv Try.underlying24 Try.underlying5 rfl) ?_
        refine J.bsL (enc := (Value.int .u8)) (xs := [IntKind.wrap .u8 o166.2]) rfl Try.underlying22 ti5 rfl rfl rfl rfl rfl (fun A200 => ?_)
        refine J.pull 1 rfl rfl ?_
        obtain ⟨p204, H⟩ := gd_some H
        refine J.appL (enc := (Value.int .u8)) (xs := o166.1) (ys := [IntKind.wrap .u8 o166.2]) rfl Try.underlying22 ti5 rfl (by decide) rfl rfl (fun _ => rfl) (RdG.own 1 rfl) p204 (fun A202 c203 => ?_)
        refine J.pull 1 rfl rfl (J.drop ?_)
        refine J.p rfl rfl rfl rfl (Y.asg rfl) ?_
        refine J.nil ?_
        refine N.ib ?_
        refine N.nx ?_
        refine C.reg ?_
        refine J.p rfl rfl rfl rfl (Y.bin rfl rfl rfl) ?_
        refine J.p rfl rfl rfl rfl (Y.mv rfl) ?_
        refine J.nil ?_
        exact N.again (k138, ((o166.1 ++ [IntKind.wrap .u8 o166.2]), IntKind.wrap .i64 (i139.2 + 1)), (A202, c203)) ⟨H, trivial⟩ (Nat.lt_succ_self _) (by exact ⟨rfl, rfl, rfl, rfl, trivial⟩) (by exact fun w h => h)
    · refine C.condF (congrArg (fun b => some (Value.bool b)) (decide_eq_false c143)) ?_
      refine C.exit ?_
      refine X.th ?_
      refine X.th ?_
      refine X.hit ?_
      obtain rfl := Option.some.inj H
      exact N.meet (i139.1, (j140.1, j140.2)) ⟨HK68, trivial⟩ (by exact ⟨rfl, trivial⟩) (by exact fun w h => h)
  · refine N.at (s' := [(3, .slice j70.1 o69.length j70.2)]) (G' := own 5 1 j70.1 j70.2 (o69.map (Value.int .u8)) :: G) rfl rfl ?_
    refine N.nx ?_
    refine C.rs ?_
    refine J.p rfl rfl rfl rfl (Y.mv rfl) ?_
    refine J.p rfl rfl rfl rfl (Y.asg rfl) ?_
    refine J.nx ?_
    refine C.ret ?_
    obtain rfl := Option.some.inj H
    exact ret_ok (ks := [2]) rfl rfl (fun w h => ⟨j70.1, j70.2, rfl, h⟩)
/-! ### salvor/vint.Digits: function 22 -/
def Digits.l1 (a1 : Int) (a0 : Int) : Nat → ((List Int) × Int) → Option ((List Int))
  | 0, _ => none
  | k + 1, i55 => if i55.2 < ((List.replicate (Int.toNat a1) (0 : Int)).length : Int) then (gd ((0 : Int) ≤ (IntKind.wrap .i64 (7 * i55.2))) (gd ((0 : Int) ≤ (IntKind.wrap .i64 ((IntKind.wrap .i64 (a1 - 1)) - i55.2)) ∧ (IntKind.wrap .i64 ((IntKind.wrap .i64 (a1 - 1)) - i55.2)) < (i55.1.length : Int)) (gd ((0 : Int) ≤ (IntKind.wrap .i64 ((IntKind.wrap .i64 (a1 - 1)) - i55.2)) ∧ (IntKind.wrap .i64 ((IntKind.wrap .i64 (a1 - 1)) - i55.2)) < (i55.1.length : Int)) (Digits.l1 a1 a0 k ((i55.1.set (Int.toNat (IntKind.wrap .i64 ((IntKind.wrap .i64 (a1 - 1)) - i55.2))) (Sx.bits .and .u8 (IntKind.wrap .u8 (Sx.shr .u64 a0 (IntKind.wrap .i64 (7 * i55.2)))) 127)), IntKind.wrap .i64 (i55.2 + 1)))))) else (some i55.1)
def Digits.f (K : Nat) (a0 : Int) (a1 : Int) : Option ((List Int) × Int) := (if a1 < 1 then (some true) else (some (decide (9 < a1)))).bind fun o2 => if o2 = true then (some (([] : List Int), 20)) else (gd ((0 : Int) ≤ (IntKind.wrap .i64 (7 * a1))) (if 0 < (Sx.shr .u64 a0 (IntKind.wrap .i64 (7 * a1))) then (some (([] : List Int), 24)) else (gd ((0 : Int) ≤ a1 ∧ (a1 : Int) ≤ a1 ∧ ((1 : Nat) : Int) * a1 ≤ 281474976710656) ((Digits.l1 a1 a0 K ((List.replicate (Int.toNat a1) (0 : Int)), 0)).bind fun o34 => some (o34, 0)))))
theorem Digits.calls {B : Nat} {w0 : World} {G : List HP} (K : Nat) (a0 : Int) (a1 : Int) (r : (List Int) × Int) (H : Digits.f K a0 a1 = some r) (w : World) (hw : St B w0 (G) w) :
    Calls Try.prog 22 [.int .u64 a0, .int .i64 a1].toArray w (fun e w' => ∃ A0 c0, e = .returned (.tuple #[.slice A0 r.1.length c0, .int .i64 r.2]) ∧ St B w0 (own 5 1 A0 c0 (r.1.map (Value.int .u8)) :: G) w') := by
  unfold Digits.f at H
  refine calls_of (n := 42) (s := [(0, .int .u64 a0), (1, .int .i64 a1)]) Try.func22 rfl rfl rfl rfl ?_ hw
  refine C.rs ?_
  refine J.p rfl rfl rfl rfl (Y.asg rfl) ?_
  refine J.p rfl rfl rfl rfl (Y.asg rfl) ?_
  refine J.nx ?_
  refine C.seq ?_
  refine C.blk ?_
  refine C.rs ?_
  refine J.joinB H (fun (o2 : Bool) (j3 : Unit) => [(0, .int .u64 a0), (1, .int .i64 a1), (8, .bool o2)]) (fun (o2 : Bool) (j3 : Unit) => G) (fun (o2 : Bool) (j3 : Unit) => True) (fun o4 H HK5 => ?_) (fun o2 j3 H _ => ?_)
  · refine J.p rfl rfl rfl rfl (Y.mv rfl) ?_
    refine J.p rfl rfl rfl rfl (Y.bin rfl rfl rfl) ?_
    refine J.p rfl rfl rfl rfl (Y.mv rfl) ?_
    refine split2 H (fun c6 H => ?_) (fun c6 H => ?_)
    · refine J.as (k := 11) rfl (congrArg Value.bool (decide_eq_true c6)) ?_
      refine J.skip rfl rfl ?_
      refine J.skip rfl rfl ?_
      refine J.p rfl rfl rfl rfl (Y.pickT rfl rfl) ?_
      refine J.p rfl rfl rfl rfl (Y.asg rfl) ?_
      refine J.nil ?_
      obtain rfl := Option.some.inj H
      exact N.meet (true, ()) ⟨HK5, trivial⟩ (by exact ⟨rfl, rfl, rfl, trivial⟩) (by exact fun w h => h)
    · refine J.as (k := 11) rfl (congrArg Value.bool (decide_eq_false c6)) ?_
      refine J.p rfl rfl rfl rfl (Y.mv rfl) ?_
      refine J.p rfl rfl rfl rfl (Y.bin rfl rfl rfl) ?_
      refine J.p rfl rfl rfl rfl (Y.pickF rfl rfl) ?_
      refine J.p rfl rfl rfl rfl (Y.asg rfl) ?_
      refine J.nil ?_
      obtain rfl := Option.some.inj H
      exact N.meet (decide (9 < a1), ()) ⟨HK5, trivial⟩ (by exact ⟨rfl, rfl, rfl, trivial⟩) (by exact fun w h => h)
  · refine C.at (s' := [(0, .int .u64 a0), (1, .int .i64 a1), (8, .bool o2)]) (G' := G) rfl rfl ?_
    refine split2 H (fun c7 H => ?_) (fun c7 H => ?_)
    · refine C.condT (congrArg (fun b => some (Value.bool b)) (c7)) ?_
      refine C.rs ?_
      refine J.p rfl rfl rfl rfl (Y.asg rfl) ?_
      refine J.p rfl rfl rfl rfl (Y.asg rfl) ?_
      refine J.nx ?_
      refine C.ret ?_
      obtain rfl := Option.some.inj H
      refine T.ib ?_
      refine T.th ?_
      exact ret_ok (ks := [4, 5]) rfl rfl (fun w h => ⟨none, 0, rfl, (h.nilOwn 5 1)⟩)
    · refine C.condF (congrArg (fun b => some (Value.bool b)) (nt c7)) ?_
      refine C.rs ?_
      refine J.p rfl rfl rfl rfl (Y.mv rfl) ?_
      refine J.p rfl rfl rfl rfl (Y.mv rfl) ?_
      refine J.p rfl rfl rfl rfl (Y.bin rfl rfl rfl) ?_
      obtain ⟨p9, H⟩ := gd_some H
      refine J.p rfl rfl rfl rfl (Y.shr rfl rfl p9) ?_
      refine J.p rfl rfl rfl rfl (Y.bin rfl rfl rfl) ?_
      refine J.p rfl rfl rfl rfl (Y.asg rfl) ?_
      refine J.nx ?_
      refine split2 H (fun c10 H => ?_) (fun c10 H => ?_)
      · refine C.condT (congrArg (fun b => some (Value.bool b)) (decide_eq_true c10)) ?_
        refine C.rs ?_
        refine J.p rfl rfl rfl rfl (Y.asg rfl) ?_
        refine J.p rfl rfl rfl rfl (Y.asg rfl) ?_
        refine J.nx ?_
        refine C.ret ?_
        obtain rfl := Option.some.inj H
        refine T.ib ?_
        refine T.th ?_
        exact ret_ok (ks := [4, 5]) rfl rfl (fun w h => ⟨none, 0, rfl, (h.nilOwn 5 1)⟩)
      · refine C.condF (congrArg (fun b => some (Value.bool b)) (decide_eq_false c10)) ?_
        refine C.skip ?_
        refine N.ib ?_
        refine N.nx ?_
        refine C.rs ?_
        refine J.p rfl rfl rfl rfl (Y.mv rfl) ?_
        obtain ⟨p13, H⟩ := gd_some H
        refine J.mkL (enc := (Value.int .u8)) (z := 0) rfl Try.underlying22 ti5 rfl rfl rfl p13 (by decide) (fun A12 => ?_)
        refine J.p rfl rfl rfl rfl (Y.asg rfl) ?_
        refine J.nx ?_
        refine C.seq ?_
        refine C.rs ?_
        refine J.p rfl rfl rfl rfl (Y.mv rfl) ?_
        refine J.p rfl rfl rfl rfl (Y.lenS Try.underlying22 rfl) ?_
        refine J.p rfl rfl rfl rfl (Y.mv rfl) ?_
        refine J.nx ?_
        refine C.joinN H (fun (o34 : (List Int)) (j35 : (Option Addr) × Nat) => [(6, .slice j35.1 o34.length j35.2)]) (fun (o34 : (List Int)) (j35 : (Option Addr) × Nat) => own 5 1 j35.1 j35.2 (o34.map (Value.int .u8)) :: G) (fun (o34 : (List Int)) (j35 : (Option Addr) × Nat) => True) (fun o32 H HK33 => ?_) (fun o34 j35 H _ => ?_)
        · refine C.blk ?_
          refine C.loop (fun (i : Nat × ((List Int) × Int) × ((Option Addr) × Nat)) => [(0, .int .u64 a0), (1, .int .i64 a1), (6, .slice i.2.2.1 i.2.1.1.length i.2.2.2), (24, .int .i64 ((List.replicate (Int.toNat a1) (0 : Int)).length : Int)), (25, .int .i64 i.2.1.2)]) (fun (i : Nat × ((List Int) × Int) × ((Option Addr) × Nat)) => own 5 1 i.2.2.1 i.2.2.2 (i.2.1.1.map (Value.int .u8)) :: G) (fun (i : Nat × ((List Int) × Int) × ((Option Addr) × Nat)) => Digits.l1 a1 a0 i.1 i.2.1 = some o32 ∧ (True)) (fun i => i.1) (K, ((List.replicate (Int.toNat a1) (0 : Int)), 0), (A12, (Int.toNat a1))) ⟨H, trivial⟩ (by exact ⟨rfl, rfl, rfl, rfl, rfl, trivial⟩) (by exact fun w h => h) ?_
          rintro ⟨k64, i55, j56⟩ ⟨H, _⟩
          replace H : Digits.l1 a1 a0 k64 i55 = some o32 := H
          obtain ⟨k54, rfl⟩ : ∃ m, k64 = m + 1 := by cases k64 with | zero => exact absurd H (by simp [Digits.l1]) | succ m => exact ⟨m, rfl⟩
          rw [Digits.l1] at H
          refine C.at (s' := [(0, .int .u64 a0), (1, .int .i64 a1), (6, .slice j56.1 i55.1.length j56.2), (24, .int .i64 ((List.replicate (Int.toNat a1) (0 : Int)).length : Int)), (25, .int .i64 i55.2)]) (G' := own 5 1 j56.1 j56.2 (i55.1.map (Value.int .u8)) :: G) rfl rfl ?_
          refine C.rs ?_
          refine J.p rfl rfl rfl rfl (Y.bin rfl rfl rfl) ?_
          refine J.nx ?_
          refine C.seq ?_
          refine split2 H (fun c58 H => ?_) (fun c58 H => ?_)
          · refine C.condT (congrArg (fun b => some (Value.bool b)) (decide_eq_true c58)) ?_
            refine C.skip ?_
            refine N.nx ?_
            refine C.seq ?_
            refine C.blk ?_
            refine C.rs ?_
            refine J.p rfl rfl rfl rfl (Y.mv rfl) ?_
            refine J.p rfl rfl rfl rfl (Y.asg rfl) ?_
            refine J.nx ?_
            refine C.reg ?_
            refine J.p rfl rfl rfl rfl (Y.mv rfl) ?_
            refine J.p rfl rfl rfl rfl (Y.mv rfl) ?_
            refine J.p rfl rfl rfl rfl (Y.bin rfl rfl rfl) ?_
            refine J.p rfl rfl rfl rfl (Y.mv rfl) ?_
            refine J.p rfl rfl rfl rfl (Y.bin rfl rfl rfl) ?_
            refine J.p rfl rfl rfl rfl (Y.mv rfl) ?_
            refine J.p rfl rfl rfl rfl (Y.mv rfl) ?_
            refine J.p rfl rfl rfl rfl (Y.bin rfl rfl rfl) ?_
            obtain ⟨p59, H⟩ := gd_some H
            refine J.p rfl rfl rfl rfl (Y.shr rfl rfl p59) ?_
            refine J.p rfl rfl rfl rfl (Y.conv Try.underlying24 Try.underlying5 rfl) ?_
            refine J.p rfl rfl rfl rfl (Y.bin rfl rfl rfl) ?_
            obtain ⟨p62, H⟩ := gd_some H
            refine J.know ((RdG.own 0 rfl).some_ (j := Int.toNat (IntKind.wrap .i64 ((IntKind.wrap .i64 (a1 - 1)) - i55.2))) (by rw [List.length_map]; exact idx_lt p62)) (fun hh => ?_)
            obtain ⟨a60, ha61⟩ := hh
            refine J.p rfl rfl rfl rfl (Y.ixa Try.underlying22 ti5 rfl rfl p62 ha61) ?_
            obtain ⟨p63, H⟩ := gd_some H
            refine J.stoL (enc := (Value.int .u8)) ti5 ha61 rfl rfl rfl p63 ?_
            refine J.as (k := 6) rfl (set_len i55.1 (Int.toNat (IntKind.wrap .i64 ((IntKind.wrap .i64 (a1 - 1)) - i55.2))) (Sx.bits .and .u8 (IntKind.wrap .u8 (Sx.shr .u64 a0 (IntKind.wrap .i64 (7 * i55.2)))) 127)) ?_
            refine J.nil ?_
            refine N.ib ?_
            refine N.nx ?_
            refine C.reg ?_
            refine J.p rfl rfl rfl rfl (Y.bin rfl rfl rfl) ?_
            refine J.p rfl rfl rfl rfl (Y.mv rfl) ?_
            refine J.nil ?_
            exact N.again (k54, ((i55.1.set (Int.toNat (IntKind.wrap .i64 ((IntKind.wrap .i64 (a1 - 1)) - i55.2))) (Sx.bits .and .u8 (IntKind.wrap .u8 (Sx.shr .u64 a0 (IntKind.wrap .i64 (7 * i55.2)))) 127)), IntKind.wrap .i64 (i55.2 + 1)), (j56.1, j56.2)) ⟨H, trivial⟩ (Nat.lt_succ_self _) (by exact ⟨rfl, rfl, rfl, rfl, rfl, trivial⟩) (by exact fun w h => h)
          · refine C.condF (congrArg (fun b => some (Value.bool b)) (decide_eq_false c58)) ?_
            refine C.exit ?_
            refine X.th ?_
            refine X.th ?_
            refine X.hit ?_
            obtain rfl := Option.some.inj H
            exact N.meet (i55.1, (j56.1, j56.2)) ⟨HK33, trivial⟩ (by exact ⟨rfl, trivial⟩) (by exact fun w h => h)
        · refine N.at (s' := [(6, .slice j35.1 o34.length j35.2)]) (G' := own 5 1 j35.1 j35.2 (o34.map (Value.int .u8)) :: G) rfl rfl ?_
          refine N.nx ?_
          refine C.rs ?_
          refine J.p rfl rfl rfl rfl (Y.mv rfl) ?_
          refine J.p rfl rfl rfl rfl (Y.asg rfl) ?_
          refine J.p rfl rfl rfl rfl (Y.asg rfl) ?_
          refine J.nx ?_
          refine C.ret ?_
          obtain rfl := Option.some.inj H
          exact ret_ok (ks := [4, 5]) rfl rfl (fun w h => ⟨j35.1, j35.2, rfl, h⟩)
/-! ### salvor/salvorlaw2.same: function 21 -/
def same.l1 (a0 : List Int) (a1 : List Int) : Nat → (Int) → Option ((Bool) ⊕ (Unit))
  | 0, _ => none
  | k + 1, i55 => if i55 < (a0.length : Int) then (gd ((0 : Int) ≤ i55 ∧ i55 < (a0.length : Int)) (gd ((0 : Int) ≤ i55 ∧ i55 < (a0.length : Int)) (gd ((0 : Int) ≤ i55 ∧ i55 < (a1.length : Int)) (gd ((0 : Int) ≤ i55 ∧ i55 < (a1.length : Int)) (if (rd a0 i55) ≠ (rd a1 i55) then (some (.inl (false))) else (same.l1 a0 a1 k (IntKind.wrap .i64 (i55 + 1)))))))) else (some (.inr ()))
def same.f (K : Nat) (a0 : List Int) (a1 : List Int) : Option (Bool) := if (a0.length : Int) ≠ (a1.length : Int) then (some false) else (thn (same.l1 a0 a1 K 0) fun o28 => some true)
theorem same.calls {B : Nat} {w0 : World} {G : List HP} (K : Nat) (a0 : List Int) (a1 : List Int) (Aa0 : Option Addr) (ca0 : Nat) (Aa1 : Option Addr) (ca1 : Nat) (ha0 : RdG B w0 G Aa0 (a0.map (Value.int .u8))) (ka0 : a0.length ≤ ca0) (ha1 : RdG B w0 G Aa1 (a1.map (Value.int .u8))) (ka1 : a1.length ≤ ca1) (r : Bool) (H : same.f K a0 a1 = some r) (w : World) (hw : St B w0 (G) w) :
    Calls Try.prog 21 [.slice Aa0 a0.length ca0, .slice Aa1 a1.length ca1].toArray w (fun e w' => e = .returned (.bool r) ∧ St B w0 (G) w') := by
  unfold same.f at H
  refine calls_of (n := 26) (s := [(0, .slice Aa0 a0.length ca0), (1, .slice Aa1 a1.length ca1)]) Try.func21 rfl rfl rfl rfl ?_ hw
  refine C.rs ?_
  refine J.p rfl rfl rfl rfl (Y.asg rfl) ?_
  refine J.nx ?_
  refine C.seq ?_
  refine C.rs ?_
  refine J.p rfl rfl rfl rfl (Y.mv rfl) ?_
  refine J.p rfl rfl rfl rfl (Y.lenS Try.underlying22 rfl) ?_
  refine J.p rfl rfl rfl rfl (Y.mv rfl) ?_
  refine J.p rfl rfl rfl rfl (Y.lenS Try.underlying22 rfl) ?_
  refine J.p rfl rfl rfl rfl (Y.bin rfl rfl rfl) ?_
  refine J.nx ?_
  refine split2 H (fun c1 H => ?_) (fun c1 H => ?_)
  · refine C.condT (congrArg (fun b => some (Value.bool b)) (decide_eq_true c1)) ?_
    refine C.rs ?_
    refine J.p rfl rfl rfl rfl (Y.asg rfl) ?_
    refine J.nx ?_
    refine C.ret ?_
    obtain rfl := Option.some.inj H
    refine T.th ?_
    exact ret_ok (ks := [4]) rfl rfl (fun w h => ⟨rfl, h⟩)
  · refine C.condF (congrArg (fun b => some (Value.bool b)) (decide_eq_false c1)) ?_
    refine C.skip ?_
    refine N.nx ?_
    refine C.seq ?_
    refine C.rs ?_
    refine J.p rfl rfl rfl rfl (Y.asg rfl) ?_
    refine J.nx ?_
    refine C.joinNR H (fun (o28 : Unit) (j29 : Unit) => []) (fun (o28 : Unit) (j29 : Unit) => G) (fun (o28 : Unit) (j29 : Unit) => True) (fun o26 H HK27 => ?_) (fun o28 j29 H _ => ?_)
    · refine C.blk ?_
      refine C.loop (fun (i : Nat × (Int) × (Unit)) => [(0, .slice Aa0 a0.length ca0), (1, .slice Aa1 a1.length ca1), (5, .int .i64 i.2.1)]) (fun (i : Nat × (Int) × (Unit)) => G) (fun (i : Nat × (Int) × (Unit)) => same.l1 a0 a1 i.1 i.2.1 = some o26 ∧ (True)) (fun i => i.1) (K, 0, ()) ⟨H, trivial⟩ (by exact ⟨rfl, rfl, rfl, trivial⟩) (by exact fun w h => h) ?_
      rintro ⟨k67, i55, j56⟩ ⟨H, _⟩
      replace H : same.l1 a0 a1 k67 i55 = some o26 := H
      obtain ⟨k54, rfl⟩ : ∃ m, k67 = m + 1 := by cases k67 with | zero => exact absurd H (by simp [same.l1]) | succ m => exact ⟨m, rfl⟩
      rw [same.l1] at H
      refine C.at (s' := [(0, .slice Aa0 a0.length ca0), (1, .slice Aa1 a1.length ca1), (5, .int .i64 i55)]) (G' := G) rfl rfl ?_
      refine C.seq ?_
      refine C.rs ?_
      refine J.p rfl rfl rfl rfl (Y.mv rfl) ?_
      refine J.p rfl rfl rfl rfl (Y.mv rfl) ?_
      refine J.p rfl rfl rfl rfl (Y.lenS Try.underlying22 rfl) ?_
      refine J.p rfl rfl rfl rfl (Y.bin rfl rfl rfl) ?_
      refine J.nx ?_
      refine split2 H (fun c57 H => ?_) (fun c57 H => ?_)
      · refine C.condT (congrArg (fun b => some (Value.bool b)) (decide_eq_true c57)) ?_
        refine C.skip ?_
        refine N.nx ?_
        refine C.seq ?_
        refine C.blk ?_
        refine C.seq ?_
        refine C.drawn (fuel := 9) (ls := [false, false, false, false, false, false, false, false, false]) [] (G) mx rfl rfl ?_
        refine D.p (ls' := [true, false, false, false, false, false, false, false, false]) 0 rfl rfl rfl rfl (by kernel_rfl) rfl (Y.mv rfl) ?_
        refine D.p (ls' := [true, true, false, false, false, false, false, false, false]) 1 rfl rfl rfl rfl (by kernel_rfl) rfl (Y.mv rfl) ?_
        obtain ⟨p60, H⟩ := gd_some H
        refine D.know (ha0.some_ (j := Int.toNat i55) (by rw [List.length_map]; exact idx_lt p60)) (fun hh => ?_)
        obtain ⟨a58, ha59⟩ := hh
        refine D.p (ls' := [true, true, true, false, false, false, false, false, false]) 2 rfl rfl rfl rfl (by kernel_rfl) rfl (Y.ixa Try.underlying22 ti5 rfl rfl p60 ha59) ?_
        obtain ⟨p61, H⟩ := gd_some H
        refine D.r (ls' := [true, true, true, true, false, false, false, false, false]) 3 1 0 rfl rfl rfl rfl (by kernel_rfl) (by kernel_rfl) rfl rfl (Y.ldE Try.underlying5 rfl rfl ha59 p61 ha0) ?_
        refine D.p (ls' := [true, true, true, true, true, false, false, false, false]) 4 rfl rfl rfl rfl (by kernel_rfl) rfl (Y.mv rfl) ?_
        refine D.p (ls' := [true, true, true, true, true, true, false, false, false]) 5 rfl rfl rfl rfl (by kernel_rfl) rfl (Y.mv rfl) ?_
        obtain ⟨p64, H⟩ := gd_some H
        refine D.know (ha1.some_ (j := Int.toNat i55) (by rw [List.length_map]; exact idx_lt p64)) (fun hh => ?_)
        obtain ⟨a62, ha63⟩ := hh
        refine D.p (ls' := [true, true, true, true, true, true, true, false, false]) 6 rfl rfl rfl rfl (by kernel_rfl) rfl (Y.ixa Try.underlying22 ti5 rfl rfl p64 ha63) ?_
        obtain ⟨p65, H⟩ := gd_some H
        refine D.r (ls' := [true, true, true, true, true, true, true, true, false]) 7 1 0 rfl rfl rfl rfl (by kernel_rfl) (by kernel_rfl) rfl rfl (Y.ldE Try.underlying5 rfl rfl ha63 p65 ha1) ?_
        refine D.p (ls' := [true, true, true, true, true, true, true, true, true]) 8 rfl rfl rfl rfl (by kernel_rfl) rfl (Y.bin rfl rfl rfl) ?_
        refine D.nil (by kernel_rfl) ?_
        refine N.nx ?_
        refine split2 H (fun c66 H => ?_) (fun c66 H => ?_)
        · refine C.condT (congrArg (fun b => some (Value.bool b)) (decide_eq_true c66)) ?_
          refine C.rs ?_
          refine J.p rfl rfl rfl rfl (Y.asg rfl) ?_
          refine J.nx ?_
          refine C.ret ?_
          obtain rfl := Option.some.inj H
          obtain rfl := fin_inl HK27
          refine T.ib ?_
          refine T.th ?_
          refine T.th ?_
          refine T.ib ?_
          refine T.th ?_
          refine T.th ?_
          exact ret_ok (ks := [4]) rfl rfl (fun w h => ⟨rfl, h⟩)
        · refine C.condF (congrArg (fun b => some (Value.bool b)) (decide_eq_false c66)) ?_
          refine C.skip ?_
          refine N.ib ?_
          refine N.nx ?_
          refine C.reg ?_
          refine J.p rfl rfl rfl rfl (Y.mv rfl) ?_
          refine J.p rfl rfl rfl rfl (Y.bin rfl rfl rfl) ?_
          refine J.p rfl rfl rfl rfl (Y.asg rfl) ?_
          refine J.nil ?_
          exact N.again (k54, IntKind.wrap .i64 (i55 + 1), ()) ⟨H, trivial⟩ (Nat.lt_succ_self _) (by exact ⟨rfl, rfl, rfl, trivial⟩) (by exact fun w h => h)
      · refine C.condF (congrArg (fun b => some (Value.bool b)) (decide_eq_false c57)) ?_
        refine C.exit ?_
        refine X.th ?_
        refine X.th ?_
        refine X.hit ?_
        obtain rfl := Option.some.inj H
        exact N.meet ((), ()) ⟨fin_inr HK27, trivial⟩ (by exact trivial) (by exact fun w h => h)
    · refine N.at (s' := []) (G' := G) rfl rfl ?_
      refine N.nx ?_
      refine C.rs ?_
      refine J.p rfl rfl rfl rfl (Y.asg rfl) ?_
      refine J.nx ?_
      refine C.ret ?_
      obtain rfl := Option.some.inj H
      exact ret_ok (ks := [4]) rfl rfl (fun w h => ⟨rfl, h⟩)
/-! ### salvor/salvorlaw2.works: function 19 -/
def works.f (K : Nat) : Option (Bool) := (Encode.f K [0, 127, 128, 300]).bind fun t3 => (Decode.f K [172, 2, 255]).bind fun t10 => (Digits.f K 300 3).bind fun t12 => (same.f K t3 [0, 127, 128, 1, 172, 2]).bind fun t20 => if t20 = true then (if t10.1 = 300 then (if t10.2.1 = 2 then (if t10.2.2 = 0 then ((same.f K t12.1 [0, 2, 44]).bind fun t29 => if t29 = true then (some (decide (t12.2 = 0))) else (some false)) else (some false)) else (some false)) else (some false)) else (some false)
theorem works.calls {B : Nat} {w0 : World} {G : List HP} (K : Nat) (r : Bool) (H : works.f K = some r) (w : World) (hw : St B w0 (G) w) :
    Calls Try.prog 19 [].toArray w (fun e w' => e = .returned (.bool r) ∧ St B w0 (G) w') := by
  unfold works.f at H
  refine calls_of (n := 43) (s := []) Try.func19 rfl rfl rfl rfl ?_ hw
  refine C.rs ?_
  refine J.p rfl rfl rfl rfl (Y.asg rfl) ?_
  refine J.nx ?_
  refine C.rs ?_
  refine J.bsL (enc := (Value.int .u64)) (xs := [0, 127, 128, 300]) rfl Try.underlying52 ti24 rfl rfl rfl rfl rfl (fun A1 => ?_)
  obtain ⟨t3, hC4, H⟩ := bind_some H
  refine J.call (us := []) (cap := []) rfl rfl rfl go20 (fun w hw => by have hcc := Encode.calls K [0, 127, 128, 300] A1 4 (RdG.own 0 rfl) (show [0, 127, 128, 300].length ≤ 4 from Nat.le_refl _) t3 hC4 w hw; exact hcc) (fun e w1 h1 => ?_)
  obtain ⟨A5, c6, rfl, hw36⟩ := h1
  refine ⟨_, _, rfl, hw36, ?_⟩
  refine J.p rfl rfl rfl rfl (Y.asg rfl) ?_
  refine J.nx ?_
  refine C.rs ?_
  refine J.bsL (enc := (Value.int .u8)) (xs := [172, 2, 255]) rfl Try.underlying22 ti5 rfl rfl rfl rfl rfl (fun A8 => ?_)
  obtain ⟨t10, hC11, H⟩ := bind_some H
  refine J.call (us := []) (cap := []) rfl rfl rfl go15 (fun w hw => by have hcc := Decode.calls K [172, 2, 255] A8 3 (RdG.own 0 rfl) (show [172, 2, 255].length ≤ 3 from Nat.le_refl _) t10 hC11 w hw; exact hcc) (fun e w1 h1 => ?_)
  obtain ⟨rfl, hw35⟩ := h1
  refine ⟨_, _, rfl, hw35, ?_⟩
  refine J.p rfl rfl rfl rfl (Y.mv rfl) ?_
  refine J.p rfl rfl rfl rfl (Y.ext rfl rfl) ?_
  refine J.p rfl rfl rfl rfl (Y.ext rfl rfl) ?_
  refine J.p rfl rfl rfl rfl (Y.ext rfl rfl) ?_
  refine J.p rfl rfl rfl rfl (Y.asg rfl) ?_
  refine J.p rfl rfl rfl rfl (Y.asg rfl) ?_
  refine J.p rfl rfl rfl rfl (Y.asg rfl) ?_
  refine J.nx ?_
  refine C.rs ?_
  obtain ⟨t12, hC13, H⟩ := bind_some H
  refine J.call (us := []) (cap := []) rfl rfl rfl go22 (fun w hw => by have hcc := Digits.calls K 300 3 t12 hC13 w hw; exact hcc) (fun e w1 h1 => ?_)
  obtain ⟨A14, c15, rfl, hw34⟩ := h1
  refine ⟨_, _, rfl, hw34, ?_⟩
  refine J.p rfl rfl rfl rfl (Y.mv rfl) ?_
  refine J.p rfl rfl rfl rfl (Y.ext rfl rfl) ?_
  refine J.p rfl rfl rfl rfl (Y.ext rfl rfl) ?_
  refine J.p rfl rfl rfl rfl (Y.asg rfl) ?_
  refine J.p rfl rfl rfl rfl (Y.asg rfl) ?_
  refine J.nx ?_
  refine C.rs ?_
  refine J.p rfl rfl rfl rfl (Y.mv rfl) ?_
  refine J.bsL (enc := (Value.int .u8)) (xs := [0, 127, 128, 1, 172, 2]) rfl Try.underlying22 ti5 rfl rfl rfl rfl rfl (fun A17 => ?_)
  refine J.know (own_leL 3 rfl) (fun hc19 => ?_)
  obtain ⟨t20, hC21, H⟩ := bind_some H
  refine J.call (us := []) (cap := []) rfl rfl rfl go21 (fun w hw => by have hcc := same.calls K t3 [0, 127, 128, 1, 172, 2] A5 c6 A17 6 (RdG.own 3 rfl) hc19 (RdG.own 0 rfl) (show [0, 127, 128, 1, 172, 2].length ≤ 6 from Nat.le_refl _) t20 hC21 w hw; exact hcc) (fun e w1 h1 => ?_)
  obtain ⟨rfl, hw33⟩ := h1
  refine ⟨_, _, rfl, hw33, ?_⟩
  refine J.p rfl rfl rfl rfl (Y.mv rfl) ?_
  refine split2 H (fun c22 H => ?_) (fun c22 H => ?_)
  · refine J.as (k := 22) rfl (congrArg Value.bool (c22)) ?_
    refine J.p rfl rfl rfl rfl (Y.mv rfl) ?_
    refine J.p rfl rfl rfl rfl (Y.bin rfl rfl rfl) ?_
    refine J.p rfl rfl rfl rfl (Y.pickT rfl rfl) ?_
    refine J.p rfl rfl rfl rfl (Y.mv rfl) ?_
    refine split2 H (fun c23 H => ?_) (fun c23 H => ?_)
    · refine J.as (k := 26) rfl (congrArg Value.bool (decide_eq_true c23)) ?_
      refine J.p rfl rfl rfl rfl (Y.mv rfl) ?_
      refine J.p rfl rfl rfl rfl (Y.bin rfl rfl rfl) ?_
      refine J.p rfl rfl rfl rfl (Y.pickT rfl rfl) ?_
      refine J.p rfl rfl rfl rfl (Y.mv rfl) ?_
      refine split2 H (fun c24 H => ?_) (fun c24 H => ?_)
      · refine J.as (k := 30) rfl (congrArg Value.bool (decide_eq_true c24)) ?_
        refine J.p rfl rfl rfl rfl (Y.mv rfl) ?_
        refine J.p rfl rfl rfl rfl (Y.bin rfl rfl rfl) ?_
        refine J.p rfl rfl rfl rfl (Y.pickT rfl rfl) ?_
        refine J.p rfl rfl rfl rfl (Y.mv rfl) ?_
        refine split2 H (fun c25 H => ?_) (fun c25 H => ?_)
        · refine J.as (k := 34) rfl (congrArg Value.bool (decide_eq_true c25)) ?_
          refine J.p rfl rfl rfl rfl (Y.mv rfl) ?_
          refine J.want rfl ?_
          refine J.bsL (enc := (Value.int .u8)) (xs := [0, 2, 44]) rfl Try.underlying22 ti5 rfl rfl rfl rfl rfl (fun A26 => ?_)
          refine J.want rfl ?_
          refine J.know (own_leL 2 rfl) (fun hc28 => ?_)
          obtain ⟨t29, hC30, H⟩ := bind_some H
          refine J.call (us := []) (cap := []) rfl rfl rfl go21 (fun w hw => by have hcc := same.calls K t12.1 [0, 2, 44] A14 c15 A26 3 (RdG.own 2 rfl) hc28 (RdG.own 0 rfl) (show [0, 2, 44].length ≤ 3 from Nat.le_refl _) t29 hC30 w hw; exact hcc) (fun e w1 h1 => ?_)
          obtain ⟨rfl, hw32⟩ := h1
          refine ⟨_, _, rfl, hw32, ?_⟩
          refine J.p rfl rfl rfl rfl (Y.pickT rfl rfl) ?_
          refine J.p rfl rfl rfl rfl (Y.mv rfl) ?_
          refine split2 H (fun c31 H => ?_) (fun c31 H => ?_)
          · refine J.as (k := 39) rfl (congrArg Value.bool (c31)) ?_
            refine J.p rfl rfl rfl rfl (Y.mv rfl) ?_
            refine J.p rfl rfl rfl rfl (Y.bin rfl rfl rfl) ?_
            refine J.p rfl rfl rfl rfl (Y.pickT rfl rfl) ?_
            refine J.p rfl rfl rfl rfl (Y.asg rfl) ?_
            refine J.nx ?_
            refine C.ret ?_
            obtain rfl := Option.some.inj H
            exact ret_ok (ks := [0]) rfl rfl (fun w h => ⟨rfl, (St.pick [] [_, _, _, _, _, _] h rfl)⟩)
          · refine J.as (k := 39) rfl (congrArg Value.bool (nt c31)) ?_
            refine J.skip rfl rfl ?_
            refine J.skip rfl rfl ?_
            refine J.p rfl rfl rfl rfl (Y.pickF rfl rfl) ?_
            refine J.p rfl rfl rfl rfl (Y.asg rfl) ?_
            refine J.nx ?_
            refine C.ret ?_
            obtain rfl := Option.some.inj H
            exact ret_ok (ks := [0]) rfl rfl (fun w h => ⟨rfl, (St.pick [] [_, _, _, _, _, _] h rfl)⟩)
        · refine J.as (k := 34) rfl (congrArg Value.bool (decide_eq_false c25)) ?_
          refine J.skip rfl rfl ?_
          refine J.skip rfl rfl ?_
          refine J.skip rfl rfl ?_
          refine J.p rfl rfl rfl rfl (Y.pickF rfl rfl) ?_
          refine J.p rfl rfl rfl rfl (Y.mv rfl) ?_
          refine J.skip rfl rfl ?_
          refine J.skip rfl rfl ?_
          refine J.p rfl rfl rfl rfl (Y.pickF rfl rfl) ?_
          refine J.p rfl rfl rfl rfl (Y.asg rfl) ?_
          refine J.nx ?_
          refine C.ret ?_
          obtain rfl := Option.some.inj H
          exact ret_ok (ks := [0]) rfl rfl (fun w h => ⟨rfl, (St.pick [] [_, _, _, _, _] h rfl)⟩)
      · refine J.as (k := 30) rfl (congrArg Value.bool (decide_eq_false c24)) ?_
        refine J.skip rfl rfl ?_
        refine J.skip rfl rfl ?_
        refine J.p rfl rfl rfl rfl (Y.pickF rfl rfl) ?_
        refine J.p rfl rfl rfl rfl (Y.mv rfl) ?_
        refine J.skip rfl rfl ?_
        refine J.skip rfl rfl ?_
        refine J.skip rfl rfl ?_
        refine J.p rfl rfl rfl rfl (Y.pickF rfl rfl) ?_
        refine J.p rfl rfl rfl rfl (Y.mv rfl) ?_
        refine J.skip rfl rfl ?_
        refine J.skip rfl rfl ?_
        refine J.p rfl rfl rfl rfl (Y.pickF rfl rfl) ?_
        refine J.p rfl rfl rfl rfl (Y.asg rfl) ?_
        refine J.nx ?_
        refine C.ret ?_
        obtain rfl := Option.some.inj H
        exact ret_ok (ks := [0]) rfl rfl (fun w h => ⟨rfl, (St.pick [] [_, _, _, _, _] h rfl)⟩)
    · refine J.as (k := 26) rfl (congrArg Value.bool (decide_eq_false c23)) ?_
      refine J.skip rfl rfl ?_
      refine J.skip rfl rfl ?_
      refine J.p rfl rfl rfl rfl (Y.pickF rfl rfl) ?_
      refine J.p rfl rfl rfl rfl (Y.mv rfl) ?_
      refine J.skip rfl rfl ?_
      refine J.skip rfl rfl ?_
      refine J.p rfl rfl rfl rfl (Y.pickF rfl rfl) ?_
      refine J.p rfl rfl rfl rfl (Y.mv rfl) ?_
      refine J.skip rfl rfl ?_
      refine J.skip rfl rfl ?_
      refine J.skip rfl rfl ?_
      refine J.p rfl rfl rfl rfl (Y.pickF rfl rfl) ?_
      refine J.p rfl rfl rfl rfl (Y.mv rfl) ?_
      refine J.skip rfl rfl ?_
      refine J.skip rfl rfl ?_
      refine J.p rfl rfl rfl rfl (Y.pickF rfl rfl) ?_
      refine J.p rfl rfl rfl rfl (Y.asg rfl) ?_
      refine J.nx ?_
      refine C.ret ?_
      obtain rfl := Option.some.inj H
      exact ret_ok (ks := [0]) rfl rfl (fun w h => ⟨rfl, (St.pick [] [_, _, _, _, _] h rfl)⟩)
  · refine J.as (k := 22) rfl (congrArg Value.bool (nt c22)) ?_
    refine J.skip rfl rfl ?_
    refine J.skip rfl rfl ?_
    refine J.p rfl rfl rfl rfl (Y.pickF rfl rfl) ?_
    refine J.p rfl rfl rfl rfl (Y.mv rfl) ?_
    refine J.skip rfl rfl ?_
    refine J.skip rfl rfl ?_
    refine J.p rfl rfl rfl rfl (Y.pickF rfl rfl) ?_
    refine J.p rfl rfl rfl rfl (Y.mv rfl) ?_
    refine J.skip rfl rfl ?_
    refine J.skip rfl rfl ?_
    refine J.p rfl rfl rfl rfl (Y.pickF rfl rfl) ?_
    refine J.p rfl rfl rfl rfl (Y.mv rfl) ?_
    refine J.skip rfl rfl ?_
    refine J.skip rfl rfl ?_
    refine J.skip rfl rfl ?_
    refine J.p rfl rfl rfl rfl (Y.pickF rfl rfl) ?_
    refine J.p rfl rfl rfl rfl (Y.mv rfl) ?_
    refine J.skip rfl rfl ?_
    refine J.skip rfl rfl ?_
    refine J.p rfl rfl rfl rfl (Y.pickF rfl rfl) ?_
    refine J.p rfl rfl rfl rfl (Y.asg rfl) ?_
    refine J.nx ?_
    refine C.ret ?_
    obtain rfl := Option.some.inj H
    exact ret_ok (ks := [0]) rfl rfl (fun w h => ⟨rfl, (St.pick [] [_, _, _, _, _] h rfl)⟩)
/-! ### salvor/vint.Number: function 28 -/
def Number.l1 (a0 : List Int) (a1 : Int) : Nat → (Int × (List Int) × Int) → Option ((Int × Int) ⊕ (Int))
  | 0, _ => none
  | k + 1, i40 => if i40.2.2 < (((a0.take (Int.toNat a1)).drop 0).length : Int) then (gd ((0 : Int) ≤ i40.2.2 ∧ i40.2.2 < (i40.2.1.length : Int)) (if 127 < (rd i40.2.1 i40.2.2) then (some (.inl ((0, 24)))) else (Number.l1 a0 a1 k (Sx.bits .or .u64 (Sx.shl .u64 i40.1 7) (IntKind.wrap .u64 (rd i40.2.1 i40.2.2)), i40.2.1, IntKind.wrap .i64 (i40.2.2 + 1))))) else (some (.inr i40.1))
def Number.f (K : Nat) (a0 : List Int) (a1 : Int) : Option (Int × Int) := (if a1 < 1 then (some true) else (some (decide (9 < a1)))).bind fun o2 => if o2 = true then (some (0, 20)) else (if (a0.length : Int) < a1 then (some (0, 21)) else (gd ((0 : Int) ≤ a1 ∧ (0 ≤ (Int.toNat a1) ∧ (Int.toNat a1) ≤ a0.length)) (thn (Number.l1 a0 a1 K (0, ((a0.take (Int.toNat a1)).drop 0), 0)) fun o25 => some (o25, 0))))
theorem Number.calls {B : Nat} {w0 : World} {G : List HP} (K : Nat) (a0 : List Int) (a1 : Int) (Aa0 : Option Addr) (ca0 : Nat) (ha0 : RdG B w0 G Aa0 (a0.map (Value.int .u8))) (ka0 : a0.length ≤ ca0) (r : Int × Int) (H : Number.f K a0 a1 = some r) (w : World) (hw : St B w0 (G) w) :
    Calls Try.prog 28 [.slice Aa0 a0.length ca0, .int .i64 a1].toArray w (fun e w' => e = .returned (.tuple #[.int .u64 r.1, .int .i64 r.2]) ∧ St B w0 (G) w') := by
  unfold Number.f at H
  refine calls_of (n := 38) (s := [(0, .slice Aa0 a0.length ca0), (1, .int .i64 a1)]) Try.func28 rfl rfl rfl rfl ?_ hw
  refine C.rs ?_
  refine J.p rfl rfl rfl rfl (Y.asg rfl) ?_
  refine J.p rfl rfl rfl rfl (Y.asg rfl) ?_
  refine J.nx ?_
  refine C.seq ?_
  refine C.blk ?_
  refine C.rs ?_
  refine J.joinB H (fun (o2 : Bool) (j3 : Unit) => [(0, .slice Aa0 a0.length ca0), (1, .int .i64 a1), (9, .bool o2)]) (fun (o2 : Bool) (j3 : Unit) => G) (fun (o2 : Bool) (j3 : Unit) => True) (fun o4 H HK5 => ?_) (fun o2 j3 H _ => ?_)
  · refine J.p rfl rfl rfl rfl (Y.mv rfl) ?_
    refine J.p rfl rfl rfl rfl (Y.bin rfl rfl rfl) ?_
    refine J.p rfl rfl rfl rfl (Y.mv rfl) ?_
    refine split2 H (fun c6 H => ?_) (fun c6 H => ?_)
    · refine J.as (k := 12) rfl (congrArg Value.bool (decide_eq_true c6)) ?_
      refine J.skip rfl rfl ?_
      refine J.skip rfl rfl ?_
      refine J.p rfl rfl rfl rfl (Y.pickT rfl rfl) ?_
      refine J.p rfl rfl rfl rfl (Y.asg rfl) ?_
      refine J.nil ?_
      obtain rfl := Option.some.inj H
      exact N.meet (true, ()) ⟨HK5, trivial⟩ (by exact ⟨rfl, rfl, rfl, trivial⟩) (by exact fun w h => h)
    · refine J.as (k := 12) rfl (congrArg Value.bool (decide_eq_false c6)) ?_
      refine J.p rfl rfl rfl rfl (Y.mv rfl) ?_
      refine J.p rfl rfl rfl rfl (Y.bin rfl rfl rfl) ?_
      refine J.p rfl rfl rfl rfl (Y.pickF rfl rfl) ?_
      refine J.p rfl rfl rfl rfl (Y.asg rfl) ?_
      refine J.nil ?_
      obtain rfl := Option.some.inj H
      exact N.meet (decide (9 < a1), ()) ⟨HK5, trivial⟩ (by exact ⟨rfl, rfl, rfl, trivial⟩) (by exact fun w h => h)
  · refine C.at (s' := [(0, .slice Aa0 a0.length ca0), (1, .int .i64 a1), (9, .bool o2)]) (G' := G) rfl rfl ?_
    refine split2 H (fun c7 H => ?_) (fun c7 H => ?_)
    · refine C.condT (congrArg (fun b => some (Value.bool b)) (c7)) ?_
      refine C.rs ?_
      refine J.p rfl rfl rfl rfl (Y.asg rfl) ?_
      refine J.p rfl rfl rfl rfl (Y.asg rfl) ?_
      refine J.nx ?_
      refine C.ret ?_
      obtain rfl := Option.some.inj H
      refine T.ib ?_
      refine T.th ?_
      exact ret_ok (ks := [4, 5]) rfl rfl (fun w h => ⟨rfl, h⟩)
    · refine C.condF (congrArg (fun b => some (Value.bool b)) (nt c7)) ?_
      refine C.rs ?_
      refine J.p rfl rfl rfl rfl (Y.mv rfl) ?_
      refine J.p rfl rfl rfl rfl (Y.lenS Try.underlying22 rfl) ?_
      refine J.p rfl rfl rfl rfl (Y.mv rfl) ?_
      refine J.p rfl rfl rfl rfl (Y.bin rfl rfl rfl) ?_
      refine J.p rfl rfl rfl rfl (Y.asg rfl) ?_
      refine J.nx ?_
      refine split2 H (fun c8 H => ?_) (fun c8 H => ?_)
      · refine C.condT (congrArg (fun b => some (Value.bool b)) (decide_eq_true c8)) ?_
        refine C.rs ?_
        refine J.p rfl rfl rfl rfl (Y.asg rfl) ?_
        refine J.p rfl rfl rfl rfl (Y.asg rfl) ?_
        refine J.nx ?_
        refine C.ret ?_
        obtain rfl := Option.some.inj H
        refine T.ib ?_
        refine T.th ?_
        exact ret_ok (ks := [4, 5]) rfl rfl (fun w h => ⟨rfl, h⟩)
      · refine C.condF (congrArg (fun b => some (Value.bool b)) (decide_eq_false c8)) ?_
        refine C.skip ?_
        refine N.ib ?_
        refine N.nx ?_
        refine C.rs ?_
        refine J.p rfl rfl rfl rfl (Y.asg rfl) ?_
        refine J.nx ?_
        refine C.seq ?_
        refine C.rs ?_
        refine J.p rfl rfl rfl rfl (Y.mv rfl) ?_
        refine J.p rfl rfl rfl rfl (Y.mv rfl) ?_
        obtain ⟨p9, H⟩ := gd_some H
        refine J.p rfl rfl rfl rfl (Y.slcL Try.underlying22 ti5 rfl bnd.no (bnd.yes rfl p9.1) p9.2 ka0) ?_
        refine J.p rfl rfl rfl rfl (Y.lenS Try.underlying22 rfl) ?_
        refine J.p rfl rfl rfl rfl (Y.mv rfl) ?_
        refine J.nx ?_
        refine C.joinNR H (fun (o25 : Int) (j26 : Unit) => [(6, .int .u64 o25)]) (fun (o25 : Int) (j26 : Unit) => G) (fun (o25 : Int) (j26 : Unit) => True) (fun o23 H HK24 => ?_) (fun o25 j26 H _ => ?_)
        · refine C.blk ?_
          refine C.loop (fun (i : Nat × (Int × (List Int) × Int) × ((Option Addr) × Nat)) => [(6, .int .u64 i.2.1.1), (23, .slice i.2.2.1 i.2.1.2.1.length i.2.2.2), (24, .int .i64 (((a0.take (Int.toNat a1)).drop 0).length : Int)), (25, .int .i64 i.2.1.2.2)]) (fun (i : Nat × (Int × (List Int) × Int) × ((Option Addr) × Nat)) => G) (fun (i : Nat × (Int × (List Int) × Int) × ((Option Addr) × Nat)) => Number.l1 a0 a1 i.1 i.2.1 = some o23 ∧ ((RdG B w0 G i.2.2.1 (i.2.1.2.1.map (Value.int .u8)) ∧ i.2.1.2.1.length ≤ i.2.2.2))) (fun i => i.1) (K, (0, ((a0.take (Int.toNat a1)).drop 0), 0), (subA 1 Aa0 ca0 0, ca0 - 0)) ⟨H, ⟨(RdG.subL (l := 0) (h := (Int.toNat a1)) ha0 ka0), (hc_sub ka0)⟩⟩ (by exact ⟨rfl, rfl, rfl, rfl, trivial⟩) (by exact fun w h => h) ?_
          rintro ⟨k46, i40, j41⟩ ⟨H, hx42⟩
          replace H : Number.l1 a0 a1 k46 i40 = some o23 := H
          obtain ⟨k39, rfl⟩ : ∃ m, k46 = m + 1 := by cases k46 with | zero => exact absurd H (by simp [Number.l1]) | succ m => exact ⟨m, rfl⟩
          rw [Number.l1] at H
          refine C.at (s' := [(6, .int .u64 i40.1), (23, .slice j41.1 i40.2.1.length j41.2), (24, .int .i64 (((a0.take (Int.toNat a1)).drop 0).length : Int)), (25, .int .i64 i40.2.2)]) (G' := G) rfl rfl ?_
          refine C.rs ?_
          refine J.p rfl rfl rfl rfl (Y.bin rfl rfl rfl) ?_
          refine J.nx ?_
          refine C.seq ?_
          refine split2 H (fun c43 H => ?_) (fun c43 H => ?_)
          · refine C.condT (congrArg (fun b => some (Value.bool b)) (decide_eq_true c43)) ?_
            refine C.skip ?_
            refine N.nx ?_
            refine C.seq ?_
            refine C.blk ?_
            refine C.rs ?_
            obtain ⟨p44, H⟩ := gd_some H
            refine J.el rfl rfl rfl Try.underlying22 ti5 Try.underlying5 rfl rfl rfl p44 hx42.1 ?_
            refine J.p rfl rfl rfl rfl (Y.asg rfl) ?_
            refine J.nx ?_
            refine C.seq ?_
            refine C.rs ?_
            refine J.p rfl rfl rfl rfl (Y.mv rfl) ?_
            refine J.p rfl rfl rfl rfl (Y.bin rfl rfl rfl) ?_
            refine J.nx ?_
            refine split2 H (fun c45 H => ?_) (fun c45 H => ?_)
            · refine C.condT (congrArg (fun b => some (Value.bool b)) (decide_eq_true c45)) ?_
              refine C.rs ?_
              refine J.p rfl rfl rfl rfl (Y.asg rfl) ?_
              refine J.p rfl rfl rfl rfl (Y.asg rfl) ?_
              refine J.nx ?_
              refine C.ret ?_
              obtain rfl := Option.some.inj H
              obtain rfl := fin_inl HK24
              refine T.th ?_
              refine T.ib ?_
              refine T.th ?_
              refine T.th ?_
              refine T.ib ?_
              refine T.th ?_
              refine T.th ?_
              exact ret_ok (ks := [4, 5]) rfl rfl (fun w h => ⟨rfl, h⟩)
            · refine C.condF (congrArg (fun b => some (Value.bool b)) (decide_eq_false c45)) ?_
              refine C.skip ?_
              refine N.nx ?_
              refine C.reg ?_
              refine J.p rfl rfl rfl rfl (Y.mv rfl) ?_
              refine J.p rfl rfl rfl rfl (Y.shl rfl rfl (by decide)) ?_
              refine J.p rfl rfl rfl rfl (Y.mv rfl) ?_
              refine J.p rfl rfl rfl rfl (Y.conv Try.underlying5 Try.underlying24 rfl) ?_
              refine J.p rfl rfl rfl rfl (Y.bin rfl rfl rfl) ?_
              refine J.p rfl rfl rfl rfl (Y.asg rfl) ?_
              refine J.nil ?_
              refine N.ib ?_
              refine N.nx ?_
              refine C.reg ?_
              refine J.p rfl rfl rfl rfl (Y.bin rfl rfl rfl) ?_
              refine J.p rfl rfl rfl rfl (Y.mv rfl) ?_
              refine J.nil ?_
              exact N.again (k39, (Sx.bits .or .u64 (Sx.shl .u64 i40.1 7) (IntKind.wrap .u64 (rd i40.2.1 i40.2.2)), i40.2.1, IntKind.wrap .i64 (i40.2.2 + 1)), (j41.1, j41.2)) ⟨H, ⟨hx42.1, hx42.2⟩⟩ (Nat.lt_succ_self _) (by exact ⟨rfl, rfl, rfl, rfl, trivial⟩) (by exact fun w h => h)
          · refine C.condF (congrArg (fun b => some (Value.bool b)) (decide_eq_false c43)) ?_
            refine C.exit ?_
            refine X.th ?_
            refine X.th ?_
            refine X.hit ?_
            obtain rfl := Option.some.inj H
            exact N.meet (i40.1, ()) ⟨fin_inr HK24, trivial⟩ (by exact ⟨rfl, trivial⟩) (by exact fun w h => h)
        · refine N.at (s' := [(6, .int .u64 o25)]) (G' := G) rfl rfl ?_
          refine N.nx ?_
          refine C.rs ?_
          refine J.p rfl rfl rfl rfl (Y.mv rfl) ?_
          refine J.p rfl rfl rfl rfl (Y.asg rfl) ?_
          refine J.p rfl rfl rfl rfl (Y.asg rfl) ?_
          refine J.nx ?_
          refine C.ret ?_
          obtain rfl := Option.some.inj H
          exact ret_ok (ks := [4, 5]) rfl rfl (fun w h => ⟨rfl, h⟩)
/-! ### salvor/salvorlaw2.less: function 23 -/
def less.l1 (a0 : List Int) (a1 : List Int) : Nat → (Int) → Option ((Bool) ⊕ (Unit))
  | 0, _ => none
  | k + 1, i98 => (if i98 < (a0.length : Int) then (some (decide (i98 < (a1.length : Int)))) else (some false)).bind fun o101 => if o101 = true then (gd ((0 : Int) ≤ i98 ∧ i98 < (a0.length : Int)) (gd ((0 : Int) ≤ i98 ∧ i98 < (a0.length : Int)) (gd ((0 : Int) ≤ i98 ∧ i98 < (a1.length : Int)) (gd ((0 : Int) ≤ i98 ∧ i98 < (a1.length : Int)) (if (rd a0 i98) ≠ (rd a1 i98) then (gd ((0 : Int) ≤ i98 ∧ i98 < (a0.length : Int)) (gd ((0 : Int) ≤ i98 ∧ i98 < (a0.length : Int)) (gd ((0 : Int) ≤ i98 ∧ i98 < (a1.length : Int)) (gd ((0 : Int) ≤ i98 ∧ i98 < (a1.length : Int)) (some (.inl (decide ((rd a0 i98) < (rd a1 i98))))))))) else (less.l1 a0 a1 k (IntKind.wrap .i64 (i98 + 1)))))))) else (some (.inr ()))
def less.f (K : Nat) (a0 : List Int) (a1 : List Int) : Option (Bool) := thn (less.l1 a0 a1 K 0) fun o49 => some (decide ((a0.length : Int) < (a1.length : Int)))
theorem less.calls {B : Nat} {w0 : World} {G : List HP} (K : Nat) (a0 : List Int) (a1 : List Int) (Aa0 : Option Addr) (ca0 : Nat) (Aa1 : Option Addr) (ca1 : Nat) (ha0 : RdG B w0 G Aa0 (a0.map (Value.int .u8))) (ka0 : a0.length ≤ ca0) (ha1 : RdG B w0 G Aa1 (a1.map (Value.int .u8))) (ka1 : a1.length ≤ ca1) (r : Bool) (H : less.f K a0 a1 = some r) (w : World) (hw : St B w0 (G) w) :
    Calls Try.prog 23 [.slice Aa0 a0.length ca0, .slice Aa1 a1.length ca1].toArray w (fun e w' => e = .returned (.bool r) ∧ St B w0 (G) w') := by
  unfold less.f at H
  refine calls_of (n := 41) (s := [(0, .slice Aa0 a0.length ca0), (1, .slice Aa1 a1.length ca1)]) Try.func23 rfl rfl rfl rfl ?_ hw
  refine C.rs ?_
  refine J.p rfl rfl rfl rfl (Y.asg rfl) ?_
  refine J.nx ?_
  refine C.seq ?_
  refine C.rs ?_
  refine J.p rfl rfl rfl rfl (Y.asg rfl) ?_
  refine J.nx ?_
  refine C.joinNR H (fun (o49 : Unit) (j50 : Unit) => [(0, .slice Aa0 a0.length ca0), (1, .slice Aa1 a1.length ca1)]) (fun (o49 : Unit) (j50 : Unit) => G) (fun (o49 : Unit) (j50 : Unit) => True) (fun o47 H HK48 => ?_) (fun o49 j50 H _ => ?_)
  · refine C.blk ?_
    refine C.loop (fun (i : Nat × (Int) × (Unit)) => [(0, .slice Aa0 a0.length ca0), (1, .slice Aa1 a1.length ca1), (5, .int .i64 i.2.1)]) (fun (i : Nat × (Int) × (Unit)) => G) (fun (i : Nat × (Int) × (Unit)) => less.l1 a0 a1 i.1 i.2.1 = some o47 ∧ (True)) (fun i => i.1) (K, 0, ()) ⟨H, trivial⟩ (by exact ⟨rfl, rfl, rfl, trivial⟩) (by exact fun w h => h) ?_
    rintro ⟨k124, i98, j99⟩ ⟨H, _⟩
    replace H : less.l1 a0 a1 k124 i98 = some o47 := H
    obtain ⟨k97, rfl⟩ : ∃ m, k124 = m + 1 := by cases k124 with | zero => exact absurd H (by simp [less.l1]) | succ m => exact ⟨m, rfl⟩
    rw [less.l1] at H
    refine C.at (s' := [(0, .slice Aa0 a0.length ca0), (1, .slice Aa1 a1.length ca1), (5, .int .i64 i98)]) (G' := G) rfl rfl ?_
    refine C.seq ?_
    refine C.rs ?_
    refine J.joinB H (fun (o101 : Bool) (j102 : Unit) => [(0, .slice Aa0 a0.length ca0), (1, .slice Aa1 a1.length ca1), (5, .int .i64 i98), (15, .bool o101)]) (fun (o101 : Bool) (j102 : Unit) => G) (fun (o101 : Bool) (j102 : Unit) => True) (fun o103 H HK104 => ?_) (fun o101 j102 H _ => ?_)
    · refine J.p rfl rfl rfl rfl (Y.mv rfl) ?_
      refine J.p rfl rfl rfl rfl (Y.mv rfl) ?_
      refine J.p rfl rfl rfl rfl (Y.lenS Try.underlying22 rfl) ?_
      refine J.p rfl rfl rfl rfl (Y.bin rfl rfl rfl) ?_
      refine J.p rfl rfl rfl rfl (Y.mv rfl) ?_
      refine split2 H (fun c105 H => ?_) (fun c105 H => ?_)
      · refine J.as (k := 10) rfl (congrArg Value.bool (decide_eq_true c105)) ?_
        refine J.p rfl rfl rfl rfl (Y.mv rfl) ?_
        refine J.p rfl rfl rfl rfl (Y.mv rfl) ?_
        refine J.p rfl rfl rfl rfl (Y.lenS Try.underlying22 rfl) ?_
        refine J.p rfl rfl rfl rfl (Y.bin rfl rfl rfl) ?_
        refine J.p rfl rfl rfl rfl (Y.pickT rfl rfl) ?_
        refine J.nil ?_
        obtain rfl := Option.some.inj H
        exact N.meet (decide (i98 < (a1.length : Int)), ()) ⟨HK104, trivial⟩ (by exact ⟨rfl, rfl, rfl, rfl, trivial⟩) (by exact fun w h => h)
      · refine J.as (k := 10) rfl (congrArg Value.bool (decide_eq_false c105)) ?_
        refine J.skip rfl rfl ?_
        refine J.skip rfl rfl ?_
        refine J.skip rfl rfl ?_
        refine J.skip rfl rfl ?_
        refine J.p rfl rfl rfl rfl (Y.pickF rfl rfl) ?_
        refine J.nil ?_
        obtain rfl := Option.some.inj H
        exact N.meet (false, ()) ⟨HK104, trivial⟩ (by exact ⟨rfl, rfl, rfl, rfl, trivial⟩) (by exact fun w h => h)
    · refine C.at (s' := [(0, .slice Aa0 a0.length ca0), (1, .slice Aa1 a1.length ca1), (5, .int .i64 i98), (15, .bool o101)]) (G' := G) rfl rfl ?_
      refine split2 H (fun c106 H => ?_) (fun c106 H => ?_)
      · refine C.condT (congrArg (fun b => some (Value.bool b)) (c106)) ?_
        refine C.skip ?_
        refine N.nx ?_
        refine C.seq ?_
        refine C.blk ?_
        refine C.seq ?_
        refine C.drawn (fuel := 9) (ls := [false, false, false, false, false, false, false, false, false]) [] (G) mx rfl rfl ?_
        refine D.p (ls' := [true, false, false, false, false, false, false, false, false]) 0 rfl rfl rfl rfl (by kernel_rfl) rfl (Y.mv rfl) ?_
        refine D.p (ls' := [true, true, false, false, false, false, false, false, false]) 1 rfl rfl rfl rfl (by kernel_rfl) rfl (Y.mv rfl) ?_
        obtain ⟨p109, H⟩ := gd_some H
        refine D.know (ha0.some_ (j := Int.toNat i98) (by rw [List.length_map]; exact idx_lt p109)) (fun hh => ?_)
        obtain ⟨a107, ha108⟩ := hh
        refine D.p (ls' := [true, true, true, false, false, false, false, false, false]) 2 rfl rfl rfl rfl (by kernel_rfl) rfl (Y.ixa Try.underlying22 ti5 rfl rfl p109 ha108) ?_
        obtain ⟨p110, H⟩ := gd_some H
        refine D.r (ls' := [true, true, true, true, false, false, false, false, false]) 3 1 0 rfl rfl rfl rfl (by kernel_rfl) (by kernel_rfl) rfl rfl (Y.ldE Try.underlying5 rfl rfl ha108 p110 ha0) ?_
        refine D.p (ls' := [true, true, true, true, true, false, false, false, false]) 4 rfl rfl rfl rfl (by kernel_rfl) rfl (Y.mv rfl) ?_
        refine D.p (ls' := [true, true, true, true, true, true, false, false, false]) 5 rfl rfl rfl rfl (by kernel_rfl) rfl (Y.mv rfl) ?_
        obtain ⟨p113, H⟩ := gd_some H
        refine D.know (ha1.some_ (j := Int.toNat i98) (by rw [List.length_map]; exact idx_lt p113)) (fun hh => ?_)
        obtain ⟨a111, ha112⟩ := hh
        refine D.p (ls' := [true, true, true, true, true, true, true, false, false]) 6 rfl rfl rfl rfl (by kernel_rfl) rfl (Y.ixa Try.underlying22 ti5 rfl rfl p113 ha112) ?_
        obtain ⟨p114, H⟩ := gd_some H
        refine D.r (ls' := [true, true, true, true, true, true, true, true, false]) 7 1 0 rfl rfl rfl rfl (by kernel_rfl) (by kernel_rfl) rfl rfl (Y.ldE Try.underlying5 rfl rfl ha112 p114 ha1) ?_
        refine D.p (ls' := [true, true, true, true, true, true, true, true, true]) 8 rfl rfl rfl rfl (by kernel_rfl) rfl (Y.bin rfl rfl rfl) ?_
        refine D.nil (by kernel_rfl) ?_
        refine N.nx ?_
        refine split2 H (fun c115 H => ?_) (fun c115 H => ?_)
        · refine C.condT (congrArg (fun b => some (Value.bool b)) (decide_eq_true c115)) ?_
          refine C.seq ?_
          refine C.drawn (fuel := 10) (ls := [false, false, false, false, false, false, false, false, false, false]) [] (G) mx rfl rfl ?_
          refine D.p (ls' := [true, false, false, false, false, false, false, false, false, false]) 0 rfl rfl rfl rfl (by kernel_rfl) rfl (Y.mv rfl) ?_
          refine D.p (ls' := [true, true, false, false, false, false, false, false, false, false]) 1 rfl rfl rfl rfl (by kernel_rfl) rfl (Y.mv rfl) ?_
          obtain ⟨p118, H⟩ := gd_some H
          refine D.know (ha0.some_ (j := Int.toNat i98) (by rw [List.length_map]; exact idx_lt p118)) (fun hh => ?_)
          obtain ⟨a116, ha117⟩ := hh
          refine D.p (ls' := [true, true, true, false, false, false, false, false, false, false]) 2 rfl rfl rfl rfl (by kernel_rfl) rfl (Y.ixa Try.underlying22 ti5 rfl rfl p118 ha117) ?_
          obtain ⟨p119, H⟩ := gd_some H
          refine D.r (ls' := [true, true, true, true, false, false, false, false, false, false]) 3 1 0 rfl rfl rfl rfl (by kernel_rfl) (by kernel_rfl) rfl rfl (Y.ldE Try.underlying5 rfl rfl ha117 p119 ha0) ?_
          refine D.p (ls' := [true, true, true, true, true, false, false, false, false, false]) 4 rfl rfl rfl rfl (by kernel_rfl) rfl (Y.mv rfl) ?_
          refine D.p (ls' := [true, true, true, true, true, true, false, false, false, false]) 5 rfl rfl rfl rfl (by kernel_rfl) rfl (Y.mv rfl) ?_
          obtain ⟨p122, H⟩ := gd_some H
          refine D.know (ha1.some_ (j := Int.toNat i98) (by rw [List.length_map]; exact idx_lt p122)) (fun hh => ?_)
          obtain ⟨a120, ha121⟩ := hh
          refine D.p (ls' := [true, true, true, true, true, true, true, false, false, false]) 6 rfl rfl rfl rfl (by kernel_rfl) rfl (Y.ixa Try.underlying22 ti5 rfl rfl p122 ha121) ?_
          obtain ⟨p123, H⟩ := gd_some H
          refine D.r (ls' := [true, true, true, true, true, true, true, true, false, false]) 7 1 0 rfl rfl rfl rfl (by kernel_rfl) (by kernel_rfl) rfl rfl (Y.ldE Try.underlying5 rfl rfl ha121 p123 ha1) ?_
          refine D.p (ls' := [true, true, true, true, true, true, true, true, true, false]) 8 rfl rfl rfl rfl (by kernel_rfl) rfl (Y.bin rfl rfl rfl) ?_
          refine D.p (ls' := [true, true, true, true, true, true, true, true, true, true]) 9 rfl rfl rfl rfl (by kernel_rfl) rfl (Y.asg rfl) ?_
          refine D.nil (by kernel_rfl) ?_
          refine N.nx ?_
          refine C.ret ?_
          obtain rfl := Option.some.inj H
          obtain rfl := fin_inl HK48
          refine T.ib ?_
          refine T.th ?_
          refine T.th ?_
          refine T.ib ?_
          refine T.th ?_
          refine T.th ?_
          exact ret_ok (ks := [4]) rfl rfl (fun w h => ⟨rfl, h⟩)
        · refine C.condF (congrArg (fun b => some (Value.bool b)) (decide_eq_false c115)) ?_
          refine C.skip ?_
          refine N.ib ?_
          refine N.nx ?_
          refine C.reg ?_
          refine J.p rfl rfl rfl rfl (Y.mv rfl) ?_
          refine J.p rfl rfl rfl rfl (Y.bin rfl rfl rfl) ?_
          refine J.p rfl rfl rfl rfl (Y.asg rfl) ?_
          refine J.nil ?_
          exact N.again (k97, IntKind.wrap .i64 (i98 + 1), ()) ⟨H, trivial⟩ (Nat.lt_succ_self _) (by exact ⟨rfl, rfl, rfl, trivial⟩) (by exact fun w h => h)
      · refine C.condF (congrArg (fun b => some (Value.bool b)) (nt c106)) ?_
        refine C.exit ?_
        refine X.th ?_
        refine X.th ?_
        refine X.hit ?_
        obtain rfl := Option.some.inj H
        exact N.meet ((), ()) ⟨fin_inr HK48, trivial⟩ (by exact ⟨rfl, rfl, trivial⟩) (by exact fun w h => h)
  · refine N.at (s' := [(0, .slice Aa0 a0.length ca0), (1, .slice Aa1 a1.length ca1)]) (G' := G) rfl rfl ?_
    refine N.nx ?_
    refine C.rs ?_
    refine J.p rfl rfl rfl rfl (Y.mv rfl) ?_
    refine J.p rfl rfl rfl rfl (Y.lenS Try.underlying22 rfl) ?_
    refine J.p rfl rfl rfl rfl (Y.mv rfl) ?_
    refine J.p rfl rfl rfl rfl (Y.lenS Try.underlying22 rfl) ?_
    refine J.p rfl rfl rfl rfl (Y.bin rfl rfl rfl) ?_
    refine J.p rfl rfl rfl rfl (Y.asg rfl) ?_
    refine J.nx ?_
    refine C.ret ?_
    obtain rfl := Option.some.inj H
    exact ret_ok (ks := [4]) rfl rfl (fun w h => ⟨rfl, h⟩)
/-! ### salvor/salvorlaw2.lent: function 14 -/
def lent.l1 (a0 : List Int) : Nat → ((List Int) × Int) → Option ((List Int))
  | 0, _ => none
  | k + 1, i76 => if i76.2 < (i76.1.length : Int) then ((gd ((0 : Int) ≤ i76.2 ∧ i76.2 < (i76.1.length : Int)) (gd ((0 : Int) ≤ i76.2 ∧ i76.2 < (i76.1.length : Int)) (if i76.2 < (a0.length : Int) then (gd ((0 : Int) ≤ i76.2 ∧ i76.2 < (a0.length : Int)) (gd ((0 : Int) ≤ i76.2 ∧ i76.2 < ((i76.1.set (Int.toNat i76.2) 238).length : Int)) (gd ((0 : Int) ≤ i76.2 ∧ i76.2 < ((i76.1.set (Int.toNat i76.2) 238).length : Int)) (some ((i76.1.set (Int.toNat i76.2) 238).set (Int.toNat i76.2) (rd a0 i76.2)))))) else (some (i76.1.set (Int.toNat i76.2) 238))))).bind fun o92 => lent.l1 a0 k (o92, IntKind.wrap .i64 (i76.2 + 1))) else (some i76.1)
def lent.f (K : Nat) (a0 : List Int) : Option ((List Int) × (List Int)) := gd ((0 : Int) ≤ (IntKind.wrap .i64 ((a0.length : Int) + 8)) ∧ (IntKind.wrap .i64 ((a0.length : Int) + 8) : Int) ≤ (IntKind.wrap .i64 ((a0.length : Int) + 8)) ∧ ((1 : Nat) : Int) * (IntKind.wrap .i64 ((a0.length : Int) + 8)) ≤ 281474976710656) ((lent.l1 a0 K ((List.replicate (Int.toNat (IntKind.wrap .i64 ((a0.length : Int) + 8))) (0 : Int)), 0)).bind fun o39 => gd ((0 : Int) ≤ (a0.length : Int) ∧ (0 ≤ (Int.toNat (a0.length : Int)) ∧ (Int.toNat (a0.length : Int)) ≤ o39.length)) (some (o39.take (Int.toNat (a0.length : Int)), o39.drop (Int.toNat (a0.length : Int)))))
theorem lent.calls {B : Nat} {w0 : World} {G : List HP} (K : Nat) (a0 : List Int) (Aa0 : Option Addr) (ca0 : Nat) (ha0 : RdG B w0 G Aa0 (a0.map (Value.int .u8))) (ka0 : a0.length ≤ ca0) (r : (List Int) × (List Int)) (H : lent.f K a0 = some r) (w : World) (hw : St B w0 (G) w) :
    Calls Try.prog 14 [.slice Aa0 a0.length ca0].toArray w (fun e w' => ∃ A0 c0, e = .returned (.slice A0 r.1.length c0) ∧ St B w0 (own 5 1 A0 c0 ((r.1 ++ r.2).map (Value.int .u8)) :: G) w') := by
  unfold lent.f at H
  refine calls_of (n := 33) (s := [(0, .slice Aa0 a0.length ca0)]) Try.func14 rfl rfl rfl rfl ?_ hw
  refine C.rs ?_
  refine J.p rfl rfl rfl rfl (Y.asg rfl) ?_
  refine J.nx ?_
  refine C.rs ?_
  refine J.p rfl rfl rfl rfl (Y.mv rfl) ?_
  refine J.p rfl rfl rfl rfl (Y.lenS Try.underlying22 rfl) ?_
  refine J.p rfl rfl rfl rfl (Y.bin rfl rfl rfl) ?_
  obtain ⟨p2, H⟩ := gd_some H
  refine J.mkL (enc := (Value.int .u8)) (z := 0) rfl Try.underlying22 ti5 rfl rfl rfl p2 (by decide) (fun A1 => ?_)
  refine J.p rfl rfl rfl rfl (Y.asg rfl) ?_
  refine J.nx ?_
  refine C.seq ?_
  refine C.rs ?_
  refine J.p rfl rfl rfl rfl (Y.asg rfl) ?_
  refine J.nx ?_
  refine C.joinN H (fun (o39 : (List Int)) (j40 : (Option Addr) × Nat) => [(0, .slice Aa0 a0.length ca0), (3, .slice j40.1 o39.length j40.2)]) (fun (o39 : (List Int)) (j40 : (Option Addr) × Nat) => own 5 1 j40.1 j40.2 (o39.map (Value.int .u8)) :: G) (fun (o39 : (List Int)) (j40 : (Option Addr) × Nat) => True) (fun o37 H HK38 => ?_) (fun o39 j40 H _ => ?_)
  · refine C.blk ?_
    refine C.loop (fun (i : Nat × ((List Int) × Int) × ((Option Addr) × Nat)) => [(0, .slice Aa0 a0.length ca0), (3, .slice i.2.2.1 i.2.1.1.length i.2.2.2), (4, .int .i64 i.2.1.2)]) (fun (i : Nat × ((List Int) × Int) × ((Option Addr) × Nat)) => own 5 1 i.2.2.1 i.2.2.2 (i.2.1.1.map (Value.int .u8)) :: G) (fun (i : Nat × ((List Int) × Int) × ((Option Addr) × Nat)) => lent.l1 a0 i.1 i.2.1 = some o37 ∧ (True)) (fun i => i.1) (K, ((List.replicate (Int.toNat (IntKind.wrap .i64 ((a0.length : Int) + 8))) (0 : Int)), 0), (A1, (Int.toNat (IntKind.wrap .i64 ((a0.length : Int) + 8))))) ⟨H, trivial⟩ (by exact ⟨rfl, rfl, rfl, trivial⟩) (by exact fun w h => h) ?_
    rintro ⟨k105, i76, j77⟩ ⟨H, _⟩
    replace H : lent.l1 a0 k105 i76 = some o37 := H
    obtain ⟨k75, rfl⟩ : ∃ m, k105 = m + 1 := by cases k105 with | zero => exact absurd H (by simp [lent.l1]) | succ m => exact ⟨m, rfl⟩
    rw [lent.l1] at H
    refine C.at (s' := [(0, .slice Aa0 a0.length ca0), (3, .slice j77.1 i76.1.length j77.2), (4, .int .i64 i76.2)]) (G' := own 5 1 j77.1 j77.2 (i76.1.map (Value.int .u8)) :: G) rfl rfl ?_
    refine C.seq ?_
    refine C.rs ?_
    refine J.p rfl rfl rfl rfl (Y.mv rfl) ?_
    refine J.p rfl rfl rfl rfl (Y.mv rfl) ?_
    refine J.p rfl rfl rfl rfl (Y.lenS Try.underlying22 rfl) ?_
    refine J.p rfl rfl rfl rfl (Y.bin rfl rfl rfl) ?_
    refine J.nx ?_
    refine split2 H (fun c79 H => ?_) (fun c79 H => ?_)
    · refine C.condT (congrArg (fun b => some (Value.bool b)) (decide_eq_true c79)) ?_
      refine C.skip ?_
      refine N.nx ?_
      refine C.joinB H (fun (o92 : (List Int)) (j93 : (Option Addr) × Nat) => [(0, .slice Aa0 a0.length ca0), (3, .slice j93.1 o92.length j93.2), (4, .int .i64 i76.2)]) (fun (o92 : (List Int)) (j93 : (Option Addr) × Nat) => own 5 1 j93.1 j93.2 (o92.map (Value.int .u8)) :: G) (fun (o92 : (List Int)) (j93 : (Option Addr) × Nat) => True) (fun o90 H HK91 => ?_) (fun o92 j93 H _ => ?_)
      · refine C.blk ?_
        refine C.rs ?_
        refine J.p rfl rfl rfl rfl (Y.mv rfl) ?_
        refine J.p rfl rfl rfl rfl (Y.mv rfl) ?_
        obtain ⟨p97, H⟩ := gd_some H
        refine J.know ((RdG.own 0 rfl).some_ (j := Int.toNat i76.2) (by rw [List.length_map]; exact idx_lt p97)) (fun hh => ?_)
        obtain ⟨a95, ha96⟩ := hh
        refine J.p rfl rfl rfl rfl (Y.ixa Try.underlying22 ti5 rfl rfl p97 ha96) ?_
        obtain ⟨p98, H⟩ := gd_some H
        refine J.stoL (enc := (Value.int .u8)) ti5 ha96 rfl rfl rfl p98 ?_
        refine J.as (k := 3) rfl (set_len i76.1 (Int.toNat i76.2) 238) ?_
        refine J.nx ?_
        refine C.rs ?_
        refine J.p rfl rfl rfl rfl (Y.mv rfl) ?_
        refine J.p rfl rfl rfl rfl (Y.mv rfl) ?_
        refine J.p rfl rfl rfl rfl (Y.lenS Try.underlying22 rfl) ?_
        refine J.p rfl rfl rfl rfl (Y.bin rfl rfl rfl) ?_
        refine J.nx ?_
        refine split2 H (fun c99 H => ?_) (fun c99 H => ?_)
        · refine C.condT (congrArg (fun b => some (Value.bool b)) (decide_eq_true c99)) ?_
          refine C.reg ?_
          refine J.p rfl rfl rfl rfl (Y.mv rfl) ?_
          refine J.p rfl rfl rfl rfl (Y.mv rfl) ?_
          refine J.p rfl rfl rfl rfl (Y.mv rfl) ?_
          refine J.p rfl rfl rfl rfl (Y.mv rfl) ?_
          obtain ⟨p100, H⟩ := gd_some H
          refine J.el rfl rfl rfl Try.underlying22 ti5 Try.underlying5 rfl rfl rfl p100 (ha0.suf [_] rfl) ?_
          obtain ⟨p103, H⟩ := gd_some H
          refine J.know ((RdG.own 0 rfl).some_ (j := Int.toNat i76.2) (by rw [List.length_map]; exact idx_lt p103)) (fun hh => ?_)
          obtain ⟨a101, ha102⟩ := hh
          refine J.p rfl rfl rfl rfl (Y.ixa Try.underlying22 ti5 rfl rfl p103 ha102) ?_
          obtain ⟨p104, H⟩ := gd_some H
          refine J.stoL (enc := (Value.int .u8)) ti5 ha102 rfl rfl rfl p104 ?_
          refine J.as (k := 3) rfl (set_len (i76.1.set (Int.toNat i76.2) 238) (Int.toNat i76.2) (rd a0 i76.2)) ?_
          refine J.nil ?_
          refine N.ib ?_
          obtain rfl := Option.some.inj H
          exact N.meet (((i76.1.set (Int.toNat i76.2) 238).set (Int.toNat i76.2) (rd a0 i76.2)), (j77.1, j77.2)) ⟨HK91, trivial⟩ (by exact ⟨rfl, rfl, rfl, trivial⟩) (by exact fun w h => h)
        · refine C.condF (congrArg (fun b => some (Value.bool b)) (decide_eq_false c99)) ?_
          refine C.skip ?_
          refine N.ib ?_
          obtain rfl := Option.some.inj H
          exact N.meet ((i76.1.set (Int.toNat i76.2) 238), (j77.1, j77.2)) ⟨HK91, trivial⟩ (by exact ⟨rfl, rfl, rfl, trivial⟩) (by exact fun w h => h)
      · refine C.at (s' := [(0, .slice Aa0 a0.length ca0), (3, .slice j93.1 o92.length j93.2), (4, .int .i64 i76.2)]) (G' := own 5 1 j93.1 j93.2 (o92.map (Value.int .u8)) :: G) rfl rfl ?_
        refine C.reg ?_
        refine J.p rfl rfl rfl rfl (Y.mv rfl) ?_
        refine J.p rfl rfl rfl rfl (Y.bin rfl rfl rfl) ?_
        refine J.p rfl rfl rfl rfl (Y.asg rfl) ?_
        refine J.nil ?_
        exact N.again (k75, (o92, IntKind.wrap .i64 (i76.2 + 1)), (j93.1, j93.2)) ⟨H, trivial⟩ (Nat.lt_succ_self _) (by exact ⟨rfl, rfl, rfl, trivial⟩) (by exact fun w h => h)
    · refine C.condF (congrArg (fun b => some (Value.bool b)) (decide_eq_false c79)) ?_
      refine C.exit ?_
      refine X.th ?_
      refine X.th ?_
      refine X.hit ?_
      obtain rfl := Option.some.inj H
      exact N.meet (i76.1, (j77.1, j77.2)) ⟨HK38, trivial⟩ (by exact ⟨rfl, rfl, trivial⟩) (by exact fun w h => h)
  · refine N.at (s' := [(0, .slice Aa0 a0.length ca0), (3, .slice j40.1 o39.length j40.2)]) (G' := own 5 1 j40.1 j40.2 (o39.map (Value.int .u8)) :: G) rfl rfl ?_
    refine N.nx ?_
    refine C.rs ?_
    refine J.p rfl rfl rfl rfl (Y.mv rfl) ?_
    refine J.p rfl rfl rfl rfl (Y.mv rfl) ?_
    refine J.p rfl rfl rfl rfl (Y.lenS Try.underlying22 rfl) ?_
    obtain ⟨p107, H⟩ := gd_some H
    refine J.know (own_leL 0 rfl) (fun hc106 => ?_)
    refine J.p rfl rfl rfl rfl (Y.slcL Try.underlying22 ti5 rfl bnd.no (bnd.yes rfl p107.1) p107.2 hc106) ?_
    refine J.p rfl rfl rfl rfl (Y.asg rfl) ?_
    refine J.nx ?_
    refine C.ret ?_
    obtain rfl := Option.some.inj H
    refine T.as (k := 2) rfl (slc0 j40.1 j40.2 o39 (Int.toNat (a0.length : Int))) ?_
    exact ret_ok (ks := [2]) rfl rfl (fun w h => ⟨j40.1, j40.2, rfl, (St.split (n := (Int.toNat (a0.length : Int))) h)⟩)
/-! ### salvor/salvorref2.Decode: function 16 -/
def refDecode.l1 (a0 : List Int) : Nat → (Int) → Option (Int)
  | 0, _ => none
  | k + 1, i50 => (if i50 < (a0.length : Int) then (if i50 < 10 then (gd ((0 : Int) ≤ i50 ∧ i50 < (a0.length : Int)) (gd ((0 : Int) ≤ i50 ∧ i50 < (a0.length : Int)) (some (decide (128 ≤ (rd a0 i50)))))) else (some false)) else (some false)).bind fun o58 => if o58 = true then (refDecode.l1 a0 k (IntKind.wrap .i64 (i50 + 1))) else (some i50)
def refDecode.l2 (a0 : List Int) : Nat → (Int × Int) → Option (Int)
  | 0, _ => none
  | k + 1, i126 => if 0 ≤ i126.2 then (gd ((0 : Int) ≤ i126.2 ∧ i126.2 < (a0.length : Int)) (refDecode.l2 a0 k (IntKind.wrap .u64 ((IntKind.wrap .u64 (i126.1 * 128)) + (IntKind.wrap .u64 (Int.tmod (rd a0 i126.2) 128))), IntKind.wrap .i64 (i126.2 - 1)))) else (some i126.1)
def refDecode.f (K : Nat) (a0 : List Int) : Option (Int × Int × Int) := (refDecode.l1 a0 K 0).bind fun o25 => (if o25 = 10 then (some true) else (if o25 = 9 then (if o25 < (a0.length : Int) then (gd ((0 : Int) ≤ o25 ∧ o25 < (a0.length : Int)) (gd ((0 : Int) ≤ o25 ∧ o25 < (a0.length : Int)) (some (decide (1 < (rd a0 o25)))))) else (some false)) else (some false))).bind fun o77 => if o77 = true then (some (0, 0, 22)) else (if o25 = (a0.length : Int) then (some (0, 0, 21)) else ((if 0 < o25 then (gd ((0 : Int) ≤ o25 ∧ o25 < (a0.length : Int)) (gd ((0 : Int) ≤ o25 ∧ o25 < (a0.length : Int)) (some (decide ((rd a0 o25) = 0))))) else (some false)).bind fun o95 => if o95 = true then (some (0, 0, 23)) else ((refDecode.l2 a0 K (0, o25)).bind fun o115 => some (o115, IntKind.wrap .i64 (o25 + 1), 0))))
theorem refDecode.calls {B : Nat} {w0 : World} {G : List HP} (K : Nat) (a0 : List Int) (Aa0 : Option Addr) (ca0 : Nat) (ha0 : RdG B w0 G Aa0 (a0.map (Value.int .u8))) (ka0 : a0.length ≤ ca0) (r : Int × Int × Int) (H : refDecode.f K a0 = some r) (w : World) (hw : St B w0 (G) w) :
    Calls Try.prog 16 [.slice Aa0 a0.length ca0].toArray w (fun e w' => e = .returned (.tuple #[.int .u64 r.1, .int .i64 r.2.1, .int .i64 r.2.2]) ∧ St B w0 (G) w') := by
  unfold refDecode.f at H
  refine calls_of (n := 74) (s := [(0, .slice Aa0 a0.length ca0)]) Try.func16 rfl rfl rfl rfl ?_ hw
  refine C.rs ?_
  refine J.p rfl rfl rfl rfl (Y.asg rfl) ?_
  refine J.p rfl rfl rfl rfl (Y.asg rfl) ?_
  refine J.p rfl rfl rfl rfl (Y.asg rfl) ?_
  refine J.nx ?_
  refine C.rs ?_
  refine J.p rfl rfl rfl rfl (Y.asg rfl) ?_
  refine J.nx ?_
  refine C.joinB H (fun (o25 : Int) (j26 : Unit) => [(0, .slice Aa0 a0.length ca0), (5, .int .i64 o25)]) (fun (o25 : Int) (j26 : Unit) => G) (fun (o25 : Int) (j26 : Unit) => True) (fun o23 H HK24 => ?_) (fun o25 j26 H _ => ?_)
  · refine C.blk ?_
    refine C.loop (fun (i : Nat × (Int) × (Unit)) => [(0, .slice Aa0 a0.length ca0), (5, .int .i64 i.2.1)]) (fun (i : Nat × (Int) × (Unit)) => G) (fun (i : Nat × (Int) × (Unit)) => refDecode.l1 a0 i.1 i.2.1 = some o23 ∧ (True)) (fun i => i.1) (K, 0, ()) ⟨H, trivial⟩ (by exact ⟨rfl, rfl, trivial⟩) (by exact fun w h => h) ?_
    rintro ⟨k69, i50, j51⟩ ⟨H, _⟩
    replace H : refDecode.l1 a0 k69 i50 = some o23 := H
    obtain ⟨k49, rfl⟩ : ∃ m, k69 = m + 1 := by cases k69 with | zero => exact absurd H (by simp [refDecode.l1]) | succ m => exact ⟨m, rfl⟩
    rw [refDecode.l1] at H
    refine C.at (s' := [(0, .slice Aa0 a0.length ca0), (5, .int .i64 i50)]) (G' := G) rfl rfl ?_
    refine C.seq ?_
    refine C.rs ?_
    refine J.joinB H (fun (o58 : Bool) (j59 : Unit) => [(0, .slice Aa0 a0.length ca0), (5, .int .i64 i50), (22, .bool o58)]) (fun (o58 : Bool) (j59 : Unit) => G) (fun (o58 : Bool) (j59 : Unit) => True) (fun o60 H HK61 => ?_) (fun o58 j59 H _ => ?_)
    · refine J.p rfl rfl rfl rfl (Y.mv rfl) ?_
      refine J.p rfl rfl rfl rfl (Y.mv rfl) ?_
      refine J.p rfl rfl rfl rfl (Y.lenS Try.underlying22 rfl) ?_
      refine J.p rfl rfl rfl rfl (Y.bin rfl rfl rfl) ?_
      refine J.p rfl rfl rfl rfl (Y.mv rfl) ?_
      refine split2 H (fun c62 H => ?_) (fun c62 H => ?_)
      · refine J.as (k := 12) rfl (congrArg Value.bool (decide_eq_true c62)) ?_
        refine J.p rfl rfl rfl rfl (Y.mv rfl) ?_
        refine J.p rfl rfl rfl rfl (Y.bin rfl rfl rfl) ?_
        refine J.p rfl rfl rfl rfl (Y.pickT rfl rfl) ?_
        refine J.p rfl rfl rfl rfl (Y.mv rfl) ?_
        refine split2 H (fun c63 H => ?_) (fun c63 H => ?_)
        · refine J.as (k := 16) rfl (congrArg Value.bool (decide_eq_true c63)) ?_
          refine J.p rfl rfl rfl rfl (Y.mv rfl) ?_
          refine J.p rfl rfl rfl rfl (Y.mv rfl) ?_
          obtain ⟨p66, H⟩ := gd_some H
          refine J.know (ha0.some_ (j := Int.toNat i50) (by rw [List.length_map]; exact idx_lt p66)) (fun hh => ?_)
          obtain ⟨a64, ha65⟩ := hh
          refine J.p rfl rfl rfl rfl (Y.ixa Try.underlying22 ti5 rfl rfl p66 ha65) ?_
          obtain ⟨p67, H⟩ := gd_some H
          refine J.r rfl rfl rfl rfl (Y.ldE Try.underlying5 rfl rfl ha65 p67 ha0) ?_
          refine J.p rfl rfl rfl rfl (Y.bin rfl rfl rfl) ?_
          refine J.p rfl rfl rfl rfl (Y.pickT rfl rfl) ?_
          refine J.nil ?_
          obtain rfl := Option.some.inj H
          exact N.meet (decide (128 ≤ (rd a0 i50)), ()) ⟨HK61, trivial⟩ (by exact ⟨rfl, rfl, rfl, trivial⟩) (by exact fun w h => h)
        · refine J.as (k := 16) rfl (congrArg Value.bool (decide_eq_false c63)) ?_
          refine J.skip rfl rfl ?_
          refine J.skip rfl rfl ?_
          refine J.skip rfl rfl ?_
          refine J.skip rfl rfl ?_
          refine J.skip rfl rfl ?_
          refine J.p rfl rfl rfl rfl (Y.pickF rfl rfl) ?_
          refine J.nil ?_
          obtain rfl := Option.some.inj H
          exact N.meet (false, ()) ⟨HK61, trivial⟩ (by exact ⟨rfl, rfl, rfl, trivial⟩) (by exact fun w h => h)
      · refine J.as (k := 12) rfl (congrArg Value.bool (decide_eq_false c62)) ?_
        refine J.skip rfl rfl ?_
        refine J.skip rfl rfl ?_
        refine J.p rfl rfl rfl rfl (Y.pickF rfl rfl) ?_
        refine J.p rfl rfl rfl rfl (Y.mv rfl) ?_
        refine J.skip rfl rfl ?_
        refine J.skip rfl rfl ?_
        refine J.skip rfl rfl ?_
        refine J.skip rfl rfl ?_
        refine J.skip rfl rfl ?_
        refine J.p rfl rfl rfl rfl (Y.pickF rfl rfl) ?_
        refine J.nil ?_
        obtain rfl := Option.some.inj H
        exact N.meet (false, ()) ⟨HK61, trivial⟩ (by exact ⟨rfl, rfl, rfl, trivial⟩) (by exact fun w h => h)
    · refine C.at (s' := [(0, .slice Aa0 a0.length ca0), (5, .int .i64 i50), (22, .bool o58)]) (G' := G) rfl rfl ?_
      refine split2 H (fun c68 H => ?_) (fun c68 H => ?_)
      · refine C.condT (congrArg (fun b => some (Value.bool b)) (c68)) ?_
        refine C.skip ?_
        refine N.nx ?_
        refine C.blk ?_
        refine C.reg ?_
        refine J.p rfl rfl rfl rfl (Y.mv rfl) ?_
        refine J.p rfl rfl rfl rfl (Y.bin rfl rfl rfl) ?_
        refine J.p rfl rfl rfl rfl (Y.asg rfl) ?_
        refine J.nil ?_
        refine N.ib ?_
        exact N.again (k49, IntKind.wrap .i64 (i50 + 1), ()) ⟨H, trivial⟩ (Nat.lt_succ_self _) (by exact ⟨rfl, rfl, trivial⟩) (by exact fun w h => h)
      · refine C.condF (congrArg (fun b => some (Value.bool b)) (nt c68)) ?_
        refine C.exit ?_
        refine X.th ?_
        refine X.th ?_
        refine X.hit ?_
        obtain rfl := Option.some.inj H
        exact N.meet (i50, ()) ⟨HK24, trivial⟩ (by exact ⟨rfl, rfl, trivial⟩) (by exact fun w h => h)
  · refine C.at (s' := [(0, .slice Aa0 a0.length ca0), (5, .int .i64 o25)]) (G' := G) rfl rfl ?_
    refine C.seq ?_
    refine C.rs ?_
    refine J.joinB H (fun (o77 : Bool) (j78 : Unit) => [(0, .slice Aa0 a0.length ca0), (5, .int .i64 o25), (43, .bool o77)]) (fun (o77 : Bool) (j78 : Unit) => G) (fun (o77 : Bool) (j78 : Unit) => True) (fun o79 H HK80 => ?_) (fun o77 j78 H _ => ?_)
    · refine J.p rfl rfl rfl rfl (Y.mv rfl) ?_
      refine J.p rfl rfl rfl rfl (Y.bin rfl rfl rfl) ?_
      refine J.p rfl rfl rfl rfl (Y.mv rfl) ?_
      refine split2 H (fun c81 H => ?_) (fun c81 H => ?_)
      · refine J.as (k := 27) rfl (congrArg Value.bool (decide_eq_true c81)) ?_
        refine J.skip rfl rfl ?_
        refine J.skip rfl rfl ?_
        refine J.skip rfl rfl ?_
        refine J.skip rfl rfl ?_
        refine J.skip rfl rfl ?_
        refine J.skip rfl rfl ?_
        refine J.skip rfl rfl ?_
        refine J.skip rfl rfl ?_
        refine J.skip rfl rfl ?_
        refine J.skip rfl rfl ?_
        refine J.skip rfl rfl ?_
        refine J.skip rfl rfl ?_
        refine J.skip rfl rfl ?_
        refine J.skip rfl rfl ?_
        refine J.skip rfl rfl ?_
        refine J.p rfl rfl rfl rfl (Y.pickT rfl rfl) ?_
        refine J.nil ?_
        obtain rfl := Option.some.inj H
        exact N.meet (true, ()) ⟨HK80, trivial⟩ (by exact ⟨rfl, rfl, rfl, trivial⟩) (by exact fun w h => h)
      · refine J.as (k := 27) rfl (congrArg Value.bool (decide_eq_false c81)) ?_
        refine J.p rfl rfl rfl rfl (Y.mv rfl) ?_
        refine J.p rfl rfl rfl rfl (Y.bin rfl rfl rfl) ?_
        refine J.p rfl rfl rfl rfl (Y.mv rfl) ?_
        refine split2 H (fun c82 H => ?_) (fun c82 H => ?_)
        · refine J.as (k := 30) rfl (congrArg Value.bool (decide_eq_true c82)) ?_
          refine J.p rfl rfl rfl rfl (Y.mv rfl) ?_
          refine J.p rfl rfl rfl rfl (Y.mv rfl) ?_
          refine J.p rfl rfl rfl rfl (Y.lenS Try.underlying22 rfl) ?_
          refine J.p rfl rfl rfl rfl (Y.bin rfl rfl rfl) ?_
          refine J.p rfl rfl rfl rfl (Y.pickT rfl rfl) ?_
          refine J.p rfl rfl rfl rfl (Y.mv rfl) ?_
          refine split2 H (fun c83 H => ?_) (fun c83 H => ?_)
          · refine J.as (k := 36) rfl (congrArg Value.bool (decide_eq_true c83)) ?_
            refine J.p rfl rfl rfl rfl (Y.mv rfl) ?_
            refine J.p rfl rfl rfl rfl (Y.mv rfl) ?_
            obtain ⟨p86, H⟩ := gd_some H
            refine J.know (ha0.some_ (j := Int.toNat o25) (by rw [List.length_map]; exact idx_lt p86)) (fun hh => ?_)
            obtain ⟨a84, ha85⟩ := hh
            refine J.p rfl rfl rfl rfl (Y.ixa Try.underlying22 ti5 rfl rfl p86 ha85) ?_
            obtain ⟨p87, H⟩ := gd_some H
            refine J.r rfl rfl rfl rfl (Y.ldE Try.underlying5 rfl rfl ha85 p87 ha0) ?_
            refine J.p rfl rfl rfl rfl (Y.bin rfl rfl rfl) ?_
            refine J.p rfl rfl rfl rfl (Y.pickT rfl rfl) ?_
            refine J.p rfl rfl rfl rfl (Y.pickF rfl rfl) ?_
            refine J.nil ?_
            obtain rfl := Option.some.inj H
            exact N.meet (decide (1 < (rd a0 o25)), ()) ⟨HK80, trivial⟩ (by exact ⟨rfl, rfl, rfl, trivial⟩) (by exact fun w h => h)
          · refine J.as (k := 36) rfl (congrArg Value.bool (decide_eq_false c83)) ?_
            refine J.skip rfl rfl ?_
            refine J.skip rfl rfl ?_
            refine J.skip rfl rfl ?_
            refine J.skip rfl rfl ?_
            refine J.skip rfl rfl ?_
            refine J.p rfl rfl rfl rfl (Y.pickF rfl rfl) ?_
            refine J.p rfl rfl rfl rfl (Y.pickF rfl rfl) ?_
            refine J.nil ?_
            obtain rfl := Option.some.inj H
            exact N.meet (false, ()) ⟨HK80, trivial⟩ (by exact ⟨rfl, rfl, rfl, trivial⟩) (by exact fun w h => h)
        · refine J.as (k := 30) rfl (congrArg Value.bool (decide_eq_false c82)) ?_
          refine J.skip rfl rfl ?_
          refine J.skip rfl rfl ?_
          refine J.skip rfl rfl ?_
          refine J.skip rfl rfl ?_
          refine J.p rfl rfl rfl rfl (Y.pickF rfl rfl) ?_
          refine J.p rfl rfl rfl rfl (Y.mv rfl) ?_
          refine J.skip rfl rfl ?_
          refine J.skip rfl rfl ?_
          refine J.skip rfl rfl ?_
          refine J.skip rfl rfl ?_
          refine J.skip rfl rfl ?_
          refine J.p rfl rfl rfl rfl (Y.pickF rfl rfl) ?_
          refine J.p rfl rfl rfl rfl (Y.pickF rfl rfl) ?_
          refine J.nil ?_
          obtain rfl := Option.some.inj H
          exact N.meet (false, ()) ⟨HK80, trivial⟩ (by exact ⟨rfl, rfl, rfl, trivial⟩) (by exact fun w h => h)
    · refine C.at (s' := [(0, .slice Aa0 a0.length ca0), (5, .int .i64 o25), (43, .bool o77)]) (G' := G) rfl rfl ?_
      refine split2 H (fun c88 H => ?_) (fun c88 H => ?_)
      · refine C.condT (congrArg (fun b => some (Value.bool b)) (c88)) ?_
        refine C.rs ?_
        refine J.p rfl rfl rfl rfl (Y.asg rfl) ?_
        refine J.p rfl rfl rfl rfl (Y.asg rfl) ?_
        refine J.p rfl rfl rfl rfl (Y.asg rfl) ?_
        refine J.nx ?_
        refine C.ret ?_
        obtain rfl := Option.some.inj H
        refine T.th ?_
        exact ret_ok (ks := [2, 3, 4]) rfl rfl (fun w h => ⟨rfl, h⟩)
      · refine C.condF (congrArg (fun b => some (Value.bool b)) (nt c88)) ?_
        refine C.skip ?_
        refine N.nx ?_
        refine C.seq ?_
        refine C.rs ?_
        refine J.p rfl rfl rfl rfl (Y.mv rfl) ?_
        refine J.p rfl rfl rfl rfl (Y.mv rfl) ?_
        refine J.p rfl rfl rfl rfl (Y.lenS Try.underlying22 rfl) ?_
        refine J.p rfl rfl rfl rfl (Y.bin rfl rfl rfl) ?_
        refine J.nx ?_
        refine split2 H (fun c89 H => ?_) (fun c89 H => ?_)
        · refine C.condT (congrArg (fun b => some (Value.bool b)) (decide_eq_true c89)) ?_
          refine C.rs ?_
          refine J.p rfl rfl rfl rfl (Y.asg rfl) ?_
          refine J.p rfl rfl rfl rfl (Y.asg rfl) ?_
          refine J.p rfl rfl rfl rfl (Y.asg rfl) ?_
          refine J.nx ?_
          refine C.ret ?_
          obtain rfl := Option.some.inj H
          refine T.th ?_
          exact ret_ok (ks := [2, 3, 4]) rfl rfl (fun w h => ⟨rfl, h⟩)
        · refine C.condF (congrArg (fun b => some (Value.bool b)) (decide_eq_false c89)) ?_
          refine C.skip ?_
          refine N.nx ?_
          refine C.seq ?_
          refine C.rs ?_
          refine J.joinB H (fun (o95 : Bool) (j96 : Unit) => [(0, .slice Aa0 a0.length ca0), (5, .int .i64 o25), (56, .bool o95)]) (fun (o95 : Bool) (j96 : Unit) => G) (fun (o95 : Bool) (j96 : Unit) => True) (fun o97 H HK98 => ?_) (fun o95 j96 H _ => ?_)
          · refine J.p rfl rfl rfl rfl (Y.mv rfl) ?_
            refine J.p rfl rfl rfl rfl (Y.bin rfl rfl rfl) ?_
            refine J.p rfl rfl rfl rfl (Y.mv rfl) ?_
            refine split2 H (fun c99 H => ?_) (fun c99 H => ?_)
            · refine J.as (k := 50) rfl (congrArg Value.bool (decide_eq_true c99)) ?_
              refine J.p rfl rfl rfl rfl (Y.mv rfl) ?_
              refine J.p rfl rfl rfl rfl (Y.mv rfl) ?_
              obtain ⟨p102, H⟩ := gd_some H
              refine J.know (ha0.some_ (j := Int.toNat o25) (by rw [List.length_map]; exact idx_lt p102)) (fun hh => ?_)
              obtain ⟨a100, ha101⟩ := hh
              refine J.p rfl rfl rfl rfl (Y.ixa Try.underlying22 ti5 rfl rfl p102 ha101) ?_
              obtain ⟨p103, H⟩ := gd_some H
              refine J.r rfl rfl rfl rfl (Y.ldE Try.underlying5 rfl rfl ha101 p103 ha0) ?_
              refine J.p rfl rfl rfl rfl (Y.bin rfl rfl rfl) ?_
              refine J.p rfl rfl rfl rfl (Y.pickT rfl rfl) ?_
              refine J.nil ?_
              obtain rfl := Option.some.inj H
              exact N.meet (decide ((rd a0 o25) = 0), ()) ⟨HK98, trivial⟩ (by exact ⟨rfl, rfl, rfl, trivial⟩) (by exact fun w h => h)
            · refine J.as (k := 50) rfl (congrArg Value.bool (decide_eq_false c99)) ?_
              refine J.skip rfl rfl ?_
              refine J.skip rfl rfl ?_
              refine J.skip rfl rfl ?_
              refine J.skip rfl rfl ?_
              refine J.skip rfl rfl ?_
              refine J.p rfl rfl rfl rfl (Y.pickF rfl rfl) ?_
              refine J.nil ?_
              obtain rfl := Option.some.inj H
              exact N.meet (false, ()) ⟨HK98, trivial⟩ (by exact ⟨rfl, rfl, rfl, trivial⟩) (by exact fun w h => h)
          · refine C.at (s' := [(0, .slice Aa0 a0.length ca0), (5, .int .i64 o25), (56, .bool o95)]) (G' := G) rfl rfl ?_
            refine split2 H (fun c104 H => ?_) (fun c104 H => ?_)
            · refine C.condT (congrArg (fun b => some (Value.bool b)) (c104)) ?_
              refine C.rs ?_
              refine J.p rfl rfl rfl rfl (Y.asg rfl) ?_
              refine J.p rfl rfl rfl rfl (Y.asg rfl) ?_
              refine J.p rfl rfl rfl rfl (Y.asg rfl) ?_
              refine J.nx ?_
              refine C.ret ?_
              obtain rfl := Option.some.inj H
              refine T.th ?_
              exact ret_ok (ks := [2, 3, 4]) rfl rfl (fun w h => ⟨rfl, h⟩)
            · refine C.condF (congrArg (fun b => some (Value.bool b)) (nt c104)) ?_
              refine C.skip ?_
              refine N.nx ?_
              refine C.rs ?_
              refine J.p rfl rfl rfl rfl (Y.asg rfl) ?_
              refine J.nx ?_
              refine C.seq ?_
              refine C.rs ?_
              refine J.p rfl rfl rfl rfl (Y.mv rfl) ?_
              refine J.p rfl rfl rfl rfl (Y.asg rfl) ?_
              refine J.nx ?_
              refine C.joinN H (fun (o115 : Int) (j116 : Unit) => [(5, .int .i64 o25), (6, .int .u64 o115)]) (fun (o115 : Int) (j116 : Unit) => G) (fun (o115 : Int) (j116 : Unit) => True) (fun o113 H HK114 => ?_) (fun o115 j116 H _ => ?_)
              · refine C.blk ?_
                refine C.loop (fun (i : Nat × (Int × Int) × (Unit)) => [(0, .slice Aa0 a0.length ca0), (5, .int .i64 o25), (6, .int .u64 i.2.1.1), (7, .int .i64 i.2.1.2)]) (fun (i : Nat × (Int × Int) × (Unit)) => G) (fun (i : Nat × (Int × Int) × (Unit)) => refDecode.l2 a0 i.1 i.2.1 = some o113 ∧ (True)) (fun i => i.1) (K, (0, o25), ()) ⟨H, trivial⟩ (by exact ⟨rfl, rfl, rfl, rfl, trivial⟩) (by exact fun w h => h) ?_
                rintro ⟨k130, i126, j127⟩ ⟨H, _⟩
                replace H : refDecode.l2 a0 k130 i126 = some o113 := H
                obtain ⟨k125, rfl⟩ : ∃ m, k130 = m + 1 := by cases k130 with | zero => exact absurd H (by simp [refDecode.l2]) | succ m => exact ⟨m, rfl⟩
                rw [refDecode.l2] at H
                refine C.at (s' := [(0, .slice Aa0 a0.length ca0), (5, .int .i64 o25), (6, .int .u64 i126.1), (7, .int .i64 i126.2)]) (G' := G) rfl rfl ?_
                refine C.seq ?_
                refine C.rs ?_
                refine J.p rfl rfl rfl rfl (Y.mv rfl) ?_
                refine J.p rfl rfl rfl rfl (Y.bin rfl rfl rfl) ?_
                refine J.nx ?_
                refine split2 H (fun c128 H => ?_) (fun c128 H => ?_)
                · refine C.condT (congrArg (fun b => some (Value.bool b)) (decide_eq_true c128)) ?_
                  refine C.skip ?_
                  refine N.nx ?_
                  refine C.seq ?_
                  refine C.blk ?_
                  refine C.reg ?_
                  refine J.p rfl rfl rfl rfl (Y.mv rfl) ?_
                  refine J.p rfl rfl rfl rfl (Y.bin rfl rfl rfl) ?_
                  refine J.p rfl rfl rfl rfl (Y.mv rfl) ?_
                  refine J.p rfl rfl rfl rfl (Y.mv rfl) ?_
                  obtain ⟨p129, H⟩ := gd_some H
                  refine J.el rfl rfl rfl Try.underlying22 ti5 Try.underlying5 rfl rfl rfl p129 ha0 ?_
                  refine J.p rfl rfl rfl rfl (Y.rem rfl rfl (by decide)) ?_
                  refine J.p rfl rfl rfl rfl (Y.conv Try.underlying5 Try.underlying24 rfl) ?_
                  refine J.p rfl rfl rfl rfl (Y.bin rfl rfl rfl) ?_
                  refine J.p rfl rfl rfl rfl (Y.asg rfl) ?_
                  refine J.nil ?_
                  refine N.ib ?_
                  refine N.nx ?_
                  refine C.reg ?_
                  refine J.p rfl rfl rfl rfl (Y.mv rfl) ?_
                  refine J.p rfl rfl rfl rfl (Y.bin rfl rfl rfl) ?_
                  refine J.p rfl rfl rfl rfl (Y.asg rfl) ?_
                  refine J.nil ?_
                  exact N.again (k125, (IntKind.wrap .u64 ((IntKind.wrap .u64 (i126.1 * 128)) + (IntKind.wrap .u64 (Int.tmod (rd a0 i126.2) 128))), IntKind.wrap .i64 (i126.2 - 1)), ()) ⟨H, trivial⟩ (Nat.lt_succ_self _) (by exact ⟨rfl, rfl, rfl, rfl, trivial⟩) (by exact fun w h => h)
                · refine C.condF (congrArg (fun b => some (Value.bool b)) (decide_eq_false c128)) ?_
                  refine C.exit ?_
                  refine X.th ?_
                  refine X.th ?_
                  refine X.hit ?_
                  obtain rfl := Option.some.inj H
                  exact N.meet (i126.1, ()) ⟨HK114, trivial⟩ (by exact ⟨rfl, rfl, trivial⟩) (by exact fun w h => h)
              · refine N.at (s' := [(5, .int .i64 o25), (6, .int .u64 o115)]) (G' := G) rfl rfl ?_
                refine N.nx ?_
                refine C.rs ?_
                refine J.p rfl rfl rfl rfl (Y.mv rfl) ?_
                refine J.p rfl rfl rfl rfl (Y.mv rfl) ?_
                refine J.p rfl rfl rfl rfl (Y.bin rfl rfl rfl) ?_
                refine J.p rfl rfl rfl rfl (Y.asg rfl) ?_
                refine J.p rfl rfl rfl rfl (Y.asg rfl) ?_
                refine J.p rfl rfl rfl rfl (Y.asg rfl) ?_
                refine J.nx ?_
                refine C.ret ?_
                obtain rfl := Option.some.inj H
                exact ret_ok (ks := [2, 3, 4]) rfl rfl (fun w h => ⟨rfl, h⟩)
/-! ### salvor/salvorlaw2.kept: function 17 -/
def kept.l1 (a1 : List Int) : Nat → ((List Int) × Int) → Option ((Bool) ⊕ (Unit))
  | 0, _ => none
  | k + 1, i115 => if i115.2 < (i115.1.length : Int) then ((if i115.2 < (a1.length : Int) then (gd ((0 : Int) ≤ i115.2 ∧ i115.2 < (i115.1.length : Int)) (gd ((0 : Int) ≤ i115.2 ∧ i115.2 < (i115.1.length : Int)) (gd ((0 : Int) ≤ i115.2 ∧ i115.2 < (a1.length : Int)) (gd ((0 : Int) ≤ i115.2 ∧ i115.2 < (a1.length : Int)) (if (rd i115.1 i115.2) ≠ (rd a1 i115.2) then (some true) else (if (a1.length : Int) ≤ i115.2 then (gd ((0 : Int) ≤ i115.2 ∧ i115.2 < (i115.1.length : Int)) (gd ((0 : Int) ≤ i115.2 ∧ i115.2 < (i115.1.length : Int)) (some (decide ((rd i115.1 i115.2) ≠ 238))))) else (some false))))))) else (if (a1.length : Int) ≤ i115.2 then (gd ((0 : Int) ≤ i115.2 ∧ i115.2 < (i115.1.length : Int)) (gd ((0 : Int) ≤ i115.2 ∧ i115.2 < (i115.1.length : Int)) (some (decide ((rd i115.1 i115.2) ≠ 238))))) else (some false))).bind fun o141 => if o141 = true then (some (.inl (false))) else (kept.l1 a1 k (i115.1, IntKind.wrap .i64 (i115.2 + 1)))) else (some (.inr ()))
def kept.f (K : Nat) (a0 : List Int) (z0 : List Int) (a1 : List Int) : Option (Bool) := gd ((0 : Int) ≤ (IntKind.wrap .i64 ((a1.length : Int) + 8)) ∧ (0 ≤ (Int.toNat (IntKind.wrap .i64 ((a1.length : Int) + 8))) ∧ (Int.toNat (IntKind.wrap .i64 ((a1.length : Int) + 8))) ≤ (a0 ++ z0).length)) (thn (kept.l1 a1 K ((((a0 ++ z0).take (Int.toNat (IntKind.wrap .i64 ((a1.length : Int) + 8)))).drop 0), 0)) fun o58 => some (decide ((a0.length : Int) = (a1.length : Int))))
theorem kept.calls {B : Nat} {w0 : World} {G : List HP} (K : Nat) (a0 : List Int) (z0 : List Int) (a1 : List Int) (Aa0 : Option Addr) (ca0 : Nat) (Aa1 : Option Addr) (ca1 : Nat) (ha0 : RdG B w0 G Aa0 ((a0 ++ z0).map (Value.int .u8))) (ka0 : (a0 ++ z0).length ≤ ca0) (ha1 : RdG B w0 G Aa1 (a1.map (Value.int .u8))) (ka1 : a1.length ≤ ca1) (r : Bool) (H : kept.f K a0 z0 a1 = some r) (w : World) (hw : St B w0 (G) w) :
    Calls Try.prog 17 [.slice Aa0 a0.length ca0, .slice Aa1 a1.length ca1].toArray w (fun e w' => e = .returned (.bool r) ∧ St B w0 (G) w') := by
  unfold kept.f at H
  refine calls_of (n := 51) (s := [(0, .slice Aa0 a0.length ca0), (1, .slice Aa1 a1.length ca1)]) Try.func17 rfl rfl rfl rfl ?_ hw
  refine C.rs ?_
  refine J.p rfl rfl rfl rfl (Y.asg rfl) ?_
  refine J.nx ?_
  refine C.rs ?_
  refine J.p rfl rfl rfl rfl (Y.mv rfl) ?_
  refine J.p rfl rfl rfl rfl (Y.mv rfl) ?_
  refine J.p rfl rfl rfl rfl (Y.lenS Try.underlying22 rfl) ?_
  refine J.p rfl rfl rfl rfl (Y.bin rfl rfl rfl) ?_
  obtain ⟨p1, H⟩ := gd_some H
  refine J.p rfl rfl rfl rfl (Y.slcW (xs := (a0 ++ z0)) Try.underlying22 ti5 rfl bnd.no (bnd.yes rfl p1.1) p1.2 ka0) ?_
  refine J.p rfl rfl rfl rfl (Y.asg rfl) ?_
  refine J.nx ?_
  refine C.seq ?_
  refine C.rs ?_
  refine J.p rfl rfl rfl rfl (Y.asg rfl) ?_
  refine J.nx ?_
  refine C.joinNR H (fun (o58 : Unit) (j59 : Unit) => [(0, .slice Aa0 a0.length ca0), (1, .slice Aa1 a1.length ca1)]) (fun (o58 : Unit) (j59 : Unit) => G) (fun (o58 : Unit) (j59 : Unit) => True) (fun o56 H HK57 => ?_) (fun o58 j59 H _ => ?_)
  · refine C.blk ?_
    refine C.loop (fun (i : Nat × ((List Int) × Int) × ((Option Addr) × Nat)) => [(0, .slice Aa0 a0.length ca0), (1, .slice Aa1 a1.length ca1), (5, .slice i.2.2.1 i.2.1.1.length i.2.2.2), (6, .int .i64 i.2.1.2)]) (fun (i : Nat × ((List Int) × Int) × ((Option Addr) × Nat)) => G) (fun (i : Nat × ((List Int) × Int) × ((Option Addr) × Nat)) => kept.l1 a1 i.1 i.2.1 = some o56 ∧ ((RdG B w0 G i.2.2.1 (i.2.1.1.map (Value.int .u8)) ∧ i.2.1.1.length ≤ i.2.2.2))) (fun i => i.1) (K, ((((a0 ++ z0).take (Int.toNat (IntKind.wrap .i64 ((a1.length : Int) + 8)))).drop 0), 0), (subA 1 Aa0 ca0 0, ca0 - 0)) ⟨H, ⟨(RdG.subL (l := 0) (h := (Int.toNat (IntKind.wrap .i64 ((a1.length : Int) + 8)))) ha0 ka0), (hc_sub ka0)⟩⟩ (by exact ⟨rfl, rfl, rfl, rfl, trivial⟩) (by exact fun w h => h) ?_
    rintro ⟨k164, i115, j116⟩ ⟨H, hx117⟩
    replace H : kept.l1 a1 k164 i115 = some o56 := H
    obtain ⟨k114, rfl⟩ : ∃ m, k164 = m + 1 := by cases k164 with | zero => exact absurd H (by simp [kept.l1]) | succ m => exact ⟨m, rfl⟩
    rw [kept.l1] at H
    refine C.at (s' := [(0, .slice Aa0 a0.length ca0), (1, .slice Aa1 a1.length ca1), (5, .slice j116.1 i115.1.length j116.2), (6, .int .i64 i115.2)]) (G' := G) rfl rfl ?_
    refine C.seq ?_
    refine C.rs ?_
    refine J.p rfl rfl rfl rfl (Y.mv rfl) ?_
    refine J.p rfl rfl rfl rfl (Y.mv rfl) ?_
    refine J.p rfl rfl rfl rfl (Y.lenS Try.underlying22 rfl) ?_
    refine J.p rfl rfl rfl rfl (Y.bin rfl rfl rfl) ?_
    refine J.nx ?_
    refine split2 H (fun c118 H => ?_) (fun c118 H => ?_)
    · refine C.condT (congrArg (fun b => some (Value.bool b)) (decide_eq_true c118)) ?_
      refine C.skip ?_
      refine N.nx ?_
      refine C.seq ?_
      refine C.blk ?_
      refine C.joinB H (fun (o141 : Bool) (j142 : Unit) => [(0, .slice Aa0 a0.length ca0), (1, .slice Aa1 a1.length ca1), (5, .slice j116.1 i115.1.length j116.2), (6, .int .i64 i115.2), (45, .bool o141)]) (fun (o141 : Bool) (j142 : Unit) => G) (fun (o141 : Bool) (j142 : Unit) => True) (fun o139 H HK140 => ?_) (fun o141 j142 H _ => ?_)
      · refine C.drawn (fuel := 28) (ls := [false, false, false, false, false, false, false, false, false, false, false, false, false, false, false, false, false, false, false, false, false, false, false, false, false, false, false, false]) [] (G) mx rfl rfl ?_
        refine D.p (ls' := [true, false, false, false, false, false, false, false, false, false, false, false, false, false, false, false, false, false, false, false, false, false, false, false, false, false, false, false]) 0 rfl rfl rfl rfl (by kernel_rfl) rfl (Y.mv rfl) ?_
        refine D.p (ls' := [true, true, false, false, false, false, false, false, false, false, false, false, false, false, false, false, false, false, false, false, false, false, false, false, false, false, false, false]) 1 rfl rfl rfl rfl (by kernel_rfl) rfl (Y.mv rfl) ?_
        refine D.p (ls' := [true, true, true, false, false, false, false, false, false, false, false, false, false, false, false, false, false, false, false, false, false, false, false, false, false, false, false, false]) 2 rfl rfl rfl rfl (by kernel_rfl) rfl (Y.lenS Try.underlying22 rfl) ?_
        refine D.p (ls' := [true, true, true, true, false, false, false, false, false, false, false, false, false, false, false, false, false, false, false, false, false, false, false, false, false, false, false, false]) 3 rfl rfl rfl rfl (by kernel_rfl) rfl (Y.bin rfl rfl rfl) ?_
        refine D.p (ls' := [true, true, true, true, true, false, false, false, false, false, false, false, false, false, false, false, false, false, false, false, false, false, false, false, false, false, false, false]) 4 rfl rfl rfl rfl (by kernel_rfl) rfl (Y.mv rfl) ?_
        refine split2 H (fun c143 H => ?_) (fun c143 H => ?_)
        · refine D.as (k := 22) rfl (congrArg Value.bool (decide_eq_true c143)) ?_
          refine D.p (ls' := [true, true, true, true, true, true, false, false, false, false, false, false, false, false, false, false, false, false, false, false, false, false, false, false, false, false, false, false]) 5 rfl rfl rfl rfl (by kernel_rfl) rfl (Y.mv rfl) ?_
          refine D.p (ls' := [true, true, true, true, true, true, true, false, false, false, false, false, false, false, false, false, false, false, false, false, false, false, false, false, false, false, false, false]) 6 rfl rfl rfl rfl (by kernel_rfl) rfl (Y.mv rfl) ?_
          obtain ⟨p146, H⟩ := gd_some H
          refine D.know (hx117.1.some_ (j := Int.toNat i115.2) (by rw [List.length_map]; exact idx_lt p146)) (fun hh => ?_)
          obtain ⟨a144, ha145⟩ := hh
          refine D.p (ls' := [true, true, true, true, true, true, true, true, false, false, false, false, false, false, false, false, false, false, false, false, false, false, false, false, false, false, false, false]) 7 rfl rfl rfl rfl (by kernel_rfl) rfl (Y.ixa Try.underlying22 ti5 rfl rfl p146 ha145) ?_
          obtain ⟨p147, H⟩ := gd_some H
          refine D.r (ls' := [true, true, true, true, true, true, true, true, true, false, false, false, false, false, false, false, false, false, false, false, false, false, false, false, false, false, false, false]) 8 1 0 rfl rfl rfl rfl (by kernel_rfl) (by kernel_rfl) rfl rfl (Y.ldE Try.underlying5 rfl rfl ha145 p147 hx117.1) ?_
          refine D.p (ls' := [true, true, true, true, true, true, true, true, true, true, false, false, false, false, false, false, false, false, false, false, false, false, false, false, false, false, false, false]) 9 rfl rfl rfl rfl (by kernel_rfl) rfl (Y.mv rfl) ?_
          refine D.p (ls' := [true, true, true, true, true, true, true, true, true, true, true, false, false, false, false, false, false, false, false, false, false, false, false, false, false, false, false, false]) 10 rfl rfl rfl rfl (by kernel_rfl) rfl (Y.mv rfl) ?_
          obtain ⟨p150, H⟩ := gd_some H
          refine D.know (ha1.some_ (j := Int.toNat i115.2) (by rw [List.length_map]; exact idx_lt p150)) (fun hh => ?_)
          obtain ⟨a148, ha149⟩ := hh
          refine D.p (ls' := [true, true, true, true, true, true, true, true, true, true, true, true, false, false, false, false, false, false, false, false, false, false, false, false, false, false, false, false]) 11 rfl rfl rfl rfl (by kernel_rfl) rfl (Y.ixa Try.underlying22 ti5 rfl rfl p150 ha149) ?_
          obtain ⟨p151, H⟩ := gd_some H
          refine D.r (ls' := [true, true, true, true, true, true, true, true, true, true, true, true, true, false, false, false, false, false, false, false, false, false, false, false, false, false, false, false]) 12 1 0 rfl rfl rfl rfl (by kernel_rfl) (by kernel_rfl) rfl rfl (Y.ldE Try.underlying5 rfl rfl ha149 p151 ha1) ?_
          refine D.p (ls' := [true, true, true, true, true, true, true, true, true, true, true, true, true, true, false, false, false, false, false, false, false, false, false, false, false, false, false, false]) 13 rfl rfl rfl rfl (by kernel_rfl) rfl (Y.bin rfl rfl rfl) ?_
          refine D.p (ls' := [true, true, true, true, true, true, true, true, true, true, true, true, true, true, true, false, false, false, false, false, false, false, false, false, false, false, false, false]) 14 rfl rfl rfl rfl (by kernel_rfl) rfl (Y.pickT rfl rfl) ?_
          refine D.p (ls' := [true, true, true, true, true, true, true, true, true, true, true, true, true, true, true, true, false, false, false, false, false, false, false, false, false, false, false, false]) 15 rfl rfl rfl rfl (by kernel_rfl) rfl (Y.mv rfl) ?_
          refine split2 H (fun c152 H => ?_) (fun c152 H => ?_)
          · refine D.as (k := 33) rfl (congrArg Value.bool (decide_eq_true c152)) ?_
            refine D.off (ls' := [true, true, true, true, true, true, true, true, true, true, true, true, true, true, true, true, true, false, false, false, false, false, false, false, false, false, false, false]) 16 rfl rfl rfl rfl (by kernel_rfl) rfl ?_
            refine D.off (ls' := [true, true, true, true, true, true, true, true, true, true, true, true, true, true, true, true, true, true, false, false, false, false, false, false, false, false, false, false]) 17 rfl rfl rfl rfl (by kernel_rfl) rfl ?_
            refine D.off (ls' := [true, true, true, true, true, true, true, true, true, true, true, true, true, true, true, true, true, true, true, false, false, false, false, false, false, false, false, false]) 18 rfl rfl rfl rfl (by kernel_rfl) rfl ?_
            refine D.off (ls' := [true, true, true, true, true, true, true, true, true, true, true, true, true, true, true, true, true, true, true, true, false, false, false, false, false, false, false, false]) 19 rfl rfl rfl rfl (by kernel_rfl) rfl ?_
            refine D.off (ls' := [true, true, true, true, true, true, true, true, true, true, true, true, true, true, true, true, true, true, true, true, true, false, false, false, false, false, false, false]) 20 rfl rfl rfl rfl (by kernel_rfl) rfl ?_
            refine D.off (ls' := [true, true, true, true, true, true, true, true, true, true, true, true, true, true, true, true, true, true, true, true, true, true, false, false, false, false, false, false]) 21 rfl rfl rfl rfl (by kernel_rfl) rfl ?_
            refine D.off (ls' := [true, true, true, true, true, true, true, true, true, true, true, true, true, true, true, true, true, true, true, true, true, true, true, false, false, false, false, false]) 22 rfl rfl rfl rfl (by kernel_rfl) rfl ?_
            refine D.off (ls' := [true, true, true, true, true, true, true, true, true, true, true, true, true, true, true, true, true, true, true, true, true, true, true, true, false, false, false, false]) 23 rfl rfl rfl rfl (by kernel_rfl) rfl ?_
            refine D.off (ls' := [true, true, true, true, true, true, true, true, true, true, true, true, true, true, true, true, true, true, true, true, true, true, true, true, true, false, false, false]) 24 rfl rfl rfl rfl (by kernel_rfl) rfl ?_
            refine D.off (ls' := [true, true, true, true, true, true, true, true, true, true, true, true, true, true, true, true, true, true, true, true, true, true, true, true, true, true, false, false]) 25 rfl rfl rfl rfl (by kernel_rfl) rfl ?_
            refine D.off (ls' := [true, true, true, true, true, true, true, true, true, true, true, true, true, true, true, true, true, true, true, true, true, true, true, true, true, true, true, false]) 26 rfl rfl rfl rfl (by kernel_rfl) rfl ?_
            refine D.p (ls' := [true, true, true, true, true, true, true, true, true, true, true, true, true, true, true, true, true, true, true, true, true, true, true, true, true, true, true, true]) 27 rfl rfl rfl rfl (by kernel_rfl) rfl (Y.pickT rfl rfl) ?_
            refine D.nil (by kernel_rfl) ?_
            obtain rfl := Option.some.inj H
            exact N.meet (true, ()) ⟨HK140, trivial⟩ (by exact ⟨rfl, rfl, rfl, rfl, rfl, trivial⟩) (by exact fun w h => h)
          · refine D.as (k := 33) rfl (congrArg Value.bool (decide_eq_false c152)) ?_
            refine D.p (ls' := [true, true, true, true, true, true, true, true, true, true, true, true, true, true, true, true, true, false, false, false, false, false, false, false, false, false, false, false]) 16 rfl rfl rfl rfl (by kernel_rfl) rfl (Y.mv rfl) ?_
            refine D.p (ls' := [true, true, true, true, true, true, true, true, true, true, true, true, true, true, true, true, true, true, false, false, false, false, false, false, false, false, false, false]) 17 rfl rfl rfl rfl (by kernel_rfl) rfl (Y.mv rfl) ?_
            refine D.p (ls' := [true, true, true, true, true, true, true, true, true, true, true, true, true, true, true, true, true, true, true, false, false, false, false, false, false, false, false, false]) 18 rfl rfl rfl rfl (by kernel_rfl) rfl (Y.lenS Try.underlying22 rfl) ?_
            refine D.p (ls' := [true, true, true, true, true, true, true, true, true, true, true, true, true, true, true, true, true, true, true, true, false, false, false, false, false, false, false, false]) 19 rfl rfl rfl rfl (by kernel_rfl) rfl (Y.bin rfl rfl rfl) ?_
            refine D.p (ls' := [true, true, true, true, true, true, true, true, true, true, true, true, true, true, true, true, true, true, true, true, true, false, false, false, false, false, false, false]) 20 rfl rfl rfl rfl (by kernel_rfl) rfl (Y.mv rfl) ?_
            refine split2 H (fun c153 H => ?_) (fun c153 H => ?_)
            · refine D.as (k := 38) rfl (congrArg Value.bool (decide_eq_true c153)) ?_
              refine D.p (ls' := [true, true, true, true, true, true, true, true, true, true, true, true, true, true, true, true, true, true, true, true, true, true, false, false, false, false, false, false]) 21 rfl rfl rfl rfl (by kernel_rfl) rfl (Y.mv rfl) ?_
              refine D.p (ls' := [true, true, true, true, true, true, true, true, true, true, true, true, true, true, true, true, true, true, true, true, true, true, true, false, false, false, false, false]) 22 rfl rfl rfl rfl (by kernel_rfl) rfl (Y.mv rfl) ?_
              obtain ⟨p156, H⟩ := gd_some H
              refine D.know (hx117.1.some_ (j := Int.toNat i115.2) (by rw [List.length_map]; exact idx_lt p156)) (fun hh => ?_)
              obtain ⟨a154, ha155⟩ := hh
              refine D.p (ls' := [true, true, true, true, true, true, true, true, true, true, true, true, true, true, true, true, true, true, true, true, true, true, true, true, false, false, false, false]) 23 rfl rfl rfl rfl (by kernel_rfl) rfl (Y.ixa Try.underlying22 ti5 rfl rfl p156 ha155) ?_
              obtain ⟨p157, H⟩ := gd_some H
              refine D.r (ls' := [true, true, true, true, true, true, true, true, true, true, true, true, true, true, true, true, true, true, true, true, true, true, true, true, true, false, false, false]) 24 1 0 rfl rfl rfl rfl (by kernel_rfl) (by kernel_rfl) rfl rfl (Y.ldE Try.underlying5 rfl rfl ha155 p157 hx117.1) ?_
              refine D.p (ls' := [true, true, true, true, true, true, true, true, true, true, true, true, true, true, true, true, true, true, true, true, true, true, true, true, true, true, false, false]) 25 rfl rfl rfl rfl (by kernel_rfl) rfl (Y.bin rfl rfl rfl) ?_
              refine D.p (ls' := [true, true, true, true, true, true, true, true, true, true, true, true, true, true, true, true, true, true, true, true, true, true, true, true, true, true, true, false]) 26 rfl rfl rfl rfl (by kernel_rfl) rfl (Y.pickT rfl rfl) ?_
              refine D.p (ls' := [true, true, true, true, true, true, true, true, true, true, true, true, true, true, true, true, true, true, true, true, true, true, true, true, true, true, true, true]) 27 rfl rfl rfl rfl (by kernel_rfl) rfl (Y.pickF rfl rfl) ?_
              refine D.nil (by kernel_rfl) ?_
              obtain rfl := Option.some.inj H
              exact N.meet (decide ((rd i115.1 i115.2) ≠ 238), ()) ⟨HK140, trivial⟩ (by exact ⟨rfl, rfl, rfl, rfl, rfl, trivial⟩) (by exact fun w h => h)
            · refine D.as (k := 38) rfl (congrArg Value.bool (decide_eq_false c153)) ?_
              refine D.off (ls' := [true, true, true, true, true, true, true, true, true, true, true, true, true, true, true, true, true, true, true, true, true, true, false, false, false, false, false, false]) 21 rfl rfl rfl rfl (by kernel_rfl) rfl ?_
              refine D.off (ls' := [true, true, true, true, true, true, true, true, true, true, true, true, true, true, true, true, true, true, true, true, true, true, true, false, false, false, false, false]) 22 rfl rfl rfl rfl (by kernel_rfl) rfl ?_
              refine D.off (ls' := [true, true, true, true, true, true, true, true, true, true, true, true, true, true, true, true, true, true, true, true, true, true, true, true, false, false, false, false]) 23 rfl rfl rfl rfl (by kernel_rfl) rfl ?_
              refine D.off (ls' := [true, true, true, true, true, true, true, true, true, true, true, true, true, true, true, true, true, true, true, true, true, true, true, true, true, false, false, false]) 24 rfl rfl rfl rfl (by kernel_rfl) rfl ?_
              refine D.off (ls' := [true, true, true, true, true, true, true, true, true, true, true, true, true, true, true, true, true, true, true, true, true, true, true, true, true, true, false, false]) 25 rfl rfl rfl rfl (by kernel_rfl) rfl ?_
              refine D.p (ls' := [true, true, true, true, true, true, true, true, true, true, true, true, true, true, true, true, true, true, true, true, true, true, true, true, true, true, true, false]) 26 rfl rfl rfl rfl (by kernel_rfl) rfl (Y.pickF rfl rfl) ?_
              refine D.p (ls' := [true, true, true, true, true, true, true, true, true, true, true, true, true, true, true, true, true, true, true, true, true, true, true, true, true, true, true, true]) 27 rfl rfl rfl rfl (by kernel_rfl) rfl (Y.pickF rfl rfl) ?_
              refine D.nil (by kernel_rfl) ?_
              obtain rfl := Option.some.inj H
              exact N.meet (false, ()) ⟨HK140, trivial⟩ (by exact ⟨rfl, rfl, rfl, rfl, rfl, trivial⟩) (by exact fun w h => h)
        · refine D.as (k := 22) rfl (congrArg Value.bool (decide_eq_false c143)) ?_
          refine D.off (ls' := [true, true, true, true, true, true, false, false, false, false, false, false, false, false, false, false, false, false, false, false, false, false, false, false, false, false, false, false]) 5 rfl rfl rfl rfl (by kernel_rfl) rfl ?_
          refine D.off (ls' := [true, true, true, true, true, true, true, false, false, false, false, false, false, false, false, false, false, false, false, false, false, false, false, false, false, false, false, false]) 6 rfl rfl rfl rfl (by kernel_rfl) rfl ?_
          refine D.off (ls' := [true, true, true, true, true, true, true, true, false, false, false, false, false, false, false, false, false, false, false, false, false, false, false, false, false, false, false, false]) 7 rfl rfl rfl rfl (by kernel_rfl) rfl ?_
          refine D.off (ls' := [true, true, true, true, true, true, true, true, true, false, false, false, false, false, false, false, false, false, false, false, false, false, false, false, false, false, false, false]) 8 rfl rfl rfl rfl (by kernel_rfl) rfl ?_
          refine D.off (ls' := [true, true, true, true, true, true, true, true, true, true, false, false, false, false, false, false, false, false, false, false, false, false, false, false, false, false, false, false]) 9 rfl rfl rfl rfl (by kernel_rfl) rfl ?_
          refine D.off (ls' := [true, true, true, true, true, true, true, true, true, true, true, false, false, false, false, false, false, false, false, false, false, false, false, false, false, false, false, false]) 10 rfl rfl rfl rfl (by kernel_rfl) rfl ?_
          refine D.off (ls' := [true, true, true, true, true, true, true, true, true, true, true, true, false, false, false, false, false, false, false, false, false, false, false, false, false, false, false, false]) 11 rfl rfl rfl rfl (by kernel_rfl) rfl ?_
          refine D.off (ls' := [true, true, true, true, true, true, true, true, true, true, true, true, true, false, false, false, false, false, false, false, false, false, false, false, false, false, false, false]) 12 rfl rfl rfl rfl (by kernel_rfl) rfl ?_
          refine D.off (ls' := [true, true, true, true, true, true, true, true, true, true, true, true, true, true, false, false, false, false, false, false, false, false, false, false, false, false, false, false]) 13 rfl rfl rfl rfl (by kernel_rfl) rfl ?_
          refine D.p (ls' := [true, true, true, true, true, true, true, true, true, true, true, true, true, true, true, false, false, false, false, false, false, false, false, false, false, false, false, false]) 14 rfl rfl rfl rfl (by kernel_rfl) rfl (Y.pickF rfl rfl) ?_
          refine D.p (ls' := [true, true, true, true, true, true, true, true, true, true, true, true, true, true, true, true, false, false, false, false, false, false, false, false, false, false, false, false]) 15 rfl rfl rfl rfl (by kernel_rfl) rfl (Y.mv rfl) ?_
          refine D.p (ls' := [true, true, true, true, true, true, true, true, true, true, true, true, true, true, true, true, true, false, false, false, false, false, false, false, false, false, false, false]) 16 rfl rfl rfl rfl (by kernel_rfl) rfl (Y.mv rfl) ?_
          refine D.p (ls' := [true, true, true, true, true, true, true, true, true, true, true, true, true, true, true, true, true, true, false, false, false, false, false, false, false, false, false, false]) 17 rfl rfl rfl rfl (by kernel_rfl) rfl (Y.mv rfl) ?_
          refine D.p (ls' := [true, true, true, true, true, true, true, true, true, true, true, true, true, true, true, true, true, true, true, false, false, false, false, false, false, false, false, false]) 18 rfl rfl rfl rfl (by kernel_rfl) rfl (Y.lenS Try.underlying22 rfl) ?_
          refine D.p (ls' := [true, true, true, true, true, true, true, true, true, true, true, true, true, true, true, true, true, true, true, true, false, false, false, false, false, false, false, false]) 19 rfl rfl rfl rfl (by kernel_rfl) rfl (Y.bin rfl rfl rfl) ?_
          refine D.p (ls' := [true, true, true, true, true, true, true, true, true, true, true, true, true, true, true, true, true, true, true, true, true, false, false, false, false, false, false, false]) 20 rfl rfl rfl rfl (by kernel_rfl) rfl (Y.mv rfl) ?_
          refine split2 H (fun c158 H => ?_) (fun c158 H => ?_)
          · refine D.as (k := 38) rfl (congrArg Value.bool (decide_eq_true c158)) ?_
            refine D.p (ls' := [true, true, true, true, true, true, true, true, true, true, true, true, true, true, true, true, true, true, true, true, true, true, false, false, false, false, false, false]) 21 rfl rfl rfl rfl (by kernel_rfl) rfl (Y.mv rfl) ?_
            refine D.p (ls' := [true, true, true, true, true, true, true, true, true, true, true, true, true, true, true, true, true, true, true, true, true, true, true, false, false, false, false, false]) 22 rfl rfl rfl rfl (by kernel_rfl) rfl (Y.mv rfl) ?_
            obtain ⟨p161, H⟩ := gd_some H
            refine D.know (hx117.1.some_ (j := Int.toNat i115.2) (by rw [List.length_map]; exact idx_lt p161)) (fun hh => ?_)
            obtain ⟨a159, ha160⟩ := hh
            refine D.p (ls' := [true, true, true, true, true, true, true, true, true, true, true, true, true, true, true, true, true, true, true, true, true, true, true, true, false, false, false, false]) 23 rfl rfl rfl rfl (by kernel_rfl) rfl (Y.ixa Try.underlying22 ti5 rfl rfl p161 ha160) ?_
            obtain ⟨p162, H⟩ := gd_some H
            refine D.r (ls' := [true, true, true, true, true, true, true, true, true, true, true, true, true, true, true, true, true, true, true, true, true, true, true, true, true, false, false, false]) 24 1 0 rfl rfl rfl rfl (by kernel_rfl) (by kernel_rfl) rfl rfl (Y.ldE Try.underlying5 rfl rfl ha160 p162 hx117.1) ?_
            refine D.p (ls' := [true, true, true, true, true, true, true, true, true, true, true, true, true, true, true, true, true, true, true, true, true, true, true, true, true, true, false, false]) 25 rfl rfl rfl rfl (by kernel_rfl) rfl (Y.bin rfl rfl rfl) ?_
            refine D.p (ls' := [true, true, true, true, true, true, true, true, true, true, true, true, true, true, true, true, true, true, true, true, true, true, true, true, true, true, true, false]) 26 rfl rfl rfl rfl (by kernel_rfl) rfl (Y.pickT rfl rfl) ?_
            refine D.p (ls' := [true, true, true, true, true, true, true, true, true, true, true, true, true, true, true, true, true, true, true, true, true, true, true, true, true, true, true, true]) 27 rfl rfl rfl rfl (by kernel_rfl) rfl (Y.pickF rfl rfl) ?_
            refine D.nil (by kernel_rfl) ?_
            obtain rfl := Option.some.inj H
            exact N.meet (decide ((rd i115.1 i115.2) ≠ 238), ()) ⟨HK140, trivial⟩ (by exact ⟨rfl, rfl, rfl, rfl, rfl, trivial⟩) (by exact fun w h => h)
          · refine D.as (k := 38) rfl (congrArg Value.bool (decide_eq_false c158)) ?_
            refine D.off (ls' := [true, true, true, true, true, true, true, true, true, true, true, true, true, true, true, true, true, true, true, true, true, true, false, false, false, false, false, false]) 21 rfl rfl rfl rfl (by kernel_rfl) rfl ?_
            refine D.off (ls' := [true, true, true, true, true, true, true, true, true, true, true, true, true, true, true, true, true, true, true, true, true, true, true, false, false, false, false, false]) 22 rfl rfl rfl rfl (by kernel_rfl) rfl ?_
            refine D.off (ls' := [true, true, true, true, true, true, true, true, true, true, true, true, true, true, true, true, true, true, true, true, true, true, true, true, false, false, false, false]) 23 rfl rfl rfl rfl (by kernel_rfl) rfl ?_
            refine D.off (ls' := [true, true, true, true, true, true, true, true, true, true, true, true, true, true, true, true, true, true, true, true, true, true, true, true, true, false, false, false]) 24 rfl rfl rfl rfl (by kernel_rfl) rfl ?_
            refine D.off (ls' := [true, true, true, true, true, true, true, true, true, true, true, true, true, true, true, true, true, true, true, true, true, true, true, true, true, true, false, false]) 25 rfl rfl rfl rfl (by kernel_rfl) rfl ?_
            refine D.p (ls' := [true, true, true, true, true, true, true, true, true, true, true, true, true, true, true, true, true, true, true, true, true, true, true, true, true, true, true, false]) 26 rfl rfl rfl rfl (by kernel_rfl) rfl (Y.pickF rfl rfl) ?_
            refine D.p (ls' := [true, true, true, true, true, true, true, true, true, true, true, true, true, true, true, true, true, true, true, true, true, true, true, true, true, true, true, true]) 27 rfl rfl rfl rfl (by kernel_rfl) rfl (Y.pickF rfl rfl) ?_
            refine D.nil (by kernel_rfl) ?_
            obtain rfl := Option.some.inj H
            exact N.meet (false, ()) ⟨HK140, trivial⟩ (by exact ⟨rfl, rfl, rfl, rfl, rfl, trivial⟩) (by exact fun w h => h)
      · refine C.at (s' := [(0, .slice Aa0 a0.length ca0), (1, .slice Aa1 a1.length ca1), (5, .slice j116.1 i115.1.length j116.2), (6, .int .i64 i115.2), (45, .bool o141)]) (G' := G) rfl rfl ?_
        refine split2 H (fun c163 H => ?_) (fun c163 H => ?_)
        · refine C.condT (congrArg (fun b => some (Value.bool b)) (c163)) ?_
          refine C.rs ?_
          refine J.p rfl rfl rfl rfl (Y.asg rfl) ?_
          refine J.nx ?_
          refine C.ret ?_
          obtain rfl := Option.some.inj H
          obtain rfl := fin_inl HK57
          refine T.ib ?_
          refine T.th ?_
          refine T.th ?_
          refine T.ib ?_
          refine T.th ?_
          refine T.th ?_
          exact ret_ok (ks := [4]) rfl rfl (fun w h => ⟨rfl, h⟩)
        · refine C.condF (congrArg (fun b => some (Value.bool b)) (nt c163)) ?_
          refine C.skip ?_
          refine N.ib ?_
          refine N.nx ?_
          refine C.reg ?_
          refine J.p rfl rfl rfl rfl (Y.mv rfl) ?_
          refine J.p rfl rfl rfl rfl (Y.bin rfl rfl rfl) ?_
          refine J.p rfl rfl rfl rfl (Y.asg rfl) ?_
          refine J.nil ?_
          exact N.again (k114, (i115.1, IntKind.wrap .i64 (i115.2 + 1)), (j116.1, j116.2)) ⟨H, ⟨hx117.1, hx117.2⟩⟩ (Nat.lt_succ_self _) (by exact ⟨rfl, rfl, rfl, rfl, trivial⟩) (by exact fun w h => h)
    · refine C.condF (congrArg (fun b => some (Value.bool b)) (decide_eq_false c118)) ?_
      refine C.exit ?_
      refine X.th ?_
      refine X.th ?_
      refine X.hit ?_
      obtain rfl := Option.some.inj H
      exact N.meet ((), ()) ⟨fin_inr HK57, trivial⟩ (by exact ⟨rfl, rfl, trivial⟩) (by exact fun w h => h)
  · refine N.at (s' := [(0, .slice Aa0 a0.length ca0), (1, .slice Aa1 a1.length ca1)]) (G' := G) rfl rfl ?_
    refine N.nx ?_
    refine C.rs ?_
    refine J.p rfl rfl rfl rfl (Y.mv rfl) ?_
    refine J.p rfl rfl rfl rfl (Y.lenS Try.underlying22 rfl) ?_
    refine J.p rfl rfl rfl rfl (Y.mv rfl) ?_
    refine J.p rfl rfl rfl rfl (Y.lenS Try.underlying22 rfl) ?_
    refine J.p rfl rfl rfl rfl (Y.bin rfl rfl rfl) ?_
    refine J.p rfl rfl rfl rfl (Y.asg rfl) ?_
    refine J.nx ?_
    refine C.ret ?_
    obtain rfl := Option.some.inj H
    exact ret_ok (ks := [4]) rfl rfl (fun w h => ⟨rfl, h⟩)
/-! ### salvor/salvorlaw2.turned: function 18 -/
def turned.l1 : Nat → (Int × (List Int)) → Option ((List Int))
  | 0, _ => none
  | k + 1, i41 => if i41.1 < (i41.2.length : Int) then (gd ((0 : Int) ≤ i41.1 ∧ i41.1 < (i41.2.length : Int)) (gd ((0 : Int) ≤ i41.1 ∧ i41.1 < (i41.2.length : Int)) (gd ((0 : Int) ≤ i41.1 ∧ i41.1 < (i41.2.length : Int)) (turned.l1 k (IntKind.wrap .i64 (i41.1 + 1), (i41.2.set (Int.toNat i41.1) (Sx.bits .xor .u8 (rd i41.2 i41.1) (IntKind.wrap .u8 (IntKind.wrap .i64 (1 + (Int.tmod i41.1 2))))))))))) else (some i41.2)
def turned.f (K : Nat) (a0 : List Int) (z0 : List Int) : Option ((List Int)) := (turned.l1 K (0, a0)).bind fun o20 => some o20
theorem turned.calls {B : Nat} {w0 : World} {G : List HP} (K : Nat) (a0 : List Int) (z0 : List Int) (Aa0 : Option Addr) (ca0 : Nat) (r : (List Int)) (H : turned.f K a0 z0 = some r) (w : World) (hw : St B w0 (own 5 1 Aa0 ca0 ((a0 ++ z0).map (Value.int .u8)) :: G) w) :
    Calls Try.prog 18 [.slice Aa0 a0.length ca0].toArray w (fun e w' => e = .returned (.tuple #[]) ∧ St B w0 (own 5 1 Aa0 ca0 ((r ++ z0).map (Value.int .u8)) :: G) w' ∧ r.length = a0.length) := by
  unfold turned.f at H
  refine calls_of (n := 21) (s := [(0, .slice Aa0 a0.length ca0)]) Try.func18 rfl rfl rfl rfl ?_ hw
  refine C.rs ?_
  refine J.p rfl rfl rfl rfl (Y.asg rfl) ?_
  refine J.nx ?_
  refine C.joinN H (fun (o20 : (List Int)) (j21 : Unit) => []) (fun (o20 : (List Int)) (j21 : Unit) => own 5 1 Aa0 ca0 ((o20 ++ z0).map (Value.int .u8)) :: G) (fun (o20 : (List Int)) (j21 : Unit) => (o20.length = a0.length)) (fun o18 H HK19 => ?_) (fun o20 j21 H hx22 => ?_)
  · refine C.blk ?_
    refine C.loop (fun (i : Nat × (Int × (List Int)) × (Unit)) => [(0, .slice Aa0 i.2.1.2.length ca0), (2, .int .i64 i.2.1.1)]) (fun (i : Nat × (Int × (List Int)) × (Unit)) => own 5 1 Aa0 ca0 ((i.2.1.2 ++ z0).map (Value.int .u8)) :: G) (fun (i : Nat × (Int × (List Int)) × (Unit)) => turned.l1 i.1 i.2.1 = some o18 ∧ ((i.2.1.2.length = a0.length))) (fun i => i.1) (K, (0, a0), ()) ⟨H, rfl⟩ (by exact ⟨rfl, rfl, trivial⟩) (by exact fun w h => h) ?_
    rintro ⟨k50, i41, j42⟩ ⟨H, hx43⟩
    replace H : turned.l1 k50 i41 = some o18 := H
    obtain ⟨k40, rfl⟩ : ∃ m, k50 = m + 1 := by cases k50 with | zero => exact absurd H (by simp [turned.l1]) | succ m => exact ⟨m, rfl⟩
    rw [turned.l1] at H
    refine C.at (s' := [(0, .slice Aa0 i41.2.length ca0), (2, .int .i64 i41.1)]) (G' := own 5 1 Aa0 ca0 ((i41.2 ++ z0).map (Value.int .u8)) :: G) rfl rfl ?_
    refine C.seq ?_
    refine C.rs ?_
    refine J.p rfl rfl rfl rfl (Y.mv rfl) ?_
    refine J.p rfl rfl rfl rfl (Y.mv rfl) ?_
    refine J.p rfl rfl rfl rfl (Y.lenS Try.underlying22 rfl) ?_
    refine J.p rfl rfl rfl rfl (Y.bin rfl rfl rfl) ?_
    refine J.nx ?_
    refine split2 H (fun c44 H => ?_) (fun c44 H => ?_)
    · refine C.condT (congrArg (fun b => some (Value.bool b)) (decide_eq_true c44)) ?_
      refine C.skip ?_
      refine N.nx ?_
      refine C.seq ?_
      refine C.blk ?_
      refine C.reg ?_
      refine J.p rfl rfl rfl rfl (Y.mv rfl) ?_
      refine J.p rfl rfl rfl rfl (Y.mv rfl) ?_
      refine J.p rfl rfl rfl rfl (Y.mv rfl) ?_
      refine J.p rfl rfl rfl rfl (Y.mv rfl) ?_
      obtain ⟨p45, H⟩ := gd_some H
      refine J.el rfl rfl rfl Try.underlying22 ti5 Try.underlying5 rfl rfl rfl p45 (RdG.pre (RdG.own 0 rfl)) ?_
      refine J.p rfl rfl rfl rfl (Y.mv rfl) ?_
      refine J.p rfl rfl rfl rfl (Y.rem rfl rfl (by decide)) ?_
      refine J.p rfl rfl rfl rfl (Y.bin rfl rfl rfl) ?_
      refine J.p rfl rfl rfl rfl (Y.conv Try.underlying3 Try.underlying5 rfl) ?_
      refine J.p rfl rfl rfl rfl (Y.bin rfl rfl rfl) ?_
      obtain ⟨p48, H⟩ := gd_some H
      refine J.know ((RdG.pre (RdG.own 0 rfl)).some_ (j := Int.toNat i41.1) (by rw [List.length_map]; exact idx_lt p48)) (fun hh => ?_)
      obtain ⟨a46, ha47⟩ := hh
      refine J.p rfl rfl rfl rfl (Y.ixa Try.underlying22 ti5 rfl rfl p48 ha47) ?_
      obtain ⟨p49, H⟩ := gd_some H
      refine J.stoLz (enc := (Value.int .u8)) ti5 ha47 rfl rfl rfl p49 ?_
      refine J.as (k := 0) rfl (set_len i41.2 (Int.toNat i41.1) (Sx.bits .xor .u8 (rd i41.2 i41.1) (IntKind.wrap .u8 (IntKind.wrap .i64 (1 + (Int.tmod i41.1 2)))))) ?_
      refine J.nil ?_
      refine N.ib ?_
      refine N.nx ?_
      refine C.reg ?_
      refine J.p rfl rfl rfl rfl (Y.mv rfl) ?_
      refine J.p rfl rfl rfl rfl (Y.bin rfl rfl rfl) ?_
      refine J.p rfl rfl rfl rfl (Y.asg rfl) ?_
      refine J.nil ?_
      exact N.again (k40, (IntKind.wrap .i64 (i41.1 + 1), (i41.2.set (Int.toNat i41.1) (Sx.bits .xor .u8 (rd i41.2 i41.1) (IntKind.wrap .u8 (IntKind.wrap .i64 (1 + (Int.tmod i41.1 2))))))), ()) ⟨H, (List.length_set.trans hx43)⟩ (Nat.lt_succ_self _) (by exact ⟨rfl, rfl, trivial⟩) (by exact fun w h => h)
    · refine C.condF (congrArg (fun b => some (Value.bool b)) (decide_eq_false c44)) ?_
      refine C.exit ?_
      refine X.th ?_
      refine X.th ?_
      refine X.hit ?_
      obtain rfl := Option.some.inj H
      exact N.meet (i41.2, ()) ⟨HK19, hx43⟩ (by exact trivial) (by exact fun w h => h)
  · refine N.at (s' := []) (G' := own 5 1 Aa0 ca0 ((o20 ++ z0).map (Value.int .u8)) :: G) rfl rfl ?_
    obtain rfl := Option.some.inj H
    exact end_ok (ks := []) rfl rfl (fun w h => ⟨rfl, h, hx22⟩)
end Go.Proofs.Ytocfkhpfpepcmaa
