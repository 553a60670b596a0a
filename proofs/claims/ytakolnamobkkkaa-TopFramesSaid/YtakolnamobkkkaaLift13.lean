/- Own text, printed by the lifting program: each Go function beside a plain function, and the proof that a call of the one comes to the other. Conditions: what came in can be read. -/
import Derived.Test.YtakolnamobkkkaaLiftC
set_option linter.unusedVariables false
set_option linter.unusedSimpArgs false
set_option maxRecDepth 10000
set_option maxHeartbeats 4000000
namespace Go.Proofs.Ytakolnamobkkkaa
open Go Go.Sx
theorem ti64 : TI Try.prog 64 4 32 (.agg #[.int .i64 0, .int .i64 0, .int .i64 0, .int .i64 0]) := TI.of (by kernel_rfl)
theorem go29 : GoF Try.prog 29 := GoF.of Try.func29 (by kernel_rfl) (by kernel_rfl)
theorem go30 : GoF Try.prog 30 := GoF.of Try.func30 (by kernel_rfl) (by kernel_rfl)
theorem go31 : GoF Try.prog 31 := GoF.of Try.func31 (by kernel_rfl) (by kernel_rfl)
/-! ### salvor/salvortop.TopFrames: function 13 -/
def TopFrames.l1 (o96 : Int) (t99 : Int) (t13 : (List Int)) : Nat → ((List Int) × Bool × Int) → Option ((List Int) × Bool)
  | 0, _ => none
  | k + 1, i177 => if i177.2.2 < 32 then (((gd ((0 : Int) ≤ (IntKind.wrap .u64 i177.2.2)) (if (Sx.bits .and .u32 (Sx.shr .u32 o96 (IntKind.wrap .u64 i177.2.2)) 1) = 1 then (some (decide ((IntKind.wrap .i64 (t99 + i177.2.2)) < (IntKind.wrap .i64 (8 * (IntKind.wrap .i64 ((t13.length : Int) - 9))))))) else (some false))).bind fun o199 => if o199 = true then (gd ((0 : Int) ≤ (IntKind.wrap .i64 (4 + (IntKind.wrap .i64 (Int.tdiv (IntKind.wrap .i64 (t99 + i177.2.2)) 8)))) ∧ (IntKind.wrap .i64 (4 + (IntKind.wrap .i64 (Int.tdiv (IntKind.wrap .i64 (t99 + i177.2.2)) 8)))) < (i177.1.length : Int)) (gd ((0 : Int) ≤ (IntKind.wrap .u64 (Int.tmod (IntKind.wrap .i64 (t99 + i177.2.2)) 8))) (gd ((0 : Int) ≤ (IntKind.wrap .i64 (4 + (IntKind.wrap .i64 (Int.tdiv (IntKind.wrap .i64 (t99 + i177.2.2)) 8)))) ∧ (IntKind.wrap .i64 (4 + (IntKind.wrap .i64 (Int.tdiv (IntKind.wrap .i64 (t99 + i177.2.2)) 8)))) < (i177.1.length : Int)) (gd ((0 : Int) ≤ (IntKind.wrap .i64 (4 + (IntKind.wrap .i64 (Int.tdiv (IntKind.wrap .i64 (t99 + i177.2.2)) 8)))) ∧ (IntKind.wrap .i64 (4 + (IntKind.wrap .i64 (Int.tdiv (IntKind.wrap .i64 (t99 + i177.2.2)) 8)))) < (i177.1.length : Int)) (some ((i177.1.set (Int.toNat (IntKind.wrap .i64 (4 + (IntKind.wrap .i64 (Int.tdiv (IntKind.wrap .i64 (t99 + i177.2.2)) 8))))) (Sx.bits .xor .u8 (rd i177.1 (IntKind.wrap .i64 (4 + (IntKind.wrap .i64 (Int.tdiv (IntKind.wrap .i64 (t99 + i177.2.2)) 8))))) (Sx.shl .u8 1 (IntKind.wrap .u64 (Int.tmod (IntKind.wrap .i64 (t99 + i177.2.2)) 8))))), true)))))) else (some (i177.1, i177.2.1))).bind fun o194 => TopFrames.l1 o96 t99 t13 k (o194.1, o194.2, IntKind.wrap .i64 (i177.2.2 + 1))) else (some (i177.1, i177.2.1))
def TopFrames.f (K : Nat) (a0_0 : Int) (a0_1 : Int) (a0_2 : Int) (a0_3 : Int) (a1 : Int) (a2 : List Int) (a3 : Int) (a4 : Int) : Option (Bool) := (if a1 = 0 then (some 1) else (some a1)).bind fun o6 => (recordOf.f K a0_0 a0_1 a0_2 a0_3 o6).bind fun t9 => (framed.f K t9.1 t9.2.1 t9.2.2.1 t9.2.2.2).bind fun t13 => (if (t13.length : Int) < 12 then (some true) else (gd ((0 : Int) ≤ 0 ∧ 0 < (t13.length : Int)) (gd ((0 : Int) ≤ 0 ∧ 0 < (t13.length : Int)) (some (decide ((rd t13 0) ≠ 167)))))).bind fun o23 => if o23 = true then (some false) else ((joined.f t13 a2).bind fun t34 => (fDecode.f K t34 0).bind fun t40 => (joined.f a2 t13).bind fun t45 => (fDecode.f K t45 (a2.length : Int)).bind fun t51 => (if t40.2.2.2.2.2.2.2.2.2.2.2.2.2.2.2 ≠ 0 then (some true) else (if t51.2.2.2.2.2.2.2.2.2.2.2.2.2.2.2 ≠ 0 then (some true) else (if t40.2.2.2.2.2.2.2.2.2.2.2.2.2.2.1 ≠ (t13.length : Int) then (some true) else (if t51.2.2.2.2.2.2.2.2.2.2.2.2.2.2.1 ≠ (t13.length : Int) then (some true) else (if t40.1 = t9.2.1 ∧ (t40.2.1 = t9.1 ∧ t40.2.2.1 = t9.2.1 ∧ t40.2.2.2.1 = t9.2.2.1 ∧ t40.2.2.2.2.1 = t9.2.2.2 ∧ True) ∧ (t40.2.2.2.2.2.1 = 0 ∧ t40.2.2.2.2.2.2.1 = 0 ∧ t40.2.2.2.2.2.2.2.1 = 0 ∧ t40.2.2.2.2.2.2.2.2.1 = 0 ∧ t40.2.2.2.2.2.2.2.2.2.1 = ByteArray.empty ∧ True) ∧ (t40.2.2.2.2.2.2.2.2.2.2.1 = 0 ∧ (t40.2.2.2.2.2.2.2.2.2.2.2.1 = 0 ∧ t40.2.2.2.2.2.2.2.2.2.2.2.2.1 = 0 ∧ t40.2.2.2.2.2.2.2.2.2.2.2.2.2.1 = 0 ∧ True) ∧ True) ∧ True then (some (!(decide (t51.1 = t9.2.1 ∧ (t51.2.1 = t9.1 ∧ t51.2.2.1 = t9.2.1 ∧ t51.2.2.2.1 = t9.2.2.1 ∧ t51.2.2.2.2.1 = t9.2.2.2 ∧ True) ∧ (t51.2.2.2.2.2.1 = 0 ∧ t51.2.2.2.2.2.2.1 = 0 ∧ t51.2.2.2.2.2.2.2.1 = 0 ∧ t51.2.2.2.2.2.2.2.2.1 = 0 ∧ t51.2.2.2.2.2.2.2.2.2.1 = ByteArray.empty ∧ True) ∧ (t51.2.2.2.2.2.2.2.2.2.2.1 = 0 ∧ (t51.2.2.2.2.2.2.2.2.2.2.2.1 = 0 ∧ t51.2.2.2.2.2.2.2.2.2.2.2.2.1 = 0 ∧ t51.2.2.2.2.2.2.2.2.2.2.2.2.2.1 = 0 ∧ True) ∧ True) ∧ True)))) else (some true)))))).bind fun o62 => if o62 = true then (some false) else (gd ((0 : Int) ≤ 1 ∧ (0 : Int) ≤ 4 ∧ ((Int.toNat 1) ≤ (Int.toNat 4) ∧ (Int.toNat 4) ≤ t13.length)) ((Number.f K ((t13.take (Int.toNat 4)).drop (Int.toNat 1)) 3).bind fun t74 => (if t74.2 ≠ 0 then (some true) else (if (IntKind.wrap .i64 t74.1) ≠ (IntKind.wrap .i64 ((t13.length : Int) - 9)) then (some true) else ((Next.f t13 1).bind fun t89 => some (decide (t89 ≠ (t13.length : Int)))))).bind fun o82 => if o82 = true then (some false) else ((if a4 = 0 then (some 1) else (some a4)).bind fun o96 => (pick.f a3 (IntKind.wrap .i64 (8 * (IntKind.wrap .i64 ((t13.length : Int) - 9))))).bind fun t99 => (TopFrames.l1 o96 t99 t13 K (t13, false, 0)).bind fun o138 => (fDecode.f K o138.1 0).bind fun t214 => some (decide ((decide (t214.2.2.2.2.2.2.2.2.2.2.2.2.2.2.2 ≠ 0)) = o138.2))))))
theorem TopFrames.calls {B : Nat} {w0 : World} {G : List HP} (K : Nat) (a0_0 : Int) (a0_1 : Int) (a0_2 : Int) (a0_3 : Int) (a1 : Int) (a2 : List Int) (a3 : Int) (a4 : Int) (Aa2 : Option Addr) (ca2 : Nat) (ha2 : RdG B w0 G Aa2 (a2.map (Value.int .u8))) (ka2 : a2.length ≤ ca2) (r : Bool) (H : TopFrames.f K a0_0 a0_1 a0_2 a0_3 a1 a2 a3 a4 = some r) (w : World) (hw : St B w0 (G) w) :
    Calls Try.prog 13 [.agg #[.int .i64 a0_0, .int .i64 a0_1, .int .i64 a0_2, .int .i64 a0_3], .int .u64 a1, .slice Aa2 a2.length ca2, .int .i64 a3, .int .u32 a4].toArray w (fun e w' => e = .returned (.bool r) ∧ St B w0 (G) w') := by
  unfold TopFrames.f at H
  refine calls_of (n := 172) (s := [(0, .agg #[.int .i64 a0_0, .int .i64 a0_1, .int .i64 a0_2, .int .i64 a0_3]), (1, .int .u64 a1), (2, .slice Aa2 a2.length ca2), (3, .int .i64 a3), (4, .int .u32 a4)]) Try.func13 rfl rfl rfl rfl ?_ hw
  refine C.rs ?_
  refine J.box (L := [.int .i64 a0_0, .int .i64 a0_1, .int .i64 a0_2, .int .i64 a0_3]) rfl rfl rfl (fun g1 => ?_)
  refine J.p rfl rfl rfl rfl (Y.asg rfl) ?_
  refine J.nx ?_
  refine C.seq ?_
  refine C.rs ?_
  refine J.p rfl rfl rfl rfl (Y.mv rfl) ?_
  refine J.p rfl rfl rfl rfl (Y.bin rfl rfl rfl) ?_
  refine J.nx ?_
  refine C.joinN H (fun (o6 : Int) (j7 : Unit) => [(1, .int .u64 o6), (2, .slice Aa2 a2.length ca2), (3, .int .i64 a3), (4, .int .u32 a4), (5, .pointer (some ⟨g1, 0, none⟩))]) (fun (o6 : Int) (j7 : Unit) => cells g1 64 [.int .i64 a0_0, .int .i64 a0_1, .int .i64 a0_2, .int .i64 a0_3] :: G) (fun (o6 : Int) (j7 : Unit) => True) (fun o4 H HK5 => ?_) (fun o6 j7 H _ => ?_)
  · refine split2 H (fun c8 H => ?_) (fun c8 H => ?_)
    · refine C.condT (congrArg (fun b => some (Value.bool b)) (decide_eq_true c8)) ?_
      refine C.reg ?_
      refine J.p rfl rfl rfl rfl (Y.asg rfl) ?_
      refine J.nil ?_
      obtain rfl := Option.some.inj H
      exact N.meet (1, ()) ⟨HK5, trivial⟩ (by exact ⟨rfl, rfl, rfl, rfl, rfl, trivial⟩) (by exact fun w h => h)
    · refine C.condF (congrArg (fun b => some (Value.bool b)) (decide_eq_false c8)) ?_
      refine C.skip ?_
      obtain rfl := Option.some.inj H
      exact N.meet (a1, ()) ⟨HK5, trivial⟩ (by exact ⟨rfl, rfl, rfl, rfl, rfl, trivial⟩) (by exact fun w h => h)
  · refine N.at (s' := [(1, .int .u64 o6), (2, .slice Aa2 a2.length ca2), (3, .int .i64 a3), (4, .int .u32 a4), (5, .pointer (some ⟨g1, 0, none⟩))]) (G' := cells g1 64 [.int .i64 a0_0, .int .i64 a0_1, .int .i64 a0_2, .int .i64 a0_3] :: G) rfl rfl ?_
    refine N.nx ?_
    refine C.rs ?_
    refine J.r rfl rfl rfl rfl (Y.ldCA (us := [.int .i64 a0_0, .int .i64 a0_1, .int .i64 a0_2, .int .i64 a0_3]) 0 Try.underlying64 rfl ti64 rfl rfl rfl rfl) ?_
    refine J.p rfl rfl rfl rfl (Y.mv rfl) ?_
    obtain ⟨t9, hC10, H⟩ := bind_some H
    refine J.call (us := []) (cap := []) rfl rfl rfl go29 (fun w hw => by have hcc := recordOf.calls K a0_0 a0_1 a0_2 a0_3 o6 t9 hC10 w hw; exact hcc) (fun e w1 h1 => ?_)
    obtain ⟨rfl, hw226⟩ := h1
    refine ⟨_, _, rfl, hw226, ?_⟩
    refine J.alloc (L := [.int .u64 0, .int .i64 0, .string ByteArray.empty, .string ByteArray.empty]) rfl ti27 rfl (fun g11 => ?_)
    refine J.stA (us := [.int .u64 t9.1, .int .i64 t9.2.1, .string t9.2.2.1, .string t9.2.2.2]) (L' := [.int .u64 t9.1, .int .i64 t9.2.1, .string t9.2.2.1, .string t9.2.2.2]) ti27 rfl rfl rfl rfl rfl rfl ?_
    refine J.nx ?_
    refine C.rs ?_
    refine J.r rfl rfl rfl rfl (Y.ldCA (us := [.int .u64 t9.1, .int .i64 t9.2.1, .string t9.2.2.1, .string t9.2.2.2]) 0 Try.underlying27 rfl ti27 rfl rfl rfl rfl) ?_
    obtain ⟨t13, hC14, H⟩ := bind_some H
    refine J.call (us := []) (cap := []) rfl rfl rfl go30 (fun w hw => by have hcc := framed.calls K t9.1 t9.2.1 t9.2.2.1 t9.2.2.2 t13 hC14 w hw; exact hcc) (fun e w1 h1 => ?_)
    obtain ⟨A15, c16, rfl, hw225⟩ := h1
    refine ⟨_, _, rfl, hw225, ?_⟩
    refine J.p rfl rfl rfl rfl (Y.asg rfl) ?_
    refine J.nx ?_
    refine C.seq ?_
    refine C.rs ?_
    refine J.joinB H (fun (o23 : Bool) (j24 : Unit) => [(2, .slice Aa2 a2.length ca2), (3, .int .i64 a3), (4, .int .u32 a4), (11, .pointer (some ⟨g11, 0, none⟩)), (12, .slice A15 t13.length c16), (45, .bool o23)]) (fun (o23 : Bool) (j24 : Unit) => cells g11 27 [.int .u64 t9.1, .int .i64 t9.2.1, .string t9.2.2.1, .string t9.2.2.2] :: own 5 1 A15 c16 (t13.map (Value.int .u8)) :: G) (fun (o23 : Bool) (j24 : Unit) => True) (fun o25 H HK26 => ?_) (fun o23 j24 H _ => ?_)
    · refine J.p rfl rfl rfl rfl (Y.mv rfl) ?_
      refine J.p rfl rfl rfl rfl (Y.lenS Try.underlying22 rfl) ?_
      refine J.p rfl rfl rfl rfl (Y.bin rfl rfl rfl) ?_
      refine J.p rfl rfl rfl rfl (Y.mv rfl) ?_
      refine split2 H (fun c27 H => ?_) (fun c27 H => ?_)
      · refine J.as (k := 40) rfl (congrArg Value.bool (decide_eq_true c27)) ?_
        refine J.skip rfl rfl ?_
        refine J.skip rfl rfl ?_
        refine J.skip rfl rfl ?_
        refine J.skip rfl rfl ?_
        refine J.p rfl rfl rfl rfl (Y.pickT rfl rfl) ?_
        refine J.nil ?_
        obtain rfl := Option.some.inj H
        exact N.meet (true, ()) ⟨HK26, trivial⟩ (by exact ⟨rfl, rfl, rfl, rfl, rfl, rfl, trivial⟩) (by exact fun w h => (St.pick [1, 0] [_, _, _] h rfl))
      · refine J.as (k := 40) rfl (congrArg Value.bool (decide_eq_false c27)) ?_
        refine J.p rfl rfl rfl rfl (Y.mv rfl) ?_
        obtain ⟨p30, H⟩ := gd_some H
        refine J.know ((RdG.own 0 rfl).some_ (j := Int.toNat 0) (by rw [List.length_map]; exact idx_lt p30)) (fun hh => ?_)
        obtain ⟨a28, ha29⟩ := hh
        refine J.p rfl rfl rfl rfl (Y.ixa Try.underlying22 ti5 rfl rfl p30 ha29) ?_
        obtain ⟨p31, H⟩ := gd_some H
        refine J.r rfl rfl rfl rfl (Y.ldE Try.underlying5 rfl rfl ha29 p31 (RdG.own 0 rfl)) ?_
        refine J.p rfl rfl rfl rfl (Y.bin rfl rfl rfl) ?_
        refine J.p rfl rfl rfl rfl (Y.pickF rfl rfl) ?_
        refine J.nil ?_
        obtain rfl := Option.some.inj H
        exact N.meet (decide ((rd t13 0) ≠ 167), ()) ⟨HK26, trivial⟩ (by exact ⟨rfl, rfl, rfl, rfl, rfl, rfl, trivial⟩) (by exact fun w h => (St.pick [1, 0] [_, _, _] h rfl))
    · refine C.at (s' := [(2, .slice Aa2 a2.length ca2), (3, .int .i64 a3), (4, .int .u32 a4), (11, .pointer (some ⟨g11, 0, none⟩)), (12, .slice A15 t13.length c16), (45, .bool o23)]) (G' := cells g11 27 [.int .u64 t9.1, .int .i64 t9.2.1, .string t9.2.2.1, .string t9.2.2.2] :: own 5 1 A15 c16 (t13.map (Value.int .u8)) :: G) rfl rfl ?_
      refine split2 H (fun c32 H => ?_) (fun c32 H => ?_)
      · refine C.condT (congrArg (fun b => some (Value.bool b)) (c32)) ?_
        refine C.rs ?_
        refine J.p rfl rfl rfl rfl (Y.asg rfl) ?_
        refine J.nx ?_
        refine C.ret ?_
        obtain rfl := Option.some.inj H
        refine T.th ?_
        exact ret_ok (ks := [10]) rfl rfl (fun w h => ⟨rfl, (St.pick [] [_, _] h rfl)⟩)
      · refine C.condF (congrArg (fun b => some (Value.bool b)) (nt c32)) ?_
        refine C.skip ?_
        refine N.nx ?_
        refine C.rs ?_
        refine J.p rfl rfl rfl rfl (Y.mv rfl) ?_
        refine J.p rfl rfl rfl rfl (Y.mv rfl) ?_
        refine J.know (own_leL 1 rfl) (fun hc33 => ?_)
        obtain ⟨t34, hC35, H⟩ := bind_some H
        refine J.call (us := []) (cap := []) rfl rfl rfl go31 (fun w hw => by have hcc := joined.calls t13 a2 A15 c16 Aa2 ca2 (RdG.own 1 rfl) hc33 (ha2.suf [_, _] rfl) ka2 t34 hC35 w hw; exact hcc) (fun e w1 h1 => ?_)
        obtain ⟨A36, c37, rfl, hw224⟩ := h1
        refine ⟨_, _, rfl, hw224, ?_⟩
        refine J.know (own_leL 0 rfl) (fun hc39 => ?_)
        obtain ⟨t40, hC41, H⟩ := bind_some H
        refine J.call (us := []) (cap := []) rfl rfl rfl go15 (fun w hw => by have hcc := fDecode.calls K t34 0 A36 c37 (RdG.own 0 rfl) hc39 t40 hC41 w hw; exact hcc) (fun e w1 h1 => ?_)
        obtain ⟨rfl, hw223⟩ := h1
        refine ⟨_, _, rfl, hw223, ?_⟩
        refine J.p rfl rfl rfl rfl (Y.mv rfl) ?_
        refine J.p rfl rfl rfl rfl (Y.ext rfl rfl) ?_
        refine J.p rfl rfl rfl rfl (Y.ext rfl rfl) ?_
        refine J.p rfl rfl rfl rfl (Y.ext rfl rfl) ?_
        refine J.alloc (L := [.int .i64 0, .int .u64 0, .int .i64 0, .string ByteArray.empty, .string ByteArray.empty, .int .u64 0, .int .i64 0, .int .i64 0, .int .i64 0, .string ByteArray.empty, .int .i64 0, .int .i64 0, .int .i64 0, .int .u32 0]) rfl ti36 rfl (fun g42 => ?_)
        refine J.stA (us := [.int .i64 t40.1, .int .u64 t40.2.1, .int .i64 t40.2.2.1, .string t40.2.2.2.1, .string t40.2.2.2.2.1, .int .u64 t40.2.2.2.2.2.1, .int .i64 t40.2.2.2.2.2.2.1, .int .i64 t40.2.2.2.2.2.2.2.1, .int .i64 t40.2.2.2.2.2.2.2.2.1, .string t40.2.2.2.2.2.2.2.2.2.1, .int .i64 t40.2.2.2.2.2.2.2.2.2.2.1, .int .i64 t40.2.2.2.2.2.2.2.2.2.2.2.1, .int .i64 t40.2.2.2.2.2.2.2.2.2.2.2.2.1, .int .u32 t40.2.2.2.2.2.2.2.2.2.2.2.2.2.1]) (L' := [.int .i64 t40.1, .int .u64 t40.2.1, .int .i64 t40.2.2.1, .string t40.2.2.2.1, .string t40.2.2.2.2.1, .int .u64 t40.2.2.2.2.2.1, .int .i64 t40.2.2.2.2.2.2.1, .int .i64 t40.2.2.2.2.2.2.2.1, .int .i64 t40.2.2.2.2.2.2.2.2.1, .string t40.2.2.2.2.2.2.2.2.2.1, .int .i64 t40.2.2.2.2.2.2.2.2.2.2.1, .int .i64 t40.2.2.2.2.2.2.2.2.2.2.2.1, .int .i64 t40.2.2.2.2.2.2.2.2.2.2.2.2.1, .int .u32 t40.2.2.2.2.2.2.2.2.2.2.2.2.2.1]) ti36 rfl rfl rfl rfl rfl rfl ?_
        refine J.p rfl rfl rfl rfl (Y.asg rfl) ?_
        refine J.p rfl rfl rfl rfl (Y.asg rfl) ?_
        refine J.nx ?_
        refine C.rs ?_
        refine J.p rfl rfl rfl rfl (Y.mv rfl) ?_
        refine J.p rfl rfl rfl rfl (Y.mv rfl) ?_
        refine J.know (own_leL 3 rfl) (fun hc44 => ?_)
        obtain ⟨t45, hC46, H⟩ := bind_some H
        refine J.call (us := []) (cap := []) rfl rfl rfl go31 (fun w hw => by have hcc := joined.calls a2 t13 Aa2 ca2 A15 c16 (ha2.suf [_, _, _, _] rfl) ka2 (RdG.own 3 rfl) hc44 t45 hC46 w hw; exact hcc) (fun e w1 h1 => ?_)
        obtain ⟨A47, c48, rfl, hw222⟩ := h1
        refine ⟨_, _, rfl, hw222, ?_⟩
        refine J.p rfl rfl rfl rfl (Y.mv rfl) ?_
        refine J.p rfl rfl rfl rfl (Y.lenS Try.underlying22 rfl) ?_
        refine J.know (own_leL 0 rfl) (fun hc50 => ?_)
        obtain ⟨t51, hC52, H⟩ := bind_some H
        refine J.call (us := []) (cap := []) rfl rfl rfl go15 (fun w hw => by have hcc := fDecode.calls K t45 (a2.length : Int) A47 c48 (RdG.own 0 rfl) hc50 t51 hC52 w hw; exact hcc) (fun e w1 h1 => ?_)
        obtain ⟨rfl, hw221⟩ := h1
        refine ⟨_, _, rfl, hw221, ?_⟩
        refine J.p rfl rfl rfl rfl (Y.mv rfl) ?_
        refine J.p rfl rfl rfl rfl (Y.ext rfl rfl) ?_
        refine J.p rfl rfl rfl rfl (Y.ext rfl rfl) ?_
        refine J.p rfl rfl rfl rfl (Y.ext rfl rfl) ?_
        refine J.alloc (L := [.int .i64 0, .int .u64 0, .int .i64 0, .string ByteArray.empty, .string ByteArray.empty, .int .u64 0, .int .i64 0, .int .i64 0, .int .i64 0, .string ByteArray.empty, .int .i64 0, .int .i64 0, .int .i64 0, .int .u32 0]) rfl ti36 rfl (fun g53 => ?_)
        refine J.stA (us := [.int .i64 t51.1, .int .u64 t51.2.1, .int .i64 t51.2.2.1, .string t51.2.2.2.1, .string t51.2.2.2.2.1, .int .u64 t51.2.2.2.2.2.1, .int .i64 t51.2.2.2.2.2.2.1, .int .i64 t51.2.2.2.2.2.2.2.1, .int .i64 t51.2.2.2.2.2.2.2.2.1, .string t51.2.2.2.2.2.2.2.2.2.1, .int .i64 t51.2.2.2.2.2.2.2.2.2.2.1, .int .i64 t51.2.2.2.2.2.2.2.2.2.2.2.1, .int .i64 t51.2.2.2.2.2.2.2.2.2.2.2.2.1, .int .u32 t51.2.2.2.2.2.2.2.2.2.2.2.2.2.1]) (L' := [.int .i64 t51.1, .int .u64 t51.2.1, .int .i64 t51.2.2.1, .string t51.2.2.2.1, .string t51.2.2.2.2.1, .int .u64 t51.2.2.2.2.2.1, .int .i64 t51.2.2.2.2.2.2.1, .int .i64 t51.2.2.2.2.2.2.2.1, .int .i64 t51.2.2.2.2.2.2.2.2.1, .string t51.2.2.2.2.2.2.2.2.2.1, .int .i64 t51.2.2.2.2.2.2.2.2.2.2.1, .int .i64 t51.2.2.2.2.2.2.2.2.2.2.2.1, .int .i64 t51.2.2.2.2.2.2.2.2.2.2.2.2.1, .int .u32 t51.2.2.2.2.2.2.2.2.2.2.2.2.2.1]) ti36 rfl rfl rfl rfl rfl rfl ?_
        refine J.p rfl rfl rfl rfl (Y.asg rfl) ?_
        refine J.p rfl rfl rfl rfl (Y.asg rfl) ?_
        refine J.nx ?_
        refine C.rs ?_
        refine J.p rfl rfl rfl rfl (Y.fa0 fa27_1 rfl rfl) ?_
        refine J.r rfl rfl rfl rfl (Y.ldC 4 Try.underlying24 rfl rfl rfl rfl) ?_
        refine J.r rfl rfl rfl rfl (Y.ldCA (us := [.int .u64 t9.1, .int .i64 t9.2.1, .string t9.2.2.1, .string t9.2.2.2]) 4 Try.underlying27 rfl ti27 rfl rfl rfl rfl) ?_
        refine J.p rfl rfl rfl rfl (Y.bld (cs := [.int .i64 t9.2.1, .int .u64 t9.1, .int .i64 t9.2.1, .string t9.2.2.1, .string t9.2.2.2, .int .u64 0, .int .i64 0, .int .i64 0, .int .i64 0, .string ByteArray.empty, .int .i64 0, .int .i64 0, .int .i64 0, .int .u32 0]) rfl pl36 ti36 rfl (by kernel_rfl)) ?_
        refine J.alloc (L := [.int .i64 0, .int .u64 0, .int .i64 0, .string ByteArray.empty, .string ByteArray.empty, .int .u64 0, .int .i64 0, .int .i64 0, .int .i64 0, .string ByteArray.empty, .int .i64 0, .int .i64 0, .int .i64 0, .int .u32 0]) rfl ti36 rfl (fun g55 => ?_)
        refine J.stA (us := [.int .i64 t9.2.1, .int .u64 t9.1, .int .i64 t9.2.1, .string t9.2.2.1, .string t9.2.2.2, .int .u64 0, .int .i64 0, .int .i64 0, .int .i64 0, .string ByteArray.empty, .int .i64 0, .int .i64 0, .int .i64 0, .int .u32 0]) (L' := [.int .i64 t9.2.1, .int .u64 t9.1, .int .i64 t9.2.1, .string t9.2.2.1, .string t9.2.2.2, .int .u64 0, .int .i64 0, .int .i64 0, .int .i64 0, .string ByteArray.empty, .int .i64 0, .int .i64 0, .int .i64 0, .int .u32 0]) ti36 rfl rfl rfl rfl rfl rfl ?_
        refine J.nx ?_
        refine C.seq ?_
        refine C.rs ?_
        refine J.joinB H (fun (o62 : Bool) (j63 : Unit) => [(3, .int .i64 a3), (4, .int .u32 a4), (12, .slice A15 t13.length c16), (95, .bool o62)]) (fun (o62 : Bool) (j63 : Unit) => own 5 1 A15 c16 (t13.map (Value.int .u8)) :: G) (fun (o62 : Bool) (j63 : Unit) => True) (fun o64 H HK65 => ?_) (fun o62 j63 H _ => ?_)
        · refine J.p rfl rfl rfl rfl (Y.mv rfl) ?_
          refine J.p rfl rfl rfl rfl (Y.bin rfl rfl rfl) ?_
          refine J.p rfl rfl rfl rfl (Y.mv rfl) ?_
          refine split2 H (fun c66 H => ?_) (fun c66 H => ?_)
          · refine J.as (k := 70) rfl (congrArg Value.bool (decide_eq_true c66)) ?_
            refine J.skip rfl rfl ?_
            refine J.skip rfl rfl ?_
            refine J.p rfl rfl rfl rfl (Y.pickT rfl rfl) ?_
            refine J.p rfl rfl rfl rfl (Y.mv rfl) ?_
            refine J.skip rfl rfl ?_
            refine J.skip rfl rfl ?_
            refine J.skip rfl rfl ?_
            refine J.skip rfl rfl ?_
            refine J.p rfl rfl rfl rfl (Y.pickT rfl rfl) ?_
            refine J.p rfl rfl rfl rfl (Y.mv rfl) ?_
            refine J.skip rfl rfl ?_
            refine J.skip rfl rfl ?_
            refine J.skip rfl rfl ?_
            refine J.skip rfl rfl ?_
            refine J.p rfl rfl rfl rfl (Y.pickT rfl rfl) ?_
            refine J.p rfl rfl rfl rfl (Y.mv rfl) ?_
            refine J.skip rfl rfl ?_
            refine J.skip rfl rfl ?_
            refine J.skip rfl rfl ?_
            refine J.p rfl rfl rfl rfl (Y.pickT rfl rfl) ?_
            refine J.p rfl rfl rfl rfl (Y.mv rfl) ?_
            refine J.skip rfl rfl ?_
            refine J.skip rfl rfl ?_
            refine J.skip rfl rfl ?_
            refine J.p rfl rfl rfl rfl (Y.pickT rfl rfl) ?_
            refine J.nil ?_
            obtain rfl := Option.some.inj H
            exact N.meet (true, ()) ⟨HK65, trivial⟩ (by exact ⟨rfl, rfl, rfl, rfl, trivial⟩) (by exact fun w h => (St.pick [6] [_, _, _, _, _, _, _] h rfl))
          · refine J.as (k := 70) rfl (congrArg Value.bool (decide_eq_false c66)) ?_
            refine J.p rfl rfl rfl rfl (Y.mv rfl) ?_
            refine J.p rfl rfl rfl rfl (Y.bin rfl rfl rfl) ?_
            refine J.p rfl rfl rfl rfl (Y.pickF rfl rfl) ?_
            refine J.p rfl rfl rfl rfl (Y.mv rfl) ?_
            refine split2 H (fun c67 H => ?_) (fun c67 H => ?_)
            · refine J.as (k := 74) rfl (congrArg Value.bool (decide_eq_true c67)) ?_
              refine J.skip rfl rfl ?_
              refine J.skip rfl rfl ?_
              refine J.skip rfl rfl ?_
              refine J.skip rfl rfl ?_
              refine J.p rfl rfl rfl rfl (Y.pickT rfl rfl) ?_
              refine J.p rfl rfl rfl rfl (Y.mv rfl) ?_
              refine J.skip rfl rfl ?_
              refine J.skip rfl rfl ?_
              refine J.skip rfl rfl ?_
              refine J.skip rfl rfl ?_
              refine J.p rfl rfl rfl rfl (Y.pickT rfl rfl) ?_
              refine J.p rfl rfl rfl rfl (Y.mv rfl) ?_
              refine J.skip rfl rfl ?_
              refine J.skip rfl rfl ?_
              refine J.skip rfl rfl ?_
              refine J.p rfl rfl rfl rfl (Y.pickT rfl rfl) ?_
              refine J.p rfl rfl rfl rfl (Y.mv rfl) ?_
              refine J.skip rfl rfl ?_
              refine J.skip rfl rfl ?_
              refine J.skip rfl rfl ?_
              refine J.p rfl rfl rfl rfl (Y.pickT rfl rfl) ?_
              refine J.nil ?_
              obtain rfl := Option.some.inj H
              exact N.meet (true, ()) ⟨HK65, trivial⟩ (by exact ⟨rfl, rfl, rfl, rfl, trivial⟩) (by exact fun w h => (St.pick [6] [_, _, _, _, _, _, _] h rfl))
            · refine J.as (k := 74) rfl (congrArg Value.bool (decide_eq_false c67)) ?_
              refine J.p rfl rfl rfl rfl (Y.mv rfl) ?_
              refine J.p rfl rfl rfl rfl (Y.mv rfl) ?_
              refine J.p rfl rfl rfl rfl (Y.lenS Try.underlying22 rfl) ?_
              refine J.p rfl rfl rfl rfl (Y.bin rfl rfl rfl) ?_
              refine J.p rfl rfl rfl rfl (Y.pickF rfl rfl) ?_
              refine J.p rfl rfl rfl rfl (Y.mv rfl) ?_
              refine split2 H (fun c68 H => ?_) (fun c68 H => ?_)
              · refine J.as (k := 80) rfl (congrArg Value.bool (decide_eq_true c68)) ?_
                refine J.skip rfl rfl ?_
                refine J.skip rfl rfl ?_
                refine J.skip rfl rfl ?_
                refine J.skip rfl rfl ?_
                refine J.p rfl rfl rfl rfl (Y.pickT rfl rfl) ?_
                refine J.p rfl rfl rfl rfl (Y.mv rfl) ?_
                refine J.skip rfl rfl ?_
                refine J.skip rfl rfl ?_
                refine J.skip rfl rfl ?_
                refine J.p rfl rfl rfl rfl (Y.pickT rfl rfl) ?_
                refine J.p rfl rfl rfl rfl (Y.mv rfl) ?_
                refine J.skip rfl rfl ?_
                refine J.skip rfl rfl ?_
                refine J.skip rfl rfl ?_
                refine J.p rfl rfl rfl rfl (Y.pickT rfl rfl) ?_
                refine J.nil ?_
                obtain rfl := Option.some.inj H
                exact N.meet (true, ()) ⟨HK65, trivial⟩ (by exact ⟨rfl, rfl, rfl, rfl, trivial⟩) (by exact fun w h => (St.pick [6] [_, _, _, _, _, _, _] h rfl))
              · refine J.as (k := 80) rfl (congrArg Value.bool (decide_eq_false c68)) ?_
                refine J.p rfl rfl rfl rfl (Y.mv rfl) ?_
                refine J.p rfl rfl rfl rfl (Y.mv rfl) ?_
                refine J.p rfl rfl rfl rfl (Y.lenS Try.underlying22 rfl) ?_
                refine J.p rfl rfl rfl rfl (Y.bin rfl rfl rfl) ?_
                refine J.p rfl rfl rfl rfl (Y.pickF rfl rfl) ?_
                refine J.p rfl rfl rfl rfl (Y.mv rfl) ?_
                refine split2 H (fun c69 H => ?_) (fun c69 H => ?_)
                · refine J.as (k := 86) rfl (congrArg Value.bool (decide_eq_true c69)) ?_
                  refine J.skip rfl rfl ?_
                  refine J.skip rfl rfl ?_
                  refine J.skip rfl rfl ?_
                  refine J.p rfl rfl rfl rfl (Y.pickT rfl rfl) ?_
                  refine J.p rfl rfl rfl rfl (Y.mv rfl) ?_
                  refine J.skip rfl rfl ?_
                  refine J.skip rfl rfl ?_
                  refine J.skip rfl rfl ?_
                  refine J.p rfl rfl rfl rfl (Y.pickT rfl rfl) ?_
                  refine J.nil ?_
                  obtain rfl := Option.some.inj H
                  exact N.meet (true, ()) ⟨HK65, trivial⟩ (by exact ⟨rfl, rfl, rfl, rfl, trivial⟩) (by exact fun w h => (St.pick [6] [_, _, _, _, _, _, _] h rfl))
                · refine J.as (k := 86) rfl (congrArg Value.bool (decide_eq_false c69)) ?_
                  refine J.r rfl rfl rfl rfl (Y.ldCA (us := [.int .i64 t40.1, .int .u64 t40.2.1, .int .i64 t40.2.2.1, .string t40.2.2.2.1, .string t40.2.2.2.2.1, .int .u64 t40.2.2.2.2.2.1, .int .i64 t40.2.2.2.2.2.2.1, .int .i64 t40.2.2.2.2.2.2.2.1, .int .i64 t40.2.2.2.2.2.2.2.2.1, .string t40.2.2.2.2.2.2.2.2.2.1, .int .i64 t40.2.2.2.2.2.2.2.2.2.2.1, .int .i64 t40.2.2.2.2.2.2.2.2.2.2.2.1, .int .i64 t40.2.2.2.2.2.2.2.2.2.2.2.2.1, .int .u32 t40.2.2.2.2.2.2.2.2.2.2.2.2.2.1]) 3 Try.underlying36 rfl ti36 rfl rfl rfl rfl) ?_
                  refine J.r rfl rfl rfl rfl (Y.ldCA (us := [.int .i64 t9.2.1, .int .u64 t9.1, .int .i64 t9.2.1, .string t9.2.2.1, .string t9.2.2.2, .int .u64 0, .int .i64 0, .int .i64 0, .int .i64 0, .string ByteArray.empty, .int .i64 0, .int .i64 0, .int .i64 0, .int .u32 0]) 0 Try.underlying36 rfl ti36 rfl rfl rfl rfl) ?_
                  refine J.p rfl rfl rfl rfl (Y.nest Try.eqGuardType36 rfl (EqV.struct Try.underlying36 Try.stoodInHeld36 (EqFs.cons rfl (part_one (v := .int .i64 t40.1) Try.underlying24 rfl (by kernel_rfl)) (part_one (v := .int .i64 t9.2.1) Try.underlying24 rfl (by kernel_rfl)) (EqV.int 2 Try.underlying24) (EqFs.cons rfl (part_agg (us := #[.int .u64 t40.2.1, .int .i64 t40.2.2.1, .string t40.2.2.2.1, .string t40.2.2.2.2.1]) Try.underlying27 rfl ti27 (by kernel_rfl)) (part_agg (us := #[.int .u64 t9.1, .int .i64 t9.2.1, .string t9.2.2.1, .string t9.2.2.2]) Try.underlying27 rfl ti27 (by kernel_rfl)) (EqV.struct Try.underlying27 Try.stoodInHeld27 (EqFs.cons rfl (part_one (v := .int .u64 t40.2.1) Try.underlying25 rfl (by kernel_rfl)) (part_one (v := .int .u64 t9.1) Try.underlying25 rfl (by kernel_rfl)) (EqV.int 1 Try.underlying25) (EqFs.cons rfl (part_one (v := .int .i64 t40.2.2.1) Try.underlying24 rfl (by kernel_rfl)) (part_one (v := .int .i64 t9.2.1) Try.underlying24 rfl (by kernel_rfl)) (EqV.int 1 Try.underlying24) (EqFs.cons rfl (part_one (v := .string t40.2.2.2.1) Try.underlying9 rfl (by kernel_rfl)) (part_one (v := .string t9.2.2.1) Try.underlying9 rfl (by kernel_rfl)) (EqV.str 1 Try.underlying9) (EqFs.cons rfl (part_one (v := .string t40.2.2.2.2.1) Try.underlying9 rfl (by kernel_rfl)) (part_one (v := .string t9.2.2.2) Try.underlying9 rfl (by kernel_rfl)) (EqV.str 1 Try.underlying9) EqFs.nil))))) (EqFs.cons rfl (part_agg (us := #[.int .u64 t40.2.2.2.2.2.1, .int .i64 t40.2.2.2.2.2.2.1, .int .i64 t40.2.2.2.2.2.2.2.1, .int .i64 t40.2.2.2.2.2.2.2.2.1, .string t40.2.2.2.2.2.2.2.2.2.1]) Try.underlying29 rfl ti29 (by kernel_rfl)) (part_agg (us := #[.int .u64 0, .int .i64 0, .int .i64 0, .int .i64 0, .string ByteArray.empty]) Try.underlying29 rfl ti29 (by kernel_rfl)) (EqV.struct Try.underlying29 Try.stoodInHeld29 (EqFs.cons rfl (part_one (v := .int .u64 t40.2.2.2.2.2.1) Try.underlying25 rfl (by kernel_rfl)) (part_one (v := .int .u64 0) Try.underlying25 rfl (by kernel_rfl)) (EqV.int 1 Try.underlying25) (EqFs.cons rfl (part_one (v := .int .i64 t40.2.2.2.2.2.2.1) Try.underlying24 rfl (by kernel_rfl)) (part_one (v := .int .i64 0) Try.underlying24 rfl (by kernel_rfl)) (EqV.int 1 Try.underlying24) (EqFs.cons rfl (part_one (v := .int .i64 t40.2.2.2.2.2.2.2.1) Try.underlying3 rfl (by kernel_rfl)) (part_one (v := .int .i64 0) Try.underlying3 rfl (by kernel_rfl)) (EqV.int 1 Try.underlying3) (EqFs.cons rfl (part_one (v := .int .i64 t40.2.2.2.2.2.2.2.2.1) Try.underlying3 rfl (by kernel_rfl)) (part_one (v := .int .i64 0) Try.underlying3 rfl (by kernel_rfl)) (EqV.int 1 Try.underlying3) (EqFs.cons rfl (part_one (v := .string t40.2.2.2.2.2.2.2.2.2.1) Try.underlying9 rfl (by kernel_rfl)) (part_one (v := .string ByteArray.empty) Try.underlying9 rfl (by kernel_rfl)) (EqV.str 1 Try.underlying9) EqFs.nil)))))) (EqFs.cons rfl (part_agg (us := #[.int .i64 t40.2.2.2.2.2.2.2.2.2.2.1, .int .i64 t40.2.2.2.2.2.2.2.2.2.2.2.1, .int .i64 t40.2.2.2.2.2.2.2.2.2.2.2.2.1, .int .u32 t40.2.2.2.2.2.2.2.2.2.2.2.2.2.1]) Try.underlying34 rfl ti34 (by kernel_rfl)) (part_agg (us := #[.int .i64 0, .int .i64 0, .int .i64 0, .int .u32 0]) Try.underlying34 rfl ti34 (by kernel_rfl)) (EqV.struct Try.underlying34 Try.stoodInHeld34 (EqFs.cons rfl (part_one (v := .int .i64 t40.2.2.2.2.2.2.2.2.2.2.1) Try.underlying3 rfl (by kernel_rfl)) (part_one (v := .int .i64 0) Try.underlying3 rfl (by kernel_rfl)) (EqV.int 1 Try.underlying3) (EqFs.cons rfl (part_agg (us := #[.int .i64 t40.2.2.2.2.2.2.2.2.2.2.2.1, .int .i64 t40.2.2.2.2.2.2.2.2.2.2.2.2.1, .int .u32 t40.2.2.2.2.2.2.2.2.2.2.2.2.2.1]) Try.underlying32 rfl ti32 (by kernel_rfl)) (part_agg (us := #[.int .i64 0, .int .i64 0, .int .u32 0]) Try.underlying32 rfl ti32 (by kernel_rfl)) (EqV.struct Try.underlying32 Try.stoodInHeld32 (EqFs.cons rfl (part_one (v := .int .i64 t40.2.2.2.2.2.2.2.2.2.2.2.1) Try.underlying3 rfl (by kernel_rfl)) (part_one (v := .int .i64 0) Try.underlying3 rfl (by kernel_rfl)) (EqV.int 0 Try.underlying3) (EqFs.cons rfl (part_one (v := .int .i64 t40.2.2.2.2.2.2.2.2.2.2.2.2.1) Try.underlying3 rfl (by kernel_rfl)) (part_one (v := .int .i64 0) Try.underlying3 rfl (by kernel_rfl)) (EqV.int 0 Try.underlying3) (EqFs.cons rfl (part_one (v := .int .u32 t40.2.2.2.2.2.2.2.2.2.2.2.2.2.1) Try.underlying30 rfl (by kernel_rfl)) (part_one (v := .int .u32 0) Try.underlying30 rfl (by kernel_rfl)) (EqV.int 0 Try.underlying30) EqFs.nil)))) EqFs.nil))) EqFs.nil))))) rfl rfl) ?_
                  refine J.p rfl rfl rfl rfl (Y.pickF rfl rfl) ?_
                  refine J.p rfl rfl rfl rfl (Y.mv rfl) ?_
                  refine split2 H (fun c70 H => ?_) (fun c70 H => ?_)
                  · refine J.as (k := 91) rfl (congrArg Value.bool (congrArg Bool.not (decide_eq_true c70))) ?_
                    refine J.r rfl rfl rfl rfl (Y.ldCA (us := [.int .i64 t51.1, .int .u64 t51.2.1, .int .i64 t51.2.2.1, .string t51.2.2.2.1, .string t51.2.2.2.2.1, .int .u64 t51.2.2.2.2.2.1, .int .i64 t51.2.2.2.2.2.2.1, .int .i64 t51.2.2.2.2.2.2.2.1, .int .i64 t51.2.2.2.2.2.2.2.2.1, .string t51.2.2.2.2.2.2.2.2.2.1, .int .i64 t51.2.2.2.2.2.2.2.2.2.2.1, .int .i64 t51.2.2.2.2.2.2.2.2.2.2.2.1, .int .i64 t51.2.2.2.2.2.2.2.2.2.2.2.2.1, .int .u32 t51.2.2.2.2.2.2.2.2.2.2.2.2.2.1]) 1 Try.underlying36 rfl ti36 rfl rfl rfl rfl) ?_
                    refine J.r rfl rfl rfl rfl (Y.ldCA (us := [.int .i64 t9.2.1, .int .u64 t9.1, .int .i64 t9.2.1, .string t9.2.2.1, .string t9.2.2.2, .int .u64 0, .int .i64 0, .int .i64 0, .int .i64 0, .string ByteArray.empty, .int .i64 0, .int .i64 0, .int .i64 0, .int .u32 0]) 0 Try.underlying36 rfl ti36 rfl rfl rfl rfl) ?_
                    refine J.p rfl rfl rfl rfl (Y.nest Try.eqGuardType36 rfl (EqV.struct Try.underlying36 Try.stoodInHeld36 (EqFs.cons rfl (part_one (v := .int .i64 t51.1) Try.underlying24 rfl (by kernel_rfl)) (part_one (v := .int .i64 t9.2.1) Try.underlying24 rfl (by kernel_rfl)) (EqV.int 2 Try.underlying24) (EqFs.cons rfl (part_agg (us := #[.int .u64 t51.2.1, .int .i64 t51.2.2.1, .string t51.2.2.2.1, .string t51.2.2.2.2.1]) Try.underlying27 rfl ti27 (by kernel_rfl)) (part_agg (us := #[.int .u64 t9.1, .int .i64 t9.2.1, .string t9.2.2.1, .string t9.2.2.2]) Try.underlying27 rfl ti27 (by kernel_rfl)) (EqV.struct Try.underlying27 Try.stoodInHeld27 (EqFs.cons rfl (part_one (v := .int .u64 t51.2.1) Try.underlying25 rfl (by kernel_rfl)) (part_one (v := .int .u64 t9.1) Try.underlying25 rfl (by kernel_rfl)) (EqV.int 1 Try.underlying25) (EqFs.cons rfl (part_one (v := .int .i64 t51.2.2.1) Try.underlying24 rfl (by kernel_rfl)) (part_one (v := .int .i64 t9.2.1) Try.underlying24 rfl (by kernel_rfl)) (EqV.int 1 Try.underlying24) (EqFs.cons rfl (part_one (v := .string t51.2.2.2.1) Try.underlying9 rfl (by kernel_rfl)) (part_one (v := .string t9.2.2.1) Try.underlying9 rfl (by kernel_rfl)) (EqV.str 1 Try.underlying9) (EqFs.cons rfl (part_one (v := .string t51.2.2.2.2.1) Try.underlying9 rfl (by kernel_rfl)) (part_one (v := .string t9.2.2.2) Try.underlying9 rfl (by kernel_rfl)) (EqV.str 1 Try.underlying9) EqFs.nil))))) (EqFs.cons rfl (part_agg (us := #[.int .u64 t51.2.2.2.2.2.1, .int .i64 t51.2.2.2.2.2.2.1, .int .i64 t51.2.2.2.2.2.2.2.1, .int .i64 t51.2.2.2.2.2.2.2.2.1, .string t51.2.2.2.2.2.2.2.2.2.1]) Try.underlying29 rfl ti29 (by kernel_rfl)) (part_agg (us := #[.int .u64 0, .int .i64 0, .int .i64 0, .int .i64 0, .string ByteArray.empty]) Try.underlying29 rfl ti29 (by kernel_rfl)) (EqV.struct Try.underlying29 Try.stoodInHeld29 (EqFs.cons rfl (part_one (v := .int .u64 t51.2.2.2.2.2.1) Try.underlying25 rfl (by kernel_rfl)) (part_one (v := .int .u64 0) Try.underlying25 rfl (by kernel_rfl)) (EqV.int 1 Try.underlying25) (EqFs.cons rfl (part_one (v := .int .i64 t51.2.2.2.2.2.2.1) Try.underlying24 rfl (by kernel_rfl)) (part_one (v := .int .i64 0) Try.underlying24 rfl (by kernel_rfl)) (EqV.int 1 Try.underlying24) (EqFs.cons rfl (part_one (v := .int .i64 t51.2.2.2.2.2.2.2.1) Try.underlying3 rfl (by kernel_rfl)) (part_one (v := .int .i64 0) Try.underlying3 rfl (by kernel_rfl)) (EqV.int 1 Try.underlying3) (EqFs.cons rfl (part_one (v := .int .i64 t51.2.2.2.2.2.2.2.2.1) Try.underlying3 rfl (by kernel_rfl)) (part_one (v := .int .i64 0) Try.underlying3 rfl (by kernel_rfl)) (EqV.int 1 Try.underlying3) (EqFs.cons rfl (part_one (v := .string t51.2.2.2.2.2.2.2.2.2.1) Try.underlying9 rfl (by kernel_rfl)) (part_one (v := .string ByteArray.empty) Try.underlying9 rfl (by kernel_rfl)) (EqV.str 1 Try.underlying9) EqFs.nil)))))) (EqFs.cons rfl (part_agg (us := #[.int .i64 t51.2.2.2.2.2.2.2.2.2.2.1, .int .i64 t51.2.2.2.2.2.2.2.2.2.2.2.1, .int .i64 t51.2.2.2.2.2.2.2.2.2.2.2.2.1, .int .u32 t51.2.2.2.2.2.2.2.2.2.2.2.2.2.1]) Try.underlying34 rfl ti34 (by kernel_rfl)) (part_agg (us := #[.int .i64 0, .int .i64 0, .int .i64 0, .int .u32 0]) Try.underlying34 rfl ti34 (by kernel_rfl)) (EqV.struct Try.underlying34 Try.stoodInHeld34 (EqFs.cons rfl (part_one (v := .int .i64 t51.2.2.2.2.2.2.2.2.2.2.1) Try.underlying3 rfl (by kernel_rfl)) (part_one (v := .int .i64 0) Try.underlying3 rfl (by kernel_rfl)) (EqV.int 1 Try.underlying3) (EqFs.cons rfl (part_agg (us := #[.int .i64 t51.2.2.2.2.2.2.2.2.2.2.2.1, .int .i64 t51.2.2.2.2.2.2.2.2.2.2.2.2.1, .int .u32 t51.2.2.2.2.2.2.2.2.2.2.2.2.2.1]) Try.underlying32 rfl ti32 (by kernel_rfl)) (part_agg (us := #[.int .i64 0, .int .i64 0, .int .u32 0]) Try.underlying32 rfl ti32 (by kernel_rfl)) (EqV.struct Try.underlying32 Try.stoodInHeld32 (EqFs.cons rfl (part_one (v := .int .i64 t51.2.2.2.2.2.2.2.2.2.2.2.1) Try.underlying3 rfl (by kernel_rfl)) (part_one (v := .int .i64 0) Try.underlying3 rfl (by kernel_rfl)) (EqV.int 0 Try.underlying3) (EqFs.cons rfl (part_one (v := .int .i64 t51.2.2.2.2.2.2.2.2.2.2.2.2.1) Try.underlying3 rfl (by kernel_rfl)) (part_one (v := .int .i64 0) Try.underlying3 rfl (by kernel_rfl)) (EqV.int 0 Try.underlying3) (EqFs.cons rfl (part_one (v := .int .u32 t51.2.2.2.2.2.2.2.2.2.2.2.2.2.1) Try.underlying30 rfl (by kernel_rfl)) (part_one (v := .int .u32 0) Try.underlying30 rfl (by kernel_rfl)) (EqV.int 0 Try.underlying30) EqFs.nil)))) EqFs.nil))) EqFs.nil))))) rfl rfl) ?_
                    refine J.p rfl rfl rfl rfl (Y.pickF rfl rfl) ?_
                    refine J.nil ?_
                    obtain rfl := Option.some.inj H
                    exact N.meet (!(decide (t51.1 = t9.2.1 ∧ (t51.2.1 = t9.1 ∧ t51.2.2.1 = t9.2.1 ∧ t51.2.2.2.1 = t9.2.2.1 ∧ t51.2.2.2.2.1 = t9.2.2.2 ∧ True) ∧ (t51.2.2.2.2.2.1 = 0 ∧ t51.2.2.2.2.2.2.1 = 0 ∧ t51.2.2.2.2.2.2.2.1 = 0 ∧ t51.2.2.2.2.2.2.2.2.1 = 0 ∧ t51.2.2.2.2.2.2.2.2.2.1 = ByteArray.empty ∧ True) ∧ (t51.2.2.2.2.2.2.2.2.2.2.1 = 0 ∧ (t51.2.2.2.2.2.2.2.2.2.2.2.1 = 0 ∧ t51.2.2.2.2.2.2.2.2.2.2.2.2.1 = 0 ∧ t51.2.2.2.2.2.2.2.2.2.2.2.2.2.1 = 0 ∧ True) ∧ True) ∧ True)), ()) ⟨HK65, trivial⟩ (by exact ⟨rfl, rfl, rfl, rfl, trivial⟩) (by exact fun w h => (St.pick [6] [_, _, _, _, _, _, _] h rfl))
                  · refine J.as (k := 91) rfl (congrArg Value.bool (congrArg Bool.not (decide_eq_false c70))) ?_
                    refine J.skip rfl rfl ?_
                    refine J.skip rfl rfl ?_
                    refine J.skip rfl rfl ?_
                    refine J.p rfl rfl rfl rfl (Y.pickT rfl rfl) ?_
                    refine J.nil ?_
                    obtain rfl := Option.some.inj H
                    exact N.meet (true, ()) ⟨HK65, trivial⟩ (by exact ⟨rfl, rfl, rfl, rfl, trivial⟩) (by exact fun w h => (St.pick [6] [_, _, _, _, _, _, _] h rfl))
        · refine C.at (s' := [(3, .int .i64 a3), (4, .int .u32 a4), (12, .slice A15 t13.length c16), (95, .bool o62)]) (G' := own 5 1 A15 c16 (t13.map (Value.int .u8)) :: G) rfl rfl ?_
          refine split2 H (fun c71 H => ?_) (fun c71 H => ?_)
          · refine C.condT (congrArg (fun b => some (Value.bool b)) (c71)) ?_
            refine C.rs ?_
            refine J.p rfl rfl rfl rfl (Y.asg rfl) ?_
            refine J.nx ?_
            refine C.ret ?_
            obtain rfl := Option.some.inj H
            refine T.th ?_
            exact ret_ok (ks := [10]) rfl rfl (fun w h => ⟨rfl, (St.pick [] [_] h rfl)⟩)
          · refine C.condF (congrArg (fun b => some (Value.bool b)) (nt c71)) ?_
            refine C.skip ?_
            refine N.nx ?_
            refine C.rs ?_
            refine J.p rfl rfl rfl rfl (Y.mv rfl) ?_
            obtain ⟨p73, H⟩ := gd_some H
            refine J.know (own_leL 0 rfl) (fun hc72 => ?_)
            refine J.p rfl rfl rfl rfl (Y.slcL Try.underlying22 ti5 rfl (bnd.yes rfl p73.1) (bnd.yes rfl p73.2.1) p73.2.2 hc72) ?_
            obtain ⟨t74, hC75, H⟩ := bind_some H
            refine J.call (us := []) (cap := []) rfl rfl rfl go32 (fun w hw => by have hcc := Number.calls K ((t13.take (Int.toNat 4)).drop (Int.toNat 1)) 3 (subA 1 A15 c16 (Int.toNat 1)) (c16 - (Int.toNat 1)) (RdG.subL (l := (Int.toNat 1)) (h := (Int.toNat 4)) (RdG.own 0 rfl) hc72) (hc_sub hc72) t74 hC75 w hw; exact hcc) (fun e w1 h1 => ?_)
            obtain ⟨rfl, hw220⟩ := h1
            refine ⟨_, _, rfl, hw220, ?_⟩
            refine J.p rfl rfl rfl rfl (Y.mv rfl) ?_
            refine J.p rfl rfl rfl rfl (Y.ext rfl rfl) ?_
            refine J.p rfl rfl rfl rfl (Y.ext rfl rfl) ?_
            refine J.p rfl rfl rfl rfl (Y.asg rfl) ?_
            refine J.p rfl rfl rfl rfl (Y.asg rfl) ?_
            refine J.nx ?_
            refine C.seq ?_
            refine C.rs ?_
            refine J.joinB H (fun (o82 : Bool) (j83 : Unit) => [(3, .int .i64 a3), (4, .int .u32 a4), (12, .slice A15 t13.length c16), (118, .bool o82)]) (fun (o82 : Bool) (j83 : Unit) => own 5 1 A15 c16 (t13.map (Value.int .u8)) :: G) (fun (o82 : Bool) (j83 : Unit) => True) (fun o84 H HK85 => ?_) (fun o82 j83 H _ => ?_)
            · refine J.p rfl rfl rfl rfl (Y.mv rfl) ?_
              refine J.p rfl rfl rfl rfl (Y.bin rfl rfl rfl) ?_
              refine J.p rfl rfl rfl rfl (Y.mv rfl) ?_
              refine split2 H (fun c86 H => ?_) (fun c86 H => ?_)
              · refine J.as (k := 104) rfl (congrArg Value.bool (decide_eq_true c86)) ?_
                refine J.skip rfl rfl ?_
                refine J.skip rfl rfl ?_
                refine J.skip rfl rfl ?_
                refine J.skip rfl rfl ?_
                refine J.skip rfl rfl ?_
                refine J.skip rfl rfl ?_
                refine J.p rfl rfl rfl rfl (Y.pickT rfl rfl) ?_
                refine J.p rfl rfl rfl rfl (Y.mv rfl) ?_
                refine J.skip rfl rfl ?_
                refine J.skip rfl rfl ?_
                refine J.skip rfl rfl ?_
                refine J.skip rfl rfl ?_
                refine J.skip rfl rfl ?_
                refine J.p rfl rfl rfl rfl (Y.pickT rfl rfl) ?_
                refine J.nil ?_
                obtain rfl := Option.some.inj H
                exact N.meet (true, ()) ⟨HK85, trivial⟩ (by exact ⟨rfl, rfl, rfl, rfl, trivial⟩) (by exact fun w h => h)
              · refine J.as (k := 104) rfl (congrArg Value.bool (decide_eq_false c86)) ?_
                refine J.p rfl rfl rfl rfl (Y.mv rfl) ?_
                refine J.p rfl rfl rfl rfl (Y.conv Try.underlying25 Try.underlying3 rfl) ?_
                refine J.p rfl rfl rfl rfl (Y.mv rfl) ?_
                refine J.p rfl rfl rfl rfl (Y.lenS Try.underlying22 rfl) ?_
                refine J.p rfl rfl rfl rfl (Y.bin rfl rfl rfl) ?_
                refine J.p rfl rfl rfl rfl (Y.bin rfl rfl rfl) ?_
                refine J.p rfl rfl rfl rfl (Y.pickF rfl rfl) ?_
                refine J.p rfl rfl rfl rfl (Y.mv rfl) ?_
                refine split2 H (fun c87 H => ?_) (fun c87 H => ?_)
                · refine J.as (k := 112) rfl (congrArg Value.bool (decide_eq_true c87)) ?_
                  refine J.skip rfl rfl ?_
                  refine J.skip rfl rfl ?_
                  refine J.skip rfl rfl ?_
                  refine J.skip rfl rfl ?_
                  refine J.skip rfl rfl ?_
                  refine J.p rfl rfl rfl rfl (Y.pickT rfl rfl) ?_
                  refine J.nil ?_
                  obtain rfl := Option.some.inj H
                  exact N.meet (true, ()) ⟨HK85, trivial⟩ (by exact ⟨rfl, rfl, rfl, rfl, trivial⟩) (by exact fun w h => h)
                · refine J.as (k := 112) rfl (congrArg Value.bool (decide_eq_false c87)) ?_
                  refine J.p rfl rfl rfl rfl (Y.mv rfl) ?_
                  refine J.want rfl ?_
                  refine J.know (own_leL 0 rfl) (fun hc88 => ?_)
                  obtain ⟨t89, hC90, H⟩ := bind_some H
                  refine J.call (us := []) (cap := []) rfl rfl rfl go33 (fun w hw => by have hcc := Next.calls t13 1 A15 c16 (RdG.own 0 rfl) hc88 t89 hC90 w hw; exact hcc) (fun e w1 h1 => ?_)
                  obtain ⟨rfl, hw91⟩ := h1
                  refine ⟨_, _, rfl, hw91, ?_⟩
                  refine J.p rfl rfl rfl rfl (Y.mv rfl) ?_
                  refine J.p rfl rfl rfl rfl (Y.lenS Try.underlying22 rfl) ?_
                  refine J.p rfl rfl rfl rfl (Y.bin rfl rfl rfl) ?_
                  refine J.p rfl rfl rfl rfl (Y.pickF rfl rfl) ?_
                  refine J.nil ?_
                  obtain rfl := Option.some.inj H
                  exact N.meet (decide (t89 ≠ (t13.length : Int)), ()) ⟨HK85, trivial⟩ (by exact ⟨rfl, rfl, rfl, rfl, trivial⟩) (by exact fun w h => h)
            · refine C.at (s' := [(3, .int .i64 a3), (4, .int .u32 a4), (12, .slice A15 t13.length c16), (118, .bool o82)]) (G' := own 5 1 A15 c16 (t13.map (Value.int .u8)) :: G) rfl rfl ?_
              refine split2 H (fun c92 H => ?_) (fun c92 H => ?_)
              · refine C.condT (congrArg (fun b => some (Value.bool b)) (c92)) ?_
                refine C.rs ?_
                refine J.p rfl rfl rfl rfl (Y.asg rfl) ?_
                refine J.nx ?_
                refine C.ret ?_
                obtain rfl := Option.some.inj H
                refine T.th ?_
                exact ret_ok (ks := [10]) rfl rfl (fun w h => ⟨rfl, (St.pick [] [_] h rfl)⟩)
              · refine C.condF (congrArg (fun b => some (Value.bool b)) (nt c92)) ?_
                refine C.skip ?_
                refine N.nx ?_
                refine C.seq ?_
                refine C.rs ?_
                refine J.p rfl rfl rfl rfl (Y.mv rfl) ?_
                refine J.p rfl rfl rfl rfl (Y.bin rfl rfl rfl) ?_
                refine J.nx ?_
                refine C.joinN H (fun (o96 : Int) (j97 : Unit) => [(3, .int .i64 a3), (4, .int .u32 o96), (12, .slice A15 t13.length c16)]) (fun (o96 : Int) (j97 : Unit) => own 5 1 A15 c16 (t13.map (Value.int .u8)) :: G) (fun (o96 : Int) (j97 : Unit) => True) (fun o94 H HK95 => ?_) (fun o96 j97 H _ => ?_)
                · refine split2 H (fun c98 H => ?_) (fun c98 H => ?_)
                  · refine C.condT (congrArg (fun b => some (Value.bool b)) (decide_eq_true c98)) ?_
                    refine C.reg ?_
                    refine J.p rfl rfl rfl rfl (Y.asg rfl) ?_
                    refine J.nil ?_
                    obtain rfl := Option.some.inj H
                    exact N.meet (1, ()) ⟨HK95, trivial⟩ (by exact ⟨rfl, rfl, rfl, trivial⟩) (by exact fun w h => h)
                  · refine C.condF (congrArg (fun b => some (Value.bool b)) (decide_eq_false c98)) ?_
                    refine C.skip ?_
                    obtain rfl := Option.some.inj H
                    exact N.meet (a4, ()) ⟨HK95, trivial⟩ (by exact ⟨rfl, rfl, rfl, trivial⟩) (by exact fun w h => h)
                · refine N.at (s' := [(3, .int .i64 a3), (4, .int .u32 o96), (12, .slice A15 t13.length c16)]) (G' := own 5 1 A15 c16 (t13.map (Value.int .u8)) :: G) rfl rfl ?_
                  refine N.nx ?_
                  refine C.rs ?_
                  refine J.p rfl rfl rfl rfl (Y.mv rfl) ?_
                  refine J.p rfl rfl rfl rfl (Y.lenS Try.underlying22 rfl) ?_
                  refine J.p rfl rfl rfl rfl (Y.bin rfl rfl rfl) ?_
                  refine J.p rfl rfl rfl rfl (Y.bin rfl rfl rfl) ?_
                  refine J.p rfl rfl rfl rfl (Y.asg rfl) ?_
                  refine J.nx ?_
                  refine C.rs ?_
                  refine J.p rfl rfl rfl rfl (Y.mv rfl) ?_
                  refine J.p rfl rfl rfl rfl (Y.mv rfl) ?_
                  obtain ⟨t99, hC100, H⟩ := bind_some H
                  refine J.call (us := []) (cap := []) rfl rfl rfl go34 (fun w hw => by have hcc := pick.calls a3 (IntKind.wrap .i64 (8 * (IntKind.wrap .i64 ((t13.length : Int) - 9)))) t99 hC100 w hw; exact hcc) (fun e w1 h1 => ?_)
                  obtain ⟨rfl, hw219⟩ := h1
                  refine ⟨_, _, rfl, hw219, ?_⟩
                  refine J.p rfl rfl rfl rfl (Y.asg rfl) ?_
                  refine J.nx ?_
                  refine C.rs ?_
                  refine J.p rfl rfl rfl rfl (Y.asg rfl) ?_
                  refine J.nx ?_
                  refine C.seq ?_
                  refine C.rs ?_
                  refine J.p rfl rfl rfl rfl (Y.asg rfl) ?_
                  refine J.nx ?_
                  refine C.joinN H (fun (o138 : (List Int) × Bool) (j139 : (Option Addr) × Nat) => [(12, .slice j139.1 o138.1.length j139.2), (24, .bool o138.2)]) (fun (o138 : (List Int) × Bool) (j139 : (Option Addr) × Nat) => own 5 1 j139.1 j139.2 (o138.1.map (Value.int .u8)) :: G) (fun (o138 : (List Int) × Bool) (j139 : (Option Addr) × Nat) => True) (fun o136 H HK137 => ?_) (fun o138 j139 H _ => ?_)
                  · refine C.blk ?_
                    refine C.loop (fun (i : Nat × ((List Int) × Bool × Int) × ((Option Addr) × Nat)) => [(4, .int .u32 o96), (12, .slice i.2.2.1 i.2.1.1.length i.2.2.2), (22, .int .i64 (IntKind.wrap .i64 (8 * (IntKind.wrap .i64 ((t13.length : Int) - 9))))), (23, .int .i64 t99), (24, .bool i.2.1.2.1), (25, .int .i64 i.2.1.2.2)]) (fun (i : Nat × ((List Int) × Bool × Int) × ((Option Addr) × Nat)) => own 5 1 i.2.2.1 i.2.2.2 (i.2.1.1.map (Value.int .u8)) :: G) (fun (i : Nat × ((List Int) × Bool × Int) × ((Option Addr) × Nat)) => TopFrames.l1 o96 t99 t13 i.1 i.2.1 = some o136 ∧ (True)) (fun i => i.1) (K, (t13, false, 0), (A15, c16)) ⟨H, trivial⟩ (by exact ⟨rfl, rfl, rfl, rfl, rfl, rfl, trivial⟩) (by exact fun w h => h) ?_
                    rintro ⟨k212, i177, j178⟩ ⟨H, _⟩
                    replace H : TopFrames.l1 o96 t99 t13 k212 i177 = some o136 := H
                    obtain ⟨k176, rfl⟩ : ∃ m, k212 = m + 1 := by cases k212 with | zero => exact absurd H (by simp [TopFrames.l1]) | succ m => exact ⟨m, rfl⟩
                    rw [TopFrames.l1] at H
                    refine C.at (s' := [(4, .int .u32 o96), (12, .slice j178.1 i177.1.length j178.2), (22, .int .i64 (IntKind.wrap .i64 (8 * (IntKind.wrap .i64 ((t13.length : Int) - 9))))), (23, .int .i64 t99), (24, .bool i177.2.1), (25, .int .i64 i177.2.2)]) (G' := own 5 1 j178.1 j178.2 (i177.1.map (Value.int .u8)) :: G) rfl rfl ?_
                    refine C.seq ?_
                    refine C.rs ?_
                    refine J.p rfl rfl rfl rfl (Y.mv rfl) ?_
                    refine J.p rfl rfl rfl rfl (Y.bin rfl rfl rfl) ?_
                    refine J.nx ?_
                    refine split2 H (fun c180 H => ?_) (fun c180 H => ?_)
                    · refine C.condT (congrArg (fun b => some (Value.bool b)) (decide_eq_true c180)) ?_
                      refine C.skip ?_
                      refine N.nx ?_
                      refine C.joinB H (fun (o194 : (List Int) × Bool) (j195 : (Option Addr) × Nat) => [(4, .int .u32 o96), (12, .slice j195.1 o194.1.length j195.2), (22, .int .i64 (IntKind.wrap .i64 (8 * (IntKind.wrap .i64 ((t13.length : Int) - 9))))), (23, .int .i64 t99), (24, .bool o194.2), (25, .int .i64 i177.2.2)]) (fun (o194 : (List Int) × Bool) (j195 : (Option Addr) × Nat) => own 5 1 j195.1 j195.2 (o194.1.map (Value.int .u8)) :: G) (fun (o194 : (List Int) × Bool) (j195 : (Option Addr) × Nat) => True) (fun o192 H HK193 => ?_) (fun o194 j195 H _ => ?_)
                      · refine C.blk ?_
                        refine C.rs ?_
                        refine J.p rfl rfl rfl rfl (Y.mv rfl) ?_
                        refine J.p rfl rfl rfl rfl (Y.mv rfl) ?_
                        refine J.p rfl rfl rfl rfl (Y.bin rfl rfl rfl) ?_
                        refine J.p rfl rfl rfl rfl (Y.asg rfl) ?_
                        refine J.nx ?_
                        refine C.rs ?_
                        refine J.joinB H (fun (o199 : Bool) (j200 : Unit) => [(4, .int .u32 o96), (12, .slice j178.1 i177.1.length j178.2), (22, .int .i64 (IntKind.wrap .i64 (8 * (IntKind.wrap .i64 ((t13.length : Int) - 9))))), (23, .int .i64 t99), (24, .bool i177.2.1), (25, .int .i64 i177.2.2), (26, .int .i64 (IntKind.wrap .i64 (t99 + i177.2.2))), (145, .bool o199)]) (fun (o199 : Bool) (j200 : Unit) => own 5 1 j178.1 j178.2 (i177.1.map (Value.int .u8)) :: G) (fun (o199 : Bool) (j200 : Unit) => True) (fun o201 H HK202 => ?_) (fun o199 j200 H _ => ?_)
                        · refine J.p rfl rfl rfl rfl (Y.mv rfl) ?_
                          refine J.p rfl rfl rfl rfl (Y.mv rfl) ?_
                          refine J.p rfl rfl rfl rfl (Y.conv Try.underlying3 Try.underlying51 rfl) ?_
                          obtain ⟨p203, H⟩ := gd_some H
                          refine J.p rfl rfl rfl rfl (Y.shr rfl rfl p203) ?_
                          refine J.p rfl rfl rfl rfl (Y.bin rfl rfl rfl) ?_
                          refine J.p rfl rfl rfl rfl (Y.bin rfl rfl rfl) ?_
                          refine J.p rfl rfl rfl rfl (Y.mv rfl) ?_
                          refine split2 H (fun c204 H => ?_) (fun c204 H => ?_)
                          · refine J.as (k := 141) rfl (congrArg Value.bool (decide_eq_true c204)) ?_
                            refine J.p rfl rfl rfl rfl (Y.mv rfl) ?_
                            refine J.p rfl rfl rfl rfl (Y.mv rfl) ?_
                            refine J.p rfl rfl rfl rfl (Y.bin rfl rfl rfl) ?_
                            refine J.p rfl rfl rfl rfl (Y.pickT rfl rfl) ?_
                            refine J.nil ?_
                            obtain rfl := Option.some.inj H
                            exact N.meet (decide ((IntKind.wrap .i64 (t99 + i177.2.2)) < (IntKind.wrap .i64 (8 * (IntKind.wrap .i64 ((t13.length : Int) - 9))))), ()) ⟨HK202, trivial⟩ (by exact ⟨rfl, rfl, rfl, rfl, rfl, rfl, rfl, rfl, trivial⟩) (by exact fun w h => h)
                          · refine J.as (k := 141) rfl (congrArg Value.bool (decide_eq_false c204)) ?_
                            refine J.skip rfl rfl ?_
                            refine J.skip rfl rfl ?_
                            refine J.skip rfl rfl ?_
                            refine J.p rfl rfl rfl rfl (Y.pickF rfl rfl) ?_
                            refine J.nil ?_
                            obtain rfl := Option.some.inj H
                            exact N.meet (false, ()) ⟨HK202, trivial⟩ (by exact ⟨rfl, rfl, rfl, rfl, rfl, rfl, rfl, rfl, trivial⟩) (by exact fun w h => h)
                        · refine C.at (s' := [(4, .int .u32 o96), (12, .slice j178.1 i177.1.length j178.2), (22, .int .i64 (IntKind.wrap .i64 (8 * (IntKind.wrap .i64 ((t13.length : Int) - 9))))), (23, .int .i64 t99), (24, .bool i177.2.1), (25, .int .i64 i177.2.2), (26, .int .i64 (IntKind.wrap .i64 (t99 + i177.2.2))), (145, .bool o199)]) (G' := own 5 1 j178.1 j178.2 (i177.1.map (Value.int .u8)) :: G) rfl rfl ?_
                          refine split2 H (fun c205 H => ?_) (fun c205 H => ?_)
                          · refine C.condT (congrArg (fun b => some (Value.bool b)) (c205)) ?_
                            refine C.rs ?_
                            refine J.p rfl rfl rfl rfl (Y.mv rfl) ?_
                            refine J.p rfl rfl rfl rfl (Y.mv rfl) ?_
                            refine J.p rfl rfl rfl rfl (Y.quo rfl rfl (by decide)) ?_
                            refine J.p rfl rfl rfl rfl (Y.bin rfl rfl rfl) ?_
                            refine J.p rfl rfl rfl rfl (Y.mv rfl) ?_
                            refine J.p rfl rfl rfl rfl (Y.mv rfl) ?_
                            refine J.p rfl rfl rfl rfl (Y.quo rfl rfl (by decide)) ?_
                            refine J.p rfl rfl rfl rfl (Y.bin rfl rfl rfl) ?_
                            obtain ⟨p206, H⟩ := gd_some H
                            refine J.el rfl rfl rfl Try.underlying22 ti5 Try.underlying5 rfl rfl rfl p206 (RdG.own 0 rfl) ?_
                            refine J.p rfl rfl rfl rfl (Y.mv rfl) ?_
                            refine J.p rfl rfl rfl rfl (Y.rem rfl rfl (by decide)) ?_
                            refine J.p rfl rfl rfl rfl (Y.conv Try.underlying3 Try.underlying51 rfl) ?_
                            obtain ⟨p207, H⟩ := gd_some H
                            refine J.p rfl rfl rfl rfl (Y.shl rfl rfl p207) ?_
                            refine J.p rfl rfl rfl rfl (Y.bin rfl rfl rfl) ?_
                            obtain ⟨p210, H⟩ := gd_some H
                            refine J.know ((RdG.own 0 rfl).some_ (j := Int.toNat (IntKind.wrap .i64 (4 + (IntKind.wrap .i64 (Int.tdiv (IntKind.wrap .i64 (t99 + i177.2.2)) 8))))) (by rw [List.length_map]; exact idx_lt p210)) (fun hh => ?_)
                            obtain ⟨a208, ha209⟩ := hh
                            refine J.p rfl rfl rfl rfl (Y.ixa Try.underlying22 ti5 rfl rfl p210 ha209) ?_
                            obtain ⟨p211, H⟩ := gd_some H
                            refine J.stoL (enc := (Value.int .u8)) ti5 ha209 rfl rfl rfl p211 ?_
                            refine J.as (k := 12) rfl (set_len i177.1 (Int.toNat (IntKind.wrap .i64 (4 + (IntKind.wrap .i64 (Int.tdiv (IntKind.wrap .i64 (t99 + i177.2.2)) 8))))) (Sx.bits .xor .u8 (rd i177.1 (IntKind.wrap .i64 (4 + (IntKind.wrap .i64 (Int.tdiv (IntKind.wrap .i64 (t99 + i177.2.2)) 8))))) (Sx.shl .u8 1 (IntKind.wrap .u64 (Int.tmod (IntKind.wrap .i64 (t99 + i177.2.2)) 8))))) ?_
                            refine J.nx ?_
                            refine C.reg ?_
                            refine J.p rfl rfl rfl rfl (Y.asg rfl) ?_
                            refine J.nil ?_
                            refine N.ib ?_
                            obtain rfl := Option.some.inj H
                            exact N.meet (((i177.1.set (Int.toNat (IntKind.wrap .i64 (4 + (IntKind.wrap .i64 (Int.tdiv (IntKind.wrap .i64 (t99 + i177.2.2)) 8))))) (Sx.bits .xor .u8 (rd i177.1 (IntKind.wrap .i64 (4 + (IntKind.wrap .i64 (Int.tdiv (IntKind.wrap .i64 (t99 + i177.2.2)) 8))))) (Sx.shl .u8 1 (IntKind.wrap .u64 (Int.tmod (IntKind.wrap .i64 (t99 + i177.2.2)) 8))))), true), (j178.1, j178.2)) ⟨HK193, trivial⟩ (by exact ⟨rfl, rfl, rfl, rfl, rfl, rfl, trivial⟩) (by exact fun w h => h)
                          · refine C.condF (congrArg (fun b => some (Value.bool b)) (nt c205)) ?_
                            refine C.skip ?_
                            refine N.ib ?_
                            obtain rfl := Option.some.inj H
                            exact N.meet ((i177.1, i177.2.1), (j178.1, j178.2)) ⟨HK193, trivial⟩ (by exact ⟨rfl, rfl, rfl, rfl, rfl, rfl, trivial⟩) (by exact fun w h => h)
                      · refine C.at (s' := [(4, .int .u32 o96), (12, .slice j195.1 o194.1.length j195.2), (22, .int .i64 (IntKind.wrap .i64 (8 * (IntKind.wrap .i64 ((t13.length : Int) - 9))))), (23, .int .i64 t99), (24, .bool o194.2), (25, .int .i64 i177.2.2)]) (G' := own 5 1 j195.1 j195.2 (o194.1.map (Value.int .u8)) :: G) rfl rfl ?_
                        refine C.reg ?_
                        refine J.p rfl rfl rfl rfl (Y.mv rfl) ?_
                        refine J.p rfl rfl rfl rfl (Y.bin rfl rfl rfl) ?_
                        refine J.p rfl rfl rfl rfl (Y.asg rfl) ?_
                        refine J.nil ?_
                        exact N.again (k176, (o194.1, o194.2, IntKind.wrap .i64 (i177.2.2 + 1)), (j195.1, j195.2)) ⟨H, trivial⟩ (Nat.lt_succ_self _) (by exact ⟨rfl, rfl, rfl, rfl, rfl, rfl, trivial⟩) (by exact fun w h => h)
                    · refine C.condF (congrArg (fun b => some (Value.bool b)) (decide_eq_false c180)) ?_
                      refine C.exit ?_
                      refine X.th ?_
                      refine X.th ?_
                      refine X.hit ?_
                      obtain rfl := Option.some.inj H
                      exact N.meet ((i177.1, i177.2.1), (j178.1, j178.2)) ⟨HK137, trivial⟩ (by exact ⟨rfl, rfl, trivial⟩) (by exact fun w h => h)
                  · refine N.at (s' := [(12, .slice j139.1 o138.1.length j139.2), (24, .bool o138.2)]) (G' := own 5 1 j139.1 j139.2 (o138.1.map (Value.int .u8)) :: G) rfl rfl ?_
                    refine N.nx ?_
                    refine C.rs ?_
                    refine J.p rfl rfl rfl rfl (Y.mv rfl) ?_
                    refine J.know (own_leL 0 rfl) (fun hc213 => ?_)
                    obtain ⟨t214, hC215, H⟩ := bind_some H
                    refine J.call (us := []) (cap := []) rfl rfl rfl go15 (fun w hw => by have hcc := fDecode.calls K o138.1 0 j139.1 j139.2 (RdG.own 0 rfl) hc213 t214 hC215 w hw; exact hcc) (fun e w1 h1 => ?_)
                    obtain ⟨rfl, hw218⟩ := h1
                    refine ⟨_, _, rfl, hw218, ?_⟩
                    refine J.p rfl rfl rfl rfl (Y.mv rfl) ?_
                    refine J.p rfl rfl rfl rfl (Y.ext rfl rfl) ?_
                    refine J.p rfl rfl rfl rfl (Y.ext rfl rfl) ?_
                    refine J.p rfl rfl rfl rfl (Y.ext rfl rfl) ?_
                    refine J.alloc (L := [.int .i64 0, .int .u64 0, .int .i64 0, .string ByteArray.empty, .string ByteArray.empty, .int .u64 0, .int .i64 0, .int .i64 0, .int .i64 0, .string ByteArray.empty, .int .i64 0, .int .i64 0, .int .i64 0, .int .u32 0]) rfl ti36 rfl (fun g216 => ?_)
                    refine J.stA (us := [.int .i64 t214.1, .int .u64 t214.2.1, .int .i64 t214.2.2.1, .string t214.2.2.2.1, .string t214.2.2.2.2.1, .int .u64 t214.2.2.2.2.2.1, .int .i64 t214.2.2.2.2.2.2.1, .int .i64 t214.2.2.2.2.2.2.2.1, .int .i64 t214.2.2.2.2.2.2.2.2.1, .string t214.2.2.2.2.2.2.2.2.2.1, .int .i64 t214.2.2.2.2.2.2.2.2.2.2.1, .int .i64 t214.2.2.2.2.2.2.2.2.2.2.2.1, .int .i64 t214.2.2.2.2.2.2.2.2.2.2.2.2.1, .int .u32 t214.2.2.2.2.2.2.2.2.2.2.2.2.2.1]) (L' := [.int .i64 t214.1, .int .u64 t214.2.1, .int .i64 t214.2.2.1, .string t214.2.2.2.1, .string t214.2.2.2.2.1, .int .u64 t214.2.2.2.2.2.1, .int .i64 t214.2.2.2.2.2.2.1, .int .i64 t214.2.2.2.2.2.2.2.1, .int .i64 t214.2.2.2.2.2.2.2.2.1, .string t214.2.2.2.2.2.2.2.2.2.1, .int .i64 t214.2.2.2.2.2.2.2.2.2.2.1, .int .i64 t214.2.2.2.2.2.2.2.2.2.2.2.1, .int .i64 t214.2.2.2.2.2.2.2.2.2.2.2.2.1, .int .u32 t214.2.2.2.2.2.2.2.2.2.2.2.2.2.1]) ti36 rfl rfl rfl rfl rfl rfl ?_
                    refine J.p rfl rfl rfl rfl (Y.asg rfl) ?_
                    refine J.p rfl rfl rfl rfl (Y.asg rfl) ?_
                    refine J.nx ?_
                    refine C.rs ?_
                    refine J.p rfl rfl rfl rfl (Y.mv rfl) ?_
                    refine J.p rfl rfl rfl rfl (Y.bin rfl rfl rfl) ?_
                    refine J.p rfl rfl rfl rfl (Y.mv rfl) ?_
                    refine J.p rfl rfl rfl rfl (Y.eqb Try.underlying4 rfl rfl) ?_
                    refine J.p rfl rfl rfl rfl (Y.asg rfl) ?_
                    refine J.nx ?_
                    refine C.ret ?_
                    obtain rfl := Option.some.inj H
                    exact ret_ok (ks := [10]) rfl rfl (fun w h => ⟨rfl, (St.pick [] [_, _] h rfl)⟩)
end Go.Proofs.Ytakolnamobkkkaa
