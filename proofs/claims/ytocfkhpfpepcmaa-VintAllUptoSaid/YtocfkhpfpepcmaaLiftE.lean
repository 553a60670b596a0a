/- Own text, printed by the lifting program: each Go function beside a plain function, and the proof that a call of the one comes to the other. Conditions: what came in can be read. -/
import Derived.Test.YtocfkhpfpepcmaaLiftD
set_option linter.unusedVariables false
set_option linter.unusedSimpArgs false
set_option maxRecDepth 10000
set_option maxHeartbeats 4000000
namespace Go.Proofs.Ytocfkhpfpepcmaa
open Go Go.Sx
abbrev T43_ := Int × Int
abbrev encT43_ (x : T43_) : List Value := [.int .i64 x.1, .int .u64 x.2]
theorem lenT43_ : ∀ x : T43_, (encT43_ x).length = 2 := fun _ => rfl
theorem oneT43_ : ∀ (x : T43_), ∀ u ∈ encT43_ x, u.oneCell' = true := by intro x u hu; simp only [List.mem_cons, List.not_mem_nil, or_false] at hu; rcases hu with rfl | rfl <;> rfl
theorem ti37 : TI Try.prog 37 1 24 (.slice none 0 0) := TI.of (by kernel_rfl)
theorem ti40 : TI Try.prog 40 1 8 (.nilFunc) := TI.of (by kernel_rfl)
theorem ti43 : TI Try.prog 43 2 16 (.agg #[.int .i64 0, .int .u64 0]) := TI.of (by kernel_rfl)
theorem fa43_0 : FA Try.prog 43 0 0 := FA.of Try.underlying43 rfl ti3 (by decide) rfl
theorem fa43_1 : FA Try.prog 43 1 1 := FA.of Try.underlying43 rfl ti24 (by decide) rfl
theorem pl43 : PL Try.prog 43 [(0, 1), (1, 1)] := PL.of Try.underlying43 (by kernel_rfl)
theorem go24 : GoF Try.prog 24 := GoF.of Try.func24 (by kernel_rfl) (by kernel_rfl)
/-! ### salvor/salvorref2.All: function 24 -/
def refAll.l1 (K : Nat) (a0 : List Int) : Nat → ((List T43_) × Int) → Option (((List T43_)) ⊕ ((List T43_)))
  | 0, _ => none
  | k + 1, i69 => if i69.2 < (a0.length : Int) then (gd ((0 : Int) ≤ i69.2 ∧ ((Int.toNat i69.2) ≤ a0.length ∧ a0.length ≤ a0.length)) ((refDecode.f K ((a0.take a0.length).drop (Int.toNat i69.2))).bind fun t75 => if t75.2.2 ≠ 0 then (some (.inl (i69.1))) else (gd ((i69.1.length + [(i69.2, t75.1)].length) * 16 ≤ 140737488355328) (refAll.l1 K a0 k ((i69.1 ++ [(i69.2, t75.1)]), IntKind.wrap .i64 (i69.2 + t75.2.1)))))) else (some (.inr i69.1))
def refAll.f (K : Nat) (a0 : List Int) : Option ((List T43_)) := thn (refAll.l1 K a0 K (([] : List T43_), 0)) fun o34 => some o34
theorem refAll.calls {B : Nat} {w0 : World} {G : List HP} (K : Nat) (a0 : List Int) (Aa0 : Option Addr) (ca0 : Nat) (ha0 : RdG B w0 G Aa0 (a0.map (Value.int .u8))) (ka0 : a0.length ≤ ca0) (r : (List T43_)) (H : refAll.f K a0 = some r) (w : World) (hw : St B w0 (G) w) :
    Calls Try.prog 24 [.slice Aa0 a0.length ca0].toArray w (fun e w' => ∃ A0 c0, e = .returned (.slice A0 r.length c0) ∧ St B w0 (own 43 2 A0 c0 (r.flatMap encT43_) :: G) w') := by
  unfold refAll.f at H
  refine calls_of (n := 33) (s := [(0, .slice Aa0 a0.length ca0)]) Try.func24 rfl rfl rfl rfl ?_ hw
  refine C.rs ?_
  refine J.p rfl rfl rfl rfl (Y.asg rfl) ?_
  refine J.nx ?_
  refine C.rs ?_
  refine J.p rfl rfl rfl rfl (Y.asg rfl) ?_
  refine J.nx ?_
  refine C.rs ?_
  refine J.p rfl rfl rfl rfl (Y.asg rfl) ?_
  refine J.nx ?_
  refine C.joinR H (fun (o34 : (List T43_)) (j35 : (Option Addr) × Nat) => [(3, .slice j35.1 o34.length j35.2)]) (fun (o34 : (List T43_)) (j35 : (Option Addr) × Nat) => own 43 2 j35.1 j35.2 (o34.flatMap encT43_) :: G) (fun (o34 : (List T43_)) (j35 : (Option Addr) × Nat) => True) (fun o32 H HK33 => ?_) (fun o34 j35 H _ => ?_)
  · refine C.blk ?_
    refine C.loop (fun (i : Nat × ((List T43_) × Int) × ((Option Addr) × Nat)) => [(0, .slice Aa0 a0.length ca0), (3, .slice i.2.2.1 i.2.1.1.length i.2.2.2), (4, .int .i64 i.2.1.2)]) (fun (i : Nat × ((List T43_) × Int) × ((Option Addr) × Nat)) => own 43 2 i.2.2.1 i.2.2.2 (i.2.1.1.flatMap encT43_) :: G) (fun (i : Nat × ((List T43_) × Int) × ((Option Addr) × Nat)) => refAll.l1 K a0 i.1 i.2.1 = some o32 ∧ (True)) (fun i => i.1) (K, (([] : List T43_), 0), (none, 0)) ⟨H, trivial⟩ (by exact ⟨rfl, rfl, rfl, trivial⟩) (by exact fun w h => (h.nilOwn 43 2)) ?_
    rintro ⟨k85, i69, j70⟩ ⟨H, _⟩
    replace H : refAll.l1 K a0 k85 i69 = some o32 := H
    obtain ⟨k68, rfl⟩ : ∃ m, k85 = m + 1 := by cases k85 with | zero => exact absurd H (by simp [refAll.l1]) | succ m => exact ⟨m, rfl⟩
    rw [refAll.l1] at H
    refine C.at (s' := [(0, .slice Aa0 a0.length ca0), (3, .slice j70.1 i69.1.length j70.2), (4, .int .i64 i69.2)]) (G' := own 43 2 j70.1 j70.2 (i69.1.flatMap encT43_) :: G) rfl rfl ?_
    refine C.seq ?_
    refine C.rs ?_
    refine J.p rfl rfl rfl rfl (Y.mv rfl) ?_
    refine J.p rfl rfl rfl rfl (Y.mv rfl) ?_
    refine J.p rfl rfl rfl rfl (Y.lenS Try.underlying22 rfl) ?_
    refine J.p rfl rfl rfl rfl (Y.bin rfl rfl rfl) ?_
    refine J.nx ?_
    refine split2 H (fun c73 H => ?_) (fun c73 H => ?_)
    · refine C.condT (congrArg (fun b => some (Value.bool b)) (decide_eq_true c73)) ?_
      refine C.skip ?_
      refine N.nx ?_
      refine C.blk ?_
      refine C.rs ?_
      refine J.p rfl rfl rfl rfl (Y.mv rfl) ?_
      refine J.p rfl rfl rfl rfl (Y.mv rfl) ?_
      obtain ⟨p74, H⟩ := gd_some H
      refine J.p rfl rfl rfl rfl (Y.slcL Try.underlying22 ti5 rfl (bnd.yes rfl p74.1) bnd.no p74.2 ka0) ?_
      obtain ⟨t75, hC76, H⟩ := bind_some H
      refine J.call (us := []) (cap := []) rfl rfl rfl go16 (fun w hw => by have hcc := refDecode.calls K ((a0.take a0.length).drop (Int.toNat i69.2)) (subA 1 Aa0 ca0 (Int.toNat i69.2)) (ca0 - (Int.toNat i69.2)) (RdG.subL (l := (Int.toNat i69.2)) (h := a0.length) (ha0.suf [_] rfl) ka0) (hc_sub ka0) t75 hC76 w hw; exact hcc) (fun e w1 h1 => ?_)
      obtain ⟨rfl, hw84⟩ := h1
      refine ⟨_, _, rfl, hw84, ?_⟩
      refine J.p rfl rfl rfl rfl (Y.mv rfl) ?_
      refine J.p rfl rfl rfl rfl (Y.ext rfl rfl) ?_
      refine J.p rfl rfl rfl rfl (Y.ext rfl rfl) ?_
      refine J.p rfl rfl rfl rfl (Y.ext rfl rfl) ?_
      refine J.p rfl rfl rfl rfl (Y.asg rfl) ?_
      refine J.p rfl rfl rfl rfl (Y.asg rfl) ?_
      refine J.p rfl rfl rfl rfl (Y.asg rfl) ?_
      refine J.nx ?_
      refine C.seq ?_
      refine C.rs ?_
      refine J.p rfl rfl rfl rfl (Y.mv rfl) ?_
      refine J.p rfl rfl rfl rfl (Y.bin rfl rfl rfl) ?_
      refine J.nx ?_
      refine split2 H (fun c77 H => ?_) (fun c77 H => ?_)
      · refine C.condT (congrArg (fun b => some (Value.bool b)) (decide_eq_true c77)) ?_
        refine C.rs ?_
        refine J.p rfl rfl rfl rfl (Y.mv rfl) ?_
        refine J.p rfl rfl rfl rfl (Y.asg rfl) ?_
        refine J.nx ?_
        refine C.ret ?_
        obtain rfl := Option.some.inj H
        obtain rfl := fin_inl HK33
        refine T.th ?_
        refine T.ib ?_
        refine T.th ?_
        refine T.ib ?_
        refine T.th ?_
        exact ret_ok (ks := [2]) rfl rfl (fun w h => ⟨j70.1, j70.2, rfl, h⟩)
      · refine C.condF (congrArg (fun b => some (Value.bool b)) (decide_eq_false c77)) ?_
        refine C.skip ?_
        refine N.nx ?_
        refine C.rs ?_
        refine J.p rfl rfl rfl rfl (Y.mv rfl) ?_
        refine J.p rfl rfl rfl rfl (Y.mv rfl) ?_
        refine J.p rfl rfl rfl rfl (Y.mv rfl) ?_
        refine J.p rfl rfl rfl rfl (Y.bld (cs := [.int .i64 i69.2, .int .u64 t75.1]) rfl pl43 ti43 rfl (by kernel_rfl)) ?_
        refine J.bsM (enc := encT43_) (xs := [(i69.2, t75.1)]) (zs := [.int .i64 0, .int .u64 0]) lenT43_ rfl Try.underlying37 ti43 (by kernel_rfl) rfl (by kernel_rfl) rfl rfl rfl (fun A78 => ?_)
        refine J.pull 1 rfl rfl ?_
        obtain ⟨p82, H⟩ := gd_some H
        refine J.appM (enc := encT43_) (xs := i69.1) (ys := [(i69.2, t75.1)]) lenT43_ oneT43_ rfl Try.underlying37 ti43 rfl (by decide) (by decide) rfl rfl (RdG.own 1 rfl) p82 (fun A80 c81 => ?_)
        refine J.pull 1 rfl rfl (J.drop ?_)
        refine J.p rfl rfl rfl rfl (Y.asg rfl) ?_
        refine J.nx ?_
        refine C.reg ?_
        refine J.p rfl rfl rfl rfl (Y.mv rfl) ?_
        refine J.p rfl rfl rfl rfl (Y.mv rfl) ?_
        refine J.p rfl rfl rfl rfl (Y.bin rfl rfl rfl) ?_
        refine J.p rfl rfl rfl rfl (Y.asg rfl) ?_
        refine J.nil ?_
        refine N.ib ?_
        exact N.again (k68, ((i69.1 ++ [(i69.2, t75.1)]), IntKind.wrap .i64 (i69.2 + t75.2.1)), (A80, c81)) ⟨H, trivial⟩ (Nat.lt_succ_self _) (by exact ⟨rfl, rfl, rfl, trivial⟩) (by exact fun w h => h)
    · refine C.condF (congrArg (fun b => some (Value.bool b)) (decide_eq_false c73)) ?_
      refine C.exit ?_
      refine X.th ?_
      refine X.th ?_
      refine X.hit ?_
      obtain rfl := Option.some.inj H
      exact N.meet (i69.1, (j70.1, j70.2)) ⟨fin_inr HK33, trivial⟩ (by exact ⟨rfl, trivial⟩) (by exact fun w h => h)
  · refine C.at (s' := [(3, .slice j35.1 o34.length j35.2)]) (G' := own 43 2 j35.1 j35.2 (o34.flatMap encT43_) :: G) rfl rfl ?_
    refine C.rs ?_
    refine J.p rfl rfl rfl rfl (Y.mv rfl) ?_
    refine J.p rfl rfl rfl rfl (Y.asg rfl) ?_
    refine J.nx ?_
    refine C.ret ?_
    obtain rfl := Option.some.inj H
    exact ret_ok (ks := [2]) rfl rfl (fun w h => ⟨j35.1, j35.2, rfl, h⟩)
/-! ### salvor/salvorlaw2.VintAll: function 7 -/
def VintAll.f (K : Nat) (a0 : List Int) (a1 : Int) : Option (Bool) := (lent.f K a0).bind fun t5 => (refAll.f K a0).bind fun t10 => (All.f t5.1).bind fun t18 => (All.f [5, 6]).bind fun t26 => (some ()).bind fun o30 => thn ((AllF.f K (fun (i117 : Int) (x127 : Int × Int) => if i117 = a1 then (some (.inr (.inl i117))) else ((if (t10.length : Int) ≤ i117 then (some true) else (gd ((0 : Int) ≤ i117 ∧ i117 < (t10.length : Int)) (gd ((0 : Int) ≤ i117 ∧ i117 < (t10.length : Int)) (if x127.1 ≠ ((rd t10 i117).1) then (some true) else (gd ((0 : Int) ≤ i117 ∧ i117 < (t10.length : Int)) (gd ((0 : Int) ≤ i117 ∧ i117 < (t10.length : Int)) (some (decide (x127.2 ≠ ((rd t10 i117).2)))))))))).bind fun o150 => if o150 = true then (some (.inr (.inr i117))) else (some (.inl (IntKind.wrap .i64 (i117 + 1)))))) 0 t5.1).bind fun t125 => ysel t125 (fun i117 => some (.inr i117)) (fun o => ysel o (fun e120 => some (.inr e120)) (fun e122 => some (.inl (false))))) fun o80 => (if o80 ≠ (t10.length : Int) then (some (decide (o80 ≠ a1))) else (some false)).bind fun o167 => if o167 = true then (some false) else ((AllF.f K (fun (i286 : Int) (x294 : Int × Int) => (if (t10.length : Int) ≤ i286 then (some true) else (gd ((0 : Int) ≤ i286 ∧ i286 < (t10.length : Int)) (gd ((0 : Int) ≤ i286 ∧ i286 < (t10.length : Int)) (if x294.1 ≠ ((rd t10 i286).1) then (some true) else (gd ((0 : Int) ≤ i286 ∧ i286 < (t10.length : Int)) (gd ((0 : Int) ≤ i286 ∧ i286 < (t10.length : Int)) (some (decide (x294.2 ≠ ((rd t10 i286).2)))))))))).bind fun o315 => if o315 = true then (some (.inr i286)) else (if 2 < (IntKind.wrap .i64 (i286 + 1)) then (some (.inl (IntKind.wrap .i64 (i286 + 1)))) else ((AllF.f K (fun (i365 : Int) (x371 : Int × Int) => (if (t10.length : Int) ≤ i365 then (some true) else (gd ((0 : Int) ≤ i365 ∧ i365 < (t10.length : Int)) (gd ((0 : Int) ≤ i365 ∧ i365 < (t10.length : Int)) (if x371.1 ≠ ((rd t10 i365).1) then (some true) else (gd ((0 : Int) ≤ i365 ∧ i365 < (t10.length : Int)) (gd ((0 : Int) ≤ i365 ∧ i365 < (t10.length : Int)) (some (decide (x371.2 ≠ ((rd t10 i365).2)))))))))).bind fun o390 => if o390 = true then (some (.inr i365)) else (some (.inl (IntKind.wrap .i64 (i365 + 1))))) 0 t5.1).bind fun t369 => ysel t369 (fun i365 => if i365 ≠ (t10.length : Int) then (some (.inr (IntKind.wrap .i64 (i286 + 1)))) else (some (.inl (IntKind.wrap .i64 (i286 + 1))))) (fun e367 => some (.inr (IntKind.wrap .i64 (i286 + 1))))))) 0 t5.1).bind fun t292 => ysel t292 (fun i286 => (AllF.f K (fun (i424 : Int) (x431 : Int × Int) => (if x431.1 ≠ i424 then (some true) else (some (decide (x431.2 ≠ (IntKind.wrap .u64 (IntKind.wrap .i64 (5 + i424))))))).bind fun o443 => if o443 = true then (some (.inr i424)) else (some (.inl (IntKind.wrap .i64 (i424 + 1))))) 0 [5, 6]).bind fun t429 => ysel t429 (fun i424 => if i424 ≠ 2 then (some false) else ((All.f t5.1).bind fun t452 => (AllF.f K (fun (i462 : Int) (x468 : Int × Int) => some (.inl (IntKind.wrap .i64 (i462 + 1)))) 0 t5.1).bind fun t466 => ysel t466 (fun i462 => ((kept.f K t5.1 t5.2 a0).bind fun t490 => if t490 = true then (some (decide (i462 = (t10.length : Int)))) else (some false)).bind fun o484 => (turned.f K t5.1 t5.2).bind fun t494 => (refAll.f K t494).bind fun t498 => (All.f t494).bind fun t504 => (AllF.f K (fun (i540 : Int) (x548 : Int × Int) => (if (t498.length : Int) ≤ i540 then (some true) else (gd ((0 : Int) ≤ i540 ∧ i540 < (t498.length : Int)) (gd ((0 : Int) ≤ i540 ∧ i540 < (t498.length : Int)) (if x548.1 ≠ ((rd t498 i540).1) then (some true) else (gd ((0 : Int) ≤ i540 ∧ i540 < (t498.length : Int)) (gd ((0 : Int) ≤ i540 ∧ i540 < (t498.length : Int)) (some (decide (x548.2 ≠ ((rd t498 i540).2)))))))))).bind fun o566 => if o566 = true then (some (.inr i540)) else (some (.inl (IntKind.wrap .i64 (i540 + 1))))) 0 t494).bind fun t546 => ysel t546 (fun i540 => if i286 = (t10.length : Int) then (if o484 = true then (if i540 = (t498.length : Int) then ((works.f K).bind fun t585 => some t585) else (some false)) else (some false)) else (some false)) (fun e543 => some false)) ((fun (e : Empty) => none)))) (fun e427 => some false)) (fun e289 => some false))
theorem VintAll.calls {B : Nat} {w0 : World} {G : List HP} (K : Nat) (a0 : List Int) (a1 : Int) (Aa0 : Option Addr) (ca0 : Nat) (ha0 : RdG B w0 G Aa0 (a0.map (Value.int .u8))) (ka0 : a0.length ≤ ca0) (r : Bool) (H : VintAll.f K a0 a1 = some r) (w : World) (hw : St B w0 (G) w) :
    Calls Try.prog 7 [.slice Aa0 a0.length ca0, .int .i64 a1].toArray w (fun e w' => e = .returned (.bool r) ∧ St B w0 (G) w') := by
  unfold VintAll.f at H
  refine calls_ofM (n := 217) (s := [(0, .slice Aa0 a0.length ca0), (1, .int .i64 a1)]) Try.func7 rfl rfl rfl rfl ?_ hw
  refine C.rs ?_
  refine J.box (L := [.int .i64 a1]) rfl rfl rfl (fun g1 => ?_)
  refine J.alloc (L := [.bool false]) rfl ti4 rfl (fun g3 => ?_)
  refine J.nx ?_
  refine C.rs ?_
  refine J.p rfl rfl rfl rfl (Y.mv rfl) ?_
  obtain ⟨t5, hC6, H⟩ := bind_some H
  refine J.call (us := []) (cap := []) rfl rfl rfl go14 (fun w hw => by have hcc := lent.calls K a0 Aa0 ca0 (ha0.suf [_, _, _] rfl) ka0 t5 hC6 w hw; exact hcc) (fun e w1 h1 => ?_)
  obtain ⟨A7, c8, rfl, hw595⟩ := h1
  refine ⟨_, _, rfl, hw595, ?_⟩
  refine J.p rfl rfl rfl rfl (Y.asg rfl) ?_
  refine J.nx ?_
  refine C.rs ?_
  refine J.p rfl rfl rfl rfl (Y.mv rfl) ?_
  obtain ⟨t10, hC11, H⟩ := bind_some H
  refine J.call (us := []) (cap := []) rfl rfl rfl go24 (fun w hw => by have hcc := refAll.calls K a0 Aa0 ca0 (ha0.suf [_, _, _, _] rfl) ka0 t10 hC11 w hw; exact hcc) (fun e w1 h1 => ?_)
  obtain ⟨A12, c13, rfl, hw594⟩ := h1
  refine ⟨_, _, rfl, hw594, ?_⟩
  refine J.alloc (L := [.slice none 0 0]) rfl ti37 rfl (fun g15 => ?_)
  refine J.stE (L' := [.slice A12 t10.length c13]) ti37 rfl rfl rfl rfl rfl ?_
  refine J.nx ?_
  refine C.rs ?_
  refine J.p rfl rfl rfl rfl (Y.mv rfl) ?_
  refine J.know (own_leL 2 rfl) (fun hc17 => ?_)
  obtain ⟨t18, hC19, H⟩ := bind_some H
  refine J.call (us := []) (cap := []) rfl rfl rfl go25 (fun w hw => by have hcc := All.calls t5.1 A7 c8 (RdG.pre (RdG.own 2 rfl)) (len_pre hc17) t18 hC19 w hw; exact hcc) (fun e w1 h1 => ?_)
  obtain ⟨g20, rfl, hw593⟩ := h1
  refine ⟨_, _, rfl, hw593, ?_⟩
  refine J.alloc (L := [.nilFunc]) rfl ti40 rfl (fun g22 => ?_)
  refine J.stE (L' := [.func (.func 40) #[] #[.pointer (some ⟨g20, 0, none⟩)]]) ti40 rfl rfl rfl rfl rfl ?_
  refine J.nx ?_
  refine C.rs ?_
  refine J.bsL (enc := (Value.int .u8)) (xs := [5, 6]) rfl Try.underlying22 ti5 rfl rfl rfl rfl rfl (fun A24 => ?_)
  obtain ⟨t26, hC27, H⟩ := bind_some H
  refine J.call (us := []) (cap := []) rfl rfl rfl go25 (fun w hw => by have hcc := All.calls [5, 6] A24 2 (RdG.own 0 rfl) (show [5, 6].length ≤ 2 from Nat.le_refl _) t26 hC27 w hw; exact hcc) (fun e w1 h1 => ?_)
  obtain ⟨g28, rfl, hw592⟩ := h1
  refine ⟨_, _, rfl, hw592, ?_⟩
  refine J.p rfl rfl rfl rfl (Y.asg rfl) ?_
  refine J.nx ?_
  refine C.seq ?_
  refine C.rs ?_
  refine J.joinBD H (fun (o30 : Unit) (j31 : Unit) => [(0, .slice Aa0 a0.length ca0), (3, .pointer (some ⟨g1, 0, none⟩)), (4, .pointer (some ⟨g3, 0, none⟩)), (5, .slice A7 t5.1.length c8), (6, .pointer (some ⟨g15, 0, none⟩)), (7, .pointer (some ⟨g22, 0, none⟩)), (8, .func (.func 40) #[] #[.pointer (some ⟨g28, 0, none⟩)]), (37, .bool false)]) (fun (o30 : Unit) (j31 : Unit) => cells g1 3 [.int .i64 a1] :: cells g3 4 [.bool false] :: own 5 1 A7 c8 ((t5.1 ++ t5.2).map (Value.int .u8)) :: cells g15 37 [.slice A12 t10.length c13] :: cells g22 40 [.func (.func 40) #[] #[.pointer (some ⟨g20, 0, none⟩)]] :: cells g28 22 [.slice A24 [5, 6].length 2] :: own 43 2 A12 c13 (t10.flatMap encT43_) :: cells g20 22 [.slice A7 t5.1.length c8] :: own 5 1 A24 2 ([5, 6].map (Value.int .u8)) :: G) (fun (o30 : Unit) (j31 : Unit) => True) (fun o33 H HK34 => ?_) (fun ds32 o30 j31 H _ => ?_)
  · refine J.r rfl rfl rfl rfl (Y.ldC 2 Try.underlying40 rfl rfl rfl rfl) ?_
    refine J.p rfl rfl rfl rfl (Y.eqfn Try.underlying40 rfl rfl) ?_
    refine J.p rfl rfl rfl rfl (Y.mv rfl) ?_
    refine J.p rfl rfl rfl rfl (Y.mv rfl) ?_
    refine J.p rfl rfl rfl rfl (Y.eqfn Try.underlying40 rfl rfl) ?_
    refine J.p rfl rfl rfl rfl (Y.pickF rfl rfl) ?_
    refine J.nil ?_
    obtain rfl := Option.some.inj H
    exact N.meetD ((), ()) ⟨HK34, trivial⟩ (by exact ⟨rfl, rfl, rfl, rfl, rfl, rfl, rfl, rfl, trivial⟩) (by exact fun w h => (St.pick [9, 8, 7, 6, 4, 2, 0, 5, 3, 1] [_, _, _, _, _, _, _, _, _, _] h rfl))
  · refine C.at (s' := [(0, .slice Aa0 a0.length ca0), (3, .pointer (some ⟨g1, 0, none⟩)), (4, .pointer (some ⟨g3, 0, none⟩)), (5, .slice A7 t5.1.length c8), (6, .pointer (some ⟨g15, 0, none⟩)), (7, .pointer (some ⟨g22, 0, none⟩)), (8, .func (.func 40) #[] #[.pointer (some ⟨g28, 0, none⟩)]), (37, .bool false)]) (G' := dblks ds32 :: cells g1 3 [.int .i64 a1] :: cells g3 4 [.bool false] :: own 5 1 A7 c8 ((t5.1 ++ t5.2).map (Value.int .u8)) :: cells g15 37 [.slice A12 t10.length c13] :: cells g22 40 [.func (.func 40) #[] #[.pointer (some ⟨g20, 0, none⟩)]] :: cells g28 22 [.slice A24 [5, 6].length 2] :: own 43 2 A12 c13 (t10.flatMap encT43_) :: cells g20 22 [.slice A7 t5.1.length c8] :: own 5 1 A24 2 ([5, 6].map (Value.int .u8)) :: G) rfl rfl ?_
    refine C.condF rfl ?_
    refine C.skip ?_
    refine N.nx ?_
    refine C.rs ?_
    refine J.alloc (L := [.int .i64 0]) rfl ti3 rfl (fun g35 => ?_)
    refine J.stE (L' := [.int .i64 0]) ti3 rfl rfl rfl rfl rfl ?_
    refine J.nx ?_
    refine C.seq ?_
    refine C.rs ?_
    refine J.r rfl rfl rfl rfl (Y.ldC 6 Try.underlying40 rfl rfl rfl rfl) ?_
    refine J.nx ?_
    refine C.joinNRD H (fun (o80 : Int) (j81 : Unit) => [(0, .slice Aa0 a0.length ca0), (3, .pointer (some ⟨g1, 0, none⟩)), (4, .pointer (some ⟨g3, 0, none⟩)), (5, .slice A7 t5.1.length c8), (6, .pointer (some ⟨g15, 0, none⟩)), (7, .pointer (some ⟨g22, 0, none⟩)), (8, .func (.func 40) #[] #[.pointer (some ⟨g28, 0, none⟩)]), (9, .pointer (some ⟨g35, 0, none⟩))]) (fun (o80 : Int) (j81 : Unit) => cells g1 3 [.int .i64 a1] :: cells g3 4 [.bool false] :: own 5 1 A7 c8 ((t5.1 ++ t5.2).map (Value.int .u8)) :: cells g15 37 [.slice A12 t10.length c13] :: cells g22 40 [.func (.func 40) #[] #[.pointer (some ⟨g20, 0, none⟩)]] :: cells g28 22 [.slice A24 [5, 6].length 2] :: cells g35 3 [.int .i64 o80] :: own 43 2 A12 c13 (t10.flatMap encT43_) :: cells g20 22 [.slice A7 t5.1.length c8] :: own 5 1 A24 2 ([5, 6].map (Value.int .u8)) :: G) (fun (o80 : Int) (j81 : Unit) => True) (fun o78 H HK79 => ?_) (fun ds82 o80 j81 H _ => ?_)
    · refine C.blk ?_
      refine C.sub (s' := [(0, .slice Aa0 a0.length ca0), (3, .pointer (some ⟨g1, 0, none⟩)), (4, .pointer (some ⟨g3, 0, none⟩)), (5, .slice A7 t5.1.length c8), (6, .pointer (some ⟨g15, 0, none⟩)), (7, .pointer (some ⟨g22, 0, none⟩)), (8, .func (.func 40) #[] #[.pointer (some ⟨g28, 0, none⟩)]), (9, .pointer (some ⟨g35, 0, none⟩)), (38, .func (.func 40) #[] #[.pointer (some ⟨g20, 0, none⟩)])]) (by exact ⟨rfl, rfl, rfl, rfl, rfl, rfl, rfl, rfl, rfl, trivial⟩) ?_
      refine C.know (own_leL 4 rfl) (fun hc124 => ?_)
      refine C.know (own_leL 4 rfl) (fun hc133 => ?_)
      refine C.know (own_leM lenT43_ (by decide) 8 rfl) (fun hc138 => ?_)
      have hkey : ∀ Gx, Gx = (cells g1 3 [.int .i64 a1] :: own 5 1 A7 c8 ((t5.1 ++ t5.2).map (Value.int .u8)) :: cells g28 22 [.slice A24 [5, 6].length 2] :: own 43 2 A12 c13 (t10.flatMap encT43_) :: cells g20 22 [.slice A7 t5.1.length c8] :: own 5 1 A24 2 ([5, 6].map (Value.int .u8)) :: G) → RdG B w0 Gx Aa0 (a0.map (Value.int .u8)) ∧ RdG B w0 Gx (some ⟨g1, 0, none⟩) [.int .i64 a1] ∧ RdG B w0 Gx A7 ((t5.1 ++ t5.2).map (Value.int .u8)) ∧ RdG B w0 Gx (some ⟨g28, 0, none⟩) [.slice A24 [5, 6].length 2] ∧ RdG B w0 Gx A24 ([5, 6].map (Value.int .u8)) ∧ RdG B w0 Gx (some ⟨g20, 0, none⟩) [.slice A7 t5.1.length c8] ∧ RdG B w0 Gx A12 (t10.flatMap encT43_) ∧ True := by rintro _ rfl; exact ⟨(ha0.suf [_, _, _, _, _, _] rfl), (RdG.cells 0 rfl), (RdG.own 1 rfl), (RdG.cells 2 rfl), (RdG.own 5 rfl), (RdG.cells 4 rfl), (RdG.own 3 rfl), trivial⟩
      obtain ⟨hb130, hb131, hb132, hb134, hb135, hb136, hb137, _⟩ := hkey _ rfl
      obtain ⟨t125, hC126, H⟩ := bind_some H
      refine C.rangeF' (E := (Int) ⊕ (Int)) (Gb := cells g1 3 [.int .i64 a1] :: own 5 1 A7 c8 ((t5.1 ++ t5.2).map (Value.int .u8)) :: cells g28 22 [.slice A24 [5, 6].length 2] :: own 43 2 A12 c13 (t10.flatMap encT43_) :: cells g20 22 [.slice A7 t5.1.length c8] :: own 5 1 A24 2 ([5, 6].map (Value.int .u8)) :: G) (caps := [.pointer (some ⟨g20, 0, none⟩)]) encY67 (fun (i117 : Int) (j118 : Unit) => [cells g35 3 [.int .i64 i117], cells g3 4 [.bool false], cells g15 37 [.slice A12 t10.length c13], cells g22 40 [.func (.func 40) #[] #[.pointer (some ⟨g20, 0, none⟩)]]]) (fun (i117 : Int) (j118 : Unit) => True) (fun (ee : (Int) ⊕ (Int)) (kk : (Unit) × (Unit)) => (fun o => match o with | .inl e120 => [cells g35 3 [.int .i64 e120], cells g3 4 [.bool false], cells g15 37 [.slice A12 t10.length c13], cells g22 40 [.func (.func 40) #[] #[.pointer (some ⟨g20, 0, none⟩)]]] | .inr o => (fun e122 => [cells g3 4 [.bool false], cells g15 37 [.slice A12 t10.length c13], cells g22 40 [.func (.func 40) #[] #[.pointer (some ⟨g20, 0, none⟩)]], cells g35 3 [.int .i64 e122]]) o) ee) (fun (ee : (Int) ⊕ (Int)) (kk : (Unit) × (Unit)) => (fun o => match o with | .inl e120 => True | .inr o => (fun e122 => True) o) ee) (fun (ee : (Int) ⊕ (Int)) => (fun o => match o with | .inl _ => .exit 0 | .inr o => (fun _ => .ret) o) ee) (fun (x127 : Int × Int) (z165 : Unit) => []) (fun (x127 : Int × Int) (z165 : Unit) => [(0, .slice Aa0 a0.length ca0), (3, .pointer (some ⟨g1, 0, none⟩)), (4, .pointer (some ⟨g3, 0, none⟩)), (5, .slice A7 t5.1.length c8), (6, .pointer (some ⟨g15, 0, none⟩)), (7, .pointer (some ⟨g22, 0, none⟩)), (8, .func (.func 40) #[] #[.pointer (some ⟨g28, 0, none⟩)]), (9, .pointer (some ⟨g35, 0, none⟩)), (10, .int .i64 x127.1), (11, .int .u64 x127.2), (38, .func (.func 40) #[] #[.pointer (some ⟨g20, 0, none⟩)]), (39, .int .i64 x127.1), (40, .int .u64 x127.2)]) _ 0 () t125 rfl go40 (fun _ => rfl) (by rfl) (by decide) (pf_of rfl) trivial (fun w h => (St.pick [1, 0, 3, 5, 6, 2, 4, 7, 8, 9, 10] [_, _, _, _, _, _, _, _, _, _, _] h rfl)) (fun Yy yv hy w hw => AllF.calls K _ _ t5.1 Yy yv g20 A7 c8 hy (RdG.pre (RdG.own 1 rfl)) (len_pre hc124) (RdG.cells 4 rfl) _ hC126 w hw) (fun l i117 j118 x127 L128 _ => ?_) (fun l i117 j118 x127 z165 o L128 G hGG H _ hl129 => ?_) (fun ds119 i117 j118 hr _ => ?_) (fun ds119 ee kk hr hx => ?_)
      · refine C.sub (s' := [(0, .slice Aa0 a0.length ca0), (3, .pointer (some ⟨g1, 0, none⟩)), (4, .pointer (some ⟨g3, 0, none⟩)), (5, .slice A7 t5.1.length c8), (6, .pointer (some ⟨g15, 0, none⟩)), (7, .pointer (some ⟨g22, 0, none⟩)), (8, .func (.func 40) #[] #[.pointer (some ⟨g28, 0, none⟩)]), (9, .pointer (some ⟨g35, 0, none⟩)), (38, .func (.func 40) #[] #[.pointer (some ⟨g20, 0, none⟩)]), (39, .int .i64 x127.1), (40, .int .u64 x127.2)]) (by exact ⟨rfl, rfl, rfl, rfl, rfl, rfl, rfl, rfl, rfl, rfl, rfl, trivial⟩) ?_
        refine C.rs ?_
        refine J.p rfl rfl rfl rfl (Y.asg rfl) ?_
        refine J.nx ?_
        refine C.reg ?_
        refine J.p rfl rfl rfl rfl (Y.asg rfl) ?_
        refine J.nil ?_
        exact N.asg () (by exact ⟨rfl, rfl, rfl, rfl, rfl, rfl, rfl, rfl, rfl, rfl, rfl, rfl, rfl, trivial⟩) (fun w h => h)
      · replace hb130 := RdG.suf hb130 L128 hGG
        replace hb131 := RdG.suf hb131 L128 hGG
        replace hb132 := RdG.suf hb132 L128 hGG
        replace hb134 := RdG.suf hb134 L128 hGG
        replace hb135 := RdG.suf hb135 L128 hGG
        replace hb136 := RdG.suf hb136 L128 hGG
        replace hb137 := RdG.suf hb137 L128 hGG
        refine C.at (s' := [(0, .slice Aa0 a0.length ca0), (3, .pointer (some ⟨g1, 0, none⟩)), (4, .pointer (some ⟨g3, 0, none⟩)), (5, .slice A7 t5.1.length c8), (6, .pointer (some ⟨g15, 0, none⟩)), (7, .pointer (some ⟨g22, 0, none⟩)), (8, .func (.func 40) #[] #[.pointer (some ⟨g28, 0, none⟩)]), (9, .pointer (some ⟨g35, 0, none⟩)), (10, .int .i64 x127.1), (11, .int .u64 x127.2), (38, .func (.func 40) #[] #[.pointer (some ⟨g20, 0, none⟩)]), (39, .int .i64 x127.1), (40, .int .u64 x127.2)]) (G' := cells g35 3 [.int .i64 i117] :: cells g3 4 [.bool false] :: cells g15 37 [.slice A12 t10.length c13] :: cells g22 40 [.func (.func 40) #[] #[.pointer (some ⟨g20, 0, none⟩)]] :: G) rfl rfl ?_
        refine C.blk ?_
        refine C.seq ?_
        refine C.rs ?_
        refine J.r rfl rfl rfl rfl (Y.ldC 0 Try.underlying3 rfl rfl rfl rfl) ?_
        refine J.r rfl rfl rfl rfl (Y.ldR Try.underlying3 rfl rfl (hb131.suf [_, _, _, _] rfl) rfl) ?_
        refine J.p rfl rfl rfl rfl (Y.bin rfl rfl rfl) ?_
        refine J.nx ?_
        refine split2 H (fun c139 H => ?_) (fun c139 H => ?_)
        · refine C.condT (congrArg (fun b => some (Value.bool b)) (decide_eq_true c139)) ?_
          refine C.exit ?_
          obtain rfl := Option.some.inj H
          refine X.th ?_
          refine X.ms rfl ?_
          exact X.round (.inl i117) ((), default) rfl rfl trivial (by exact fun w h => h)
        · refine C.condF (congrArg (fun b => some (Value.bool b)) (decide_eq_false c139)) ?_
          refine C.skip ?_
          refine N.nx ?_
          refine C.seq ?_
          refine C.rs ?_
          refine J.joinB H (fun (o150 : Bool) (j151 : Unit) => [(0, .slice Aa0 a0.length ca0), (3, .pointer (some ⟨g1, 0, none⟩)), (4, .pointer (some ⟨g3, 0, none⟩)), (5, .slice A7 t5.1.length c8), (6, .pointer (some ⟨g15, 0, none⟩)), (7, .pointer (some ⟨g22, 0, none⟩)), (8, .func (.func 40) #[] #[.pointer (some ⟨g28, 0, none⟩)]), (9, .pointer (some ⟨g35, 0, none⟩)), (38, .func (.func 40) #[] #[.pointer (some ⟨g20, 0, none⟩)]), (65, .bool o150)]) (fun (o150 : Bool) (j151 : Unit) => cells g3 4 [.bool false] :: cells g15 37 [.slice A12 t10.length c13] :: cells g22 40 [.func (.func 40) #[] #[.pointer (some ⟨g20, 0, none⟩)]] :: cells g35 3 [.int .i64 i117] :: G) (fun (o150 : Bool) (j151 : Unit) => True) (fun o152 H HK153 => ?_) (fun o150 j151 H _ => ?_)
          · refine J.r rfl rfl rfl rfl (Y.ldC 0 Try.underlying3 rfl rfl rfl rfl) ?_
            refine J.r rfl rfl rfl rfl (Y.ldC 2 Try.underlying37 rfl rfl rfl rfl) ?_
            refine J.p rfl rfl rfl rfl (Y.lenS Try.underlying37 rfl) ?_
            refine J.p rfl rfl rfl rfl (Y.bin rfl rfl rfl) ?_
            refine J.p rfl rfl rfl rfl (Y.mv rfl) ?_
            refine split2 H (fun c154 H => ?_) (fun c154 H => ?_)
            · refine J.as (k := 48) rfl (congrArg Value.bool (decide_eq_true c154)) ?_
              refine J.skip rfl rfl ?_
              refine J.skip rfl rfl ?_
              refine J.skip rfl rfl ?_
              refine J.skip rfl rfl ?_
              refine J.skip rfl rfl ?_
              refine J.skip rfl rfl ?_
              refine J.skip rfl rfl ?_
              refine J.p rfl rfl rfl rfl (Y.pickT rfl rfl) ?_
              refine J.p rfl rfl rfl rfl (Y.mv rfl) ?_
              refine J.skip rfl rfl ?_
              refine J.skip rfl rfl ?_
              refine J.skip rfl rfl ?_
              refine J.skip rfl rfl ?_
              refine J.skip rfl rfl ?_
              refine J.skip rfl rfl ?_
              refine J.skip rfl rfl ?_
              refine J.p rfl rfl rfl rfl (Y.pickT rfl rfl) ?_
              refine J.nil ?_
              obtain rfl := Option.some.inj H
              exact N.meet (true, ()) ⟨HK153, trivial⟩ (by exact ⟨rfl, rfl, rfl, rfl, rfl, rfl, rfl, rfl, rfl, rfl, trivial⟩) (by exact fun w h => (St.pick [1, 2, 3, 0] [_, _, _, _] h rfl))
            · refine J.as (k := 48) rfl (congrArg Value.bool (decide_eq_false c154)) ?_
              refine J.p rfl rfl rfl rfl (Y.mv rfl) ?_
              refine J.r rfl rfl rfl rfl (Y.ldC 2 Try.underlying37 rfl rfl rfl rfl) ?_
              refine J.r rfl rfl rfl rfl (Y.ldC 0 Try.underlying3 rfl rfl rfl rfl) ?_
              obtain ⟨p157, H⟩ := gd_some H
              refine J.know (RdG.someM lenT43_ (by decide) (hb137.suf [_, _, _, _] rfl) p157) (fun hh => ?_)
              obtain ⟨a155, ha156⟩ := hh
              refine J.p rfl rfl rfl rfl (Y.ixa Try.underlying37 ti43 rfl rfl p157 ha156) ?_
              refine J.p rfl rfl rfl rfl (Y.faA fa43_0 rfl) ?_
              obtain ⟨p158, H⟩ := gd_some H
              refine J.r rfl rfl rfl rfl (Y.ldF lenT43_ Try.underlying3 rfl rfl ha156 p158 (by decide) (hb137.suf [_, _, _, _] rfl) rfl) ?_
              refine J.p rfl rfl rfl rfl (Y.bin rfl rfl rfl) ?_
              refine J.p rfl rfl rfl rfl (Y.pickF rfl rfl) ?_
              refine J.p rfl rfl rfl rfl (Y.mv rfl) ?_
              refine split2 H (fun c159 H => ?_) (fun c159 H => ?_)
              · refine J.as (k := 57) rfl (congrArg Value.bool (decide_eq_true c159)) ?_
                refine J.skip rfl rfl ?_
                refine J.skip rfl rfl ?_
                refine J.skip rfl rfl ?_
                refine J.skip rfl rfl ?_
                refine J.skip rfl rfl ?_
                refine J.skip rfl rfl ?_
                refine J.skip rfl rfl ?_
                refine J.p rfl rfl rfl rfl (Y.pickT rfl rfl) ?_
                refine J.nil ?_
                obtain rfl := Option.some.inj H
                exact N.meet (true, ()) ⟨HK153, trivial⟩ (by exact ⟨rfl, rfl, rfl, rfl, rfl, rfl, rfl, rfl, rfl, rfl, trivial⟩) (by exact fun w h => (St.pick [1, 2, 3, 0] [_, _, _, _] h rfl))
              · refine J.as (k := 57) rfl (congrArg Value.bool (decide_eq_false c159)) ?_
                refine J.p rfl rfl rfl rfl (Y.mv rfl) ?_
                refine J.r rfl rfl rfl rfl (Y.ldC 2 Try.underlying37 rfl rfl rfl rfl) ?_
                refine J.r rfl rfl rfl rfl (Y.ldC 0 Try.underlying3 rfl rfl rfl rfl) ?_
                obtain ⟨p162, H⟩ := gd_some H
                refine J.know (RdG.someM lenT43_ (by decide) (hb137.suf [_, _, _, _] rfl) p162) (fun hh => ?_)
                obtain ⟨a160, ha161⟩ := hh
                refine J.p rfl rfl rfl rfl (Y.ixa Try.underlying37 ti43 rfl rfl p162 ha161) ?_
                refine J.p rfl rfl rfl rfl (Y.faA fa43_1 rfl) ?_
                obtain ⟨p163, H⟩ := gd_some H
                refine J.r rfl rfl rfl rfl (Y.ldF lenT43_ Try.underlying24 rfl rfl ha161 p163 (by decide) (hb137.suf [_, _, _, _] rfl) rfl) ?_
                refine J.p rfl rfl rfl rfl (Y.bin rfl rfl rfl) ?_
                refine J.p rfl rfl rfl rfl (Y.pickF rfl rfl) ?_
                refine J.nil ?_
                obtain rfl := Option.some.inj H
                exact N.meet (decide (x127.2 ≠ ((rd t10 i117).2)), ()) ⟨HK153, trivial⟩ (by exact ⟨rfl, rfl, rfl, rfl, rfl, rfl, rfl, rfl, rfl, rfl, trivial⟩) (by exact fun w h => (St.pick [1, 2, 3, 0] [_, _, _, _] h rfl))
          · refine C.at (s' := [(0, .slice Aa0 a0.length ca0), (3, .pointer (some ⟨g1, 0, none⟩)), (4, .pointer (some ⟨g3, 0, none⟩)), (5, .slice A7 t5.1.length c8), (6, .pointer (some ⟨g15, 0, none⟩)), (7, .pointer (some ⟨g22, 0, none⟩)), (8, .func (.func 40) #[] #[.pointer (some ⟨g28, 0, none⟩)]), (9, .pointer (some ⟨g35, 0, none⟩)), (38, .func (.func 40) #[] #[.pointer (some ⟨g20, 0, none⟩)]), (65, .bool o150)]) (G' := cells g3 4 [.bool false] :: cells g15 37 [.slice A12 t10.length c13] :: cells g22 40 [.func (.func 40) #[] #[.pointer (some ⟨g20, 0, none⟩)]] :: cells g35 3 [.int .i64 i117] :: G) rfl rfl ?_
            refine split2 H (fun c164 H => ?_) (fun c164 H => ?_)
            · refine C.condT (congrArg (fun b => some (Value.bool b)) (c164)) ?_
              refine C.rs ?_
              refine J.stE (L' := [.bool false]) ti4 rfl rfl rfl rfl rfl ?_
              refine J.nx ?_
              refine C.ret ?_
              obtain rfl := Option.some.inj H
              refine T.th ?_
              refine T.ib ?_
              exact T.round (.inr i117) (default, ()) rfl rfl trivial (by exact fun w h => h)
            · refine C.condF (congrArg (fun b => some (Value.bool b)) (nt c164)) ?_
              refine C.skip ?_
              refine N.nx ?_
              refine C.reg ?_
              refine J.r rfl rfl rfl rfl (Y.ldC 3 Try.underlying3 rfl rfl rfl rfl) ?_
              refine J.p rfl rfl rfl rfl (Y.bin rfl rfl rfl) ?_
              refine J.pull 3 rfl rfl ?_
              refine J.stE (L' := [.int .i64 (IntKind.wrap .i64 (i117 + 1))]) ti3 rfl rfl rfl rfl rfl ?_
              refine J.nil ?_
              refine N.ib ?_
              obtain rfl := Option.some.inj H
              exact N.round (IntKind.wrap .i64 (i117 + 1)) () rfl trivial (by exact fun w h => h)
      · subst hr
        replace H := ysel_inl H
        refine N.at (s' := [(0, .slice Aa0 a0.length ca0), (3, .pointer (some ⟨g1, 0, none⟩)), (4, .pointer (some ⟨g3, 0, none⟩)), (5, .slice A7 t5.1.length c8), (6, .pointer (some ⟨g15, 0, none⟩)), (7, .pointer (some ⟨g22, 0, none⟩)), (8, .func (.func 40) #[] #[.pointer (some ⟨g28, 0, none⟩)]), (9, .pointer (some ⟨g35, 0, none⟩)), (38, .func (.func 40) #[] #[.pointer (some ⟨g20, 0, none⟩)])]) (G' := dblks ds119 :: cells g35 3 [.int .i64 i117] :: cells g3 4 [.bool false] :: cells g15 37 [.slice A12 t10.length c13] :: cells g22 40 [.func (.func 40) #[] #[.pointer (some ⟨g20, 0, none⟩)]] :: cells g1 3 [.int .i64 a1] :: own 5 1 A7 c8 ((t5.1 ++ t5.2).map (Value.int .u8)) :: cells g28 22 [.slice A24 [5, 6].length 2] :: own 43 2 A12 c13 (t10.flatMap encT43_) :: cells g20 22 [.slice A7 t5.1.length c8] :: own 5 1 A24 2 ([5, 6].map (Value.int .u8)) :: G) rfl rfl ?_
        refine N.ib ?_
        obtain rfl := Option.some.inj H
        exact N.meetD (i117, ()) ⟨fin_inr HK79, trivial⟩ (by exact ⟨rfl, rfl, rfl, rfl, rfl, rfl, rfl, rfl, trivial⟩) (by exact fun w h => (St.pick [0, 5, 2, 6, 3, 4, 7, 1, 8, 9, 10] [_, _, _, _, _, _, _, _, _, _, _] h rfl))
      · subst hr
        replace H := ysel_inr H
        rcases ee with e120 | ee
        · replace H := ysel_inl H
          refine C.at (s' := [(0, .slice Aa0 a0.length ca0), (3, .pointer (some ⟨g1, 0, none⟩)), (4, .pointer (some ⟨g3, 0, none⟩)), (5, .slice A7 t5.1.length c8), (6, .pointer (some ⟨g15, 0, none⟩)), (7, .pointer (some ⟨g22, 0, none⟩)), (8, .func (.func 40) #[] #[.pointer (some ⟨g28, 0, none⟩)]), (9, .pointer (some ⟨g35, 0, none⟩)), (38, .func (.func 40) #[] #[.pointer (some ⟨g20, 0, none⟩)])]) (G' := dblks ds119 :: cells g35 3 [.int .i64 e120] :: cells g3 4 [.bool false] :: cells g15 37 [.slice A12 t10.length c13] :: cells g22 40 [.func (.func 40) #[] #[.pointer (some ⟨g20, 0, none⟩)]] :: cells g1 3 [.int .i64 a1] :: own 5 1 A7 c8 ((t5.1 ++ t5.2).map (Value.int .u8)) :: cells g28 22 [.slice A24 [5, 6].length 2] :: own 43 2 A12 c13 (t10.flatMap encT43_) :: cells g20 22 [.slice A7 t5.1.length c8] :: own 5 1 A24 2 ([5, 6].map (Value.int .u8)) :: G) rfl rfl ?_
          refine C.exit ?_
          refine X.hit ?_
          obtain rfl := Option.some.inj H
          exact N.meetD (e120, ()) ⟨fin_inr HK79, trivial⟩ (by exact ⟨rfl, rfl, rfl, rfl, rfl, rfl, rfl, rfl, trivial⟩) (by exact fun w h => (St.pick [0, 5, 2, 6, 3, 4, 7, 1, 8, 9, 10] [_, _, _, _, _, _, _, _, _, _, _] h rfl))
        · replace H := ysel_inr H
          obtain ⟨e122, hee⟩ : ∃ x, x = ee := ⟨_, rfl⟩
          subst hee
          refine C.at (s' := [(0, .slice Aa0 a0.length ca0), (3, .pointer (some ⟨g1, 0, none⟩)), (4, .pointer (some ⟨g3, 0, none⟩)), (5, .slice A7 t5.1.length c8), (6, .pointer (some ⟨g15, 0, none⟩)), (7, .pointer (some ⟨g22, 0, none⟩)), (8, .func (.func 40) #[] #[.pointer (some ⟨g28, 0, none⟩)]), (9, .pointer (some ⟨g35, 0, none⟩)), (38, .func (.func 40) #[] #[.pointer (some ⟨g20, 0, none⟩)])]) (G' := dblks ds119 :: cells g3 4 [.bool false] :: cells g15 37 [.slice A12 t10.length c13] :: cells g22 40 [.func (.func 40) #[] #[.pointer (some ⟨g20, 0, none⟩)]] :: cells g35 3 [.int .i64 e122] :: cells g1 3 [.int .i64 a1] :: own 5 1 A7 c8 ((t5.1 ++ t5.2).map (Value.int .u8)) :: cells g28 22 [.slice A24 [5, 6].length 2] :: own 43 2 A12 c13 (t10.flatMap encT43_) :: cells g20 22 [.slice A7 t5.1.length c8] :: own 5 1 A24 2 ([5, 6].map (Value.int .u8)) :: G) rfl rfl ?_
          refine C.ret ?_
          obtain rfl := Option.some.inj H
          obtain rfl := fin_inl HK79
          refine T.ib ?_
          refine T.th ?_
          refine T.th ?_
          exact ret_okM (cells g3 4 [.bool false] :: cells g15 37 [.slice A12 t10.length c13] :: cells g22 40 [.func (.func 40) #[] #[.pointer (some ⟨g20, 0, none⟩)]] :: cells g35 3 [.int .i64 e122] :: cells g1 3 [.int .i64 a1] :: own 5 1 A7 c8 ((t5.1 ++ t5.2).map (Value.int .u8)) :: cells g28 22 [.slice A24 [5, 6].length 2] :: own 43 2 A12 c13 (t10.flatMap encT43_) :: cells g20 22 [.slice A7 t5.1.length c8] :: own 5 1 A24 2 ([5, 6].map (Value.int .u8)) :: G) (rvs := [.cell 4 4]) (vs := [.bool false]) rfl ⟨RV.cell 0 Try.underlying4 rfl rfl rfl rfl, trivial⟩ (fun w h => h) (fun w h => ⟨rfl, (St.pick [] [_, _, _, _, _, _, _, _, _, _] h rfl)⟩)
    · refine N.at (s' := [(0, .slice Aa0 a0.length ca0), (3, .pointer (some ⟨g1, 0, none⟩)), (4, .pointer (some ⟨g3, 0, none⟩)), (5, .slice A7 t5.1.length c8), (6, .pointer (some ⟨g15, 0, none⟩)), (7, .pointer (some ⟨g22, 0, none⟩)), (8, .func (.func 40) #[] #[.pointer (some ⟨g28, 0, none⟩)]), (9, .pointer (some ⟨g35, 0, none⟩))]) (G' := dblks ds82 :: cells g1 3 [.int .i64 a1] :: cells g3 4 [.bool false] :: own 5 1 A7 c8 ((t5.1 ++ t5.2).map (Value.int .u8)) :: cells g15 37 [.slice A12 t10.length c13] :: cells g22 40 [.func (.func 40) #[] #[.pointer (some ⟨g20, 0, none⟩)]] :: cells g28 22 [.slice A24 [5, 6].length 2] :: cells g35 3 [.int .i64 o80] :: own 43 2 A12 c13 (t10.flatMap encT43_) :: cells g20 22 [.slice A7 t5.1.length c8] :: own 5 1 A24 2 ([5, 6].map (Value.int .u8)) :: G) rfl rfl ?_
      refine N.nx ?_
      refine C.seq ?_
      refine C.rs ?_
      refine J.joinBD H (fun (o167 : Bool) (j168 : Unit) => [(0, .slice Aa0 a0.length ca0), (4, .pointer (some ⟨g3, 0, none⟩)), (5, .slice A7 t5.1.length c8), (6, .pointer (some ⟨g15, 0, none⟩)), (7, .pointer (some ⟨g22, 0, none⟩)), (8, .func (.func 40) #[] #[.pointer (some ⟨g28, 0, none⟩)]), (9, .pointer (some ⟨g35, 0, none⟩)), (76, .bool o167)]) (fun (o167 : Bool) (j168 : Unit) => cells g3 4 [.bool false] :: own 5 1 A7 c8 ((t5.1 ++ t5.2).map (Value.int .u8)) :: cells g15 37 [.slice A12 t10.length c13] :: cells g22 40 [.func (.func 40) #[] #[.pointer (some ⟨g20, 0, none⟩)]] :: cells g28 22 [.slice A24 [5, 6].length 2] :: cells g35 3 [.int .i64 o80] :: own 43 2 A12 c13 (t10.flatMap encT43_) :: cells g20 22 [.slice A7 t5.1.length c8] :: own 5 1 A24 2 ([5, 6].map (Value.int .u8)) :: G) (fun (o167 : Bool) (j168 : Unit) => True) (fun o170 H HK171 => ?_) (fun ds169 o167 j168 H _ => ?_)
      · refine J.r rfl rfl rfl rfl (Y.ldC 7 Try.underlying3 rfl rfl rfl rfl) ?_
        refine J.r rfl rfl rfl rfl (Y.ldC 4 Try.underlying37 rfl rfl rfl rfl) ?_
        refine J.p rfl rfl rfl rfl (Y.lenS Try.underlying37 rfl) ?_
        refine J.p rfl rfl rfl rfl (Y.bin rfl rfl rfl) ?_
        refine J.p rfl rfl rfl rfl (Y.mv rfl) ?_
        refine split2 H (fun c172 H => ?_) (fun c172 H => ?_)
        · refine J.as (k := 72) rfl (congrArg Value.bool (decide_eq_true c172)) ?_
          refine J.r rfl rfl rfl rfl (Y.ldC 7 Try.underlying3 rfl rfl rfl rfl) ?_
          refine J.r rfl rfl rfl rfl (Y.ldC 1 Try.underlying3 rfl rfl rfl rfl) ?_
          refine J.p rfl rfl rfl rfl (Y.bin rfl rfl rfl) ?_
          refine J.p rfl rfl rfl rfl (Y.pickT rfl rfl) ?_
          refine J.nil ?_
          obtain rfl := Option.some.inj H
          exact N.meetD (decide (o80 ≠ a1), ()) ⟨HK171, trivial⟩ (by exact ⟨rfl, rfl, rfl, rfl, rfl, rfl, rfl, rfl, trivial⟩) (by exact fun w h => (St.pick [0, 2, 3, 4, 5, 6, 7, 8, 9, 10] [_, _, _, _, _, _, _, _, _, _, _] h rfl))
        · refine J.as (k := 72) rfl (congrArg Value.bool (decide_eq_false c172)) ?_
          refine J.skip rfl rfl ?_
          refine J.skip rfl rfl ?_
          refine J.skip rfl rfl ?_
          refine J.p rfl rfl rfl rfl (Y.pickF rfl rfl) ?_
          refine J.nil ?_
          obtain rfl := Option.some.inj H
          exact N.meetD (false, ()) ⟨HK171, trivial⟩ (by exact ⟨rfl, rfl, rfl, rfl, rfl, rfl, rfl, rfl, trivial⟩) (by exact fun w h => (St.pick [0, 2, 3, 4, 5, 6, 7, 8, 9, 10] [_, _, _, _, _, _, _, _, _, _, _] h rfl))
      · refine C.at (s' := [(0, .slice Aa0 a0.length ca0), (4, .pointer (some ⟨g3, 0, none⟩)), (5, .slice A7 t5.1.length c8), (6, .pointer (some ⟨g15, 0, none⟩)), (7, .pointer (some ⟨g22, 0, none⟩)), (8, .func (.func 40) #[] #[.pointer (some ⟨g28, 0, none⟩)]), (9, .pointer (some ⟨g35, 0, none⟩)), (76, .bool o167)]) (G' := dblks ds169 :: cells g3 4 [.bool false] :: own 5 1 A7 c8 ((t5.1 ++ t5.2).map (Value.int .u8)) :: cells g15 37 [.slice A12 t10.length c13] :: cells g22 40 [.func (.func 40) #[] #[.pointer (some ⟨g20, 0, none⟩)]] :: cells g28 22 [.slice A24 [5, 6].length 2] :: cells g35 3 [.int .i64 o80] :: own 43 2 A12 c13 (t10.flatMap encT43_) :: cells g20 22 [.slice A7 t5.1.length c8] :: own 5 1 A24 2 ([5, 6].map (Value.int .u8)) :: G) rfl rfl ?_
        refine split2 H (fun c173 H => ?_) (fun c173 H => ?_)
        · refine C.condT (congrArg (fun b => some (Value.bool b)) (c173)) ?_
          refine C.rs ?_
          refine J.pull 1 rfl rfl ?_
          refine J.stE (L' := [.bool false]) ti4 rfl rfl rfl rfl rfl ?_
          refine J.nx ?_
          refine C.ret ?_
          obtain rfl := Option.some.inj H
          refine T.th ?_
          exact ret_okM (cells g3 4 [.bool false] :: own 5 1 A7 c8 ((t5.1 ++ t5.2).map (Value.int .u8)) :: cells g15 37 [.slice A12 t10.length c13] :: cells g22 40 [.func (.func 40) #[] #[.pointer (some ⟨g20, 0, none⟩)]] :: cells g28 22 [.slice A24 [5, 6].length 2] :: cells g35 3 [.int .i64 o80] :: own 43 2 A12 c13 (t10.flatMap encT43_) :: cells g20 22 [.slice A7 t5.1.length c8] :: own 5 1 A24 2 ([5, 6].map (Value.int .u8)) :: G) (rvs := [.cell 4 4]) (vs := [.bool false]) rfl ⟨RV.cell 0 Try.underlying4 rfl rfl rfl rfl, trivial⟩ (fun w h => (St.pick [1, 0, 2, 3, 4, 5, 6, 7, 8, 9] [_, _, _, _, _, _, _, _, _, _] h rfl)) (fun w h => ⟨rfl, (St.pick [] [_, _, _, _, _, _, _, _, _] h rfl)⟩)
        · refine C.condF (congrArg (fun b => some (Value.bool b)) (nt c173)) ?_
          refine C.skip ?_
          refine N.nx ?_
          refine C.rs ?_
          refine J.pull 6 rfl rfl ?_
          refine J.stE (L' := [.int .i64 0]) ti3 rfl rfl rfl rfl rfl ?_
          refine J.nx ?_
          refine C.seq ?_
          refine C.rs ?_
          refine J.r rfl rfl rfl rfl (Y.ldC 5 Try.underlying40 rfl rfl rfl rfl) ?_
          refine J.nx ?_
          refine C.blk ?_
          refine C.sub (s' := [(0, .slice Aa0 a0.length ca0), (4, .pointer (some ⟨g3, 0, none⟩)), (5, .slice A7 t5.1.length c8), (6, .pointer (some ⟨g15, 0, none⟩)), (7, .pointer (some ⟨g22, 0, none⟩)), (8, .func (.func 40) #[] #[.pointer (some ⟨g28, 0, none⟩)]), (9, .pointer (some ⟨g35, 0, none⟩)), (77, .func (.func 40) #[] #[.pointer (some ⟨g20, 0, none⟩)])]) (by exact ⟨rfl, rfl, rfl, rfl, rfl, rfl, rfl, rfl, trivial⟩) ?_
          refine C.know (own_leL 3 rfl) (fun hc291 => ?_)
          refine C.know (own_leL 3 rfl) (fun hc299 => ?_)
          refine C.know (own_leM lenT43_ (by decide) 7 rfl) (fun hc304 => ?_)
          have hkey : ∀ Gx, Gx = (own 5 1 A7 c8 ((t5.1 ++ t5.2).map (Value.int .u8)) :: cells g28 22 [.slice A24 [5, 6].length 2] :: own 43 2 A12 c13 (t10.flatMap encT43_) :: cells g20 22 [.slice A7 t5.1.length c8] :: own 5 1 A24 2 ([5, 6].map (Value.int .u8)) :: G) → RdG B w0 Gx Aa0 (a0.map (Value.int .u8)) ∧ RdG B w0 Gx A7 ((t5.1 ++ t5.2).map (Value.int .u8)) ∧ RdG B w0 Gx (some ⟨g28, 0, none⟩) [.slice A24 [5, 6].length 2] ∧ RdG B w0 Gx A24 ([5, 6].map (Value.int .u8)) ∧ RdG B w0 Gx (some ⟨g20, 0, none⟩) [.slice A7 t5.1.length c8] ∧ RdG B w0 Gx A12 (t10.flatMap encT43_) ∧ True := by rintro _ rfl; exact ⟨(ha0.suf [_, _, _, _, _] rfl), (RdG.own 0 rfl), (RdG.cells 1 rfl), (RdG.own 4 rfl), (RdG.cells 3 rfl), (RdG.own 2 rfl), trivial⟩
          obtain ⟨hb297, hb298, hb300, hb301, hb302, hb303, _⟩ := hkey _ rfl
          obtain ⟨t292, hC293, H⟩ := bind_some H
          refine C.rangeF' (E := Int) (Gb := own 5 1 A7 c8 ((t5.1 ++ t5.2).map (Value.int .u8)) :: cells g28 22 [.slice A24 [5, 6].length 2] :: own 43 2 A12 c13 (t10.flatMap encT43_) :: cells g20 22 [.slice A7 t5.1.length c8] :: own 5 1 A24 2 ([5, 6].map (Value.int .u8)) :: G) (caps := [.pointer (some ⟨g20, 0, none⟩)]) encY67 (fun (i286 : Int) (j287 : Unit) => [cells g35 3 [.int .i64 i286], cells g3 4 [.bool false], cells g15 37 [.slice A12 t10.length c13], cells g22 40 [.func (.func 40) #[] #[.pointer (some ⟨g20, 0, none⟩)]]]) (fun (i286 : Int) (j287 : Unit) => True) (fun (e289 : Int) (k290 : Unit) => [cells g3 4 [.bool false], cells g15 37 [.slice A12 t10.length c13], cells g22 40 [.func (.func 40) #[] #[.pointer (some ⟨g20, 0, none⟩)]], cells g35 3 [.int .i64 e289]]) (fun (e289 : Int) (k290 : Unit) => True) (fun (_ : Int) => .ret) (fun (x294 : Int × Int) (z407 : Unit) => []) (fun (x294 : Int × Int) (z407 : Unit) => [(0, .slice Aa0 a0.length ca0), (4, .pointer (some ⟨g3, 0, none⟩)), (5, .slice A7 t5.1.length c8), (6, .pointer (some ⟨g15, 0, none⟩)), (7, .pointer (some ⟨g22, 0, none⟩)), (8, .func (.func 40) #[] #[.pointer (some ⟨g28, 0, none⟩)]), (9, .pointer (some ⟨g35, 0, none⟩)), (12, .int .i64 x294.1), (13, .int .u64 x294.2), (77, .func (.func 40) #[] #[.pointer (some ⟨g20, 0, none⟩)]), (78, .int .i64 x294.1), (79, .int .u64 x294.2)]) _ 0 () t292 rfl go40 (fun _ => rfl) (by rfl) (by decide) (pf_of rfl) trivial (fun w h => (St.pick [1, 0, 2, 4, 5, 3, 6, 7, 8, 9] [_, _, _, _, _, _, _, _, _, _] h rfl)) (fun Yy yv hy w hw => AllF.calls K _ _ t5.1 Yy yv g20 A7 c8 hy (RdG.pre (RdG.own 0 rfl)) (len_pre hc291) (RdG.cells 3 rfl) _ hC293 w hw) (fun l i286 j287 x294 L295 _ => ?_) (fun l i286 j287 x294 z407 o L295 G hGG H _ hl296 => ?_) (fun ds288 i286 j287 hr _ => ?_) (fun ds288 e289 k290 hr hx => ?_)
          · refine C.sub (s' := [(0, .slice Aa0 a0.length ca0), (4, .pointer (some ⟨g3, 0, none⟩)), (5, .slice A7 t5.1.length c8), (6, .pointer (some ⟨g15, 0, none⟩)), (7, .pointer (some ⟨g22, 0, none⟩)), (8, .func (.func 40) #[] #[.pointer (some ⟨g28, 0, none⟩)]), (9, .pointer (some ⟨g35, 0, none⟩)), (77, .func (.func 40) #[] #[.pointer (some ⟨g20, 0, none⟩)]), (78, .int .i64 x294.1), (79, .int .u64 x294.2)]) (by exact ⟨rfl, rfl, rfl, rfl, rfl, rfl, rfl, rfl, rfl, rfl, trivial⟩) ?_
            refine C.rs ?_
            refine J.p rfl rfl rfl rfl (Y.asg rfl) ?_
            refine J.nx ?_
            refine C.reg ?_
            refine J.p rfl rfl rfl rfl (Y.asg rfl) ?_
            refine J.nil ?_
            exact N.asg () (by exact ⟨rfl, rfl, rfl, rfl, rfl, rfl, rfl, rfl, rfl, rfl, rfl, rfl, trivial⟩) (fun w h => h)
          · replace hb297 := RdG.suf hb297 L295 hGG
            replace hb298 := RdG.suf hb298 L295 hGG
            replace hb300 := RdG.suf hb300 L295 hGG
            replace hb301 := RdG.suf hb301 L295 hGG
            replace hb302 := RdG.suf hb302 L295 hGG
            replace hb303 := RdG.suf hb303 L295 hGG
            refine C.at (s' := [(0, .slice Aa0 a0.length ca0), (4, .pointer (some ⟨g3, 0, none⟩)), (5, .slice A7 t5.1.length c8), (6, .pointer (some ⟨g15, 0, none⟩)), (7, .pointer (some ⟨g22, 0, none⟩)), (8, .func (.func 40) #[] #[.pointer (some ⟨g28, 0, none⟩)]), (9, .pointer (some ⟨g35, 0, none⟩)), (12, .int .i64 x294.1), (13, .int .u64 x294.2), (77, .func (.func 40) #[] #[.pointer (some ⟨g20, 0, none⟩)]), (78, .int .i64 x294.1), (79, .int .u64 x294.2)]) (G' := cells g35 3 [.int .i64 i286] :: cells g3 4 [.bool false] :: cells g15 37 [.slice A12 t10.length c13] :: cells g22 40 [.func (.func 40) #[] #[.pointer (some ⟨g20, 0, none⟩)]] :: G) rfl rfl ?_
            refine C.blk ?_
            refine C.seq ?_
            refine C.rs ?_
            refine J.joinB H (fun (o315 : Bool) (j316 : Unit) => [(0, .slice Aa0 a0.length ca0), (4, .pointer (some ⟨g3, 0, none⟩)), (5, .slice A7 t5.1.length c8), (6, .pointer (some ⟨g15, 0, none⟩)), (7, .pointer (some ⟨g22, 0, none⟩)), (8, .func (.func 40) #[] #[.pointer (some ⟨g28, 0, none⟩)]), (9, .pointer (some ⟨g35, 0, none⟩)), (77, .func (.func 40) #[] #[.pointer (some ⟨g20, 0, none⟩)]), (101, .bool o315)]) (fun (o315 : Bool) (j316 : Unit) => cells g3 4 [.bool false] :: cells g15 37 [.slice A12 t10.length c13] :: cells g22 40 [.func (.func 40) #[] #[.pointer (some ⟨g20, 0, none⟩)]] :: cells g35 3 [.int .i64 i286] :: G) (fun (o315 : Bool) (j316 : Unit) => True) (fun o317 H HK318 => ?_) (fun o315 j316 H _ => ?_)
            · refine J.r rfl rfl rfl rfl (Y.ldC 0 Try.underlying3 rfl rfl rfl rfl) ?_
              refine J.r rfl rfl rfl rfl (Y.ldC 2 Try.underlying37 rfl rfl rfl rfl) ?_
              refine J.p rfl rfl rfl rfl (Y.lenS Try.underlying37 rfl) ?_
              refine J.p rfl rfl rfl rfl (Y.bin rfl rfl rfl) ?_
              refine J.p rfl rfl rfl rfl (Y.mv rfl) ?_
              refine split2 H (fun c319 H => ?_) (fun c319 H => ?_)
              · refine J.as (k := 84) rfl (congrArg Value.bool (decide_eq_true c319)) ?_
                refine J.skip rfl rfl ?_
                refine J.skip rfl rfl ?_
                refine J.skip rfl rfl ?_
                refine J.skip rfl rfl ?_
                refine J.skip rfl rfl ?_
                refine J.skip rfl rfl ?_
                refine J.skip rfl rfl ?_
                refine J.p rfl rfl rfl rfl (Y.pickT rfl rfl) ?_
                refine J.p rfl rfl rfl rfl (Y.mv rfl) ?_
                refine J.skip rfl rfl ?_
                refine J.skip rfl rfl ?_
                refine J.skip rfl rfl ?_
                refine J.skip rfl rfl ?_
                refine J.skip rfl rfl ?_
                refine J.skip rfl rfl ?_
                refine J.skip rfl rfl ?_
                refine J.p rfl rfl rfl rfl (Y.pickT rfl rfl) ?_
                refine J.nil ?_
                obtain rfl := Option.some.inj H
                exact N.meet (true, ()) ⟨HK318, trivial⟩ (by exact ⟨rfl, rfl, rfl, rfl, rfl, rfl, rfl, rfl, rfl, trivial⟩) (by exact fun w h => (St.pick [1, 2, 3, 0] [_, _, _, _] h rfl))
              · refine J.as (k := 84) rfl (congrArg Value.bool (decide_eq_false c319)) ?_
                refine J.p rfl rfl rfl rfl (Y.mv rfl) ?_
                refine J.r rfl rfl rfl rfl (Y.ldC 2 Try.underlying37 rfl rfl rfl rfl) ?_
                refine J.r rfl rfl rfl rfl (Y.ldC 0 Try.underlying3 rfl rfl rfl rfl) ?_
                obtain ⟨p322, H⟩ := gd_some H
                refine J.know (RdG.someM lenT43_ (by decide) (hb303.suf [_, _, _, _] rfl) p322) (fun hh => ?_)
                obtain ⟨a320, ha321⟩ := hh
                refine J.p rfl rfl rfl rfl (Y.ixa Try.underlying37 ti43 rfl rfl p322 ha321) ?_
                refine J.p rfl rfl rfl rfl (Y.faA fa43_0 rfl) ?_
                obtain ⟨p323, H⟩ := gd_some H
                refine J.r rfl rfl rfl rfl (Y.ldF lenT43_ Try.underlying3 rfl rfl ha321 p323 (by decide) (hb303.suf [_, _, _, _] rfl) rfl) ?_
                refine J.p rfl rfl rfl rfl (Y.bin rfl rfl rfl) ?_
                refine J.p rfl rfl rfl rfl (Y.pickF rfl rfl) ?_
                refine J.p rfl rfl rfl rfl (Y.mv rfl) ?_
                refine split2 H (fun c324 H => ?_) (fun c324 H => ?_)
                · refine J.as (k := 93) rfl (congrArg Value.bool (decide_eq_true c324)) ?_
                  refine J.skip rfl rfl ?_
                  refine J.skip rfl rfl ?_
                  refine J.skip rfl rfl ?_
                  refine J.skip rfl rfl ?_
                  refine J.skip rfl rfl ?_
                  refine J.skip rfl rfl ?_
                  refine J.skip rfl rfl ?_
                  refine J.p rfl rfl rfl rfl (Y.pickT rfl rfl) ?_
                  refine J.nil ?_
                  obtain rfl := Option.some.inj H
                  exact N.meet (true, ()) ⟨HK318, trivial⟩ (by exact ⟨rfl, rfl, rfl, rfl, rfl, rfl, rfl, rfl, rfl, trivial⟩) (by exact fun w h => (St.pick [1, 2, 3, 0] [_, _, _, _] h rfl))
                · refine J.as (k := 93) rfl (congrArg Value.bool (decide_eq_false c324)) ?_
                  refine J.p rfl rfl rfl rfl (Y.mv rfl) ?_
                  refine J.r rfl rfl rfl rfl (Y.ldC 2 Try.underlying37 rfl rfl rfl rfl) ?_
                  refine J.r rfl rfl rfl rfl (Y.ldC 0 Try.underlying3 rfl rfl rfl rfl) ?_
                  obtain ⟨p327, H⟩ := gd_some H
                  refine J.know (RdG.someM lenT43_ (by decide) (hb303.suf [_, _, _, _] rfl) p327) (fun hh => ?_)
                  obtain ⟨a325, ha326⟩ := hh
                  refine J.p rfl rfl rfl rfl (Y.ixa Try.underlying37 ti43 rfl rfl p327 ha326) ?_
                  refine J.p rfl rfl rfl rfl (Y.faA fa43_1 rfl) ?_
                  obtain ⟨p328, H⟩ := gd_some H
                  refine J.r rfl rfl rfl rfl (Y.ldF lenT43_ Try.underlying24 rfl rfl ha326 p328 (by decide) (hb303.suf [_, _, _, _] rfl) rfl) ?_
                  refine J.p rfl rfl rfl rfl (Y.bin rfl rfl rfl) ?_
                  refine J.p rfl rfl rfl rfl (Y.pickF rfl rfl) ?_
                  refine J.nil ?_
                  obtain rfl := Option.some.inj H
                  exact N.meet (decide (x294.2 ≠ ((rd t10 i286).2)), ()) ⟨HK318, trivial⟩ (by exact ⟨rfl, rfl, rfl, rfl, rfl, rfl, rfl, rfl, rfl, trivial⟩) (by exact fun w h => (St.pick [1, 2, 3, 0] [_, _, _, _] h rfl))
            · refine C.at (s' := [(0, .slice Aa0 a0.length ca0), (4, .pointer (some ⟨g3, 0, none⟩)), (5, .slice A7 t5.1.length c8), (6, .pointer (some ⟨g15, 0, none⟩)), (7, .pointer (some ⟨g22, 0, none⟩)), (8, .func (.func 40) #[] #[.pointer (some ⟨g28, 0, none⟩)]), (9, .pointer (some ⟨g35, 0, none⟩)), (77, .func (.func 40) #[] #[.pointer (some ⟨g20, 0, none⟩)]), (101, .bool o315)]) (G' := cells g3 4 [.bool false] :: cells g15 37 [.slice A12 t10.length c13] :: cells g22 40 [.func (.func 40) #[] #[.pointer (some ⟨g20, 0, none⟩)]] :: cells g35 3 [.int .i64 i286] :: G) rfl rfl ?_
              refine split2 H (fun c329 H => ?_) (fun c329 H => ?_)
              · refine C.condT (congrArg (fun b => some (Value.bool b)) (c329)) ?_
                refine C.rs ?_
                refine J.stE (L' := [.bool false]) ti4 rfl rfl rfl rfl rfl ?_
                refine J.nx ?_
                refine C.ret ?_
                obtain rfl := Option.some.inj H
                refine T.th ?_
                refine T.ib ?_
                exact T.round i286 () rfl rfl trivial (by exact fun w h => h)
              · refine C.condF (congrArg (fun b => some (Value.bool b)) (nt c329)) ?_
                refine C.skip ?_
                refine N.nx ?_
                refine C.rs ?_
                refine J.r rfl rfl rfl rfl (Y.ldC 3 Try.underlying3 rfl rfl rfl rfl) ?_
                refine J.p rfl rfl rfl rfl (Y.bin rfl rfl rfl) ?_
                refine J.pull 3 rfl rfl ?_
                refine J.stE (L' := [.int .i64 (IntKind.wrap .i64 (i286 + 1))]) ti3 rfl rfl rfl rfl rfl ?_
                refine J.nx ?_
                refine C.seq ?_
                refine C.rs ?_
                refine J.r rfl rfl rfl rfl (Y.ldC 0 Try.underlying3 rfl rfl rfl rfl) ?_
                refine J.p rfl rfl rfl rfl (Y.bin rfl rfl rfl) ?_
                refine J.nx ?_
                refine split2 H (fun c330 H => ?_) (fun c330 H => ?_)
                · refine C.condT (congrArg (fun b => some (Value.bool b)) (decide_eq_true c330)) ?_
                  refine C.exit ?_
                  refine X.th ?_
                  refine X.hit ?_
                  obtain rfl := Option.some.inj H
                  exact N.round (IntKind.wrap .i64 (i286 + 1)) () rfl trivial (by exact fun w h => h)
                · refine C.condF (congrArg (fun b => some (Value.bool b)) (decide_eq_false c330)) ?_
                  refine C.skip ?_
                  refine N.nx ?_
                  refine C.rs ?_
                  refine J.alloc (L := [.int .i64 0]) rfl ti3 rfl (fun g331 => ?_)
                  refine J.stE (L' := [.int .i64 0]) ti3 rfl rfl rfl rfl rfl ?_
                  refine J.nx ?_
                  refine C.seq ?_
                  refine C.rs ?_
                  refine J.r rfl rfl rfl rfl (Y.ldC 4 Try.underlying40 rfl rfl rfl rfl) ?_
                  refine J.nx ?_
                  refine C.blk ?_
                  refine C.sub (s' := [(0, .slice Aa0 a0.length ca0), (4, .pointer (some ⟨g3, 0, none⟩)), (5, .slice A7 t5.1.length c8), (6, .pointer (some ⟨g15, 0, none⟩)), (7, .pointer (some ⟨g22, 0, none⟩)), (8, .func (.func 40) #[] #[.pointer (some ⟨g28, 0, none⟩)]), (9, .pointer (some ⟨g35, 0, none⟩)), (14, .pointer (some ⟨g331, 0, none⟩)), (77, .func (.func 40) #[] #[.pointer (some ⟨g20, 0, none⟩)]), (106, .func (.func 40) #[] #[.pointer (some ⟨g20, 0, none⟩)])]) (by exact ⟨rfl, rfl, rfl, rfl, rfl, rfl, rfl, rfl, rfl, rfl, trivial⟩) ?_
                  have hkey : ∀ Gx, Gx = (G) → RdG B w0 Gx Aa0 (a0.map (Value.int .u8)) ∧ RdG B w0 Gx A7 ((t5.1 ++ t5.2).map (Value.int .u8)) ∧ RdG B w0 Gx (some ⟨g28, 0, none⟩) [.slice A24 [5, 6].length 2] ∧ RdG B w0 Gx A24 ([5, 6].map (Value.int .u8)) ∧ RdG B w0 Gx (some ⟨g20, 0, none⟩) [.slice A7 t5.1.length c8] ∧ RdG B w0 Gx A12 (t10.flatMap encT43_) ∧ True := by rintro _ rfl; exact ⟨hb297, hb298, hb300, hb301, hb302, hb303, trivial⟩
                  obtain ⟨hb374, hb375, hb376, hb377, hb378, hb379, _⟩ := hkey _ rfl
                  obtain ⟨t369, hC370, H⟩ := bind_some H
                  refine C.rangeN' (E := Int) (Gb := G) (caps := [.pointer (some ⟨g20, 0, none⟩)]) encY67 (fun (i365 : Int) (j366 : Unit) => [cells g331 3 [.int .i64 i365], cells g35 3 [.int .i64 (IntKind.wrap .i64 (i286 + 1))], cells g3 4 [.bool false], cells g15 37 [.slice A12 t10.length c13], cells g22 40 [.func (.func 40) #[] #[.pointer (some ⟨g20, 0, none⟩)]]]) (fun (i365 : Int) (j366 : Unit) => True) (fun (e367 : Int) (k368 : Unit) => [cells g3 4 [.bool false], cells g15 37 [.slice A12 t10.length c13], cells g22 40 [.func (.func 40) #[] #[.pointer (some ⟨g20, 0, none⟩)]], cells g35 3 [.int .i64 (IntKind.wrap .i64 (i286 + 1))], cells g331 3 [.int .i64 e367]]) (fun (e367 : Int) (k368 : Unit) => True) (fun (_ : Int) => .ret) (fun (x371 : Int × Int) (z405 : Unit) => []) (fun (x371 : Int × Int) (z405 : Unit) => [(0, .slice Aa0 a0.length ca0), (4, .pointer (some ⟨g3, 0, none⟩)), (5, .slice A7 t5.1.length c8), (6, .pointer (some ⟨g15, 0, none⟩)), (7, .pointer (some ⟨g22, 0, none⟩)), (8, .func (.func 40) #[] #[.pointer (some ⟨g28, 0, none⟩)]), (9, .pointer (some ⟨g35, 0, none⟩)), (14, .pointer (some ⟨g331, 0, none⟩)), (15, .int .i64 x371.1), (16, .int .u64 x371.2), (77, .func (.func 40) #[] #[.pointer (some ⟨g20, 0, none⟩)]), (106, .func (.func 40) #[] #[.pointer (some ⟨g20, 0, none⟩)]), (107, .int .i64 x371.1), (108, .int .u64 x371.2)]) _ 0 () t369 (hl_suf hl296 [] rfl) rfl go40 (fun _ => rfl) (by rfl) (by decide) (pf_of rfl) trivial (fun w h => h) (fun Yy yv hy w hw => AllF.calls K _ _ t5.1 Yy yv g20 A7 c8 hy (RdG.pre hb298) (len_pre hc299) hb302 _ hC370 w hw) (fun l i365 j366 x371 L372 _ => ?_) (fun l i365 j366 x371 z405 o L372 G hGG H _ hl373 => ?_) (fun i365 j366 hr _ => ?_) (fun e367 k368 hr hx => ?_)
                  · refine C.sub (s' := [(0, .slice Aa0 a0.length ca0), (4, .pointer (some ⟨g3, 0, none⟩)), (5, .slice A7 t5.1.length c8), (6, .pointer (some ⟨g15, 0, none⟩)), (7, .pointer (some ⟨g22, 0, none⟩)), (8, .func (.func 40) #[] #[.pointer (some ⟨g28, 0, none⟩)]), (9, .pointer (some ⟨g35, 0, none⟩)), (14, .pointer (some ⟨g331, 0, none⟩)), (77, .func (.func 40) #[] #[.pointer (some ⟨g20, 0, none⟩)]), (106, .func (.func 40) #[] #[.pointer (some ⟨g20, 0, none⟩)]), (107, .int .i64 x371.1), (108, .int .u64 x371.2)]) (by exact ⟨rfl, rfl, rfl, rfl, rfl, rfl, rfl, rfl, rfl, rfl, rfl, rfl, trivial⟩) ?_
                    refine C.rs ?_
                    refine J.p rfl rfl rfl rfl (Y.asg rfl) ?_
                    refine J.nx ?_
                    refine C.reg ?_
                    refine J.p rfl rfl rfl rfl (Y.asg rfl) ?_
                    refine J.nil ?_
                    exact N.asg () (by exact ⟨rfl, rfl, rfl, rfl, rfl, rfl, rfl, rfl, rfl, rfl, rfl, rfl, rfl, rfl, trivial⟩) (fun w h => h)
                  · replace hb374 := RdG.suf hb374 L372 hGG
                    replace hb375 := RdG.suf hb375 L372 hGG
                    replace hb376 := RdG.suf hb376 L372 hGG
                    replace hb377 := RdG.suf hb377 L372 hGG
                    replace hb378 := RdG.suf hb378 L372 hGG
                    replace hb379 := RdG.suf hb379 L372 hGG
                    refine C.at (s' := [(0, .slice Aa0 a0.length ca0), (4, .pointer (some ⟨g3, 0, none⟩)), (5, .slice A7 t5.1.length c8), (6, .pointer (some ⟨g15, 0, none⟩)), (7, .pointer (some ⟨g22, 0, none⟩)), (8, .func (.func 40) #[] #[.pointer (some ⟨g28, 0, none⟩)]), (9, .pointer (some ⟨g35, 0, none⟩)), (14, .pointer (some ⟨g331, 0, none⟩)), (15, .int .i64 x371.1), (16, .int .u64 x371.2), (77, .func (.func 40) #[] #[.pointer (some ⟨g20, 0, none⟩)]), (106, .func (.func 40) #[] #[.pointer (some ⟨g20, 0, none⟩)]), (107, .int .i64 x371.1), (108, .int .u64 x371.2)]) (G' := cells g331 3 [.int .i64 i365] :: cells g35 3 [.int .i64 (IntKind.wrap .i64 (i286 + 1))] :: cells g3 4 [.bool false] :: cells g15 37 [.slice A12 t10.length c13] :: cells g22 40 [.func (.func 40) #[] #[.pointer (some ⟨g20, 0, none⟩)]] :: G) rfl rfl ?_
                    refine C.blk ?_
                    refine C.seq ?_
                    refine C.rs ?_
                    refine J.joinB H (fun (o390 : Bool) (j391 : Unit) => [(0, .slice Aa0 a0.length ca0), (4, .pointer (some ⟨g3, 0, none⟩)), (5, .slice A7 t5.1.length c8), (6, .pointer (some ⟨g15, 0, none⟩)), (7, .pointer (some ⟨g22, 0, none⟩)), (8, .func (.func 40) #[] #[.pointer (some ⟨g28, 0, none⟩)]), (9, .pointer (some ⟨g35, 0, none⟩)), (14, .pointer (some ⟨g331, 0, none⟩)), (77, .func (.func 40) #[] #[.pointer (some ⟨g20, 0, none⟩)]), (106, .func (.func 40) #[] #[.pointer (some ⟨g20, 0, none⟩)]), (130, .bool o390)]) (fun (o390 : Bool) (j391 : Unit) => cells g3 4 [.bool false] :: cells g15 37 [.slice A12 t10.length c13] :: cells g22 40 [.func (.func 40) #[] #[.pointer (some ⟨g20, 0, none⟩)]] :: cells g35 3 [.int .i64 (IntKind.wrap .i64 (i286 + 1))] :: cells g331 3 [.int .i64 i365] :: G) (fun (o390 : Bool) (j391 : Unit) => True) (fun o392 H HK393 => ?_) (fun o390 j391 H _ => ?_)
                    · refine J.r rfl rfl rfl rfl (Y.ldC 0 Try.underlying3 rfl rfl rfl rfl) ?_
                      refine J.r rfl rfl rfl rfl (Y.ldC 3 Try.underlying37 rfl rfl rfl rfl) ?_
                      refine J.p rfl rfl rfl rfl (Y.lenS Try.underlying37 rfl) ?_
                      refine J.p rfl rfl rfl rfl (Y.bin rfl rfl rfl) ?_
                      refine J.p rfl rfl rfl rfl (Y.mv rfl) ?_
                      refine split2 H (fun c394 H => ?_) (fun c394 H => ?_)
                      · refine J.as (k := 113) rfl (congrArg Value.bool (decide_eq_true c394)) ?_
                        refine J.skip rfl rfl ?_
                        refine J.skip rfl rfl ?_
                        refine J.skip rfl rfl ?_
                        refine J.skip rfl rfl ?_
                        refine J.skip rfl rfl ?_
                        refine J.skip rfl rfl ?_
                        refine J.skip rfl rfl ?_
                        refine J.p rfl rfl rfl rfl (Y.pickT rfl rfl) ?_
                        refine J.p rfl rfl rfl rfl (Y.mv rfl) ?_
                        refine J.skip rfl rfl ?_
                        refine J.skip rfl rfl ?_
                        refine J.skip rfl rfl ?_
                        refine J.skip rfl rfl ?_
                        refine J.skip rfl rfl ?_
                        refine J.skip rfl rfl ?_
                        refine J.skip rfl rfl ?_
                        refine J.p rfl rfl rfl rfl (Y.pickT rfl rfl) ?_
                        refine J.nil ?_
                        obtain rfl := Option.some.inj H
                        exact N.meet (true, ()) ⟨HK393, trivial⟩ (by exact ⟨rfl, rfl, rfl, rfl, rfl, rfl, rfl, rfl, rfl, rfl, rfl, trivial⟩) (by exact fun w h => (St.pick [2, 3, 4, 1, 0] [_, _, _, _, _] h rfl))
                      · refine J.as (k := 113) rfl (congrArg Value.bool (decide_eq_false c394)) ?_
                        refine J.p rfl rfl rfl rfl (Y.mv rfl) ?_
                        refine J.r rfl rfl rfl rfl (Y.ldC 3 Try.underlying37 rfl rfl rfl rfl) ?_
                        refine J.r rfl rfl rfl rfl (Y.ldC 0 Try.underlying3 rfl rfl rfl rfl) ?_
                        obtain ⟨p397, H⟩ := gd_some H
                        refine J.know (RdG.someM lenT43_ (by decide) (hb379.suf [_, _, _, _, _] rfl) p397) (fun hh => ?_)
                        obtain ⟨a395, ha396⟩ := hh
                        refine J.p rfl rfl rfl rfl (Y.ixa Try.underlying37 ti43 rfl rfl p397 ha396) ?_
                        refine J.p rfl rfl rfl rfl (Y.faA fa43_0 rfl) ?_
                        obtain ⟨p398, H⟩ := gd_some H
                        refine J.r rfl rfl rfl rfl (Y.ldF lenT43_ Try.underlying3 rfl rfl ha396 p398 (by decide) (hb379.suf [_, _, _, _, _] rfl) rfl) ?_
                        refine J.p rfl rfl rfl rfl (Y.bin rfl rfl rfl) ?_
                        refine J.p rfl rfl rfl rfl (Y.pickF rfl rfl) ?_
                        refine J.p rfl rfl rfl rfl (Y.mv rfl) ?_
                        refine split2 H (fun c399 H => ?_) (fun c399 H => ?_)
                        · refine J.as (k := 122) rfl (congrArg Value.bool (decide_eq_true c399)) ?_
                          refine J.skip rfl rfl ?_
                          refine J.skip rfl rfl ?_
                          refine J.skip rfl rfl ?_
                          refine J.skip rfl rfl ?_
                          refine J.skip rfl rfl ?_
                          refine J.skip rfl rfl ?_
                          refine J.skip rfl rfl ?_
                          refine J.p rfl rfl rfl rfl (Y.pickT rfl rfl) ?_
                          refine J.nil ?_
                          obtain rfl := Option.some.inj H
                          exact N.meet (true, ()) ⟨HK393, trivial⟩ (by exact ⟨rfl, rfl, rfl, rfl, rfl, rfl, rfl, rfl, rfl, rfl, rfl, trivial⟩) (by exact fun w h => (St.pick [2, 3, 4, 1, 0] [_, _, _, _, _] h rfl))
                        · refine J.as (k := 122) rfl (congrArg Value.bool (decide_eq_false c399)) ?_
                          refine J.p rfl rfl rfl rfl (Y.mv rfl) ?_
                          refine J.r rfl rfl rfl rfl (Y.ldC 3 Try.underlying37 rfl rfl rfl rfl) ?_
                          refine J.r rfl rfl rfl rfl (Y.ldC 0 Try.underlying3 rfl rfl rfl rfl) ?_
                          obtain ⟨p402, H⟩ := gd_some H
                          refine J.know (RdG.someM lenT43_ (by decide) (hb379.suf [_, _, _, _, _] rfl) p402) (fun hh => ?_)
                          obtain ⟨a400, ha401⟩ := hh
                          refine J.p rfl rfl rfl rfl (Y.ixa Try.underlying37 ti43 rfl rfl p402 ha401) ?_
                          refine J.p rfl rfl rfl rfl (Y.faA fa43_1 rfl) ?_
                          obtain ⟨p403, H⟩ := gd_some H
                          refine J.r rfl rfl rfl rfl (Y.ldF lenT43_ Try.underlying24 rfl rfl ha401 p403 (by decide) (hb379.suf [_, _, _, _, _] rfl) rfl) ?_
                          refine J.p rfl rfl rfl rfl (Y.bin rfl rfl rfl) ?_
                          refine J.p rfl rfl rfl rfl (Y.pickF rfl rfl) ?_
                          refine J.nil ?_
                          obtain rfl := Option.some.inj H
                          exact N.meet (decide (x371.2 ≠ ((rd t10 i365).2)), ()) ⟨HK393, trivial⟩ (by exact ⟨rfl, rfl, rfl, rfl, rfl, rfl, rfl, rfl, rfl, rfl, rfl, trivial⟩) (by exact fun w h => (St.pick [2, 3, 4, 1, 0] [_, _, _, _, _] h rfl))
                    · refine C.at (s' := [(0, .slice Aa0 a0.length ca0), (4, .pointer (some ⟨g3, 0, none⟩)), (5, .slice A7 t5.1.length c8), (6, .pointer (some ⟨g15, 0, none⟩)), (7, .pointer (some ⟨g22, 0, none⟩)), (8, .func (.func 40) #[] #[.pointer (some ⟨g28, 0, none⟩)]), (9, .pointer (some ⟨g35, 0, none⟩)), (14, .pointer (some ⟨g331, 0, none⟩)), (77, .func (.func 40) #[] #[.pointer (some ⟨g20, 0, none⟩)]), (106, .func (.func 40) #[] #[.pointer (some ⟨g20, 0, none⟩)]), (130, .bool o390)]) (G' := cells g3 4 [.bool false] :: cells g15 37 [.slice A12 t10.length c13] :: cells g22 40 [.func (.func 40) #[] #[.pointer (some ⟨g20, 0, none⟩)]] :: cells g35 3 [.int .i64 (IntKind.wrap .i64 (i286 + 1))] :: cells g331 3 [.int .i64 i365] :: G) rfl rfl ?_
                      refine split2 H (fun c404 H => ?_) (fun c404 H => ?_)
                      · refine C.condT (congrArg (fun b => some (Value.bool b)) (c404)) ?_
                        refine C.rs ?_
                        refine J.stE (L' := [.bool false]) ti4 rfl rfl rfl rfl rfl ?_
                        refine J.nx ?_
                        refine C.ret ?_
                        obtain rfl := Option.some.inj H
                        refine T.th ?_
                        refine T.ib ?_
                        exact T.round i365 () rfl rfl trivial (by exact fun w h => h)
                      · refine C.condF (congrArg (fun b => some (Value.bool b)) (nt c404)) ?_
                        refine C.skip ?_
                        refine N.nx ?_
                        refine C.reg ?_
                        refine J.r rfl rfl rfl rfl (Y.ldC 4 Try.underlying3 rfl rfl rfl rfl) ?_
                        refine J.p rfl rfl rfl rfl (Y.bin rfl rfl rfl) ?_
                        refine J.pull 4 rfl rfl ?_
                        refine J.stE (L' := [.int .i64 (IntKind.wrap .i64 (i365 + 1))]) ti3 rfl rfl rfl rfl rfl ?_
                        refine J.nil ?_
                        refine N.ib ?_
                        obtain rfl := Option.some.inj H
                        exact N.round (IntKind.wrap .i64 (i365 + 1)) () rfl trivial (by exact fun w h => (St.pick [0, 4, 1, 2, 3] [_, _, _, _, _] h rfl))
                  · subst hr
                    replace H := ysel_inl H
                    refine N.at (s' := [(0, .slice Aa0 a0.length ca0), (4, .pointer (some ⟨g3, 0, none⟩)), (5, .slice A7 t5.1.length c8), (6, .pointer (some ⟨g15, 0, none⟩)), (7, .pointer (some ⟨g22, 0, none⟩)), (8, .func (.func 40) #[] #[.pointer (some ⟨g28, 0, none⟩)]), (9, .pointer (some ⟨g35, 0, none⟩)), (14, .pointer (some ⟨g331, 0, none⟩)), (77, .func (.func 40) #[] #[.pointer (some ⟨g20, 0, none⟩)]), (106, .func (.func 40) #[] #[.pointer (some ⟨g20, 0, none⟩)])]) (G' := cells g331 3 [.int .i64 i365] :: cells g35 3 [.int .i64 (IntKind.wrap .i64 (i286 + 1))] :: cells g3 4 [.bool false] :: cells g15 37 [.slice A12 t10.length c13] :: cells g22 40 [.func (.func 40) #[] #[.pointer (some ⟨g20, 0, none⟩)]] :: G) rfl rfl ?_
                    refine N.ib ?_
                    refine N.nx ?_
                    refine C.rs ?_
                    refine J.r rfl rfl rfl rfl (Y.ldC 0 Try.underlying3 rfl rfl rfl rfl) ?_
                    refine J.r rfl rfl rfl rfl (Y.ldC 3 Try.underlying37 rfl rfl rfl rfl) ?_
                    refine J.p rfl rfl rfl rfl (Y.lenS Try.underlying37 rfl) ?_
                    refine J.p rfl rfl rfl rfl (Y.bin rfl rfl rfl) ?_
                    refine J.nx ?_
                    refine split2 H (fun c406 H => ?_) (fun c406 H => ?_)
                    · refine C.condT (congrArg (fun b => some (Value.bool b)) (decide_eq_true c406)) ?_
                      refine C.rs ?_
                      refine J.pull 2 rfl rfl ?_
                      refine J.stE (L' := [.bool false]) ti4 rfl rfl rfl rfl rfl ?_
                      refine J.nx ?_
                      refine C.ret ?_
                      obtain rfl := Option.some.inj H
                      refine T.ib ?_
                      exact T.round (IntKind.wrap .i64 (i286 + 1)) () rfl rfl trivial (by exact fun w h => (St.pick [0, 3, 4, 2] [_, _, _, _, _] h rfl))
                    · refine C.condF (congrArg (fun b => some (Value.bool b)) (decide_eq_false c406)) ?_
                      refine C.skip ?_
                      refine N.ib ?_
                      obtain rfl := Option.some.inj H
                      exact N.round (IntKind.wrap .i64 (i286 + 1)) () rfl trivial (by exact fun w h => (St.pick [1, 2, 3, 4] [_, _, _, _, _] h rfl))
                  · subst hr
                    replace H := ysel_inr H
                    refine C.at (s' := [(0, .slice Aa0 a0.length ca0), (4, .pointer (some ⟨g3, 0, none⟩)), (5, .slice A7 t5.1.length c8), (6, .pointer (some ⟨g15, 0, none⟩)), (7, .pointer (some ⟨g22, 0, none⟩)), (8, .func (.func 40) #[] #[.pointer (some ⟨g28, 0, none⟩)]), (9, .pointer (some ⟨g35, 0, none⟩)), (14, .pointer (some ⟨g331, 0, none⟩)), (77, .func (.func 40) #[] #[.pointer (some ⟨g20, 0, none⟩)]), (106, .func (.func 40) #[] #[.pointer (some ⟨g20, 0, none⟩)])]) (G' := cells g3 4 [.bool false] :: cells g15 37 [.slice A12 t10.length c13] :: cells g22 40 [.func (.func 40) #[] #[.pointer (some ⟨g20, 0, none⟩)]] :: cells g35 3 [.int .i64 (IntKind.wrap .i64 (i286 + 1))] :: cells g331 3 [.int .i64 e367] :: G) rfl rfl ?_
                    refine C.ret ?_
                    obtain rfl := Option.some.inj H
                    refine T.ib ?_
                    refine T.th ?_
                    refine T.ib ?_
                    exact T.round (IntKind.wrap .i64 (i286 + 1)) () rfl rfl trivial (by exact fun w h => (St.pick [0, 1, 2, 3] [_, _, _, _, _] h rfl))
          · subst hr
            replace H := ysel_inl H
            refine N.at (s' := [(0, .slice Aa0 a0.length ca0), (4, .pointer (some ⟨g3, 0, none⟩)), (5, .slice A7 t5.1.length c8), (6, .pointer (some ⟨g15, 0, none⟩)), (7, .pointer (some ⟨g22, 0, none⟩)), (8, .func (.func 40) #[] #[.pointer (some ⟨g28, 0, none⟩)]), (9, .pointer (some ⟨g35, 0, none⟩)), (77, .func (.func 40) #[] #[.pointer (some ⟨g20, 0, none⟩)])]) (G' := dblks ds288 :: cells g35 3 [.int .i64 i286] :: cells g3 4 [.bool false] :: cells g15 37 [.slice A12 t10.length c13] :: cells g22 40 [.func (.func 40) #[] #[.pointer (some ⟨g20, 0, none⟩)]] :: own 5 1 A7 c8 ((t5.1 ++ t5.2).map (Value.int .u8)) :: cells g28 22 [.slice A24 [5, 6].length 2] :: own 43 2 A12 c13 (t10.flatMap encT43_) :: cells g20 22 [.slice A7 t5.1.length c8] :: own 5 1 A24 2 ([5, 6].map (Value.int .u8)) :: G) rfl rfl ?_
            refine N.ib ?_
            refine N.nx ?_
            refine C.rs ?_
            refine J.alloc (L := [.int .i64 0]) rfl ti3 rfl (fun g408 => ?_)
            refine J.stE (L' := [.int .i64 0]) ti3 rfl rfl rfl rfl rfl ?_
            refine J.nx ?_
            refine C.seq ?_
            refine C.rs ?_
            refine J.p rfl rfl rfl rfl (Y.mv rfl) ?_
            refine J.nx ?_
            refine C.blk ?_
            refine C.sub (s' := [(0, .slice Aa0 a0.length ca0), (4, .pointer (some ⟨g3, 0, none⟩)), (5, .slice A7 t5.1.length c8), (6, .pointer (some ⟨g15, 0, none⟩)), (9, .pointer (some ⟨g35, 0, none⟩)), (17, .pointer (some ⟨g408, 0, none⟩)), (137, .func (.func 40) #[] #[.pointer (some ⟨g28, 0, none⟩)])]) (by exact ⟨rfl, rfl, rfl, rfl, rfl, rfl, rfl, trivial⟩) ?_
            refine C.know (own_leL 6 rfl) (fun hc436 => ?_)
            refine C.know (own_leM lenT43_ (by decide) 8 rfl) (fun hc440 => ?_)
            have hkey : ∀ Gx, Gx = (own 5 1 A7 c8 ((t5.1 ++ t5.2).map (Value.int .u8)) :: cells g28 22 [.slice A24 [5, 6].length 2] :: own 43 2 A12 c13 (t10.flatMap encT43_) :: cells g20 22 [.slice A7 t5.1.length c8] :: own 5 1 A24 2 ([5, 6].map (Value.int .u8)) :: G) → RdG B w0 Gx Aa0 (a0.map (Value.int .u8)) ∧ RdG B w0 Gx A7 ((t5.1 ++ t5.2).map (Value.int .u8)) ∧ RdG B w0 Gx (some ⟨g28, 0, none⟩) [.slice A24 [5, 6].length 2] ∧ RdG B w0 Gx A24 ([5, 6].map (Value.int .u8)) ∧ RdG B w0 Gx A12 (t10.flatMap encT43_) ∧ RdG B w0 Gx (some ⟨g20, 0, none⟩) [.slice A7 t5.1.length c8] ∧ True := by rintro _ rfl; exact ⟨(ha0.suf [_, _, _, _, _] rfl), (RdG.own 0 rfl), (RdG.cells 1 rfl), (RdG.own 4 rfl), (RdG.own 2 rfl), (RdG.cells 3 rfl), trivial⟩
            obtain ⟨hb434, hb435, hb437, hb438, hb439, hb441, _⟩ := hkey _ rfl
            obtain ⟨t429, hC430, H⟩ := bind_some H
            refine C.rangeF' (E := Int) (Gb := own 5 1 A7 c8 ((t5.1 ++ t5.2).map (Value.int .u8)) :: cells g28 22 [.slice A24 [5, 6].length 2] :: own 43 2 A12 c13 (t10.flatMap encT43_) :: cells g20 22 [.slice A7 t5.1.length c8] :: own 5 1 A24 2 ([5, 6].map (Value.int .u8)) :: G) (caps := [.pointer (some ⟨g28, 0, none⟩)]) encY67 (fun (i424 : Int) (j425 : Unit) => [cells g408 3 [.int .i64 i424], cells g35 3 [.int .i64 i286], cells g3 4 [.bool false], cells g15 37 [.slice A12 t10.length c13], cells g22 40 [.func (.func 40) #[] #[.pointer (some ⟨g20, 0, none⟩)]]]) (fun (i424 : Int) (j425 : Unit) => True) (fun (e427 : Int) (k428 : Unit) => [cells g3 4 [.bool false], cells g15 37 [.slice A12 t10.length c13], cells g35 3 [.int .i64 i286], cells g408 3 [.int .i64 e427], cells g22 40 [.func (.func 40) #[] #[.pointer (some ⟨g20, 0, none⟩)]]]) (fun (e427 : Int) (k428 : Unit) => True) (fun (_ : Int) => .ret) (fun (x431 : Int × Int) (z449 : Unit) => []) (fun (x431 : Int × Int) (z449 : Unit) => [(0, .slice Aa0 a0.length ca0), (4, .pointer (some ⟨g3, 0, none⟩)), (5, .slice A7 t5.1.length c8), (6, .pointer (some ⟨g15, 0, none⟩)), (9, .pointer (some ⟨g35, 0, none⟩)), (17, .pointer (some ⟨g408, 0, none⟩)), (18, .int .i64 x431.1), (19, .int .u64 x431.2), (137, .func (.func 40) #[] #[.pointer (some ⟨g28, 0, none⟩)]), (138, .int .i64 x431.1), (139, .int .u64 x431.2)]) _ 0 () t429 rfl go40 (fun _ => rfl) (by rfl) (by decide) (pf_of rfl) trivial (fun w h => (St.pick [1, 0, 2, 3, 4, 5, 6, 7, 8, 9, 10] [_, _, _, _, _, _, _, _, _, _, _] h rfl)) (fun Yy yv hy w hw => AllF.calls K _ _ [5, 6] Yy yv g28 A24 2 hy (RdG.own 4 rfl) (show [5, 6].length ≤ 2 from Nat.le_refl _) (RdG.cells 1 rfl) _ hC430 w hw) (fun l i424 j425 x431 L432 _ => ?_) (fun l i424 j425 x431 z449 o L432 G hGG H _ hl433 => ?_) (fun ds426 i424 j425 hr _ => ?_) (fun ds426 e427 k428 hr hx => ?_)
            · refine C.sub (s' := [(0, .slice Aa0 a0.length ca0), (4, .pointer (some ⟨g3, 0, none⟩)), (5, .slice A7 t5.1.length c8), (6, .pointer (some ⟨g15, 0, none⟩)), (9, .pointer (some ⟨g35, 0, none⟩)), (17, .pointer (some ⟨g408, 0, none⟩)), (137, .func (.func 40) #[] #[.pointer (some ⟨g28, 0, none⟩)]), (138, .int .i64 x431.1), (139, .int .u64 x431.2)]) (by exact ⟨rfl, rfl, rfl, rfl, rfl, rfl, rfl, rfl, rfl, trivial⟩) ?_
              refine C.rs ?_
              refine J.p rfl rfl rfl rfl (Y.asg rfl) ?_
              refine J.nx ?_
              refine C.reg ?_
              refine J.p rfl rfl rfl rfl (Y.asg rfl) ?_
              refine J.nil ?_
              exact N.asg () (by exact ⟨rfl, rfl, rfl, rfl, rfl, rfl, rfl, rfl, rfl, rfl, rfl, trivial⟩) (fun w h => h)
            · replace hb434 := RdG.suf hb434 L432 hGG
              replace hb435 := RdG.suf hb435 L432 hGG
              replace hb437 := RdG.suf hb437 L432 hGG
              replace hb438 := RdG.suf hb438 L432 hGG
              replace hb439 := RdG.suf hb439 L432 hGG
              replace hb441 := RdG.suf hb441 L432 hGG
              refine C.at (s' := [(0, .slice Aa0 a0.length ca0), (4, .pointer (some ⟨g3, 0, none⟩)), (5, .slice A7 t5.1.length c8), (6, .pointer (some ⟨g15, 0, none⟩)), (9, .pointer (some ⟨g35, 0, none⟩)), (17, .pointer (some ⟨g408, 0, none⟩)), (18, .int .i64 x431.1), (19, .int .u64 x431.2), (137, .func (.func 40) #[] #[.pointer (some ⟨g28, 0, none⟩)]), (138, .int .i64 x431.1), (139, .int .u64 x431.2)]) (G' := cells g408 3 [.int .i64 i424] :: cells g35 3 [.int .i64 i286] :: cells g3 4 [.bool false] :: cells g15 37 [.slice A12 t10.length c13] :: cells g22 40 [.func (.func 40) #[] #[.pointer (some ⟨g20, 0, none⟩)]] :: G) rfl rfl ?_
              refine C.blk ?_
              refine C.seq ?_
              refine C.rs ?_
              refine J.joinB H (fun (o443 : Bool) (j444 : Unit) => [(0, .slice Aa0 a0.length ca0), (4, .pointer (some ⟨g3, 0, none⟩)), (5, .slice A7 t5.1.length c8), (6, .pointer (some ⟨g15, 0, none⟩)), (9, .pointer (some ⟨g35, 0, none⟩)), (17, .pointer (some ⟨g408, 0, none⟩)), (137, .func (.func 40) #[] #[.pointer (some ⟨g28, 0, none⟩)]), (149, .bool o443)]) (fun (o443 : Bool) (j444 : Unit) => cells g3 4 [.bool false] :: cells g15 37 [.slice A12 t10.length c13] :: cells g35 3 [.int .i64 i286] :: cells g408 3 [.int .i64 i424] :: cells g22 40 [.func (.func 40) #[] #[.pointer (some ⟨g20, 0, none⟩)]] :: G) (fun (o443 : Bool) (j444 : Unit) => True) (fun o445 H HK446 => ?_) (fun o443 j444 H _ => ?_)
              · refine J.p rfl rfl rfl rfl (Y.mv rfl) ?_
                refine J.r rfl rfl rfl rfl (Y.ldC 0 Try.underlying3 rfl rfl rfl rfl) ?_
                refine J.p rfl rfl rfl rfl (Y.bin rfl rfl rfl) ?_
                refine J.p rfl rfl rfl rfl (Y.mv rfl) ?_
                refine split2 H (fun c447 H => ?_) (fun c447 H => ?_)
                · refine J.as (k := 143) rfl (congrArg Value.bool (decide_eq_true c447)) ?_
                  refine J.skip rfl rfl ?_
                  refine J.skip rfl rfl ?_
                  refine J.skip rfl rfl ?_
                  refine J.skip rfl rfl ?_
                  refine J.skip rfl rfl ?_
                  refine J.p rfl rfl rfl rfl (Y.pickT rfl rfl) ?_
                  refine J.nil ?_
                  obtain rfl := Option.some.inj H
                  exact N.meet (true, ()) ⟨HK446, trivial⟩ (by exact ⟨rfl, rfl, rfl, rfl, rfl, rfl, rfl, rfl, trivial⟩) (by exact fun w h => (St.pick [2, 3, 1, 0, 4] [_, _, _, _, _] h rfl))
                · refine J.as (k := 143) rfl (congrArg Value.bool (decide_eq_false c447)) ?_
                  refine J.p rfl rfl rfl rfl (Y.mv rfl) ?_
                  refine J.r rfl rfl rfl rfl (Y.ldC 0 Try.underlying3 rfl rfl rfl rfl) ?_
                  refine J.p rfl rfl rfl rfl (Y.bin rfl rfl rfl) ?_
                  refine J.p rfl rfl rfl rfl (Y.conv Try.underlying3 Try.underlying24 rfl) ?_
                  refine J.p rfl rfl rfl rfl (Y.bin rfl rfl rfl) ?_
                  refine J.p rfl rfl rfl rfl (Y.pickF rfl rfl) ?_
                  refine J.nil ?_
                  obtain rfl := Option.some.inj H
                  exact N.meet (decide (x431.2 ≠ (IntKind.wrap .u64 (IntKind.wrap .i64 (5 + i424)))), ()) ⟨HK446, trivial⟩ (by exact ⟨rfl, rfl, rfl, rfl, rfl, rfl, rfl, rfl, trivial⟩) (by exact fun w h => (St.pick [2, 3, 1, 0, 4] [_, _, _, _, _] h rfl))
              · refine C.at (s' := [(0, .slice Aa0 a0.length ca0), (4, .pointer (some ⟨g3, 0, none⟩)), (5, .slice A7 t5.1.length c8), (6, .pointer (some ⟨g15, 0, none⟩)), (9, .pointer (some ⟨g35, 0, none⟩)), (17, .pointer (some ⟨g408, 0, none⟩)), (137, .func (.func 40) #[] #[.pointer (some ⟨g28, 0, none⟩)]), (149, .bool o443)]) (G' := cells g3 4 [.bool false] :: cells g15 37 [.slice A12 t10.length c13] :: cells g35 3 [.int .i64 i286] :: cells g408 3 [.int .i64 i424] :: cells g22 40 [.func (.func 40) #[] #[.pointer (some ⟨g20, 0, none⟩)]] :: G) rfl rfl ?_
                refine split2 H (fun c448 H => ?_) (fun c448 H => ?_)
                · refine C.condT (congrArg (fun b => some (Value.bool b)) (c448)) ?_
                  refine C.rs ?_
                  refine J.stE (L' := [.bool false]) ti4 rfl rfl rfl rfl rfl ?_
                  refine J.nx ?_
                  refine C.ret ?_
                  obtain rfl := Option.some.inj H
                  refine T.th ?_
                  refine T.ib ?_
                  exact T.round i424 () rfl rfl trivial (by exact fun w h => h)
                · refine C.condF (congrArg (fun b => some (Value.bool b)) (nt c448)) ?_
                  refine C.skip ?_
                  refine N.nx ?_
                  refine C.reg ?_
                  refine J.r rfl rfl rfl rfl (Y.ldC 3 Try.underlying3 rfl rfl rfl rfl) ?_
                  refine J.p rfl rfl rfl rfl (Y.bin rfl rfl rfl) ?_
                  refine J.pull 3 rfl rfl ?_
                  refine J.stE (L' := [.int .i64 (IntKind.wrap .i64 (i424 + 1))]) ti3 rfl rfl rfl rfl rfl ?_
                  refine J.nil ?_
                  refine N.ib ?_
                  obtain rfl := Option.some.inj H
                  exact N.round (IntKind.wrap .i64 (i424 + 1)) () rfl trivial (by exact fun w h => (St.pick [0, 3, 1, 2, 4] [_, _, _, _, _] h rfl))
            · subst hr
              replace H := ysel_inl H
              refine N.at (s' := [(0, .slice Aa0 a0.length ca0), (4, .pointer (some ⟨g3, 0, none⟩)), (5, .slice A7 t5.1.length c8), (6, .pointer (some ⟨g15, 0, none⟩)), (9, .pointer (some ⟨g35, 0, none⟩)), (17, .pointer (some ⟨g408, 0, none⟩)), (137, .func (.func 40) #[] #[.pointer (some ⟨g28, 0, none⟩)])]) (G' := dblks ds426 :: cells g408 3 [.int .i64 i424] :: cells g35 3 [.int .i64 i286] :: cells g3 4 [.bool false] :: cells g15 37 [.slice A12 t10.length c13] :: cells g22 40 [.func (.func 40) #[] #[.pointer (some ⟨g20, 0, none⟩)]] :: own 5 1 A7 c8 ((t5.1 ++ t5.2).map (Value.int .u8)) :: cells g28 22 [.slice A24 [5, 6].length 2] :: own 43 2 A12 c13 (t10.flatMap encT43_) :: cells g20 22 [.slice A7 t5.1.length c8] :: own 5 1 A24 2 ([5, 6].map (Value.int .u8)) :: G) rfl rfl ?_
              refine N.ib ?_
              refine N.nx ?_
              refine C.seq ?_
              refine C.rs ?_
              refine J.r rfl rfl rfl rfl (Y.ldC 1 Try.underlying3 rfl rfl rfl rfl) ?_
              refine J.p rfl rfl rfl rfl (Y.bin rfl rfl rfl) ?_
              refine J.nx ?_
              refine split2 H (fun c450 H => ?_) (fun c450 H => ?_)
              · refine C.condT (congrArg (fun b => some (Value.bool b)) (decide_eq_true c450)) ?_
                refine C.rs ?_
                refine J.pull 3 rfl rfl ?_
                refine J.stE (L' := [.bool false]) ti4 rfl rfl rfl rfl rfl ?_
                refine J.nx ?_
                refine C.ret ?_
                obtain rfl := Option.some.inj H
                refine T.th ?_
                exact ret_okM (cells g3 4 [.bool false] :: cells g408 3 [.int .i64 i424] :: cells g35 3 [.int .i64 i286] :: cells g15 37 [.slice A12 t10.length c13] :: cells g22 40 [.func (.func 40) #[] #[.pointer (some ⟨g20, 0, none⟩)]] :: own 5 1 A7 c8 ((t5.1 ++ t5.2).map (Value.int .u8)) :: cells g28 22 [.slice A24 [5, 6].length 2] :: own 43 2 A12 c13 (t10.flatMap encT43_) :: cells g20 22 [.slice A7 t5.1.length c8] :: own 5 1 A24 2 ([5, 6].map (Value.int .u8)) :: G) (rvs := [.cell 4 4]) (vs := [.bool false]) rfl ⟨RV.cell 0 Try.underlying4 rfl rfl rfl rfl, trivial⟩ (fun w h => (St.pick [1, 0, 2, 3, 4, 5, 6, 7, 8, 9, 10] [_, _, _, _, _, _, _, _, _, _, _] h rfl)) (fun w h => ⟨rfl, (St.pick [] [_, _, _, _, _, _, _, _, _, _] h rfl)⟩)
              · refine C.condF (congrArg (fun b => some (Value.bool b)) (decide_eq_false c450)) ?_
                refine C.skip ?_
                refine N.nx ?_
                refine C.rs ?_
                refine J.r rfl rfl rfl rfl (Y.ldC 4 Try.underlying37 rfl rfl rfl rfl) ?_
                refine J.p rfl rfl rfl rfl (Y.lenS Try.underlying37 rfl) ?_
                refine J.p rfl rfl rfl rfl (Y.asg rfl) ?_
                refine J.nx ?_
                refine C.rs ?_
                refine J.pull 1 rfl rfl ?_
                refine J.stE (L' := [.int .i64 0]) ti3 rfl rfl rfl rfl rfl ?_
                refine J.nx ?_
                refine C.seq ?_
                refine C.rs ?_
                refine J.p rfl rfl rfl rfl (Y.mv rfl) ?_
                refine J.know (own_leL 6 rfl) (fun hc451 => ?_)
                obtain ⟨t452, hC453, H⟩ := bind_some H
                refine J.call (us := []) (cap := []) rfl rfl rfl go25 (fun w hw => by have hcc := All.calls t5.1 A7 c8 (RdG.pre (RdG.own 6 rfl)) (len_pre hc451) t452 hC453 w hw; exact hcc) (fun e w1 h1 => ?_)
                obtain ⟨g454, rfl, hw591⟩ := h1
                refine ⟨_, _, rfl, hw591, ?_⟩
                refine J.nx ?_
                refine C.blk ?_
                refine C.sub (s' := [(0, .slice Aa0 a0.length ca0), (4, .pointer (some ⟨g3, 0, none⟩)), (5, .slice A7 t5.1.length c8), (6, .pointer (some ⟨g15, 0, none⟩)), (9, .pointer (some ⟨g35, 0, none⟩)), (17, .pointer (some ⟨g408, 0, none⟩)), (20, .int .i64 (t10.length : Int)), (157, .func (.func 40) #[] #[.pointer (some ⟨g454, 0, none⟩)])]) (by exact ⟨rfl, rfl, rfl, rfl, rfl, rfl, rfl, rfl, trivial⟩) ?_
                refine C.know (own_leL 7 rfl) (fun hc465 => ?_)
                refine C.know (own_leL 7 rfl) (fun hc473 => ?_)
                refine C.know (own_leM lenT43_ (by decide) 9 rfl) (fun hc476 => ?_)
                have hkey : ∀ Gx, Gx = (cells g454 22 [.slice A7 t5.1.length c8] :: own 5 1 A7 c8 ((t5.1 ++ t5.2).map (Value.int .u8)) :: cells g28 22 [.slice A24 [5, 6].length 2] :: own 43 2 A12 c13 (t10.flatMap encT43_) :: cells g20 22 [.slice A7 t5.1.length c8] :: own 5 1 A24 2 ([5, 6].map (Value.int .u8)) :: G) → RdG B w0 Gx Aa0 (a0.map (Value.int .u8)) ∧ RdG B w0 Gx A7 ((t5.1 ++ t5.2).map (Value.int .u8)) ∧ RdG B w0 Gx (some ⟨g454, 0, none⟩) [.slice A7 t5.1.length c8] ∧ RdG B w0 Gx A12 (t10.flatMap encT43_) ∧ RdG B w0 Gx (some ⟨g20, 0, none⟩) [.slice A7 t5.1.length c8] ∧ True := by rintro _ rfl; exact ⟨(ha0.suf [_, _, _, _, _, _] rfl), (RdG.own 1 rfl), (RdG.cells 0 rfl), (RdG.own 3 rfl), (RdG.cells 4 rfl), trivial⟩
                obtain ⟨hb471, hb472, hb474, hb475, hb477, _⟩ := hkey _ rfl
                obtain ⟨t466, hC467, H⟩ := bind_some H
                refine C.rangeF' (E := Empty) (Gb := cells g454 22 [.slice A7 t5.1.length c8] :: own 5 1 A7 c8 ((t5.1 ++ t5.2).map (Value.int .u8)) :: cells g28 22 [.slice A24 [5, 6].length 2] :: own 43 2 A12 c13 (t10.flatMap encT43_) :: cells g20 22 [.slice A7 t5.1.length c8] :: own 5 1 A24 2 ([5, 6].map (Value.int .u8)) :: G) (caps := [.pointer (some ⟨g454, 0, none⟩)]) encY67 (fun (i462 : Int) (j463 : Unit) => [cells g408 3 [.int .i64 i462], cells g35 3 [.int .i64 i286], cells g3 4 [.bool false], cells g15 37 [.slice A12 t10.length c13], cells g22 40 [.func (.func 40) #[] #[.pointer (some ⟨g20, 0, none⟩)]]]) (fun (i462 : Int) (j463 : Unit) => True) (fun (e : Empty) (k : Unit) => e.elim) (fun (e : Empty) (k : Unit) => e.elim) (fun (e : Empty) => e.elim) (fun (x468 : Int × Int) (z478 : Unit) => []) (fun (x468 : Int × Int) (z478 : Unit) => [(0, .slice Aa0 a0.length ca0), (4, .pointer (some ⟨g3, 0, none⟩)), (5, .slice A7 t5.1.length c8), (6, .pointer (some ⟨g15, 0, none⟩)), (9, .pointer (some ⟨g35, 0, none⟩)), (17, .pointer (some ⟨g408, 0, none⟩)), (20, .int .i64 (t10.length : Int)), (157, .func (.func 40) #[] #[.pointer (some ⟨g454, 0, none⟩)]), (158, .int .i64 x468.1), (159, .int .u64 x468.2)]) _ 0 () t466 rfl go40 (fun _ => rfl) (by rfl) (by decide) (pf_of rfl) trivial (fun w h => (St.pick [2, 1, 3, 4, 5, 6, 0, 7, 8, 9, 10, 11] [_, _, _, _, _, _, _, _, _, _, _, _] h rfl)) (fun Yy yv hy w hw => AllF.calls K _ _ t5.1 Yy yv g454 A7 c8 hy (RdG.pre (RdG.own 1 rfl)) (len_pre hc465) (RdG.cells 0 rfl) _ hC467 w hw) (fun l i462 j463 x468 L469 _ => ?_) (fun l i462 j463 x468 z478 o L469 G hGG H _ hl470 => ?_) (fun ds464 i462 j463 hr _ => ?_) (fun ds464 e k hr hx => ?_)
                · refine C.sub (s' := [(0, .slice Aa0 a0.length ca0), (4, .pointer (some ⟨g3, 0, none⟩)), (5, .slice A7 t5.1.length c8), (6, .pointer (some ⟨g15, 0, none⟩)), (9, .pointer (some ⟨g35, 0, none⟩)), (17, .pointer (some ⟨g408, 0, none⟩)), (20, .int .i64 (t10.length : Int)), (157, .func (.func 40) #[] #[.pointer (some ⟨g454, 0, none⟩)]), (158, .int .i64 x468.1), (159, .int .u64 x468.2)]) (by exact ⟨rfl, rfl, rfl, rfl, rfl, rfl, rfl, rfl, rfl, rfl, trivial⟩) ?_
                  refine C.skip ?_
                  exact N.asg () (by exact ⟨rfl, rfl, rfl, rfl, rfl, rfl, rfl, rfl, rfl, rfl, trivial⟩) (fun w h => h)
                · replace hb471 := RdG.suf hb471 L469 hGG
                  replace hb472 := RdG.suf hb472 L469 hGG
                  replace hb474 := RdG.suf hb474 L469 hGG
                  replace hb475 := RdG.suf hb475 L469 hGG
                  replace hb477 := RdG.suf hb477 L469 hGG
                  refine C.at (s' := [(0, .slice Aa0 a0.length ca0), (4, .pointer (some ⟨g3, 0, none⟩)), (5, .slice A7 t5.1.length c8), (6, .pointer (some ⟨g15, 0, none⟩)), (9, .pointer (some ⟨g35, 0, none⟩)), (17, .pointer (some ⟨g408, 0, none⟩)), (20, .int .i64 (t10.length : Int)), (157, .func (.func 40) #[] #[.pointer (some ⟨g454, 0, none⟩)]), (158, .int .i64 x468.1), (159, .int .u64 x468.2)]) (G' := cells g408 3 [.int .i64 i462] :: cells g35 3 [.int .i64 i286] :: cells g3 4 [.bool false] :: cells g15 37 [.slice A12 t10.length c13] :: cells g22 40 [.func (.func 40) #[] #[.pointer (some ⟨g20, 0, none⟩)]] :: G) rfl rfl ?_
                  refine C.blk ?_
                  refine C.reg ?_
                  refine J.r rfl rfl rfl rfl (Y.ldC 0 Try.underlying3 rfl rfl rfl rfl) ?_
                  refine J.p rfl rfl rfl rfl (Y.bin rfl rfl rfl) ?_
                  refine J.stE (L' := [.int .i64 (IntKind.wrap .i64 (i462 + 1))]) ti3 rfl rfl rfl rfl rfl ?_
                  refine J.nil ?_
                  refine N.ib ?_
                  obtain rfl := Option.some.inj H
                  exact N.round (IntKind.wrap .i64 (i462 + 1)) () rfl trivial (by exact fun w h => h)
                · subst hr
                  replace H := ysel_inl H
                  refine N.at (s' := [(0, .slice Aa0 a0.length ca0), (4, .pointer (some ⟨g3, 0, none⟩)), (5, .slice A7 t5.1.length c8), (6, .pointer (some ⟨g15, 0, none⟩)), (9, .pointer (some ⟨g35, 0, none⟩)), (17, .pointer (some ⟨g408, 0, none⟩)), (20, .int .i64 (t10.length : Int)), (157, .func (.func 40) #[] #[.pointer (some ⟨g454, 0, none⟩)])]) (G' := dblks ds464 :: cells g408 3 [.int .i64 i462] :: cells g35 3 [.int .i64 i286] :: cells g3 4 [.bool false] :: cells g15 37 [.slice A12 t10.length c13] :: cells g22 40 [.func (.func 40) #[] #[.pointer (some ⟨g20, 0, none⟩)]] :: cells g454 22 [.slice A7 t5.1.length c8] :: own 5 1 A7 c8 ((t5.1 ++ t5.2).map (Value.int .u8)) :: cells g28 22 [.slice A24 [5, 6].length 2] :: own 43 2 A12 c13 (t10.flatMap encT43_) :: cells g20 22 [.slice A7 t5.1.length c8] :: own 5 1 A24 2 ([5, 6].map (Value.int .u8)) :: G) rfl rfl ?_
                  refine N.ib ?_
                  refine N.nx ?_
                  refine C.rs ?_
                  refine J.joinBD H (fun (o484 : Bool) (j485 : Unit) => [(4, .pointer (some ⟨g3, 0, none⟩)), (5, .slice A7 t5.1.length c8), (6, .pointer (some ⟨g15, 0, none⟩)), (9, .pointer (some ⟨g35, 0, none⟩)), (17, .pointer (some ⟨g408, 0, none⟩)), (20, .int .i64 (t10.length : Int)), (21, .bool o484)]) (fun (o484 : Bool) (j485 : Unit) => cells g3 4 [.bool false] :: own 5 1 A7 c8 ((t5.1 ++ t5.2).map (Value.int .u8)) :: cells g15 37 [.slice A12 t10.length c13] :: cells g35 3 [.int .i64 i286] :: cells g408 3 [.int .i64 i462] :: own 43 2 A12 c13 (t10.flatMap encT43_) :: G) (fun (o484 : Bool) (j485 : Unit) => True) (fun o487 H HK488 => ?_) (fun ds486 o484 j485 H _ => ?_)
                  · refine J.p rfl rfl rfl rfl (Y.mv rfl) ?_
                    refine J.p rfl rfl rfl rfl (Y.mv rfl) ?_
                    refine J.know (own_leL 7 rfl) (fun hc489 => ?_)
                    obtain ⟨t490, hC491, H⟩ := bind_some H
                    refine J.call (us := []) (cap := []) rfl rfl rfl go17 (fun w hw => by have hcc := kept.calls K t5.1 t5.2 a0 A7 c8 Aa0 ca0 (RdG.own 7 rfl) hc489 (ha0.suf [_, _, _, _, _, _, _, _, _, _, _, _] rfl) ka0 t490 hC491 w hw; exact hcc) (fun e w1 h1 => ?_)
                    obtain ⟨rfl, hw493⟩ := h1
                    refine ⟨_, _, rfl, hw493, ?_⟩
                    refine J.p rfl rfl rfl rfl (Y.mv rfl) ?_
                    refine split2 H (fun c492 H => ?_) (fun c492 H => ?_)
                    · refine J.as (k := 165) rfl (congrArg Value.bool (c492)) ?_
                      refine J.r rfl rfl rfl rfl (Y.ldC 1 Try.underlying3 rfl rfl rfl rfl) ?_
                      refine J.p rfl rfl rfl rfl (Y.mv rfl) ?_
                      refine J.p rfl rfl rfl rfl (Y.bin rfl rfl rfl) ?_
                      refine J.p rfl rfl rfl rfl (Y.pickT rfl rfl) ?_
                      refine J.p rfl rfl rfl rfl (Y.asg rfl) ?_
                      refine J.nil ?_
                      obtain rfl := Option.some.inj H
                      exact N.meetD (decide (i462 = (t10.length : Int)), ()) ⟨HK488, trivial⟩ (by exact ⟨rfl, rfl, rfl, rfl, rfl, rfl, rfl, trivial⟩) (by exact fun w h => (St.pick [0, 3, 7, 4, 2, 1, 9] [_, _, _, _, _, _, _, _, _, _, _, _] h rfl))
                    · refine J.as (k := 165) rfl (congrArg Value.bool (nt c492)) ?_
                      refine J.skip rfl rfl ?_
                      refine J.skip rfl rfl ?_
                      refine J.skip rfl rfl ?_
                      refine J.p rfl rfl rfl rfl (Y.pickF rfl rfl) ?_
                      refine J.p rfl rfl rfl rfl (Y.asg rfl) ?_
                      refine J.nil ?_
                      obtain rfl := Option.some.inj H
                      exact N.meetD (false, ()) ⟨HK488, trivial⟩ (by exact ⟨rfl, rfl, rfl, rfl, rfl, rfl, rfl, trivial⟩) (by exact fun w h => (St.pick [0, 3, 7, 4, 2, 1, 9] [_, _, _, _, _, _, _, _, _, _, _, _] h rfl))
                  · refine C.at (s' := [(4, .pointer (some ⟨g3, 0, none⟩)), (5, .slice A7 t5.1.length c8), (6, .pointer (some ⟨g15, 0, none⟩)), (9, .pointer (some ⟨g35, 0, none⟩)), (17, .pointer (some ⟨g408, 0, none⟩)), (20, .int .i64 (t10.length : Int)), (21, .bool o484)]) (G' := dblks ds486 :: cells g3 4 [.bool false] :: own 5 1 A7 c8 ((t5.1 ++ t5.2).map (Value.int .u8)) :: cells g15 37 [.slice A12 t10.length c13] :: cells g35 3 [.int .i64 i286] :: cells g408 3 [.int .i64 i462] :: own 43 2 A12 c13 (t10.flatMap encT43_) :: G) rfl rfl ?_
                    refine C.rs ?_
                    refine J.p rfl rfl rfl rfl (Y.mv rfl) ?_
                    refine J.pull 2 rfl rfl ?_
                    obtain ⟨t494, hC495, H⟩ := bind_some H
                    refine J.call (us := []) (cap := []) rfl rfl rfl go18 (fun w hw => by have hcc := turned.calls K t5.1 t5.2 A7 c8 t494 hC495 w hw; exact hcc) (fun e w1 h1 => ?_)
                    obtain ⟨rfl, hw590, hl496⟩ := h1
                    refine ⟨_, _, rfl, hw590, ?_⟩
                    refine J.as (k := 5) rfl (slc_len hl496) ?_
                    refine J.nx ?_
                    refine C.rs ?_
                    refine J.p rfl rfl rfl rfl (Y.mv rfl) ?_
                    refine J.know (own_leL 0 rfl) (fun hc497 => ?_)
                    obtain ⟨t498, hC499, H⟩ := bind_some H
                    refine J.call (us := []) (cap := []) rfl rfl rfl go24 (fun w hw => by have hcc := refAll.calls K t494 A7 c8 (RdG.pre (RdG.own 0 rfl)) (len_pre hc497) t498 hC499 w hw; exact hcc) (fun e w1 h1 => ?_)
                    obtain ⟨A500, c501, rfl, hw589⟩ := h1
                    refine ⟨_, _, rfl, hw589, ?_⟩
                    refine J.pull 4 rfl rfl ?_
                    refine J.stE (L' := [.slice A500 t498.length c501]) ti37 rfl rfl rfl rfl rfl ?_
                    refine J.nx ?_
                    refine C.rs ?_
                    refine J.pull 6 rfl rfl ?_
                    refine J.stE (L' := [.int .i64 0]) ti3 rfl rfl rfl rfl rfl ?_
                    refine J.nx ?_
                    refine C.seq ?_
                    refine C.rs ?_
                    refine J.p rfl rfl rfl rfl (Y.mv rfl) ?_
                    refine J.know (own_leL 3 rfl) (fun hc503 => ?_)
                    obtain ⟨t504, hC505, H⟩ := bind_some H
                    refine J.call (us := []) (cap := []) rfl rfl rfl go25 (fun w hw => by have hcc := All.calls t494 A7 c8 (RdG.pre (RdG.own 3 rfl)) (len_pre hc503) t504 hC505 w hw; exact hcc) (fun e w1 h1 => ?_)
                    obtain ⟨g506, rfl, hw588⟩ := h1
                    refine ⟨_, _, rfl, hw588, ?_⟩
                    refine J.nx ?_
                    refine C.blk ?_
                    refine C.sub (s' := [(4, .pointer (some ⟨g3, 0, none⟩)), (6, .pointer (some ⟨g15, 0, none⟩)), (9, .pointer (some ⟨g35, 0, none⟩)), (17, .pointer (some ⟨g408, 0, none⟩)), (20, .int .i64 (t10.length : Int)), (21, .bool o484), (175, .func (.func 40) #[] #[.pointer (some ⟨g506, 0, none⟩)])]) (by exact ⟨rfl, rfl, rfl, rfl, rfl, rfl, rfl, trivial⟩) ?_
                    refine C.know (own_leL 4 rfl) (fun hc545 => ?_)
                    refine C.know (own_leL 4 rfl) (fun hc553 => ?_)
                    refine C.know (own_leM lenT43_ (by decide) 3 rfl) (fun hc555 => ?_)
                    have hkey : ∀ Gx, Gx = (cells g506 22 [.slice A7 t494.length c8] :: own 43 2 A500 c501 (t498.flatMap encT43_) :: own 5 1 A7 c8 ((t494 ++ t5.2).map (Value.int .u8)) :: own 43 2 A12 c13 (t10.flatMap encT43_) :: G) → RdG B w0 Gx (some ⟨g506, 0, none⟩) [.slice A7 t494.length c8] ∧ RdG B w0 Gx A7 ((t494 ++ t5.2).map (Value.int .u8)) ∧ RdG B w0 Gx A500 (t498.flatMap encT43_) ∧ True := by rintro _ rfl; exact ⟨(RdG.cells 0 rfl), (RdG.own 2 rfl), (RdG.own 1 rfl), trivial⟩
                    obtain ⟨hb551, hb552, hb554, _⟩ := hkey _ rfl
                    obtain ⟨t546, hC547, H⟩ := bind_some H
                    refine C.rangeF' (E := Int) (Gb := cells g506 22 [.slice A7 t494.length c8] :: own 43 2 A500 c501 (t498.flatMap encT43_) :: own 5 1 A7 c8 ((t494 ++ t5.2).map (Value.int .u8)) :: own 43 2 A12 c13 (t10.flatMap encT43_) :: G) (caps := [.pointer (some ⟨g506, 0, none⟩)]) encY67 (fun (i540 : Int) (j541 : Unit) => [cells g408 3 [.int .i64 i540], cells g15 37 [.slice A500 t498.length c501], cells g3 4 [.bool false], cells g35 3 [.int .i64 i286]]) (fun (i540 : Int) (j541 : Unit) => True) (fun (e543 : Int) (k544 : Unit) => [cells g3 4 [.bool false], cells g15 37 [.slice A500 t498.length c501], cells g35 3 [.int .i64 i286], cells g408 3 [.int .i64 e543]]) (fun (e543 : Int) (k544 : Unit) => True) (fun (_ : Int) => .ret) (fun (x548 : Int × Int) (z581 : Unit) => []) (fun (x548 : Int × Int) (z581 : Unit) => [(4, .pointer (some ⟨g3, 0, none⟩)), (6, .pointer (some ⟨g15, 0, none⟩)), (9, .pointer (some ⟨g35, 0, none⟩)), (17, .pointer (some ⟨g408, 0, none⟩)), (20, .int .i64 (t10.length : Int)), (21, .bool o484), (22, .int .i64 x548.1), (23, .int .u64 x548.2), (175, .func (.func 40) #[] #[.pointer (some ⟨g506, 0, none⟩)]), (176, .int .i64 x548.1), (177, .int .u64 x548.2)]) _ 0 () t546 rfl go40 (fun _ => rfl) (by rfl) (by decide) (pf_of rfl) trivial (fun w h => (St.pick [5, 1, 2, 6, 7, 0, 3, 4, 8] [_, _, _, _, _, _, _, _, _] h rfl)) (fun Yy yv hy w hw => AllF.calls K _ _ t494 Yy yv g506 A7 c8 hy (RdG.pre (RdG.own 2 rfl)) (len_pre hc545) (RdG.cells 0 rfl) _ hC547 w hw) (fun l i540 j541 x548 L549 _ => ?_) (fun l i540 j541 x548 z581 o L549 G hGG H _ hl550 => ?_) (fun ds542 i540 j541 hr _ => ?_) (fun ds542 e543 k544 hr hx => ?_)
                    · refine C.sub (s' := [(4, .pointer (some ⟨g3, 0, none⟩)), (6, .pointer (some ⟨g15, 0, none⟩)), (9, .pointer (some ⟨g35, 0, none⟩)), (17, .pointer (some ⟨g408, 0, none⟩)), (20, .int .i64 (t10.length : Int)), (21, .bool o484), (175, .func (.func 40) #[] #[.pointer (some ⟨g506, 0, none⟩)]), (176, .int .i64 x548.1), (177, .int .u64 x548.2)]) (by exact ⟨rfl, rfl, rfl, rfl, rfl, rfl, rfl, rfl, rfl, trivial⟩) ?_
                      refine C.rs ?_
                      refine J.p rfl rfl rfl rfl (Y.asg rfl) ?_
                      refine J.nx ?_
                      refine C.reg ?_
                      refine J.p rfl rfl rfl rfl (Y.asg rfl) ?_
                      refine J.nil ?_
                      exact N.asg () (by exact ⟨rfl, rfl, rfl, rfl, rfl, rfl, rfl, rfl, rfl, rfl, rfl, trivial⟩) (fun w h => h)
                    · replace hb551 := RdG.suf hb551 L549 hGG
                      replace hb552 := RdG.suf hb552 L549 hGG
                      replace hb554 := RdG.suf hb554 L549 hGG
                      refine C.at (s' := [(4, .pointer (some ⟨g3, 0, none⟩)), (6, .pointer (some ⟨g15, 0, none⟩)), (9, .pointer (some ⟨g35, 0, none⟩)), (17, .pointer (some ⟨g408, 0, none⟩)), (20, .int .i64 (t10.length : Int)), (21, .bool o484), (22, .int .i64 x548.1), (23, .int .u64 x548.2), (175, .func (.func 40) #[] #[.pointer (some ⟨g506, 0, none⟩)]), (176, .int .i64 x548.1), (177, .int .u64 x548.2)]) (G' := cells g408 3 [.int .i64 i540] :: cells g15 37 [.slice A500 t498.length c501] :: cells g3 4 [.bool false] :: cells g35 3 [.int .i64 i286] :: G) rfl rfl ?_
                      refine C.blk ?_
                      refine C.seq ?_
                      refine C.rs ?_
                      refine J.joinB H (fun (o566 : Bool) (j567 : Unit) => [(4, .pointer (some ⟨g3, 0, none⟩)), (6, .pointer (some ⟨g15, 0, none⟩)), (9, .pointer (some ⟨g35, 0, none⟩)), (17, .pointer (some ⟨g408, 0, none⟩)), (20, .int .i64 (t10.length : Int)), (21, .bool o484), (175, .func (.func 40) #[] #[.pointer (some ⟨g506, 0, none⟩)]), (199, .bool o566)]) (fun (o566 : Bool) (j567 : Unit) => cells g3 4 [.bool false] :: cells g15 37 [.slice A500 t498.length c501] :: cells g35 3 [.int .i64 i286] :: cells g408 3 [.int .i64 i540] :: G) (fun (o566 : Bool) (j567 : Unit) => True) (fun o568 H HK569 => ?_) (fun o566 j567 H _ => ?_)
                      · refine J.r rfl rfl rfl rfl (Y.ldC 0 Try.underlying3 rfl rfl rfl rfl) ?_
                        refine J.r rfl rfl rfl rfl (Y.ldC 1 Try.underlying37 rfl rfl rfl rfl) ?_
                        refine J.p rfl rfl rfl rfl (Y.lenS Try.underlying37 rfl) ?_
                        refine J.p rfl rfl rfl rfl (Y.bin rfl rfl rfl) ?_
                        refine J.p rfl rfl rfl rfl (Y.mv rfl) ?_
                        refine split2 H (fun c570 H => ?_) (fun c570 H => ?_)
                        · refine J.as (k := 182) rfl (congrArg Value.bool (decide_eq_true c570)) ?_
                          refine J.skip rfl rfl ?_
                          refine J.skip rfl rfl ?_
                          refine J.skip rfl rfl ?_
                          refine J.skip rfl rfl ?_
                          refine J.skip rfl rfl ?_
                          refine J.skip rfl rfl ?_
                          refine J.skip rfl rfl ?_
                          refine J.p rfl rfl rfl rfl (Y.pickT rfl rfl) ?_
                          refine J.p rfl rfl rfl rfl (Y.mv rfl) ?_
                          refine J.skip rfl rfl ?_
                          refine J.skip rfl rfl ?_
                          refine J.skip rfl rfl ?_
                          refine J.skip rfl rfl ?_
                          refine J.skip rfl rfl ?_
                          refine J.skip rfl rfl ?_
                          refine J.skip rfl rfl ?_
                          refine J.p rfl rfl rfl rfl (Y.pickT rfl rfl) ?_
                          refine J.nil ?_
                          obtain rfl := Option.some.inj H
                          exact N.meet (true, ()) ⟨HK569, trivial⟩ (by exact ⟨rfl, rfl, rfl, rfl, rfl, rfl, rfl, rfl, trivial⟩) (by exact fun w h => (St.pick [2, 1, 3, 0] [_, _, _, _] h rfl))
                        · refine J.as (k := 182) rfl (congrArg Value.bool (decide_eq_false c570)) ?_
                          refine J.p rfl rfl rfl rfl (Y.mv rfl) ?_
                          refine J.r rfl rfl rfl rfl (Y.ldC 1 Try.underlying37 rfl rfl rfl rfl) ?_
                          refine J.r rfl rfl rfl rfl (Y.ldC 0 Try.underlying3 rfl rfl rfl rfl) ?_
                          obtain ⟨p573, H⟩ := gd_some H
                          refine J.know (RdG.someM lenT43_ (by decide) (hb554.suf [_, _, _, _] rfl) p573) (fun hh => ?_)
                          obtain ⟨a571, ha572⟩ := hh
                          refine J.p rfl rfl rfl rfl (Y.ixa Try.underlying37 ti43 rfl rfl p573 ha572) ?_
                          refine J.p rfl rfl rfl rfl (Y.faA fa43_0 rfl) ?_
                          obtain ⟨p574, H⟩ := gd_some H
                          refine J.r rfl rfl rfl rfl (Y.ldF lenT43_ Try.underlying3 rfl rfl ha572 p574 (by decide) (hb554.suf [_, _, _, _] rfl) rfl) ?_
                          refine J.p rfl rfl rfl rfl (Y.bin rfl rfl rfl) ?_
                          refine J.p rfl rfl rfl rfl (Y.pickF rfl rfl) ?_
                          refine J.p rfl rfl rfl rfl (Y.mv rfl) ?_
                          refine split2 H (fun c575 H => ?_) (fun c575 H => ?_)
                          · refine J.as (k := 191) rfl (congrArg Value.bool (decide_eq_true c575)) ?_
                            refine J.skip rfl rfl ?_
                            refine J.skip rfl rfl ?_
                            refine J.skip rfl rfl ?_
                            refine J.skip rfl rfl ?_
                            refine J.skip rfl rfl ?_
                            refine J.skip rfl rfl ?_
                            refine J.skip rfl rfl ?_
                            refine J.p rfl rfl rfl rfl (Y.pickT rfl rfl) ?_
                            refine J.nil ?_
                            obtain rfl := Option.some.inj H
                            exact N.meet (true, ()) ⟨HK569, trivial⟩ (by exact ⟨rfl, rfl, rfl, rfl, rfl, rfl, rfl, rfl, trivial⟩) (by exact fun w h => (St.pick [2, 1, 3, 0] [_, _, _, _] h rfl))
                          · refine J.as (k := 191) rfl (congrArg Value.bool (decide_eq_false c575)) ?_
                            refine J.p rfl rfl rfl rfl (Y.mv rfl) ?_
                            refine J.r rfl rfl rfl rfl (Y.ldC 1 Try.underlying37 rfl rfl rfl rfl) ?_
                            refine J.r rfl rfl rfl rfl (Y.ldC 0 Try.underlying3 rfl rfl rfl rfl) ?_
                            obtain ⟨p578, H⟩ := gd_some H
                            refine J.know (RdG.someM lenT43_ (by decide) (hb554.suf [_, _, _, _] rfl) p578) (fun hh => ?_)
                            obtain ⟨a576, ha577⟩ := hh
                            refine J.p rfl rfl rfl rfl (Y.ixa Try.underlying37 ti43 rfl rfl p578 ha577) ?_
                            refine J.p rfl rfl rfl rfl (Y.faA fa43_1 rfl) ?_
                            obtain ⟨p579, H⟩ := gd_some H
                            refine J.r rfl rfl rfl rfl (Y.ldF lenT43_ Try.underlying24 rfl rfl ha577 p579 (by decide) (hb554.suf [_, _, _, _] rfl) rfl) ?_
                            refine J.p rfl rfl rfl rfl (Y.bin rfl rfl rfl) ?_
                            refine J.p rfl rfl rfl rfl (Y.pickF rfl rfl) ?_
                            refine J.nil ?_
                            obtain rfl := Option.some.inj H
                            exact N.meet (decide (x548.2 ≠ ((rd t498 i540).2)), ()) ⟨HK569, trivial⟩ (by exact ⟨rfl, rfl, rfl, rfl, rfl, rfl, rfl, rfl, trivial⟩) (by exact fun w h => (St.pick [2, 1, 3, 0] [_, _, _, _] h rfl))
                      · refine C.at (s' := [(4, .pointer (some ⟨g3, 0, none⟩)), (6, .pointer (some ⟨g15, 0, none⟩)), (9, .pointer (some ⟨g35, 0, none⟩)), (17, .pointer (some ⟨g408, 0, none⟩)), (20, .int .i64 (t10.length : Int)), (21, .bool o484), (175, .func (.func 40) #[] #[.pointer (some ⟨g506, 0, none⟩)]), (199, .bool o566)]) (G' := cells g3 4 [.bool false] :: cells g15 37 [.slice A500 t498.length c501] :: cells g35 3 [.int .i64 i286] :: cells g408 3 [.int .i64 i540] :: G) rfl rfl ?_
                        refine split2 H (fun c580 H => ?_) (fun c580 H => ?_)
                        · refine C.condT (congrArg (fun b => some (Value.bool b)) (c580)) ?_
                          refine C.rs ?_
                          refine J.stE (L' := [.bool false]) ti4 rfl rfl rfl rfl rfl ?_
                          refine J.nx ?_
                          refine C.ret ?_
                          obtain rfl := Option.some.inj H
                          refine T.th ?_
                          refine T.ib ?_
                          exact T.round i540 () rfl rfl trivial (by exact fun w h => h)
                        · refine C.condF (congrArg (fun b => some (Value.bool b)) (nt c580)) ?_
                          refine C.skip ?_
                          refine N.nx ?_
                          refine C.reg ?_
                          refine J.r rfl rfl rfl rfl (Y.ldC 3 Try.underlying3 rfl rfl rfl rfl) ?_
                          refine J.p rfl rfl rfl rfl (Y.bin rfl rfl rfl) ?_
                          refine J.pull 3 rfl rfl ?_
                          refine J.stE (L' := [.int .i64 (IntKind.wrap .i64 (i540 + 1))]) ti3 rfl rfl rfl rfl rfl ?_
                          refine J.nil ?_
                          refine N.ib ?_
                          obtain rfl := Option.some.inj H
                          exact N.round (IntKind.wrap .i64 (i540 + 1)) () rfl trivial (by exact fun w h => (St.pick [0, 2, 1, 3] [_, _, _, _] h rfl))
                    · subst hr
                      replace H := ysel_inl H
                      refine N.at (s' := [(4, .pointer (some ⟨g3, 0, none⟩)), (6, .pointer (some ⟨g15, 0, none⟩)), (9, .pointer (some ⟨g35, 0, none⟩)), (17, .pointer (some ⟨g408, 0, none⟩)), (20, .int .i64 (t10.length : Int)), (21, .bool o484), (175, .func (.func 40) #[] #[.pointer (some ⟨g506, 0, none⟩)])]) (G' := dblks ds542 :: cells g408 3 [.int .i64 i540] :: cells g15 37 [.slice A500 t498.length c501] :: cells g3 4 [.bool false] :: cells g35 3 [.int .i64 i286] :: cells g506 22 [.slice A7 t494.length c8] :: own 43 2 A500 c501 (t498.flatMap encT43_) :: own 5 1 A7 c8 ((t494 ++ t5.2).map (Value.int .u8)) :: own 43 2 A12 c13 (t10.flatMap encT43_) :: G) rfl rfl ?_
                      refine N.ib ?_
                      refine N.nx ?_
                      refine C.rs ?_
                      refine J.r rfl rfl rfl rfl (Y.ldC 4 Try.underlying3 rfl rfl rfl rfl) ?_
                      refine J.p rfl rfl rfl rfl (Y.mv rfl) ?_
                      refine J.p rfl rfl rfl rfl (Y.bin rfl rfl rfl) ?_
                      refine J.p rfl rfl rfl rfl (Y.mv rfl) ?_
                      refine split2 H (fun c582 H => ?_) (fun c582 H => ?_)
                      · refine J.as (k := 205) rfl (congrArg Value.bool (decide_eq_true c582)) ?_
                        refine J.p rfl rfl rfl rfl (Y.mv rfl) ?_
                        refine J.p rfl rfl rfl rfl (Y.pickT rfl rfl) ?_
                        refine J.p rfl rfl rfl rfl (Y.mv rfl) ?_
                        refine split2 H (fun c583 H => ?_) (fun c583 H => ?_)
                        · refine J.as (k := 208) rfl (congrArg Value.bool (c583)) ?_
                          refine J.r rfl rfl rfl rfl (Y.ldC 1 Try.underlying3 rfl rfl rfl rfl) ?_
                          refine J.r rfl rfl rfl rfl (Y.ldC 2 Try.underlying37 rfl rfl rfl rfl) ?_
                          refine J.p rfl rfl rfl rfl (Y.lenS Try.underlying37 rfl) ?_
                          refine J.p rfl rfl rfl rfl (Y.bin rfl rfl rfl) ?_
                          refine J.p rfl rfl rfl rfl (Y.pickT rfl rfl) ?_
                          refine J.p rfl rfl rfl rfl (Y.mv rfl) ?_
                          refine split2 H (fun c584 H => ?_) (fun c584 H => ?_)
                          · refine J.as (k := 214) rfl (congrArg Value.bool (decide_eq_true c584)) ?_
                            refine J.want rfl ?_
                            obtain ⟨t585, hC586, H⟩ := bind_some H
                            refine J.call (us := []) (cap := []) rfl rfl rfl go19 (fun w hw => by have hcc := works.calls K t585 hC586 w hw; exact hcc) (fun e w1 h1 => ?_)
                            obtain ⟨rfl, hw587⟩ := h1
                            refine ⟨_, _, rfl, hw587, ?_⟩
                            refine J.p rfl rfl rfl rfl (Y.pickT rfl rfl) ?_
                            refine J.pull 3 rfl rfl ?_
                            refine J.stE (L' := [.bool t585]) ti4 rfl rfl rfl rfl rfl ?_
                            refine J.nx ?_
                            refine C.ret ?_
                            obtain rfl := Option.some.inj H
                            exact ret_okM (cells g3 4 [.bool t585] :: cells g408 3 [.int .i64 i540] :: cells g15 37 [.slice A500 t498.length c501] :: cells g35 3 [.int .i64 i286] :: cells g506 22 [.slice A7 t494.length c8] :: own 43 2 A500 c501 (t498.flatMap encT43_) :: own 5 1 A7 c8 ((t494 ++ t5.2).map (Value.int .u8)) :: own 43 2 A12 c13 (t10.flatMap encT43_) :: G) (rvs := [.cell 4 4]) (vs := [.bool t585]) rfl ⟨RV.cell 0 Try.underlying4 rfl rfl rfl rfl, trivial⟩ (fun w h => (St.pick [1, 0, 2, 3, 4, 5, 6, 7, 8] [_, _, _, _, _, _, _, _, _] h rfl)) (fun w h => ⟨rfl, (St.pick [] [_, _, _, _, _, _, _, _] h rfl)⟩)
                          · refine J.as (k := 214) rfl (congrArg Value.bool (decide_eq_false c584)) ?_
                            refine J.skip rfl rfl ?_
                            refine J.p rfl rfl rfl rfl (Y.pickF rfl rfl) ?_
                            refine J.pull 3 rfl rfl ?_
                            refine J.stE (L' := [.bool false]) ti4 rfl rfl rfl rfl rfl ?_
                            refine J.nx ?_
                            refine C.ret ?_
                            obtain rfl := Option.some.inj H
                            exact ret_okM (cells g3 4 [.bool false] :: cells g408 3 [.int .i64 i540] :: cells g15 37 [.slice A500 t498.length c501] :: cells g35 3 [.int .i64 i286] :: cells g506 22 [.slice A7 t494.length c8] :: own 43 2 A500 c501 (t498.flatMap encT43_) :: own 5 1 A7 c8 ((t494 ++ t5.2).map (Value.int .u8)) :: own 43 2 A12 c13 (t10.flatMap encT43_) :: G) (rvs := [.cell 4 4]) (vs := [.bool false]) rfl ⟨RV.cell 0 Try.underlying4 rfl rfl rfl rfl, trivial⟩ (fun w h => (St.pick [1, 0, 2, 3, 4, 5, 6, 7, 8] [_, _, _, _, _, _, _, _, _] h rfl)) (fun w h => ⟨rfl, (St.pick [] [_, _, _, _, _, _, _, _] h rfl)⟩)
                        · refine J.as (k := 208) rfl (congrArg Value.bool (nt c583)) ?_
                          refine J.skip rfl rfl ?_
                          refine J.skip rfl rfl ?_
                          refine J.skip rfl rfl ?_
                          refine J.skip rfl rfl ?_
                          refine J.p rfl rfl rfl rfl (Y.pickF rfl rfl) ?_
                          refine J.p rfl rfl rfl rfl (Y.mv rfl) ?_
                          refine J.skip rfl rfl ?_
                          refine J.p rfl rfl rfl rfl (Y.pickF rfl rfl) ?_
                          refine J.pull 3 rfl rfl ?_
                          refine J.stE (L' := [.bool false]) ti4 rfl rfl rfl rfl rfl ?_
                          refine J.nx ?_
                          refine C.ret ?_
                          obtain rfl := Option.some.inj H
                          exact ret_okM (cells g3 4 [.bool false] :: cells g408 3 [.int .i64 i540] :: cells g15 37 [.slice A500 t498.length c501] :: cells g35 3 [.int .i64 i286] :: cells g506 22 [.slice A7 t494.length c8] :: own 43 2 A500 c501 (t498.flatMap encT43_) :: own 5 1 A7 c8 ((t494 ++ t5.2).map (Value.int .u8)) :: own 43 2 A12 c13 (t10.flatMap encT43_) :: G) (rvs := [.cell 4 4]) (vs := [.bool false]) rfl ⟨RV.cell 0 Try.underlying4 rfl rfl rfl rfl, trivial⟩ (fun w h => (St.pick [1, 0, 2, 3, 4, 5, 6, 7, 8] [_, _, _, _, _, _, _, _, _] h rfl)) (fun w h => ⟨rfl, (St.pick [] [_, _, _, _, _, _, _, _] h rfl)⟩)
                      · refine J.as (k := 205) rfl (congrArg Value.bool (decide_eq_false c582)) ?_
                        refine J.skip rfl rfl ?_
                        refine J.p rfl rfl rfl rfl (Y.pickF rfl rfl) ?_
                        refine J.p rfl rfl rfl rfl (Y.mv rfl) ?_
                        refine J.skip rfl rfl ?_
                        refine J.skip rfl rfl ?_
                        refine J.skip rfl rfl ?_
                        refine J.skip rfl rfl ?_
                        refine J.p rfl rfl rfl rfl (Y.pickF rfl rfl) ?_
                        refine J.p rfl rfl rfl rfl (Y.mv rfl) ?_
                        refine J.skip rfl rfl ?_
                        refine J.p rfl rfl rfl rfl (Y.pickF rfl rfl) ?_
                        refine J.pull 3 rfl rfl ?_
                        refine J.stE (L' := [.bool false]) ti4 rfl rfl rfl rfl rfl ?_
                        refine J.nx ?_
                        refine C.ret ?_
                        obtain rfl := Option.some.inj H
                        exact ret_okM (cells g3 4 [.bool false] :: cells g408 3 [.int .i64 i540] :: cells g15 37 [.slice A500 t498.length c501] :: cells g35 3 [.int .i64 i286] :: cells g506 22 [.slice A7 t494.length c8] :: own 43 2 A500 c501 (t498.flatMap encT43_) :: own 5 1 A7 c8 ((t494 ++ t5.2).map (Value.int .u8)) :: own 43 2 A12 c13 (t10.flatMap encT43_) :: G) (rvs := [.cell 4 4]) (vs := [.bool false]) rfl ⟨RV.cell 0 Try.underlying4 rfl rfl rfl rfl, trivial⟩ (fun w h => (St.pick [1, 0, 2, 3, 4, 5, 6, 7, 8] [_, _, _, _, _, _, _, _, _] h rfl)) (fun w h => ⟨rfl, (St.pick [] [_, _, _, _, _, _, _, _] h rfl)⟩)
                    · subst hr
                      replace H := ysel_inr H
                      refine C.at (s' := [(4, .pointer (some ⟨g3, 0, none⟩)), (6, .pointer (some ⟨g15, 0, none⟩)), (9, .pointer (some ⟨g35, 0, none⟩)), (17, .pointer (some ⟨g408, 0, none⟩)), (20, .int .i64 (t10.length : Int)), (21, .bool o484), (175, .func (.func 40) #[] #[.pointer (some ⟨g506, 0, none⟩)])]) (G' := dblks ds542 :: cells g3 4 [.bool false] :: cells g15 37 [.slice A500 t498.length c501] :: cells g35 3 [.int .i64 i286] :: cells g408 3 [.int .i64 e543] :: cells g506 22 [.slice A7 t494.length c8] :: own 43 2 A500 c501 (t498.flatMap encT43_) :: own 5 1 A7 c8 ((t494 ++ t5.2).map (Value.int .u8)) :: own 43 2 A12 c13 (t10.flatMap encT43_) :: G) rfl rfl ?_
                      refine C.ret ?_
                      obtain rfl := Option.some.inj H
                      refine T.ib ?_
                      refine T.th ?_
                      exact ret_okM (cells g3 4 [.bool false] :: cells g15 37 [.slice A500 t498.length c501] :: cells g35 3 [.int .i64 i286] :: cells g408 3 [.int .i64 e543] :: cells g506 22 [.slice A7 t494.length c8] :: own 43 2 A500 c501 (t498.flatMap encT43_) :: own 5 1 A7 c8 ((t494 ++ t5.2).map (Value.int .u8)) :: own 43 2 A12 c13 (t10.flatMap encT43_) :: G) (rvs := [.cell 4 4]) (vs := [.bool false]) rfl ⟨RV.cell 0 Try.underlying4 rfl rfl rfl rfl, trivial⟩ (fun w h => h) (fun w h => ⟨rfl, (St.pick [] [_, _, _, _, _, _, _, _] h rfl)⟩)
                · exact e.elim
            · subst hr
              replace H := ysel_inr H
              refine C.at (s' := [(0, .slice Aa0 a0.length ca0), (4, .pointer (some ⟨g3, 0, none⟩)), (5, .slice A7 t5.1.length c8), (6, .pointer (some ⟨g15, 0, none⟩)), (9, .pointer (some ⟨g35, 0, none⟩)), (17, .pointer (some ⟨g408, 0, none⟩)), (137, .func (.func 40) #[] #[.pointer (some ⟨g28, 0, none⟩)])]) (G' := dblks ds426 :: cells g3 4 [.bool false] :: cells g15 37 [.slice A12 t10.length c13] :: cells g35 3 [.int .i64 i286] :: cells g408 3 [.int .i64 e427] :: cells g22 40 [.func (.func 40) #[] #[.pointer (some ⟨g20, 0, none⟩)]] :: own 5 1 A7 c8 ((t5.1 ++ t5.2).map (Value.int .u8)) :: cells g28 22 [.slice A24 [5, 6].length 2] :: own 43 2 A12 c13 (t10.flatMap encT43_) :: cells g20 22 [.slice A7 t5.1.length c8] :: own 5 1 A24 2 ([5, 6].map (Value.int .u8)) :: G) rfl rfl ?_
              refine C.ret ?_
              obtain rfl := Option.some.inj H
              refine T.ib ?_
              refine T.th ?_
              exact ret_okM (cells g3 4 [.bool false] :: cells g15 37 [.slice A12 t10.length c13] :: cells g35 3 [.int .i64 i286] :: cells g408 3 [.int .i64 e427] :: cells g22 40 [.func (.func 40) #[] #[.pointer (some ⟨g20, 0, none⟩)]] :: own 5 1 A7 c8 ((t5.1 ++ t5.2).map (Value.int .u8)) :: cells g28 22 [.slice A24 [5, 6].length 2] :: own 43 2 A12 c13 (t10.flatMap encT43_) :: cells g20 22 [.slice A7 t5.1.length c8] :: own 5 1 A24 2 ([5, 6].map (Value.int .u8)) :: G) (rvs := [.cell 4 4]) (vs := [.bool false]) rfl ⟨RV.cell 0 Try.underlying4 rfl rfl rfl rfl, trivial⟩ (fun w h => h) (fun w h => ⟨rfl, (St.pick [] [_, _, _, _, _, _, _, _, _, _] h rfl)⟩)
          · subst hr
            replace H := ysel_inr H
            refine C.at (s' := [(0, .slice Aa0 a0.length ca0), (4, .pointer (some ⟨g3, 0, none⟩)), (5, .slice A7 t5.1.length c8), (6, .pointer (some ⟨g15, 0, none⟩)), (7, .pointer (some ⟨g22, 0, none⟩)), (8, .func (.func 40) #[] #[.pointer (some ⟨g28, 0, none⟩)]), (9, .pointer (some ⟨g35, 0, none⟩)), (77, .func (.func 40) #[] #[.pointer (some ⟨g20, 0, none⟩)])]) (G' := dblks ds288 :: cells g3 4 [.bool false] :: cells g15 37 [.slice A12 t10.length c13] :: cells g22 40 [.func (.func 40) #[] #[.pointer (some ⟨g20, 0, none⟩)]] :: cells g35 3 [.int .i64 e289] :: own 5 1 A7 c8 ((t5.1 ++ t5.2).map (Value.int .u8)) :: cells g28 22 [.slice A24 [5, 6].length 2] :: own 43 2 A12 c13 (t10.flatMap encT43_) :: cells g20 22 [.slice A7 t5.1.length c8] :: own 5 1 A24 2 ([5, 6].map (Value.int .u8)) :: G) rfl rfl ?_
            refine C.ret ?_
            obtain rfl := Option.some.inj H
            refine T.ib ?_
            refine T.th ?_
            exact ret_okM (cells g3 4 [.bool false] :: cells g15 37 [.slice A12 t10.length c13] :: cells g22 40 [.func (.func 40) #[] #[.pointer (some ⟨g20, 0, none⟩)]] :: cells g35 3 [.int .i64 e289] :: own 5 1 A7 c8 ((t5.1 ++ t5.2).map (Value.int .u8)) :: cells g28 22 [.slice A24 [5, 6].length 2] :: own 43 2 A12 c13 (t10.flatMap encT43_) :: cells g20 22 [.slice A7 t5.1.length c8] :: own 5 1 A24 2 ([5, 6].map (Value.int .u8)) :: G) (rvs := [.cell 4 4]) (vs := [.bool false]) rfl ⟨RV.cell 0 Try.underlying4 rfl rfl rfl rfl, trivial⟩ (fun w h => h) (fun w h => ⟨rfl, (St.pick [] [_, _, _, _, _, _, _, _, _] h rfl)⟩)
end Go.Proofs.Ytocfkhpfpepcmaa
