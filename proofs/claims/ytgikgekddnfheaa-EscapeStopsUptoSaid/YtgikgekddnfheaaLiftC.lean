/- Own text, printed by the lifting program: each Go function beside a plain function, and the proof that a call of the one comes to the other. Conditions: what came in can be read. -/
import Derived.Test.YtgikgekddnfheaaLiftB
set_option linter.unusedVariables false
set_option linter.unusedSimpArgs false
set_option maxRecDepth 10000
set_option maxHeartbeats 4000000
namespace Go.Proofs.Ytgikgekddnfheaa
open Go Go.Sx
theorem ti39 : TI Try.prog 39 1 8 (.nilFunc) := TI.of (by kernel_rfl)
theorem go27 : GoF Try.prog 27 := GoF.of Try.func27 (by kernel_rfl) (by kernel_rfl)
/-! ### salvor/salvorlaw3.EscapeStops: function 8 -/
def EscapeStops.f (K : Nat) (a0 : List Int) (a1 : Int) : Option (Bool) := (awake.f K).bind fun t5 => (Wrap.f K a0).bind fun t7 => (Each.f t7).bind fun t13 => (pick.f a1 (IntKind.wrap .i64 ((a0.length : Int) + 1))).bind fun t19 => ((EachF.f K (fun (i82 : (List Int)) (x93 : Int × Int) => gd ((i82.length + [x93.2].length) * 1 ≤ 140737488355328) (if ((i82 ++ [x93.2]).length : Int) = (IntKind.wrap .i64 (1 + t19)) then (some (.inr (i82 ++ [x93.2]))) else (some (.inl (i82 ++ [x93.2]))))) ([] : List Int) t7).bind fun t91 => ysel t91 (fun i82 => some i82) (fun e86 => some e86)).bind fun o56 => (EachF.f K (fun (i140 : Bool × Int × (List Int)) (x151 : Int × Int) => (if i140.1 = true then (some (decide (i140.2.1 < x151.1))) else (some false)).bind fun o161 => gd ((i140.2.2.length + [x151.2].length) * 1 ≤ 140737488355328) (if (a0.length : Int) < ((i140.2.2 ++ [x151.2]).length : Int) then (some (.inr ((i140.2.2 ++ [x151.2]), x151.1, o161))) else (some (.inl (o161, x151.1, (i140.2.2 ++ [x151.2])))))) (true, -1, ([] : List Int)) t7).bind fun t149 => ysel t149 (fun i140 => (if (a0.length : Int) < (IntKind.wrap .i64 (1 + t19)) then (some (a0.length : Int)) else (some (IntKind.wrap .i64 (1 + t19)))).bind fun o176 => (same.f i140.2.2 a0).bind fun t181 => gd ((0 : Int) ≤ o176 ∧ (0 ≤ (Int.toNat o176) ∧ (Int.toNat o176) ≤ a0.length)) ((same.f o56 ((a0.take (Int.toNat o176)).drop 0)).bind fun t185 => (EachF.f K (fun (i271 : Int) (x279 : Int × Int) => (if (a0.length : Int) ≤ i271 then (some true) else (gd ((0 : Int) ≤ i271 ∧ i271 < (a0.length : Int)) (gd ((0 : Int) ≤ i271 ∧ i271 < (a0.length : Int)) (some (decide (x279.2 ≠ (rd a0 i271))))))).bind fun o295 => if o295 = true then (some (.inr i271)) else (if (IntKind.wrap .i64 (i271 + 1)) ≠ o176 then (some (.inl (IntKind.wrap .i64 (i271 + 1)))) else ((EachF.f K (fun (i330 : Int) (x336 : Int × Int) => (if (a0.length : Int) ≤ i330 then (some true) else (gd ((0 : Int) ≤ i330 ∧ i330 < (a0.length : Int)) (gd ((0 : Int) ≤ i330 ∧ i330 < (a0.length : Int)) (some (decide (x336.2 ≠ (rd a0 i330))))))).bind fun o349 => if o349 = true then (some (.inr i330)) else (some (.inl (IntKind.wrap .i64 (i330 + 1))))) 0 t7).bind fun t334 => ysel t334 (fun i330 => if i330 ≠ (a0.length : Int) then (some (.inr (IntKind.wrap .i64 (i271 + 1)))) else (some (.inl (IntKind.wrap .i64 (i271 + 1))))) (fun e332 => some (.inr (IntKind.wrap .i64 (i271 + 1))))))) 0 t7).bind fun t277 => ysel t277 (fun i271 => if t5 = true then (if i140.1 = true then (if t181 = true then (if t185 = true then (some (decide (i271 = (a0.length : Int)))) else (some false)) else (some false)) else (some false)) else (some false)) (fun e274 => some false))) (fun e144 => some false)
theorem EscapeStops.calls {B : Nat} {w0 : World} {G : List HP} (K : Nat) (a0 : List Int) (a1 : Int) (Aa0 : Option Addr) (ca0 : Nat) (ha0 : RdG B w0 G Aa0 (a0.map (Value.int .u8))) (ka0 : a0.length ≤ ca0) (r : Bool) (H : EscapeStops.f K a0 a1 = some r) (w : World) (hw : St B w0 (G) w) :
    Calls Try.prog 8 [.slice Aa0 a0.length ca0, .int .i64 a1].toArray w (fun e w' => e = .returned (.bool r) ∧ St B w0 (G) w') := by
  unfold EscapeStops.f at H
  refine calls_ofM (n := 139) (s := [(0, .slice Aa0 a0.length ca0), (1, .int .i64 a1)]) Try.func8 rfl rfl rfl rfl ?_ hw
  refine C.rs ?_
  refine J.box (L := [.slice Aa0 a0.length ca0]) rfl rfl rfl (fun g1 => ?_)
  refine J.alloc (L := [.bool false]) rfl ti4 rfl (fun g3 => ?_)
  refine J.nx ?_
  refine C.rs ?_
  obtain ⟨t5, hC6, H⟩ := bind_some H
  refine J.call (us := []) (cap := []) rfl rfl rfl go24 (fun w hw => awake.calls K t5 hC6 w hw) (fun e w1 h1 => ?_)
  obtain ⟨rfl, hw369⟩ := h1
  refine ⟨_, _, rfl, hw369, ?_⟩
  refine J.p rfl rfl rfl rfl (Y.asg rfl) ?_
  refine J.nx ?_
  refine C.rs ?_
  refine J.r rfl rfl rfl rfl (Y.ldC 1 Try.underlying25 rfl rfl rfl rfl) ?_
  obtain ⟨t7, hC8, H⟩ := bind_some H
  refine J.call (us := []) (cap := []) rfl rfl rfl go25 (fun w hw => Wrap.calls K a0 Aa0 ca0 (ha0.suf [_, _, _] rfl) ka0 t7 hC8 w hw) (fun e w1 h1 => ?_)
  obtain ⟨A9, c10, rfl, hw368⟩ := h1
  refine ⟨_, _, rfl, hw368, ?_⟩
  refine J.p rfl rfl rfl rfl (Y.asg rfl) ?_
  refine J.nx ?_
  refine C.rs ?_
  refine J.p rfl rfl rfl rfl (Y.mv rfl) ?_
  refine J.know (own_leL 0 rfl) (fun hc12 => ?_)
  obtain ⟨t13, hC14, H⟩ := bind_some H
  refine J.call (us := []) (cap := []) rfl rfl rfl go26 (fun w hw => Each.calls t7 A9 c10 (RdG.own 0 rfl) hc12 t13 hC14 w hw) (fun e w1 h1 => ?_)
  obtain ⟨g15, rfl, hw367⟩ := h1
  refine ⟨_, _, rfl, hw367, ?_⟩
  refine J.alloc (L := [.nilFunc]) rfl ti39 rfl (fun g17 => ?_)
  refine J.stE (L' := [.func (.func 40) #[] #[.pointer (some ⟨g15, 0, none⟩)]]) ti39 rfl rfl rfl rfl rfl ?_
  refine J.nx ?_
  refine C.seq ?_
  refine C.rs ?_
  refine J.r rfl rfl rfl rfl (Y.ldC 0 Try.underlying39 rfl rfl rfl rfl) ?_
  refine J.p rfl rfl rfl rfl (Y.eqfn Try.underlying39 rfl rfl) ?_
  refine J.nx ?_
  refine C.condF rfl ?_
  refine C.skip ?_
  refine N.nx ?_
  refine C.rs ?_
  refine J.p rfl rfl rfl rfl (Y.mv rfl) ?_
  refine J.r rfl rfl rfl rfl (Y.ldC 4 Try.underlying25 rfl rfl rfl rfl) ?_
  refine J.p rfl rfl rfl rfl (Y.lenS Try.underlying25 rfl) ?_
  refine J.p rfl rfl rfl rfl (Y.bin rfl rfl rfl) ?_
  obtain ⟨t19, hC20, H⟩ := bind_some H
  refine J.call (us := []) (cap := []) rfl rfl rfl go27 (fun w hw => pick.calls a1 (IntKind.wrap .i64 ((a0.length : Int) + 1)) t19 hC20 w hw) (fun e w1 h1 => ?_)
  obtain ⟨rfl, hw366⟩ := h1
  refine ⟨_, _, rfl, hw366, ?_⟩
  refine J.p rfl rfl rfl rfl (Y.bin rfl rfl rfl) ?_
  refine J.alloc (L := [.int .i64 0]) rfl ti3 rfl (fun g21 => ?_)
  refine J.stE (L' := [.int .i64 (IntKind.wrap .i64 (1 + t19))]) ti3 rfl rfl rfl rfl rfl ?_
  refine J.nx ?_
  refine C.rs ?_
  refine J.alloc (L := [.slice none 0 0]) rfl ti25 rfl (fun g23 => ?_)
  refine J.nx ?_
  refine C.seq ?_
  refine C.rs ?_
  refine J.r rfl rfl rfl rfl (Y.ldC 2 Try.underlying39 rfl rfl rfl rfl) ?_
  refine J.nx ?_
  refine C.joinND H (fun (o56 : (List Int)) (j57 : (Option Addr) × Nat) => [(2, .pointer (some ⟨g1, 0, none⟩)), (4, .pointer (some ⟨g3, 0, none⟩)), (5, .bool t5), (7, .pointer (some ⟨g17, 0, none⟩)), (8, .pointer (some ⟨g21, 0, none⟩)), (9, .pointer (some ⟨g23, 0, none⟩))]) (fun (o56 : (List Int)) (j57 : (Option Addr) × Nat) => cells g1 25 [.slice Aa0 a0.length ca0] :: cells g3 4 [.bool false] :: cells g17 39 [.func (.func 40) #[] #[.pointer (some ⟨g15, 0, none⟩)]] :: cells g21 3 [.int .i64 (IntKind.wrap .i64 (1 + t19))] :: own 5 1 j57.1 j57.2 (o56.map (Value.int .u8)) :: cells g23 25 [.slice j57.1 o56.length j57.2] :: cells g15 25 [.slice A9 t7.length c10] :: own 5 1 A9 c10 (t7.map (Value.int .u8)) :: G) (fun (o56 : (List Int)) (j57 : (Option Addr) × Nat) => True) (fun o54 H HK55 => ?_) (fun ds59 o56 j57 H _ => ?_)
  · refine C.blk ?_
    refine C.sub (s' := [(2, .pointer (some ⟨g1, 0, none⟩)), (4, .pointer (some ⟨g3, 0, none⟩)), (5, .bool t5), (7, .pointer (some ⟨g17, 0, none⟩)), (8, .pointer (some ⟨g21, 0, none⟩)), (9, .pointer (some ⟨g23, 0, none⟩)), (38, .func (.func 40) #[] #[.pointer (some ⟨g15, 0, none⟩)])]) (by exact ⟨rfl, rfl, rfl, rfl, rfl, rfl, rfl, trivial⟩) ?_
    refine C.know (own_leL 4 rfl) (fun hc89 => ?_)
    refine C.know (own_leL 4 rfl) (fun hc98 => ?_)
    have hkey : ∀ Gx, Gx = (cells g15 25 [.slice A9 t7.length c10] :: own 5 1 A9 c10 (t7.map (Value.int .u8)) :: G) → RdG B w0 Gx (some ⟨g15, 0, none⟩) [.slice A9 t7.length c10] ∧ RdG B w0 Gx A9 (t7.map (Value.int .u8)) ∧ RdG B w0 Gx Aa0 (a0.map (Value.int .u8)) ∧ True := by rintro _ rfl; exact ⟨(RdG.cells 0 rfl), (RdG.own 1 rfl), (ha0.suf [_, _] rfl), trivial⟩
    obtain ⟨hb96, hb97, hb99, _⟩ := hkey _ rfl
    obtain ⟨t91, hC92, H⟩ := bind_some H
    refine C.rangeF' (E := (List Int)) (Gb := cells g15 25 [.slice A9 t7.length c10] :: own 5 1 A9 c10 (t7.map (Value.int .u8)) :: G) (caps := [.pointer (some ⟨g15, 0, none⟩)]) encY62 (fun (i82 : (List Int)) (j83 : (Option Addr) × Nat) => [own 5 1 j83.1 j83.2 (i82.map (Value.int .u8)), cells g23 25 [.slice j83.1 i82.length j83.2], cells g21 3 [.int .i64 (IntKind.wrap .i64 (1 + t19))], cells g17 39 [.func (.func 40) #[] #[.pointer (some ⟨g15, 0, none⟩)]], cells g3 4 [.bool false], cells g1 25 [.slice Aa0 a0.length ca0]]) (fun (i82 : (List Int)) (j83 : (Option Addr) × Nat) => True) (fun (e86 : (List Int)) (k87 : (Option Addr) × Nat) => [own 5 1 k87.1 k87.2 (e86.map (Value.int .u8)), cells g23 25 [.slice k87.1 e86.length k87.2], cells g21 3 [.int .i64 (IntKind.wrap .i64 (1 + t19))], cells g17 39 [.func (.func 40) #[] #[.pointer (some ⟨g15, 0, none⟩)]], cells g3 4 [.bool false], cells g1 25 [.slice Aa0 a0.length ca0]]) (fun (e86 : (List Int)) (k87 : (Option Addr) × Nat) => True) (fun (_ : (List Int)) => .exit 0) (fun (x93 : Int × Int) => [(2, .pointer (some ⟨g1, 0, none⟩)), (4, .pointer (some ⟨g3, 0, none⟩)), (5, .bool t5), (7, .pointer (some ⟨g17, 0, none⟩)), (8, .pointer (some ⟨g21, 0, none⟩)), (9, .pointer (some ⟨g23, 0, none⟩)), (11, .int .u8 x93.2), (38, .func (.func 40) #[] #[.pointer (some ⟨g15, 0, none⟩)]), (39, .int .i64 x93.1), (40, .int .u8 x93.2)]) _ ([] : List Int) (none, 0) t91 rfl go40 (fun _ => rfl) (by rfl) (by decide) (pf_of rfl) trivial (fun w h => (St.pick [8, 0, 1, 2, 3, 6, 7, 4, 5] [_, _, _, _, _, _, _, _, _] (h.nilOwn 5 1) rfl)) (fun Yy yv hy w hw => EachF.calls K _ _ t7 Yy yv g15 A9 c10 hy (RdG.own 1 rfl) hc89 (RdG.cells 0 rfl) _ hC92 w hw) (fun l i82 j83 x93 L94 _ => ?_) (fun l i82 j83 x93 o L94 G hGG H _ hl95 => ?_) (fun ds85 i82 j83 hr _ => ?_) (fun ds85 e86 k87 hr hx => ?_)
    · refine C.sub (s' := [(2, .pointer (some ⟨g1, 0, none⟩)), (4, .pointer (some ⟨g3, 0, none⟩)), (5, .bool t5), (7, .pointer (some ⟨g17, 0, none⟩)), (8, .pointer (some ⟨g21, 0, none⟩)), (9, .pointer (some ⟨g23, 0, none⟩)), (38, .func (.func 40) #[] #[.pointer (some ⟨g15, 0, none⟩)]), (39, .int .i64 x93.1), (40, .int .u8 x93.2)]) (by exact ⟨rfl, rfl, rfl, rfl, rfl, rfl, rfl, rfl, rfl, trivial⟩) ?_
      refine C.reg ?_
      refine J.p rfl rfl rfl rfl (Y.asg rfl) ?_
      refine J.nil ?_
      exact N.asg (by exact ⟨rfl, rfl, rfl, rfl, rfl, rfl, rfl, rfl, rfl, rfl, trivial⟩) (fun w h => h)
    · replace hb96 := RdG.suf hb96 L94 hGG
      replace hb97 := RdG.suf hb97 L94 hGG
      replace hb99 := RdG.suf hb99 L94 hGG
      refine C.at (s' := [(2, .pointer (some ⟨g1, 0, none⟩)), (4, .pointer (some ⟨g3, 0, none⟩)), (5, .bool t5), (7, .pointer (some ⟨g17, 0, none⟩)), (8, .pointer (some ⟨g21, 0, none⟩)), (9, .pointer (some ⟨g23, 0, none⟩)), (11, .int .u8 x93.2), (38, .func (.func 40) #[] #[.pointer (some ⟨g15, 0, none⟩)]), (39, .int .i64 x93.1), (40, .int .u8 x93.2)]) (G' := own 5 1 j83.1 j83.2 (i82.map (Value.int .u8)) :: cells g23 25 [.slice j83.1 i82.length j83.2] :: cells g21 3 [.int .i64 (IntKind.wrap .i64 (1 + t19))] :: cells g17 39 [.func (.func 40) #[] #[.pointer (some ⟨g15, 0, none⟩)]] :: cells g3 4 [.bool false] :: cells g1 25 [.slice Aa0 a0.length ca0] :: G) rfl rfl ?_
      refine C.blk ?_
      refine C.rs ?_
      refine J.r rfl rfl rfl rfl (Y.ldC 1 Try.underlying25 rfl rfl rfl rfl) ?_
      refine J.p rfl rfl rfl rfl (Y.mv rfl) ?_
      refine J.bsL (enc := (Value.int .u8)) (xs := [x93.2]) rfl Try.underlying25 ti5 rfl rfl rfl rfl rfl (fun A100 => ?_)
      refine J.pull 1 rfl rfl ?_
      obtain ⟨p104, H⟩ := gd_some H
      refine J.appL (enc := (Value.int .u8)) (xs := i82) (ys := [x93.2]) rfl Try.underlying25 ti5 rfl (by decide) rfl rfl (fun _ => rfl) (RdG.own 1 rfl) p104 (fun A102 c103 => ?_)
      refine J.pull 1 rfl rfl (J.drop ?_)
      refine J.pull 1 rfl rfl ?_
      refine J.stE (L' := [.slice A102 (i82 ++ [x93.2]).length c103]) ti25 rfl rfl rfl rfl rfl ?_
      refine J.nx ?_
      refine C.rs ?_
      refine J.r rfl rfl rfl rfl (Y.ldC 0 Try.underlying25 rfl rfl rfl rfl) ?_
      refine J.p rfl rfl rfl rfl (Y.lenS Try.underlying25 rfl) ?_
      refine J.r rfl rfl rfl rfl (Y.ldC 2 Try.underlying3 rfl rfl rfl rfl) ?_
      refine J.p rfl rfl rfl rfl (Y.bin rfl rfl rfl) ?_
      refine J.nx ?_
      refine split2 H (fun c106 H => ?_) (fun c106 H => ?_)
      · refine C.condT (congrArg (fun b => some (Value.bool b)) (decide_eq_true c106)) ?_
        refine C.exit ?_
        obtain rfl := Option.some.inj H
        refine X.ms rfl ?_
        exact X.round (i82 ++ [x93.2]) (A102, c103) rfl rfl trivial (by exact fun w h => (St.pick [1, 0, 2, 3, 4, 5] [_, _, _, _, _, _] h rfl))
      · refine C.condF (congrArg (fun b => some (Value.bool b)) (decide_eq_false c106)) ?_
        refine C.skip ?_
        refine N.ib ?_
        obtain rfl := Option.some.inj H
        exact N.round (i82 ++ [x93.2]) (A102, c103) rfl trivial (by exact fun w h => (St.pick [1, 0, 2, 3, 4, 5] [_, _, _, _, _, _] h rfl))
    · subst hr
      replace H := ysel_inl H
      refine N.at (s' := [(2, .pointer (some ⟨g1, 0, none⟩)), (4, .pointer (some ⟨g3, 0, none⟩)), (5, .bool t5), (7, .pointer (some ⟨g17, 0, none⟩)), (8, .pointer (some ⟨g21, 0, none⟩)), (9, .pointer (some ⟨g23, 0, none⟩)), (38, .func (.func 40) #[] #[.pointer (some ⟨g15, 0, none⟩)])]) (G' := dblks ds85 :: own 5 1 j83.1 j83.2 (i82.map (Value.int .u8)) :: cells g23 25 [.slice j83.1 i82.length j83.2] :: cells g21 3 [.int .i64 (IntKind.wrap .i64 (1 + t19))] :: cells g17 39 [.func (.func 40) #[] #[.pointer (some ⟨g15, 0, none⟩)]] :: cells g3 4 [.bool false] :: cells g1 25 [.slice Aa0 a0.length ca0] :: cells g15 25 [.slice A9 t7.length c10] :: own 5 1 A9 c10 (t7.map (Value.int .u8)) :: G) rfl rfl ?_
      refine N.ib ?_
      obtain rfl := Option.some.inj H
      exact N.meetD (i82, (j83.1, j83.2)) ⟨HK55, trivial⟩ (by exact ⟨rfl, rfl, rfl, rfl, rfl, rfl, trivial⟩) (by exact fun w h => (St.pick [0, 6, 5, 4, 3, 1, 2, 7, 8] [_, _, _, _, _, _, _, _, _] h rfl))
    · subst hr
      replace H := ysel_inr H
      refine C.at (s' := [(2, .pointer (some ⟨g1, 0, none⟩)), (4, .pointer (some ⟨g3, 0, none⟩)), (5, .bool t5), (7, .pointer (some ⟨g17, 0, none⟩)), (8, .pointer (some ⟨g21, 0, none⟩)), (9, .pointer (some ⟨g23, 0, none⟩)), (38, .func (.func 40) #[] #[.pointer (some ⟨g15, 0, none⟩)])]) (G' := dblks ds85 :: own 5 1 k87.1 k87.2 (e86.map (Value.int .u8)) :: cells g23 25 [.slice k87.1 e86.length k87.2] :: cells g21 3 [.int .i64 (IntKind.wrap .i64 (1 + t19))] :: cells g17 39 [.func (.func 40) #[] #[.pointer (some ⟨g15, 0, none⟩)]] :: cells g3 4 [.bool false] :: cells g1 25 [.slice Aa0 a0.length ca0] :: cells g15 25 [.slice A9 t7.length c10] :: own 5 1 A9 c10 (t7.map (Value.int .u8)) :: G) rfl rfl ?_
      refine C.exit ?_
      refine X.hit ?_
      obtain rfl := Option.some.inj H
      exact N.meetD (e86, (k87.1, k87.2)) ⟨HK55, trivial⟩ (by exact ⟨rfl, rfl, rfl, rfl, rfl, rfl, trivial⟩) (by exact fun w h => (St.pick [0, 6, 5, 4, 3, 1, 2, 7, 8] [_, _, _, _, _, _, _, _, _] h rfl))
  · refine N.at (s' := [(2, .pointer (some ⟨g1, 0, none⟩)), (4, .pointer (some ⟨g3, 0, none⟩)), (5, .bool t5), (7, .pointer (some ⟨g17, 0, none⟩)), (8, .pointer (some ⟨g21, 0, none⟩)), (9, .pointer (some ⟨g23, 0, none⟩))]) (G' := dblks ds59 :: cells g1 25 [.slice Aa0 a0.length ca0] :: cells g3 4 [.bool false] :: cells g17 39 [.func (.func 40) #[] #[.pointer (some ⟨g15, 0, none⟩)]] :: cells g21 3 [.int .i64 (IntKind.wrap .i64 (1 + t19))] :: own 5 1 j57.1 j57.2 (o56.map (Value.int .u8)) :: cells g23 25 [.slice j57.1 o56.length j57.2] :: cells g15 25 [.slice A9 t7.length c10] :: own 5 1 A9 c10 (t7.map (Value.int .u8)) :: G) rfl rfl ?_
    refine N.nx ?_
    refine C.rs ?_
    refine J.alloc (L := [.slice none 0 0]) rfl ti25 rfl (fun g107 => ?_)
    refine J.nx ?_
    refine C.rs ?_
    refine J.alloc (L := [.int .i64 0]) rfl ti3 rfl (fun g109 => ?_)
    refine J.stE (L' := [.int .i64 (-1)]) ti3 rfl rfl rfl rfl rfl ?_
    refine J.nx ?_
    refine C.rs ?_
    refine J.alloc (L := [.bool false]) rfl ti4 rfl (fun g111 => ?_)
    refine J.stE (L' := [.bool true]) ti4 rfl rfl rfl rfl rfl ?_
    refine J.nx ?_
    refine C.seq ?_
    refine C.rs ?_
    refine J.r rfl rfl rfl rfl (Y.ldC 6 Try.underlying39 rfl rfl rfl rfl) ?_
    refine J.nx ?_
    refine C.blk ?_
    refine C.sub (s' := [(2, .pointer (some ⟨g1, 0, none⟩)), (4, .pointer (some ⟨g3, 0, none⟩)), (5, .bool t5), (7, .pointer (some ⟨g17, 0, none⟩)), (8, .pointer (some ⟨g21, 0, none⟩)), (9, .pointer (some ⟨g23, 0, none⟩)), (12, .pointer (some ⟨g107, 0, none⟩)), (13, .pointer (some ⟨g109, 0, none⟩)), (14, .pointer (some ⟨g111, 0, none⟩)), (49, .func (.func 40) #[] #[.pointer (some ⟨g15, 0, none⟩)])]) (by exact ⟨rfl, rfl, rfl, rfl, rfl, rfl, rfl, rfl, rfl, rfl, trivial⟩) ?_
    refine C.know (own_leL 11 rfl) (fun hc147 => ?_)
    refine C.know (own_leL 11 rfl) (fun hc156 => ?_)
    refine C.know (own_leL 8 rfl) (fun hc159 => ?_)
    have hkey : ∀ Gx, Gx = (own 5 1 j57.1 j57.2 (o56.map (Value.int .u8)) :: cells g15 25 [.slice A9 t7.length c10] :: own 5 1 A9 c10 (t7.map (Value.int .u8)) :: G) → RdG B w0 Gx (some ⟨g15, 0, none⟩) [.slice A9 t7.length c10] ∧ RdG B w0 Gx A9 (t7.map (Value.int .u8)) ∧ RdG B w0 Gx Aa0 (a0.map (Value.int .u8)) ∧ RdG B w0 Gx j57.1 (o56.map (Value.int .u8)) ∧ True := by rintro _ rfl; exact ⟨(RdG.cells 1 rfl), (RdG.own 2 rfl), (ha0.suf [_, _, _] rfl), (RdG.own 0 rfl), trivial⟩
    obtain ⟨hb154, hb155, hb157, hb158, _⟩ := hkey _ rfl
    obtain ⟨t149, hC150, H⟩ := bind_some H
    refine C.rangeF' (E := (List Int) × Int × Bool) (Gb := own 5 1 j57.1 j57.2 (o56.map (Value.int .u8)) :: cells g15 25 [.slice A9 t7.length c10] :: own 5 1 A9 c10 (t7.map (Value.int .u8)) :: G) (caps := [.pointer (some ⟨g15, 0, none⟩)]) encY62 (fun (i140 : Bool × Int × (List Int)) (j141 : (Option Addr) × Nat) => [cells g111 4 [.bool i140.1], cells g109 3 [.int .i64 i140.2.1], own 5 1 j141.1 j141.2 (i140.2.2.map (Value.int .u8)), cells g107 25 [.slice j141.1 i140.2.2.length j141.2], cells g1 25 [.slice Aa0 a0.length ca0], cells g3 4 [.bool false], cells g17 39 [.func (.func 40) #[] #[.pointer (some ⟨g15, 0, none⟩)]], cells g21 3 [.int .i64 (IntKind.wrap .i64 (1 + t19))], cells g23 25 [.slice j57.1 o56.length j57.2]]) (fun (i140 : Bool × Int × (List Int)) (j141 : (Option Addr) × Nat) => True) (fun (e144 : (List Int) × Int × Bool) (k145 : (Option Addr) × Nat) => [cells g3 4 [.bool false], own 5 1 k145.1 k145.2 (e144.1.map (Value.int .u8)), cells g107 25 [.slice k145.1 e144.1.length k145.2], cells g109 3 [.int .i64 e144.2.1], cells g1 25 [.slice Aa0 a0.length ca0], cells g17 39 [.func (.func 40) #[] #[.pointer (some ⟨g15, 0, none⟩)]], cells g21 3 [.int .i64 (IntKind.wrap .i64 (1 + t19))], cells g23 25 [.slice j57.1 o56.length j57.2], cells g111 4 [.bool e144.2.2]]) (fun (e144 : (List Int) × Int × Bool) (k145 : (Option Addr) × Nat) => True) (fun (_ : (List Int) × Int × Bool) => .ret) (fun (x151 : Int × Int) => [(2, .pointer (some ⟨g1, 0, none⟩)), (4, .pointer (some ⟨g3, 0, none⟩)), (5, .bool t5), (7, .pointer (some ⟨g17, 0, none⟩)), (8, .pointer (some ⟨g21, 0, none⟩)), (9, .pointer (some ⟨g23, 0, none⟩)), (12, .pointer (some ⟨g107, 0, none⟩)), (13, .pointer (some ⟨g109, 0, none⟩)), (14, .pointer (some ⟨g111, 0, none⟩)), (15, .int .i64 x151.1), (16, .int .u8 x151.2), (49, .func (.func 40) #[] #[.pointer (some ⟨g15, 0, none⟩)]), (50, .int .i64 x151.1), (51, .int .u8 x151.2)]) _ (true, -1, ([] : List Int)) (none, 0) t149 rfl go40 (fun _ => rfl) (by rfl) (by decide) (pf_of rfl) trivial (fun w h => (St.pick [4, 1, 2, 0, 3, 5, 6, 7, 8, 10, 9, 11, 12] [_, _, _, _, _, _, _, _, _, _, _, _, _] (h.nilOwn 5 1) rfl)) (fun Yy yv hy w hw => EachF.calls K _ _ t7 Yy yv g15 A9 c10 hy (RdG.own 2 rfl) hc147 (RdG.cells 1 rfl) _ hC150 w hw) (fun l i140 j141 x151 L152 _ => ?_) (fun l i140 j141 x151 o L152 G hGG H _ hl153 => ?_) (fun ds143 i140 j141 hr _ => ?_) (fun ds143 e144 k145 hr hx => ?_)
    · refine C.sub (s' := [(2, .pointer (some ⟨g1, 0, none⟩)), (4, .pointer (some ⟨g3, 0, none⟩)), (5, .bool t5), (7, .pointer (some ⟨g17, 0, none⟩)), (8, .pointer (some ⟨g21, 0, none⟩)), (9, .pointer (some ⟨g23, 0, none⟩)), (12, .pointer (some ⟨g107, 0, none⟩)), (13, .pointer (some ⟨g109, 0, none⟩)), (14, .pointer (some ⟨g111, 0, none⟩)), (49, .func (.func 40) #[] #[.pointer (some ⟨g15, 0, none⟩)]), (50, .int .i64 x151.1), (51, .int .u8 x151.2)]) (by exact ⟨rfl, rfl, rfl, rfl, rfl, rfl, rfl, rfl, rfl, rfl, rfl, rfl, trivial⟩) ?_
      refine C.rs ?_
      refine J.p rfl rfl rfl rfl (Y.asg rfl) ?_
      refine J.nx ?_
      refine C.reg ?_
      refine J.p rfl rfl rfl rfl (Y.asg rfl) ?_
      refine J.nil ?_
      exact N.asg (by exact ⟨rfl, rfl, rfl, rfl, rfl, rfl, rfl, rfl, rfl, rfl, rfl, rfl, rfl, rfl, trivial⟩) (fun w h => h)
    · replace hb154 := RdG.suf hb154 L152 hGG
      replace hb155 := RdG.suf hb155 L152 hGG
      replace hb157 := RdG.suf hb157 L152 hGG
      replace hb158 := RdG.suf hb158 L152 hGG
      refine C.at (s' := [(2, .pointer (some ⟨g1, 0, none⟩)), (4, .pointer (some ⟨g3, 0, none⟩)), (5, .bool t5), (7, .pointer (some ⟨g17, 0, none⟩)), (8, .pointer (some ⟨g21, 0, none⟩)), (9, .pointer (some ⟨g23, 0, none⟩)), (12, .pointer (some ⟨g107, 0, none⟩)), (13, .pointer (some ⟨g109, 0, none⟩)), (14, .pointer (some ⟨g111, 0, none⟩)), (15, .int .i64 x151.1), (16, .int .u8 x151.2), (49, .func (.func 40) #[] #[.pointer (some ⟨g15, 0, none⟩)]), (50, .int .i64 x151.1), (51, .int .u8 x151.2)]) (G' := cells g111 4 [.bool i140.1] :: cells g109 3 [.int .i64 i140.2.1] :: own 5 1 j141.1 j141.2 (i140.2.2.map (Value.int .u8)) :: cells g107 25 [.slice j141.1 i140.2.2.length j141.2] :: cells g1 25 [.slice Aa0 a0.length ca0] :: cells g3 4 [.bool false] :: cells g17 39 [.func (.func 40) #[] #[.pointer (some ⟨g15, 0, none⟩)]] :: cells g21 3 [.int .i64 (IntKind.wrap .i64 (1 + t19))] :: cells g23 25 [.slice j57.1 o56.length j57.2] :: G) rfl rfl ?_
      refine C.blk ?_
      refine C.rs ?_
      refine J.joinB H (fun (o161 : Bool) (j162 : Unit) => [(2, .pointer (some ⟨g1, 0, none⟩)), (4, .pointer (some ⟨g3, 0, none⟩)), (5, .bool t5), (7, .pointer (some ⟨g17, 0, none⟩)), (8, .pointer (some ⟨g21, 0, none⟩)), (9, .pointer (some ⟨g23, 0, none⟩)), (12, .pointer (some ⟨g107, 0, none⟩)), (13, .pointer (some ⟨g109, 0, none⟩)), (14, .pointer (some ⟨g111, 0, none⟩)), (15, .int .i64 x151.1), (16, .int .u8 x151.2), (49, .func (.func 40) #[] #[.pointer (some ⟨g15, 0, none⟩)])]) (fun (o161 : Bool) (j162 : Unit) => cells g1 25 [.slice Aa0 a0.length ca0] :: cells g3 4 [.bool false] :: cells g17 39 [.func (.func 40) #[] #[.pointer (some ⟨g15, 0, none⟩)]] :: cells g21 3 [.int .i64 (IntKind.wrap .i64 (1 + t19))] :: cells g23 25 [.slice j57.1 o56.length j57.2] :: cells g107 25 [.slice j141.1 i140.2.2.length j141.2] :: cells g109 3 [.int .i64 i140.2.1] :: cells g111 4 [.bool o161] :: own 5 1 j141.1 j141.2 (i140.2.2.map (Value.int .u8)) :: G) (fun (o161 : Bool) (j162 : Unit) => True) (fun o163 H HK164 => ?_) (fun o161 j162 H _ => ?_)
      · refine J.r rfl rfl rfl rfl (Y.ldC 0 Try.underlying4 rfl rfl rfl rfl) ?_
        refine J.p rfl rfl rfl rfl (Y.mv rfl) ?_
        refine split2 H (fun c165 H => ?_) (fun c165 H => ?_)
        · refine J.as (k := 53) rfl (congrArg Value.bool (c165)) ?_
          refine J.p rfl rfl rfl rfl (Y.mv rfl) ?_
          refine J.r rfl rfl rfl rfl (Y.ldC 1 Try.underlying3 rfl rfl rfl rfl) ?_
          refine J.p rfl rfl rfl rfl (Y.bin rfl rfl rfl) ?_
          refine J.p rfl rfl rfl rfl (Y.pickT rfl rfl) ?_
          refine J.stE (L' := [.bool (decide (i140.2.1 < x151.1))]) ti4 rfl rfl rfl rfl rfl ?_
          refine J.nil ?_
          obtain rfl := Option.some.inj H
          exact N.meet (decide (i140.2.1 < x151.1), ()) ⟨HK164, trivial⟩ (by exact ⟨rfl, rfl, rfl, rfl, rfl, rfl, rfl, rfl, rfl, rfl, rfl, rfl, trivial⟩) (by exact fun w h => (St.pick [4, 5, 6, 7, 8, 3, 1, 0, 2] [_, _, _, _, _, _, _, _, _] h rfl))
        · refine J.as (k := 53) rfl (congrArg Value.bool (nt c165)) ?_
          refine J.skip rfl rfl ?_
          refine J.skip rfl rfl ?_
          refine J.skip rfl rfl ?_
          refine J.p rfl rfl rfl rfl (Y.pickF rfl rfl) ?_
          refine J.stE (L' := [.bool false]) ti4 rfl rfl rfl rfl rfl ?_
          refine J.nil ?_
          obtain rfl := Option.some.inj H
          exact N.meet (false, ()) ⟨HK164, trivial⟩ (by exact ⟨rfl, rfl, rfl, rfl, rfl, rfl, rfl, rfl, rfl, rfl, rfl, rfl, trivial⟩) (by exact fun w h => (St.pick [4, 5, 6, 7, 8, 3, 1, 0, 2] [_, _, _, _, _, _, _, _, _] h rfl))
      · refine C.at (s' := [(2, .pointer (some ⟨g1, 0, none⟩)), (4, .pointer (some ⟨g3, 0, none⟩)), (5, .bool t5), (7, .pointer (some ⟨g17, 0, none⟩)), (8, .pointer (some ⟨g21, 0, none⟩)), (9, .pointer (some ⟨g23, 0, none⟩)), (12, .pointer (some ⟨g107, 0, none⟩)), (13, .pointer (some ⟨g109, 0, none⟩)), (14, .pointer (some ⟨g111, 0, none⟩)), (15, .int .i64 x151.1), (16, .int .u8 x151.2), (49, .func (.func 40) #[] #[.pointer (some ⟨g15, 0, none⟩)])]) (G' := cells g1 25 [.slice Aa0 a0.length ca0] :: cells g3 4 [.bool false] :: cells g17 39 [.func (.func 40) #[] #[.pointer (some ⟨g15, 0, none⟩)]] :: cells g21 3 [.int .i64 (IntKind.wrap .i64 (1 + t19))] :: cells g23 25 [.slice j57.1 o56.length j57.2] :: cells g107 25 [.slice j141.1 i140.2.2.length j141.2] :: cells g109 3 [.int .i64 i140.2.1] :: cells g111 4 [.bool o161] :: own 5 1 j141.1 j141.2 (i140.2.2.map (Value.int .u8)) :: G) rfl rfl ?_
        refine C.rs ?_
        refine J.p rfl rfl rfl rfl (Y.mv rfl) ?_
        refine J.pull 6 rfl rfl ?_
        refine J.stE (L' := [.int .i64 x151.1]) ti3 rfl rfl rfl rfl rfl ?_
        refine J.nx ?_
        refine C.rs ?_
        refine J.r rfl rfl rfl rfl (Y.ldC 6 Try.underlying25 rfl rfl rfl rfl) ?_
        refine J.p rfl rfl rfl rfl (Y.mv rfl) ?_
        refine J.bsL (enc := (Value.int .u8)) (xs := [x151.2]) rfl Try.underlying25 ti5 rfl rfl rfl rfl rfl (fun A166 => ?_)
        refine J.pull 9 rfl rfl ?_
        obtain ⟨p170, H⟩ := gd_some H
        refine J.appL (enc := (Value.int .u8)) (xs := i140.2.2) (ys := [x151.2]) rfl Try.underlying25 ti5 rfl (by decide) rfl rfl (fun _ => rfl) (RdG.own 1 rfl) p170 (fun A168 c169 => ?_)
        refine J.pull 1 rfl rfl (J.drop ?_)
        refine J.pull 7 rfl rfl ?_
        refine J.stE (L' := [.slice A168 (i140.2.2 ++ [x151.2]).length c169]) ti25 rfl rfl rfl rfl rfl ?_
        refine J.nx ?_
        refine C.rs ?_
        refine J.r rfl rfl rfl rfl (Y.ldC 0 Try.underlying25 rfl rfl rfl rfl) ?_
        refine J.p rfl rfl rfl rfl (Y.lenS Try.underlying25 rfl) ?_
        refine J.r rfl rfl rfl rfl (Y.ldC 3 Try.underlying25 rfl rfl rfl rfl) ?_
        refine J.p rfl rfl rfl rfl (Y.lenS Try.underlying25 rfl) ?_
        refine J.p rfl rfl rfl rfl (Y.bin rfl rfl rfl) ?_
        refine J.nx ?_
        refine split2 H (fun c172 H => ?_) (fun c172 H => ?_)
        · refine C.condT (congrArg (fun b => some (Value.bool b)) (decide_eq_true c172)) ?_
          refine C.rs ?_
          refine J.pull 4 rfl rfl ?_
          refine J.stE (L' := [.bool false]) ti4 rfl rfl rfl rfl rfl ?_
          refine J.nx ?_
          refine C.ret ?_
          obtain rfl := Option.some.inj H
          refine T.ib ?_
          exact T.round ((i140.2.2 ++ [x151.2]), x151.1, o161) (A168, c169) rfl rfl trivial (by exact fun w h => (St.pick [0, 2, 1, 3, 4, 5, 6, 7, 8] [_, _, _, _, _, _, _, _, _] h rfl))
        · refine C.condF (congrArg (fun b => some (Value.bool b)) (decide_eq_false c172)) ?_
          refine C.skip ?_
          refine N.ib ?_
          obtain rfl := Option.some.inj H
          exact N.round (o161, x151.1, (i140.2.2 ++ [x151.2])) (A168, c169) rfl trivial (by exact fun w h => (St.pick [8, 2, 1, 0, 3, 4, 5, 6, 7] [_, _, _, _, _, _, _, _, _] h rfl))
    · subst hr
      replace H := ysel_inl H
      refine N.at (s' := [(2, .pointer (some ⟨g1, 0, none⟩)), (4, .pointer (some ⟨g3, 0, none⟩)), (5, .bool t5), (7, .pointer (some ⟨g17, 0, none⟩)), (8, .pointer (some ⟨g21, 0, none⟩)), (9, .pointer (some ⟨g23, 0, none⟩)), (12, .pointer (some ⟨g107, 0, none⟩)), (13, .pointer (some ⟨g109, 0, none⟩)), (14, .pointer (some ⟨g111, 0, none⟩)), (49, .func (.func 40) #[] #[.pointer (some ⟨g15, 0, none⟩)])]) (G' := dblks ds143 :: cells g111 4 [.bool i140.1] :: cells g109 3 [.int .i64 i140.2.1] :: own 5 1 j141.1 j141.2 (i140.2.2.map (Value.int .u8)) :: cells g107 25 [.slice j141.1 i140.2.2.length j141.2] :: cells g1 25 [.slice Aa0 a0.length ca0] :: cells g3 4 [.bool false] :: cells g17 39 [.func (.func 40) #[] #[.pointer (some ⟨g15, 0, none⟩)]] :: cells g21 3 [.int .i64 (IntKind.wrap .i64 (1 + t19))] :: cells g23 25 [.slice j57.1 o56.length j57.2] :: own 5 1 j57.1 j57.2 (o56.map (Value.int .u8)) :: cells g15 25 [.slice A9 t7.length c10] :: own 5 1 A9 c10 (t7.map (Value.int .u8)) :: G) rfl rfl ?_
      refine N.ib ?_
      refine N.nx ?_
      refine C.seq ?_
      refine C.rs ?_
      refine J.r rfl rfl rfl rfl (Y.ldC 8 Try.underlying3 rfl rfl rfl rfl) ?_
      refine J.r rfl rfl rfl rfl (Y.ldC 5 Try.underlying25 rfl rfl rfl rfl) ?_
      refine J.p rfl rfl rfl rfl (Y.lenS Try.underlying25 rfl) ?_
      refine J.p rfl rfl rfl rfl (Y.bin rfl rfl rfl) ?_
      refine J.nx ?_
      refine C.joinND H (fun (o176 : Int) (j177 : Unit) => [(2, .pointer (some ⟨g1, 0, none⟩)), (4, .pointer (some ⟨g3, 0, none⟩)), (5, .bool t5), (7, .pointer (some ⟨g17, 0, none⟩)), (8, .pointer (some ⟨g21, 0, none⟩)), (9, .pointer (some ⟨g23, 0, none⟩)), (12, .pointer (some ⟨g107, 0, none⟩)), (14, .pointer (some ⟨g111, 0, none⟩))]) (fun (o176 : Int) (j177 : Unit) => cells g1 25 [.slice Aa0 a0.length ca0] :: cells g3 4 [.bool false] :: cells g17 39 [.func (.func 40) #[] #[.pointer (some ⟨g15, 0, none⟩)]] :: cells g21 3 [.int .i64 o176] :: cells g23 25 [.slice j57.1 o56.length j57.2] :: cells g107 25 [.slice j141.1 i140.2.2.length j141.2] :: cells g111 4 [.bool i140.1] :: cells g15 25 [.slice A9 t7.length c10] :: own 5 1 j57.1 j57.2 (o56.map (Value.int .u8)) :: own 5 1 j141.1 j141.2 (i140.2.2.map (Value.int .u8)) :: own 5 1 A9 c10 (t7.map (Value.int .u8)) :: G) (fun (o176 : Int) (j177 : Unit) => True) (fun o174 H HK175 => ?_) (fun ds178 o176 j177 H _ => ?_)
      · refine split2 H (fun c179 H => ?_) (fun c179 H => ?_)
        · refine C.condT (congrArg (fun b => some (Value.bool b)) (decide_eq_true c179)) ?_
          refine C.reg ?_
          refine J.r rfl rfl rfl rfl (Y.ldC 5 Try.underlying25 rfl rfl rfl rfl) ?_
          refine J.p rfl rfl rfl rfl (Y.lenS Try.underlying25 rfl) ?_
          refine J.pull 8 rfl rfl ?_
          refine J.stE (L' := [.int .i64 (a0.length : Int)]) ti3 rfl rfl rfl rfl rfl ?_
          refine J.nil ?_
          obtain rfl := Option.some.inj H
          exact N.meetD ((a0.length : Int), ()) ⟨HK175, trivial⟩ (by exact ⟨rfl, rfl, rfl, rfl, rfl, rfl, rfl, rfl, trivial⟩) (by exact fun w h => (St.pick [1, 6, 7, 8, 0, 9, 5, 2, 11, 10, 4, 12] [_, _, _, _, _, _, _, _, _, _, _, _, _] h rfl))
        · refine C.condF (congrArg (fun b => some (Value.bool b)) (decide_eq_false c179)) ?_
          refine C.skip ?_
          obtain rfl := Option.some.inj H
          exact N.meetD (IntKind.wrap .i64 (1 + t19), ()) ⟨HK175, trivial⟩ (by exact ⟨rfl, rfl, rfl, rfl, rfl, rfl, rfl, rfl, trivial⟩) (by exact fun w h => (St.pick [0, 5, 6, 7, 8, 9, 4, 1, 11, 10, 3, 12] [_, _, _, _, _, _, _, _, _, _, _, _, _] h rfl))
      · refine N.at (s' := [(2, .pointer (some ⟨g1, 0, none⟩)), (4, .pointer (some ⟨g3, 0, none⟩)), (5, .bool t5), (7, .pointer (some ⟨g17, 0, none⟩)), (8, .pointer (some ⟨g21, 0, none⟩)), (9, .pointer (some ⟨g23, 0, none⟩)), (12, .pointer (some ⟨g107, 0, none⟩)), (14, .pointer (some ⟨g111, 0, none⟩))]) (G' := dblks ds178 :: cells g1 25 [.slice Aa0 a0.length ca0] :: cells g3 4 [.bool false] :: cells g17 39 [.func (.func 40) #[] #[.pointer (some ⟨g15, 0, none⟩)]] :: cells g21 3 [.int .i64 o176] :: cells g23 25 [.slice j57.1 o56.length j57.2] :: cells g107 25 [.slice j141.1 i140.2.2.length j141.2] :: cells g111 4 [.bool i140.1] :: cells g15 25 [.slice A9 t7.length c10] :: own 5 1 j57.1 j57.2 (o56.map (Value.int .u8)) :: own 5 1 j141.1 j141.2 (i140.2.2.map (Value.int .u8)) :: own 5 1 A9 c10 (t7.map (Value.int .u8)) :: G) rfl rfl ?_
        refine N.nx ?_
        refine C.rs ?_
        refine J.r rfl rfl rfl rfl (Y.ldC 6 Try.underlying25 rfl rfl rfl rfl) ?_
        refine J.r rfl rfl rfl rfl (Y.ldC 1 Try.underlying25 rfl rfl rfl rfl) ?_
        refine J.know (own_leL 10 rfl) (fun hc180 => ?_)
        obtain ⟨t181, hC182, H⟩ := bind_some H
        refine J.call (us := []) (cap := []) rfl rfl rfl go28 (fun w hw => same.calls i140.2.2 a0 j141.1 j141.2 Aa0 ca0 (RdG.own 10 rfl) hc180 (ha0.suf [_, _, _, _, _, _, _, _, _, _, _, _] rfl) ka0 t181 hC182 w hw) (fun e w1 h1 => ?_)
        obtain ⟨rfl, hw365⟩ := h1
        refine ⟨_, _, rfl, hw365, ?_⟩
        refine J.p rfl rfl rfl rfl (Y.asg rfl) ?_
        refine J.nx ?_
        refine C.seq ?_
        refine C.drawn (fuel := 6) (ls := [false, false, false, false, false, false]) [4] (dblks ds178 :: cells g1 25 [.slice Aa0 a0.length ca0] :: cells g3 4 [.bool false] :: cells g17 39 [.func (.func 40) #[] #[.pointer (some ⟨g15, 0, none⟩)]] :: cells g21 3 [.int .i64 o176] :: cells g23 25 [.slice j57.1 o56.length j57.2] :: cells g107 25 [.slice j141.1 i140.2.2.length j141.2] :: cells g111 4 [.bool i140.1] :: cells g15 25 [.slice A9 t7.length c10] :: own 5 1 j57.1 j57.2 (o56.map (Value.int .u8)) :: own 5 1 j141.1 j141.2 (i140.2.2.map (Value.int .u8)) :: own 5 1 A9 c10 (t7.map (Value.int .u8)) :: G) mx rfl rfl ?_
        refine D.r (ls' := [true, false, false, false, false, false]) 0 1 0 rfl rfl rfl rfl (by kernel_rfl) (by kernel_rfl) rfl rfl (Y.ldC 5 Try.underlying25 rfl rfl rfl rfl) ?_
        refine D.r (ls' := [true, true, false, false, false, false]) 1 2 0 rfl rfl rfl rfl (by kernel_rfl) (by kernel_rfl) rfl rfl (Y.ldC 1 Try.underlying25 rfl rfl rfl rfl) ?_
        refine D.r (ls' := [true, true, true, false, false, false]) 2 2 0 rfl rfl rfl rfl (by kernel_rfl) (by kernel_rfl) rfl rfl (Y.ldC 4 Try.underlying3 rfl rfl rfl rfl) ?_
        obtain ⟨p183, H⟩ := gd_some H
        refine D.p (ls' := [true, true, true, true, false, false]) 3 rfl rfl rfl rfl (by kernel_rfl) rfl (Y.slcL Try.underlying25 ti5 rfl bnd.no (bnd.yes rfl p183.1) p183.2 ka0) ?_
        refine D.any [4] (by kernel_rfl) rfl ⟨?_, trivial⟩
        refine DW.j (ls' := [true, true, true, true, true, false]) rfl rfl ?_
        refine J.know (own_leL 9 rfl) (fun hc184 => ?_)
        obtain ⟨t185, hC186, H⟩ := bind_some H
        refine J.call (us := []) (cap := []) rfl rfl rfl go28 (fun w hw => same.calls o56 ((a0.take (Int.toNat o176)).drop 0) j57.1 j57.2 (subA 1 Aa0 ca0 0) (ca0 - 0) (RdG.own 9 rfl) hc184 (RdG.subL (l := 0) (h := (Int.toNat o176)) (ha0.suf [_, _, _, _, _, _, _, _, _, _, _, _] rfl) ka0) (hc_sub ka0) t185 hC186 w hw) (fun e w1 h1 => ?_)
        obtain ⟨rfl, hw364⟩ := h1
        refine ⟨_, _, rfl, hw364, ?_⟩
        refine J.nil ?_
        refine D.backE (by kernel_rfl) ?_
        refine D.p (ls' := [true, true, true, true, true, true]) 5 rfl rfl rfl rfl (by kernel_rfl) rfl (Y.asg rfl) ?_
        refine D.nil (by kernel_rfl) ?_
        refine N.nx ?_
        refine C.rs ?_
        refine J.alloc (L := [.int .i64 0]) rfl ti3 rfl (fun g187 => ?_)
        refine J.stE (L' := [.int .i64 0]) ti3 rfl rfl rfl rfl rfl ?_
        refine J.nx ?_
        refine C.seq ?_
        refine C.rs ?_
        refine J.r rfl rfl rfl rfl (Y.ldC 4 Try.underlying39 rfl rfl rfl rfl) ?_
        refine J.nx ?_
        refine C.blk ?_
        refine C.sub (s' := [(2, .pointer (some ⟨g1, 0, none⟩)), (4, .pointer (some ⟨g3, 0, none⟩)), (5, .bool t5), (7, .pointer (some ⟨g17, 0, none⟩)), (8, .pointer (some ⟨g21, 0, none⟩)), (14, .pointer (some ⟨g111, 0, none⟩)), (17, .bool t181), (18, .bool t185), (19, .pointer (some ⟨g187, 0, none⟩)), (82, .func (.func 40) #[] #[.pointer (some ⟨g15, 0, none⟩)])]) (by exact ⟨rfl, rfl, rfl, rfl, rfl, rfl, rfl, rfl, rfl, rfl, trivial⟩) ?_
        refine C.know (own_leL 12 rfl) (fun hc276 => ?_)
        refine C.know (own_leL 12 rfl) (fun hc284 => ?_)
        refine C.know (own_leL 10 rfl) (fun hc287 => ?_)
        refine C.know (own_leL 11 rfl) (fun hc289 => ?_)
        have hkey : ∀ Gx, Gx = (cells g15 25 [.slice A9 t7.length c10] :: own 5 1 j57.1 j57.2 (o56.map (Value.int .u8)) :: own 5 1 j141.1 j141.2 (i140.2.2.map (Value.int .u8)) :: own 5 1 A9 c10 (t7.map (Value.int .u8)) :: G) → RdG B w0 Gx (some ⟨g15, 0, none⟩) [.slice A9 t7.length c10] ∧ RdG B w0 Gx A9 (t7.map (Value.int .u8)) ∧ RdG B w0 Gx Aa0 (a0.map (Value.int .u8)) ∧ RdG B w0 Gx j57.1 (o56.map (Value.int .u8)) ∧ RdG B w0 Gx j141.1 (i140.2.2.map (Value.int .u8)) ∧ True := by rintro _ rfl; exact ⟨(RdG.cells 0 rfl), (RdG.own 3 rfl), (ha0.suf [_, _, _, _] rfl), (RdG.own 1 rfl), (RdG.own 2 rfl), trivial⟩
        obtain ⟨hb282, hb283, hb285, hb286, hb288, _⟩ := hkey _ rfl
        obtain ⟨t277, hC278, H⟩ := bind_some H
        refine C.rangeF' (E := Int) (Gb := cells g15 25 [.slice A9 t7.length c10] :: own 5 1 j57.1 j57.2 (o56.map (Value.int .u8)) :: own 5 1 j141.1 j141.2 (i140.2.2.map (Value.int .u8)) :: own 5 1 A9 c10 (t7.map (Value.int .u8)) :: G) (caps := [.pointer (some ⟨g15, 0, none⟩)]) encY62 (fun (i271 : Int) (j272 : Unit) => [cells g187 3 [.int .i64 i271], cells g1 25 [.slice Aa0 a0.length ca0], cells g3 4 [.bool false], cells g17 39 [.func (.func 40) #[] #[.pointer (some ⟨g15, 0, none⟩)]], cells g21 3 [.int .i64 o176], cells g23 25 [.slice j57.1 o56.length j57.2], cells g107 25 [.slice j141.1 i140.2.2.length j141.2], cells g111 4 [.bool i140.1]]) (fun (i271 : Int) (j272 : Unit) => True) (fun (e274 : Int) (k275 : Unit) => [cells g3 4 [.bool false], cells g1 25 [.slice Aa0 a0.length ca0], cells g17 39 [.func (.func 40) #[] #[.pointer (some ⟨g15, 0, none⟩)]], cells g21 3 [.int .i64 o176], cells g111 4 [.bool i140.1], cells g187 3 [.int .i64 e274], cells g23 25 [.slice j57.1 o56.length j57.2], cells g107 25 [.slice j141.1 i140.2.2.length j141.2]]) (fun (e274 : Int) (k275 : Unit) => True) (fun (_ : Int) => .ret) (fun (x279 : Int × Int) => [(2, .pointer (some ⟨g1, 0, none⟩)), (4, .pointer (some ⟨g3, 0, none⟩)), (5, .bool t5), (7, .pointer (some ⟨g17, 0, none⟩)), (8, .pointer (some ⟨g21, 0, none⟩)), (14, .pointer (some ⟨g111, 0, none⟩)), (17, .bool t181), (18, .bool t185), (19, .pointer (some ⟨g187, 0, none⟩)), (21, .int .u8 x279.2), (82, .func (.func 40) #[] #[.pointer (some ⟨g15, 0, none⟩)]), (83, .int .i64 x279.1), (84, .int .u8 x279.2)]) _ 0 () t277 rfl go40 (fun _ => rfl) (by rfl) (by decide) (pf_of rfl) trivial (fun w h => (St.pick [1, 0, 2, 3, 4, 5, 6, 7, 8, 9, 10, 11, 12] [_, _, _, _, _, _, _, _, _, _, _, _, _] h rfl)) (fun Yy yv hy w hw => EachF.calls K _ _ t7 Yy yv g15 A9 c10 hy (RdG.own 3 rfl) hc276 (RdG.cells 0 rfl) _ hC278 w hw) (fun l i271 j272 x279 L280 _ => ?_) (fun l i271 j272 x279 o L280 G hGG H _ hl281 => ?_) (fun ds273 i271 j272 hr _ => ?_) (fun ds273 e274 k275 hr hx => ?_)
        · refine C.sub (s' := [(2, .pointer (some ⟨g1, 0, none⟩)), (4, .pointer (some ⟨g3, 0, none⟩)), (5, .bool t5), (7, .pointer (some ⟨g17, 0, none⟩)), (8, .pointer (some ⟨g21, 0, none⟩)), (14, .pointer (some ⟨g111, 0, none⟩)), (17, .bool t181), (18, .bool t185), (19, .pointer (some ⟨g187, 0, none⟩)), (82, .func (.func 40) #[] #[.pointer (some ⟨g15, 0, none⟩)]), (83, .int .i64 x279.1), (84, .int .u8 x279.2)]) (by exact ⟨rfl, rfl, rfl, rfl, rfl, rfl, rfl, rfl, rfl, rfl, rfl, rfl, trivial⟩) ?_
          refine C.reg ?_
          refine J.p rfl rfl rfl rfl (Y.asg rfl) ?_
          refine J.nil ?_
          exact N.asg (by exact ⟨rfl, rfl, rfl, rfl, rfl, rfl, rfl, rfl, rfl, rfl, rfl, rfl, rfl, trivial⟩) (fun w h => h)
        · replace hb282 := RdG.suf hb282 L280 hGG
          replace hb283 := RdG.suf hb283 L280 hGG
          replace hb285 := RdG.suf hb285 L280 hGG
          replace hb286 := RdG.suf hb286 L280 hGG
          replace hb288 := RdG.suf hb288 L280 hGG
          refine C.at (s' := [(2, .pointer (some ⟨g1, 0, none⟩)), (4, .pointer (some ⟨g3, 0, none⟩)), (5, .bool t5), (7, .pointer (some ⟨g17, 0, none⟩)), (8, .pointer (some ⟨g21, 0, none⟩)), (14, .pointer (some ⟨g111, 0, none⟩)), (17, .bool t181), (18, .bool t185), (19, .pointer (some ⟨g187, 0, none⟩)), (21, .int .u8 x279.2), (82, .func (.func 40) #[] #[.pointer (some ⟨g15, 0, none⟩)]), (83, .int .i64 x279.1), (84, .int .u8 x279.2)]) (G' := cells g187 3 [.int .i64 i271] :: cells g1 25 [.slice Aa0 a0.length ca0] :: cells g3 4 [.bool false] :: cells g17 39 [.func (.func 40) #[] #[.pointer (some ⟨g15, 0, none⟩)]] :: cells g21 3 [.int .i64 o176] :: cells g23 25 [.slice j57.1 o56.length j57.2] :: cells g107 25 [.slice j141.1 i140.2.2.length j141.2] :: cells g111 4 [.bool i140.1] :: G) rfl rfl ?_
          refine C.blk ?_
          refine C.seq ?_
          refine C.rs ?_
          refine J.joinB H (fun (o295 : Bool) (j296 : Unit) => [(2, .pointer (some ⟨g1, 0, none⟩)), (4, .pointer (some ⟨g3, 0, none⟩)), (5, .bool t5), (7, .pointer (some ⟨g17, 0, none⟩)), (8, .pointer (some ⟨g21, 0, none⟩)), (14, .pointer (some ⟨g111, 0, none⟩)), (17, .bool t181), (18, .bool t185), (19, .pointer (some ⟨g187, 0, none⟩)), (82, .func (.func 40) #[] #[.pointer (some ⟨g15, 0, none⟩)]), (96, .bool o295)]) (fun (o295 : Bool) (j296 : Unit) => cells g1 25 [.slice Aa0 a0.length ca0] :: cells g3 4 [.bool false] :: cells g17 39 [.func (.func 40) #[] #[.pointer (some ⟨g15, 0, none⟩)]] :: cells g21 3 [.int .i64 o176] :: cells g111 4 [.bool i140.1] :: cells g187 3 [.int .i64 i271] :: cells g23 25 [.slice j57.1 o56.length j57.2] :: cells g107 25 [.slice j141.1 i140.2.2.length j141.2] :: G) (fun (o295 : Bool) (j296 : Unit) => True) (fun o297 H HK298 => ?_) (fun o295 j296 H _ => ?_)
          · refine J.r rfl rfl rfl rfl (Y.ldC 0 Try.underlying3 rfl rfl rfl rfl) ?_
            refine J.r rfl rfl rfl rfl (Y.ldC 1 Try.underlying25 rfl rfl rfl rfl) ?_
            refine J.p rfl rfl rfl rfl (Y.lenS Try.underlying25 rfl) ?_
            refine J.p rfl rfl rfl rfl (Y.bin rfl rfl rfl) ?_
            refine J.p rfl rfl rfl rfl (Y.mv rfl) ?_
            refine split2 H (fun c299 H => ?_) (fun c299 H => ?_)
            · refine J.as (k := 89) rfl (congrArg Value.bool (decide_eq_true c299)) ?_
              refine J.skip rfl rfl ?_
              refine J.skip rfl rfl ?_
              refine J.skip rfl rfl ?_
              refine J.skip rfl rfl ?_
              refine J.skip rfl rfl ?_
              refine J.skip rfl rfl ?_
              refine J.p rfl rfl rfl rfl (Y.pickT rfl rfl) ?_
              refine J.nil ?_
              obtain rfl := Option.some.inj H
              exact N.meet (true, ()) ⟨HK298, trivial⟩ (by exact ⟨rfl, rfl, rfl, rfl, rfl, rfl, rfl, rfl, rfl, rfl, rfl, trivial⟩) (by exact fun w h => (St.pick [1, 2, 3, 4, 7, 0, 5, 6] [_, _, _, _, _, _, _, _] h rfl))
            · refine J.as (k := 89) rfl (congrArg Value.bool (decide_eq_false c299)) ?_
              refine J.p rfl rfl rfl rfl (Y.mv rfl) ?_
              refine J.r rfl rfl rfl rfl (Y.ldC 1 Try.underlying25 rfl rfl rfl rfl) ?_
              refine J.r rfl rfl rfl rfl (Y.ldC 0 Try.underlying3 rfl rfl rfl rfl) ?_
              obtain ⟨p302, H⟩ := gd_some H
              refine J.know ((hb285.suf [_, _, _, _, _, _, _, _] rfl).some_ (j := Int.toNat i271) (by rw [List.length_map]; exact idx_lt p302)) (fun hh => ?_)
              obtain ⟨a300, ha301⟩ := hh
              refine J.p rfl rfl rfl rfl (Y.ixa Try.underlying25 ti5 rfl rfl p302 ha301) ?_
              obtain ⟨p303, H⟩ := gd_some H
              refine J.r rfl rfl rfl rfl (Y.ldE Try.underlying5 rfl rfl ha301 p303 (hb285.suf [_, _, _, _, _, _, _, _] rfl)) ?_
              refine J.p rfl rfl rfl rfl (Y.bin rfl rfl rfl) ?_
              refine J.p rfl rfl rfl rfl (Y.pickF rfl rfl) ?_
              refine J.nil ?_
              obtain rfl := Option.some.inj H
              exact N.meet (decide (x279.2 ≠ (rd a0 i271)), ()) ⟨HK298, trivial⟩ (by exact ⟨rfl, rfl, rfl, rfl, rfl, rfl, rfl, rfl, rfl, rfl, rfl, trivial⟩) (by exact fun w h => (St.pick [1, 2, 3, 4, 7, 0, 5, 6] [_, _, _, _, _, _, _, _] h rfl))
          · refine C.at (s' := [(2, .pointer (some ⟨g1, 0, none⟩)), (4, .pointer (some ⟨g3, 0, none⟩)), (5, .bool t5), (7, .pointer (some ⟨g17, 0, none⟩)), (8, .pointer (some ⟨g21, 0, none⟩)), (14, .pointer (some ⟨g111, 0, none⟩)), (17, .bool t181), (18, .bool t185), (19, .pointer (some ⟨g187, 0, none⟩)), (82, .func (.func 40) #[] #[.pointer (some ⟨g15, 0, none⟩)]), (96, .bool o295)]) (G' := cells g1 25 [.slice Aa0 a0.length ca0] :: cells g3 4 [.bool false] :: cells g17 39 [.func (.func 40) #[] #[.pointer (some ⟨g15, 0, none⟩)]] :: cells g21 3 [.int .i64 o176] :: cells g111 4 [.bool i140.1] :: cells g187 3 [.int .i64 i271] :: cells g23 25 [.slice j57.1 o56.length j57.2] :: cells g107 25 [.slice j141.1 i140.2.2.length j141.2] :: G) rfl rfl ?_
            refine split2 H (fun c304 H => ?_) (fun c304 H => ?_)
            · refine C.condT (congrArg (fun b => some (Value.bool b)) (c304)) ?_
              refine C.rs ?_
              refine J.pull 1 rfl rfl ?_
              refine J.stE (L' := [.bool false]) ti4 rfl rfl rfl rfl rfl ?_
              refine J.nx ?_
              refine C.ret ?_
              obtain rfl := Option.some.inj H
              refine T.th ?_
              refine T.ib ?_
              exact T.round i271 () rfl rfl trivial (by exact fun w h => h)
            · refine C.condF (congrArg (fun b => some (Value.bool b)) (nt c304)) ?_
              refine C.skip ?_
              refine N.nx ?_
              refine C.rs ?_
              refine J.r rfl rfl rfl rfl (Y.ldC 5 Try.underlying3 rfl rfl rfl rfl) ?_
              refine J.p rfl rfl rfl rfl (Y.bin rfl rfl rfl) ?_
              refine J.pull 5 rfl rfl ?_
              refine J.stE (L' := [.int .i64 (IntKind.wrap .i64 (i271 + 1))]) ti3 rfl rfl rfl rfl rfl ?_
              refine J.nx ?_
              refine C.seq ?_
              refine C.rs ?_
              refine J.r rfl rfl rfl rfl (Y.ldC 0 Try.underlying3 rfl rfl rfl rfl) ?_
              refine J.r rfl rfl rfl rfl (Y.ldC 4 Try.underlying3 rfl rfl rfl rfl) ?_
              refine J.p rfl rfl rfl rfl (Y.bin rfl rfl rfl) ?_
              refine J.nx ?_
              refine split2 H (fun c305 H => ?_) (fun c305 H => ?_)
              · refine C.condT (congrArg (fun b => some (Value.bool b)) (decide_eq_true c305)) ?_
                refine C.exit ?_
                refine X.th ?_
                refine X.hit ?_
                obtain rfl := Option.some.inj H
                exact N.round (IntKind.wrap .i64 (i271 + 1)) () rfl trivial (by exact fun w h => (St.pick [0, 1, 2, 3, 4, 6, 7, 5] [_, _, _, _, _, _, _, _] h rfl))
              · refine C.condF (congrArg (fun b => some (Value.bool b)) (decide_eq_false c305)) ?_
                refine C.skip ?_
                refine N.nx ?_
                refine C.rs ?_
                refine J.alloc (L := [.int .i64 0]) rfl ti3 rfl (fun g306 => ?_)
                refine J.stE (L' := [.int .i64 0]) ti3 rfl rfl rfl rfl rfl ?_
                refine J.nx ?_
                refine C.seq ?_
                refine C.rs ?_
                refine J.r rfl rfl rfl rfl (Y.ldC 4 Try.underlying39 rfl rfl rfl rfl) ?_
                refine J.nx ?_
                refine C.blk ?_
                refine C.sub (s' := [(2, .pointer (some ⟨g1, 0, none⟩)), (4, .pointer (some ⟨g3, 0, none⟩)), (5, .bool t5), (7, .pointer (some ⟨g17, 0, none⟩)), (8, .pointer (some ⟨g21, 0, none⟩)), (14, .pointer (some ⟨g111, 0, none⟩)), (17, .bool t181), (18, .bool t185), (19, .pointer (some ⟨g187, 0, none⟩)), (22, .pointer (some ⟨g306, 0, none⟩)), (82, .func (.func 40) #[] #[.pointer (some ⟨g15, 0, none⟩)]), (102, .func (.func 40) #[] #[.pointer (some ⟨g15, 0, none⟩)])]) (by exact ⟨rfl, rfl, rfl, rfl, rfl, rfl, rfl, rfl, rfl, rfl, rfl, rfl, trivial⟩) ?_
                have hkey : ∀ Gx, Gx = (G) → RdG B w0 Gx (some ⟨g15, 0, none⟩) [.slice A9 t7.length c10] ∧ RdG B w0 Gx A9 (t7.map (Value.int .u8)) ∧ RdG B w0 Gx Aa0 (a0.map (Value.int .u8)) ∧ RdG B w0 Gx j57.1 (o56.map (Value.int .u8)) ∧ RdG B w0 Gx j141.1 (i140.2.2.map (Value.int .u8)) ∧ True := by rintro _ rfl; exact ⟨hb282, hb283, hb285, hb286, hb288, trivial⟩
                obtain ⟨hb339, hb340, hb341, hb342, hb343, _⟩ := hkey _ rfl
                obtain ⟨t334, hC335, H⟩ := bind_some H
                refine C.rangeN' (E := Int) (Gb := G) (caps := [.pointer (some ⟨g15, 0, none⟩)]) encY62 (fun (i330 : Int) (j331 : Unit) => [cells g306 3 [.int .i64 i330], cells g187 3 [.int .i64 (IntKind.wrap .i64 (i271 + 1))], cells g1 25 [.slice Aa0 a0.length ca0], cells g3 4 [.bool false], cells g17 39 [.func (.func 40) #[] #[.pointer (some ⟨g15, 0, none⟩)]], cells g21 3 [.int .i64 o176], cells g111 4 [.bool i140.1], cells g23 25 [.slice j57.1 o56.length j57.2], cells g107 25 [.slice j141.1 i140.2.2.length j141.2]]) (fun (i330 : Int) (j331 : Unit) => True) (fun (e332 : Int) (k333 : Unit) => [cells g3 4 [.bool false], cells g1 25 [.slice Aa0 a0.length ca0], cells g17 39 [.func (.func 40) #[] #[.pointer (some ⟨g15, 0, none⟩)]], cells g21 3 [.int .i64 o176], cells g111 4 [.bool i140.1], cells g187 3 [.int .i64 (IntKind.wrap .i64 (i271 + 1))], cells g306 3 [.int .i64 e332], cells g23 25 [.slice j57.1 o56.length j57.2], cells g107 25 [.slice j141.1 i140.2.2.length j141.2]]) (fun (e332 : Int) (k333 : Unit) => True) (fun (_ : Int) => .ret) (fun (x336 : Int × Int) => [(2, .pointer (some ⟨g1, 0, none⟩)), (4, .pointer (some ⟨g3, 0, none⟩)), (5, .bool t5), (7, .pointer (some ⟨g17, 0, none⟩)), (8, .pointer (some ⟨g21, 0, none⟩)), (14, .pointer (some ⟨g111, 0, none⟩)), (17, .bool t181), (18, .bool t185), (19, .pointer (some ⟨g187, 0, none⟩)), (22, .pointer (some ⟨g306, 0, none⟩)), (24, .int .u8 x336.2), (82, .func (.func 40) #[] #[.pointer (some ⟨g15, 0, none⟩)]), (102, .func (.func 40) #[] #[.pointer (some ⟨g15, 0, none⟩)]), (103, .int .i64 x336.1), (104, .int .u8 x336.2)]) _ 0 () t334 (hl_suf hl281 [] rfl) rfl go40 (fun _ => rfl) (by rfl) (by decide) (pf_of rfl) trivial (fun w h => h) (fun Yy yv hy w hw => EachF.calls K _ _ t7 Yy yv g15 A9 c10 hy hb283 hc284 hb282 _ hC335 w hw) (fun l i330 j331 x336 L337 _ => ?_) (fun l i330 j331 x336 o L337 G hGG H _ hl338 => ?_) (fun i330 j331 hr _ => ?_) (fun e332 k333 hr hx => ?_)
                · refine C.sub (s' := [(2, .pointer (some ⟨g1, 0, none⟩)), (4, .pointer (some ⟨g3, 0, none⟩)), (5, .bool t5), (7, .pointer (some ⟨g17, 0, none⟩)), (8, .pointer (some ⟨g21, 0, none⟩)), (14, .pointer (some ⟨g111, 0, none⟩)), (17, .bool t181), (18, .bool t185), (19, .pointer (some ⟨g187, 0, none⟩)), (22, .pointer (some ⟨g306, 0, none⟩)), (82, .func (.func 40) #[] #[.pointer (some ⟨g15, 0, none⟩)]), (102, .func (.func 40) #[] #[.pointer (some ⟨g15, 0, none⟩)]), (103, .int .i64 x336.1), (104, .int .u8 x336.2)]) (by exact ⟨rfl, rfl, rfl, rfl, rfl, rfl, rfl, rfl, rfl, rfl, rfl, rfl, rfl, rfl, trivial⟩) ?_
                  refine C.reg ?_
                  refine J.p rfl rfl rfl rfl (Y.asg rfl) ?_
                  refine J.nil ?_
                  exact N.asg (by exact ⟨rfl, rfl, rfl, rfl, rfl, rfl, rfl, rfl, rfl, rfl, rfl, rfl, rfl, rfl, rfl, trivial⟩) (fun w h => h)
                · replace hb339 := RdG.suf hb339 L337 hGG
                  replace hb340 := RdG.suf hb340 L337 hGG
                  replace hb341 := RdG.suf hb341 L337 hGG
                  replace hb342 := RdG.suf hb342 L337 hGG
                  replace hb343 := RdG.suf hb343 L337 hGG
                  refine C.at (s' := [(2, .pointer (some ⟨g1, 0, none⟩)), (4, .pointer (some ⟨g3, 0, none⟩)), (5, .bool t5), (7, .pointer (some ⟨g17, 0, none⟩)), (8, .pointer (some ⟨g21, 0, none⟩)), (14, .pointer (some ⟨g111, 0, none⟩)), (17, .bool t181), (18, .bool t185), (19, .pointer (some ⟨g187, 0, none⟩)), (22, .pointer (some ⟨g306, 0, none⟩)), (24, .int .u8 x336.2), (82, .func (.func 40) #[] #[.pointer (some ⟨g15, 0, none⟩)]), (102, .func (.func 40) #[] #[.pointer (some ⟨g15, 0, none⟩)]), (103, .int .i64 x336.1), (104, .int .u8 x336.2)]) (G' := cells g306 3 [.int .i64 i330] :: cells g187 3 [.int .i64 (IntKind.wrap .i64 (i271 + 1))] :: cells g1 25 [.slice Aa0 a0.length ca0] :: cells g3 4 [.bool false] :: cells g17 39 [.func (.func 40) #[] #[.pointer (some ⟨g15, 0, none⟩)]] :: cells g21 3 [.int .i64 o176] :: cells g111 4 [.bool i140.1] :: cells g23 25 [.slice j57.1 o56.length j57.2] :: cells g107 25 [.slice j141.1 i140.2.2.length j141.2] :: G) rfl rfl ?_
                  refine C.blk ?_
                  refine C.seq ?_
                  refine C.rs ?_
                  refine J.joinB H (fun (o349 : Bool) (j350 : Unit) => [(2, .pointer (some ⟨g1, 0, none⟩)), (4, .pointer (some ⟨g3, 0, none⟩)), (5, .bool t5), (7, .pointer (some ⟨g17, 0, none⟩)), (8, .pointer (some ⟨g21, 0, none⟩)), (14, .pointer (some ⟨g111, 0, none⟩)), (17, .bool t181), (18, .bool t185), (19, .pointer (some ⟨g187, 0, none⟩)), (22, .pointer (some ⟨g306, 0, none⟩)), (82, .func (.func 40) #[] #[.pointer (some ⟨g15, 0, none⟩)]), (102, .func (.func 40) #[] #[.pointer (some ⟨g15, 0, none⟩)]), (116, .bool o349)]) (fun (o349 : Bool) (j350 : Unit) => cells g1 25 [.slice Aa0 a0.length ca0] :: cells g3 4 [.bool false] :: cells g17 39 [.func (.func 40) #[] #[.pointer (some ⟨g15, 0, none⟩)]] :: cells g21 3 [.int .i64 o176] :: cells g111 4 [.bool i140.1] :: cells g187 3 [.int .i64 (IntKind.wrap .i64 (i271 + 1))] :: cells g306 3 [.int .i64 i330] :: cells g23 25 [.slice j57.1 o56.length j57.2] :: cells g107 25 [.slice j141.1 i140.2.2.length j141.2] :: G) (fun (o349 : Bool) (j350 : Unit) => True) (fun o351 H HK352 => ?_) (fun o349 j350 H _ => ?_)
                  · refine J.r rfl rfl rfl rfl (Y.ldC 0 Try.underlying3 rfl rfl rfl rfl) ?_
                    refine J.r rfl rfl rfl rfl (Y.ldC 2 Try.underlying25 rfl rfl rfl rfl) ?_
                    refine J.p rfl rfl rfl rfl (Y.lenS Try.underlying25 rfl) ?_
                    refine J.p rfl rfl rfl rfl (Y.bin rfl rfl rfl) ?_
                    refine J.p rfl rfl rfl rfl (Y.mv rfl) ?_
                    refine split2 H (fun c353 H => ?_) (fun c353 H => ?_)
                    · refine J.as (k := 109) rfl (congrArg Value.bool (decide_eq_true c353)) ?_
                      refine J.skip rfl rfl ?_
                      refine J.skip rfl rfl ?_
                      refine J.skip rfl rfl ?_
                      refine J.skip rfl rfl ?_
                      refine J.skip rfl rfl ?_
                      refine J.skip rfl rfl ?_
                      refine J.p rfl rfl rfl rfl (Y.pickT rfl rfl) ?_
                      refine J.nil ?_
                      obtain rfl := Option.some.inj H
                      exact N.meet (true, ()) ⟨HK352, trivial⟩ (by exact ⟨rfl, rfl, rfl, rfl, rfl, rfl, rfl, rfl, rfl, rfl, rfl, rfl, rfl, trivial⟩) (by exact fun w h => (St.pick [2, 3, 4, 5, 6, 1, 0, 7, 8] [_, _, _, _, _, _, _, _, _] h rfl))
                    · refine J.as (k := 109) rfl (congrArg Value.bool (decide_eq_false c353)) ?_
                      refine J.p rfl rfl rfl rfl (Y.mv rfl) ?_
                      refine J.r rfl rfl rfl rfl (Y.ldC 2 Try.underlying25 rfl rfl rfl rfl) ?_
                      refine J.r rfl rfl rfl rfl (Y.ldC 0 Try.underlying3 rfl rfl rfl rfl) ?_
                      obtain ⟨p356, H⟩ := gd_some H
                      refine J.know ((hb341.suf [_, _, _, _, _, _, _, _, _] rfl).some_ (j := Int.toNat i330) (by rw [List.length_map]; exact idx_lt p356)) (fun hh => ?_)
                      obtain ⟨a354, ha355⟩ := hh
                      refine J.p rfl rfl rfl rfl (Y.ixa Try.underlying25 ti5 rfl rfl p356 ha355) ?_
                      obtain ⟨p357, H⟩ := gd_some H
                      refine J.r rfl rfl rfl rfl (Y.ldE Try.underlying5 rfl rfl ha355 p357 (hb341.suf [_, _, _, _, _, _, _, _, _] rfl)) ?_
                      refine J.p rfl rfl rfl rfl (Y.bin rfl rfl rfl) ?_
                      refine J.p rfl rfl rfl rfl (Y.pickF rfl rfl) ?_
                      refine J.nil ?_
                      obtain rfl := Option.some.inj H
                      exact N.meet (decide (x336.2 ≠ (rd a0 i330)), ()) ⟨HK352, trivial⟩ (by exact ⟨rfl, rfl, rfl, rfl, rfl, rfl, rfl, rfl, rfl, rfl, rfl, rfl, rfl, trivial⟩) (by exact fun w h => (St.pick [2, 3, 4, 5, 6, 1, 0, 7, 8] [_, _, _, _, _, _, _, _, _] h rfl))
                  · refine C.at (s' := [(2, .pointer (some ⟨g1, 0, none⟩)), (4, .pointer (some ⟨g3, 0, none⟩)), (5, .bool t5), (7, .pointer (some ⟨g17, 0, none⟩)), (8, .pointer (some ⟨g21, 0, none⟩)), (14, .pointer (some ⟨g111, 0, none⟩)), (17, .bool t181), (18, .bool t185), (19, .pointer (some ⟨g187, 0, none⟩)), (22, .pointer (some ⟨g306, 0, none⟩)), (82, .func (.func 40) #[] #[.pointer (some ⟨g15, 0, none⟩)]), (102, .func (.func 40) #[] #[.pointer (some ⟨g15, 0, none⟩)]), (116, .bool o349)]) (G' := cells g1 25 [.slice Aa0 a0.length ca0] :: cells g3 4 [.bool false] :: cells g17 39 [.func (.func 40) #[] #[.pointer (some ⟨g15, 0, none⟩)]] :: cells g21 3 [.int .i64 o176] :: cells g111 4 [.bool i140.1] :: cells g187 3 [.int .i64 (IntKind.wrap .i64 (i271 + 1))] :: cells g306 3 [.int .i64 i330] :: cells g23 25 [.slice j57.1 o56.length j57.2] :: cells g107 25 [.slice j141.1 i140.2.2.length j141.2] :: G) rfl rfl ?_
                    refine split2 H (fun c358 H => ?_) (fun c358 H => ?_)
                    · refine C.condT (congrArg (fun b => some (Value.bool b)) (c358)) ?_
                      refine C.rs ?_
                      refine J.pull 1 rfl rfl ?_
                      refine J.stE (L' := [.bool false]) ti4 rfl rfl rfl rfl rfl ?_
                      refine J.nx ?_
                      refine C.ret ?_
                      obtain rfl := Option.some.inj H
                      refine T.th ?_
                      refine T.ib ?_
                      exact T.round i330 () rfl rfl trivial (by exact fun w h => h)
                    · refine C.condF (congrArg (fun b => some (Value.bool b)) (nt c358)) ?_
                      refine C.skip ?_
                      refine N.nx ?_
                      refine C.reg ?_
                      refine J.r rfl rfl rfl rfl (Y.ldC 6 Try.underlying3 rfl rfl rfl rfl) ?_
                      refine J.p rfl rfl rfl rfl (Y.bin rfl rfl rfl) ?_
                      refine J.pull 6 rfl rfl ?_
                      refine J.stE (L' := [.int .i64 (IntKind.wrap .i64 (i330 + 1))]) ti3 rfl rfl rfl rfl rfl ?_
                      refine J.nil ?_
                      refine N.ib ?_
                      obtain rfl := Option.some.inj H
                      exact N.round (IntKind.wrap .i64 (i330 + 1)) () rfl trivial (by exact fun w h => (St.pick [0, 6, 1, 2, 3, 4, 5, 7, 8] [_, _, _, _, _, _, _, _, _] h rfl))
                · subst hr
                  replace H := ysel_inl H
                  refine N.at (s' := [(2, .pointer (some ⟨g1, 0, none⟩)), (4, .pointer (some ⟨g3, 0, none⟩)), (5, .bool t5), (7, .pointer (some ⟨g17, 0, none⟩)), (8, .pointer (some ⟨g21, 0, none⟩)), (14, .pointer (some ⟨g111, 0, none⟩)), (17, .bool t181), (18, .bool t185), (19, .pointer (some ⟨g187, 0, none⟩)), (22, .pointer (some ⟨g306, 0, none⟩)), (82, .func (.func 40) #[] #[.pointer (some ⟨g15, 0, none⟩)]), (102, .func (.func 40) #[] #[.pointer (some ⟨g15, 0, none⟩)])]) (G' := cells g306 3 [.int .i64 i330] :: cells g187 3 [.int .i64 (IntKind.wrap .i64 (i271 + 1))] :: cells g1 25 [.slice Aa0 a0.length ca0] :: cells g3 4 [.bool false] :: cells g17 39 [.func (.func 40) #[] #[.pointer (some ⟨g15, 0, none⟩)]] :: cells g21 3 [.int .i64 o176] :: cells g111 4 [.bool i140.1] :: cells g23 25 [.slice j57.1 o56.length j57.2] :: cells g107 25 [.slice j141.1 i140.2.2.length j141.2] :: G) rfl rfl ?_
                  refine N.ib ?_
                  refine N.nx ?_
                  refine C.rs ?_
                  refine J.r rfl rfl rfl rfl (Y.ldC 0 Try.underlying3 rfl rfl rfl rfl) ?_
                  refine J.r rfl rfl rfl rfl (Y.ldC 2 Try.underlying25 rfl rfl rfl rfl) ?_
                  refine J.p rfl rfl rfl rfl (Y.lenS Try.underlying25 rfl) ?_
                  refine J.p rfl rfl rfl rfl (Y.bin rfl rfl rfl) ?_
                  refine J.nx ?_
                  refine split2 H (fun c359 H => ?_) (fun c359 H => ?_)
                  · refine C.condT (congrArg (fun b => some (Value.bool b)) (decide_eq_true c359)) ?_
                    refine C.rs ?_
                    refine J.pull 3 rfl rfl ?_
                    refine J.stE (L' := [.bool false]) ti4 rfl rfl rfl rfl rfl ?_
                    refine J.nx ?_
                    refine C.ret ?_
                    obtain rfl := Option.some.inj H
                    refine T.ib ?_
                    exact T.round (IntKind.wrap .i64 (i271 + 1)) () rfl rfl trivial (by exact fun w h => (St.pick [0, 3, 4, 5, 6, 2, 7, 8] [_, _, _, _, _, _, _, _, _] h rfl))
                  · refine C.condF (congrArg (fun b => some (Value.bool b)) (decide_eq_false c359)) ?_
                    refine C.skip ?_
                    refine N.ib ?_
                    obtain rfl := Option.some.inj H
                    exact N.round (IntKind.wrap .i64 (i271 + 1)) () rfl trivial (by exact fun w h => (St.pick [1, 2, 3, 4, 5, 7, 8, 6] [_, _, _, _, _, _, _, _, _] h rfl))
                · subst hr
                  replace H := ysel_inr H
                  refine C.at (s' := [(2, .pointer (some ⟨g1, 0, none⟩)), (4, .pointer (some ⟨g3, 0, none⟩)), (5, .bool t5), (7, .pointer (some ⟨g17, 0, none⟩)), (8, .pointer (some ⟨g21, 0, none⟩)), (14, .pointer (some ⟨g111, 0, none⟩)), (17, .bool t181), (18, .bool t185), (19, .pointer (some ⟨g187, 0, none⟩)), (22, .pointer (some ⟨g306, 0, none⟩)), (82, .func (.func 40) #[] #[.pointer (some ⟨g15, 0, none⟩)]), (102, .func (.func 40) #[] #[.pointer (some ⟨g15, 0, none⟩)])]) (G' := cells g3 4 [.bool false] :: cells g1 25 [.slice Aa0 a0.length ca0] :: cells g17 39 [.func (.func 40) #[] #[.pointer (some ⟨g15, 0, none⟩)]] :: cells g21 3 [.int .i64 o176] :: cells g111 4 [.bool i140.1] :: cells g187 3 [.int .i64 (IntKind.wrap .i64 (i271 + 1))] :: cells g306 3 [.int .i64 e332] :: cells g23 25 [.slice j57.1 o56.length j57.2] :: cells g107 25 [.slice j141.1 i140.2.2.length j141.2] :: G) rfl rfl ?_
                  refine C.ret ?_
                  obtain rfl := Option.some.inj H
                  refine T.ib ?_
                  refine T.th ?_
                  refine T.ib ?_
                  exact T.round (IntKind.wrap .i64 (i271 + 1)) () rfl rfl trivial (by exact fun w h => (St.pick [0, 1, 2, 3, 4, 5, 7, 8] [_, _, _, _, _, _, _, _, _] h rfl))
        · subst hr
          replace H := ysel_inl H
          refine N.at (s' := [(2, .pointer (some ⟨g1, 0, none⟩)), (4, .pointer (some ⟨g3, 0, none⟩)), (5, .bool t5), (7, .pointer (some ⟨g17, 0, none⟩)), (8, .pointer (some ⟨g21, 0, none⟩)), (14, .pointer (some ⟨g111, 0, none⟩)), (17, .bool t181), (18, .bool t185), (19, .pointer (some ⟨g187, 0, none⟩)), (82, .func (.func 40) #[] #[.pointer (some ⟨g15, 0, none⟩)])]) (G' := dblks ds273 :: cells g187 3 [.int .i64 i271] :: cells g1 25 [.slice Aa0 a0.length ca0] :: cells g3 4 [.bool false] :: cells g17 39 [.func (.func 40) #[] #[.pointer (some ⟨g15, 0, none⟩)]] :: cells g21 3 [.int .i64 o176] :: cells g23 25 [.slice j57.1 o56.length j57.2] :: cells g107 25 [.slice j141.1 i140.2.2.length j141.2] :: cells g111 4 [.bool i140.1] :: cells g15 25 [.slice A9 t7.length c10] :: own 5 1 j57.1 j57.2 (o56.map (Value.int .u8)) :: own 5 1 j141.1 j141.2 (i140.2.2.map (Value.int .u8)) :: own 5 1 A9 c10 (t7.map (Value.int .u8)) :: G) rfl rfl ?_
          refine N.ib ?_
          refine N.nx ?_
          refine C.rs ?_
          refine J.p rfl rfl rfl rfl (Y.mv rfl) ?_
          refine J.p rfl rfl rfl rfl (Y.mv rfl) ?_
          refine split2 H (fun c360 H => ?_) (fun c360 H => ?_)
          · refine J.as (k := 124) rfl (congrArg Value.bool (c360)) ?_
            refine J.r rfl rfl rfl rfl (Y.ldC 8 Try.underlying4 rfl rfl rfl rfl) ?_
            refine J.p rfl rfl rfl rfl (Y.pickT rfl rfl) ?_
            refine J.p rfl rfl rfl rfl (Y.mv rfl) ?_
            refine split2 H (fun c361 H => ?_) (fun c361 H => ?_)
            · refine J.as (k := 127) rfl (congrArg Value.bool (c361)) ?_
              refine J.p rfl rfl rfl rfl (Y.mv rfl) ?_
              refine J.p rfl rfl rfl rfl (Y.pickT rfl rfl) ?_
              refine J.p rfl rfl rfl rfl (Y.mv rfl) ?_
              refine split2 H (fun c362 H => ?_) (fun c362 H => ?_)
              · refine J.as (k := 130) rfl (congrArg Value.bool (c362)) ?_
                refine J.p rfl rfl rfl rfl (Y.mv rfl) ?_
                refine J.p rfl rfl rfl rfl (Y.pickT rfl rfl) ?_
                refine J.p rfl rfl rfl rfl (Y.mv rfl) ?_
                refine split2 H (fun c363 H => ?_) (fun c363 H => ?_)
                · refine J.as (k := 133) rfl (congrArg Value.bool (c363)) ?_
                  refine J.r rfl rfl rfl rfl (Y.ldC 1 Try.underlying3 rfl rfl rfl rfl) ?_
                  refine J.r rfl rfl rfl rfl (Y.ldC 2 Try.underlying25 rfl rfl rfl rfl) ?_
                  refine J.p rfl rfl rfl rfl (Y.lenS Try.underlying25 rfl) ?_
                  refine J.p rfl rfl rfl rfl (Y.bin rfl rfl rfl) ?_
                  refine J.p rfl rfl rfl rfl (Y.pickT rfl rfl) ?_
                  refine J.pull 3 rfl rfl ?_
                  refine J.stE (L' := [.bool (decide (i271 = (a0.length : Int)))]) ti4 rfl rfl rfl rfl rfl ?_
                  refine J.nx ?_
                  refine C.ret ?_
                  obtain rfl := Option.some.inj H
                  exact ret_okM (cells g3 4 [.bool (decide (i271 = (a0.length : Int)))] :: cells g187 3 [.int .i64 i271] :: cells g1 25 [.slice Aa0 a0.length ca0] :: cells g17 39 [.func (.func 40) #[] #[.pointer (some ⟨g15, 0, none⟩)]] :: cells g21 3 [.int .i64 o176] :: cells g23 25 [.slice j57.1 o56.length j57.2] :: cells g107 25 [.slice j141.1 i140.2.2.length j141.2] :: cells g111 4 [.bool i140.1] :: cells g15 25 [.slice A9 t7.length c10] :: own 5 1 j57.1 j57.2 (o56.map (Value.int .u8)) :: own 5 1 j141.1 j141.2 (i140.2.2.map (Value.int .u8)) :: own 5 1 A9 c10 (t7.map (Value.int .u8)) :: G) (rvs := [.cell 4 4]) (vs := [.bool (decide (i271 = (a0.length : Int)))]) rfl ⟨RV.cell 0 Try.underlying4 rfl rfl rfl rfl, trivial⟩ (fun w h => (St.pick [1, 0, 2, 3, 4, 5, 6, 7, 8, 9, 10, 11, 12] [_, _, _, _, _, _, _, _, _, _, _, _, _] h rfl)) (fun w h => ⟨rfl, (St.pick [] [_, _, _, _, _, _, _, _, _, _, _, _] h rfl)⟩)
                · refine J.as (k := 133) rfl (congrArg Value.bool (nt c363)) ?_
                  refine J.skip rfl rfl ?_
                  refine J.skip rfl rfl ?_
                  refine J.skip rfl rfl ?_
                  refine J.skip rfl rfl ?_
                  refine J.p rfl rfl rfl rfl (Y.pickF rfl rfl) ?_
                  refine J.pull 3 rfl rfl ?_
                  refine J.stE (L' := [.bool false]) ti4 rfl rfl rfl rfl rfl ?_
                  refine J.nx ?_
                  refine C.ret ?_
                  obtain rfl := Option.some.inj H
                  exact ret_okM (cells g3 4 [.bool false] :: cells g187 3 [.int .i64 i271] :: cells g1 25 [.slice Aa0 a0.length ca0] :: cells g17 39 [.func (.func 40) #[] #[.pointer (some ⟨g15, 0, none⟩)]] :: cells g21 3 [.int .i64 o176] :: cells g23 25 [.slice j57.1 o56.length j57.2] :: cells g107 25 [.slice j141.1 i140.2.2.length j141.2] :: cells g111 4 [.bool i140.1] :: cells g15 25 [.slice A9 t7.length c10] :: own 5 1 j57.1 j57.2 (o56.map (Value.int .u8)) :: own 5 1 j141.1 j141.2 (i140.2.2.map (Value.int .u8)) :: own 5 1 A9 c10 (t7.map (Value.int .u8)) :: G) (rvs := [.cell 4 4]) (vs := [.bool false]) rfl ⟨RV.cell 0 Try.underlying4 rfl rfl rfl rfl, trivial⟩ (fun w h => (St.pick [1, 0, 2, 3, 4, 5, 6, 7, 8, 9, 10, 11, 12] [_, _, _, _, _, _, _, _, _, _, _, _, _] h rfl)) (fun w h => ⟨rfl, (St.pick [] [_, _, _, _, _, _, _, _, _, _, _, _] h rfl)⟩)
              · refine J.as (k := 130) rfl (congrArg Value.bool (nt c362)) ?_
                refine J.skip rfl rfl ?_
                refine J.p rfl rfl rfl rfl (Y.pickF rfl rfl) ?_
                refine J.p rfl rfl rfl rfl (Y.mv rfl) ?_
                refine J.skip rfl rfl ?_
                refine J.skip rfl rfl ?_
                refine J.skip rfl rfl ?_
                refine J.skip rfl rfl ?_
                refine J.p rfl rfl rfl rfl (Y.pickF rfl rfl) ?_
                refine J.pull 3 rfl rfl ?_
                refine J.stE (L' := [.bool false]) ti4 rfl rfl rfl rfl rfl ?_
                refine J.nx ?_
                refine C.ret ?_
                obtain rfl := Option.some.inj H
                exact ret_okM (cells g3 4 [.bool false] :: cells g187 3 [.int .i64 i271] :: cells g1 25 [.slice Aa0 a0.length ca0] :: cells g17 39 [.func (.func 40) #[] #[.pointer (some ⟨g15, 0, none⟩)]] :: cells g21 3 [.int .i64 o176] :: cells g23 25 [.slice j57.1 o56.length j57.2] :: cells g107 25 [.slice j141.1 i140.2.2.length j141.2] :: cells g111 4 [.bool i140.1] :: cells g15 25 [.slice A9 t7.length c10] :: own 5 1 j57.1 j57.2 (o56.map (Value.int .u8)) :: own 5 1 j141.1 j141.2 (i140.2.2.map (Value.int .u8)) :: own 5 1 A9 c10 (t7.map (Value.int .u8)) :: G) (rvs := [.cell 4 4]) (vs := [.bool false]) rfl ⟨RV.cell 0 Try.underlying4 rfl rfl rfl rfl, trivial⟩ (fun w h => (St.pick [1, 0, 2, 3, 4, 5, 6, 7, 8, 9, 10, 11, 12] [_, _, _, _, _, _, _, _, _, _, _, _, _] h rfl)) (fun w h => ⟨rfl, (St.pick [] [_, _, _, _, _, _, _, _, _, _, _, _] h rfl)⟩)
            · refine J.as (k := 127) rfl (congrArg Value.bool (nt c361)) ?_
              refine J.skip rfl rfl ?_
              refine J.p rfl rfl rfl rfl (Y.pickF rfl rfl) ?_
              refine J.p rfl rfl rfl rfl (Y.mv rfl) ?_
              refine J.skip rfl rfl ?_
              refine J.p rfl rfl rfl rfl (Y.pickF rfl rfl) ?_
              refine J.p rfl rfl rfl rfl (Y.mv rfl) ?_
              refine J.skip rfl rfl ?_
              refine J.skip rfl rfl ?_
              refine J.skip rfl rfl ?_
              refine J.skip rfl rfl ?_
              refine J.p rfl rfl rfl rfl (Y.pickF rfl rfl) ?_
              refine J.pull 3 rfl rfl ?_
              refine J.stE (L' := [.bool false]) ti4 rfl rfl rfl rfl rfl ?_
              refine J.nx ?_
              refine C.ret ?_
              obtain rfl := Option.some.inj H
              exact ret_okM (cells g3 4 [.bool false] :: cells g187 3 [.int .i64 i271] :: cells g1 25 [.slice Aa0 a0.length ca0] :: cells g17 39 [.func (.func 40) #[] #[.pointer (some ⟨g15, 0, none⟩)]] :: cells g21 3 [.int .i64 o176] :: cells g23 25 [.slice j57.1 o56.length j57.2] :: cells g107 25 [.slice j141.1 i140.2.2.length j141.2] :: cells g111 4 [.bool i140.1] :: cells g15 25 [.slice A9 t7.length c10] :: own 5 1 j57.1 j57.2 (o56.map (Value.int .u8)) :: own 5 1 j141.1 j141.2 (i140.2.2.map (Value.int .u8)) :: own 5 1 A9 c10 (t7.map (Value.int .u8)) :: G) (rvs := [.cell 4 4]) (vs := [.bool false]) rfl ⟨RV.cell 0 Try.underlying4 rfl rfl rfl rfl, trivial⟩ (fun w h => (St.pick [1, 0, 2, 3, 4, 5, 6, 7, 8, 9, 10, 11, 12] [_, _, _, _, _, _, _, _, _, _, _, _, _] h rfl)) (fun w h => ⟨rfl, (St.pick [] [_, _, _, _, _, _, _, _, _, _, _, _] h rfl)⟩)
          · refine J.as (k := 124) rfl (congrArg Value.bool (nt c360)) ?_
            refine J.skip rfl rfl ?_
            refine J.p rfl rfl rfl rfl (Y.pickF rfl rfl) ?_
            refine J.p rfl rfl rfl rfl (Y.mv rfl) ?_
            refine J.skip rfl rfl ?_
            refine J.p rfl rfl rfl rfl (Y.pickF rfl rfl) ?_
            refine J.p rfl rfl rfl rfl (Y.mv rfl) ?_
            refine J.skip rfl rfl ?_
            refine J.p rfl rfl rfl rfl (Y.pickF rfl rfl) ?_
            refine J.p rfl rfl rfl rfl (Y.mv rfl) ?_
            refine J.skip rfl rfl ?_
            refine J.skip rfl rfl ?_
            refine J.skip rfl rfl ?_
            refine J.skip rfl rfl ?_
            refine J.p rfl rfl rfl rfl (Y.pickF rfl rfl) ?_
            refine J.pull 3 rfl rfl ?_
            refine J.stE (L' := [.bool false]) ti4 rfl rfl rfl rfl rfl ?_
            refine J.nx ?_
            refine C.ret ?_
            obtain rfl := Option.some.inj H
            exact ret_okM (cells g3 4 [.bool false] :: cells g187 3 [.int .i64 i271] :: cells g1 25 [.slice Aa0 a0.length ca0] :: cells g17 39 [.func (.func 40) #[] #[.pointer (some ⟨g15, 0, none⟩)]] :: cells g21 3 [.int .i64 o176] :: cells g23 25 [.slice j57.1 o56.length j57.2] :: cells g107 25 [.slice j141.1 i140.2.2.length j141.2] :: cells g111 4 [.bool i140.1] :: cells g15 25 [.slice A9 t7.length c10] :: own 5 1 j57.1 j57.2 (o56.map (Value.int .u8)) :: own 5 1 j141.1 j141.2 (i140.2.2.map (Value.int .u8)) :: own 5 1 A9 c10 (t7.map (Value.int .u8)) :: G) (rvs := [.cell 4 4]) (vs := [.bool false]) rfl ⟨RV.cell 0 Try.underlying4 rfl rfl rfl rfl, trivial⟩ (fun w h => (St.pick [1, 0, 2, 3, 4, 5, 6, 7, 8, 9, 10, 11, 12] [_, _, _, _, _, _, _, _, _, _, _, _, _] h rfl)) (fun w h => ⟨rfl, (St.pick [] [_, _, _, _, _, _, _, _, _, _, _, _] h rfl)⟩)
        · subst hr
          replace H := ysel_inr H
          refine C.at (s' := [(2, .pointer (some ⟨g1, 0, none⟩)), (4, .pointer (some ⟨g3, 0, none⟩)), (5, .bool t5), (7, .pointer (some ⟨g17, 0, none⟩)), (8, .pointer (some ⟨g21, 0, none⟩)), (14, .pointer (some ⟨g111, 0, none⟩)), (17, .bool t181), (18, .bool t185), (19, .pointer (some ⟨g187, 0, none⟩)), (82, .func (.func 40) #[] #[.pointer (some ⟨g15, 0, none⟩)])]) (G' := dblks ds273 :: cells g3 4 [.bool false] :: cells g1 25 [.slice Aa0 a0.length ca0] :: cells g17 39 [.func (.func 40) #[] #[.pointer (some ⟨g15, 0, none⟩)]] :: cells g21 3 [.int .i64 o176] :: cells g111 4 [.bool i140.1] :: cells g187 3 [.int .i64 e274] :: cells g23 25 [.slice j57.1 o56.length j57.2] :: cells g107 25 [.slice j141.1 i140.2.2.length j141.2] :: cells g15 25 [.slice A9 t7.length c10] :: own 5 1 j57.1 j57.2 (o56.map (Value.int .u8)) :: own 5 1 j141.1 j141.2 (i140.2.2.map (Value.int .u8)) :: own 5 1 A9 c10 (t7.map (Value.int .u8)) :: G) rfl rfl ?_
          refine C.ret ?_
          obtain rfl := Option.some.inj H
          refine T.ib ?_
          refine T.th ?_
          exact ret_okM (cells g3 4 [.bool false] :: cells g1 25 [.slice Aa0 a0.length ca0] :: cells g17 39 [.func (.func 40) #[] #[.pointer (some ⟨g15, 0, none⟩)]] :: cells g21 3 [.int .i64 o176] :: cells g111 4 [.bool i140.1] :: cells g187 3 [.int .i64 e274] :: cells g23 25 [.slice j57.1 o56.length j57.2] :: cells g107 25 [.slice j141.1 i140.2.2.length j141.2] :: cells g15 25 [.slice A9 t7.length c10] :: own 5 1 j57.1 j57.2 (o56.map (Value.int .u8)) :: own 5 1 j141.1 j141.2 (i140.2.2.map (Value.int .u8)) :: own 5 1 A9 c10 (t7.map (Value.int .u8)) :: G) (rvs := [.cell 4 4]) (vs := [.bool false]) rfl ⟨RV.cell 0 Try.underlying4 rfl rfl rfl rfl, trivial⟩ (fun w h => h) (fun w h => ⟨rfl, (St.pick [] [_, _, _, _, _, _, _, _, _, _, _, _] h rfl)⟩)
    · subst hr
      replace H := ysel_inr H
      refine C.at (s' := [(2, .pointer (some ⟨g1, 0, none⟩)), (4, .pointer (some ⟨g3, 0, none⟩)), (5, .bool t5), (7, .pointer (some ⟨g17, 0, none⟩)), (8, .pointer (some ⟨g21, 0, none⟩)), (9, .pointer (some ⟨g23, 0, none⟩)), (12, .pointer (some ⟨g107, 0, none⟩)), (13, .pointer (some ⟨g109, 0, none⟩)), (14, .pointer (some ⟨g111, 0, none⟩)), (49, .func (.func 40) #[] #[.pointer (some ⟨g15, 0, none⟩)])]) (G' := dblks ds143 :: cells g3 4 [.bool false] :: own 5 1 k145.1 k145.2 (e144.1.map (Value.int .u8)) :: cells g107 25 [.slice k145.1 e144.1.length k145.2] :: cells g109 3 [.int .i64 e144.2.1] :: cells g1 25 [.slice Aa0 a0.length ca0] :: cells g17 39 [.func (.func 40) #[] #[.pointer (some ⟨g15, 0, none⟩)]] :: cells g21 3 [.int .i64 (IntKind.wrap .i64 (1 + t19))] :: cells g23 25 [.slice j57.1 o56.length j57.2] :: cells g111 4 [.bool e144.2.2] :: own 5 1 j57.1 j57.2 (o56.map (Value.int .u8)) :: cells g15 25 [.slice A9 t7.length c10] :: own 5 1 A9 c10 (t7.map (Value.int .u8)) :: G) rfl rfl ?_
      refine C.ret ?_
      obtain rfl := Option.some.inj H
      refine T.ib ?_
      refine T.th ?_
      exact ret_okM (cells g3 4 [.bool false] :: own 5 1 k145.1 k145.2 (e144.1.map (Value.int .u8)) :: cells g107 25 [.slice k145.1 e144.1.length k145.2] :: cells g109 3 [.int .i64 e144.2.1] :: cells g1 25 [.slice Aa0 a0.length ca0] :: cells g17 39 [.func (.func 40) #[] #[.pointer (some ⟨g15, 0, none⟩)]] :: cells g21 3 [.int .i64 (IntKind.wrap .i64 (1 + t19))] :: cells g23 25 [.slice j57.1 o56.length j57.2] :: cells g111 4 [.bool e144.2.2] :: own 5 1 j57.1 j57.2 (o56.map (Value.int .u8)) :: cells g15 25 [.slice A9 t7.length c10] :: own 5 1 A9 c10 (t7.map (Value.int .u8)) :: G) (rvs := [.cell 4 4]) (vs := [.bool false]) rfl ⟨RV.cell 0 Try.underlying4 rfl rfl rfl rfl, trivial⟩ (fun w h => h) (fun w h => ⟨rfl, (St.pick [] [_, _, _, _, _, _, _, _, _, _, _, _] h rfl)⟩)
end Go.Proofs.Ytgikgekddnfheaa
