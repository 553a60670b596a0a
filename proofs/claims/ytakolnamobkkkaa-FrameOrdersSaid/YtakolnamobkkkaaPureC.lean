/- Own text. What is read out of a frame's body is written so again. Conditions: bytes. -/
import Derived.Test.YtakolnamobkkkaaPureA
set_option linter.unusedSimpArgs false
set_option linter.unusedVariables false
set_option maxRecDepth 100000
namespace Go.Proofs.Ytakolnamobkkkaa
open Go Go.Sx

theorem bytes_str {xs : List Int} (h : Byt xs) : bytesOf (strOfNums xs) = xs := by
  unfold bytesOf
  rw [strOfNums_data, List.map_map]
  refine (List.map_congr_left fun x hx => ?_).trans (List.map_id xs)
  have := h x hx
  simp only [Function.comp_apply, UInt8.toNat_ofNat', id]
  omega
theorem bytes_app (a b : ByteArray) : bytesOf (a ++ b) = bytesOf a ++ bytesOf b := by
  unfold bytesOf; simp [ByteArray.data_append]
theorem bt_str (c : Int) (h : 0 ≤ c ∧ c < 256) : bt (strOfNums [c]) 0 = c := by
  unfold bt
  rw [strOfNums_data]
  simp [UInt8.toNat_ofNat']
  omega
theorem wu64 (n : Nat) (h : n < 18446744073709551616) : IntKind.wrap .u64 (n : Int) = (n : Int) := by rw [wrapU .u64 rfl]; show (n : Int) % 18446744073709551616 = _; omega
theorem wu32 (n : Nat) (h : n < 4294967296) : IntKind.wrap .u32 (n : Int) = (n : Int) := by rw [wrapU .u32 rfl]; show (n : Int) % 4294967296 = _; omega
theorem wu8 (n : Int) (h : 0 ≤ n ∧ n < 256) : IntKind.wrap .u8 n = n := by
  obtain ⟨n, rfl⟩ : ∃ m : Nat, n = m := ⟨n.toNat, by omega⟩
  rw [wrapU .u8 rfl]; show (n : Int) % 256 = _; omega

theorem ttext.rel (b : List Int) (e : Bool) (n : Int) (hb : Byt b) (h0 : 0 ≤ n) : Ans (ttext.f b e n) (fun t => Byt t.2.1 ∧ t.2.1.length ≤ b.length ∧ (t.2.2 = false → e = false ∧ n.toNat ≤ b.length ∧ t.1 = strOfNums (b.take n.toNat) ∧ t.2.1 = b.drop n.toNat)) := by
  unfold ttext.f
  refine Ans.ite (fun _ => Ans.some ⟨hb, Nat.le_refl _, fun h => by simp at h⟩) (fun h => ?_)
  refine Ans.gd (by omega) (Ans.gd (by omega) (Ans.some ⟨by rw [List.take_length]; exact hb.drop _, by simp, fun he => ⟨he, by omega, ?_, ?_⟩⟩))
  · rw [List.drop_zero]
  · rw [List.take_length]
theorem tnumber.rel (K : Nat) (hK : 11 ≤ K) (b : List Int) (e : Bool) (hb : Byt b) (hl : b.length ≤ 140737488355328) : Ans (tnumber.f K b e) (fun t => Byt t.2.1 ∧ t.2.1.length ≤ b.length ∧ ∃ v : Nat, t.1 = v ∧ v < 18446744073709551616 ∧ (t.2.2 = false → e = false ∧ b = enc1 v ++ t.2.1)) := by
  unfold tnumber.f
  obtain ⟨t, h1, h2⟩ := Decode.eq b hb hl K hK
  refine Ans.bind (Q := fun v => v = t) ⟨t, h1, rfl⟩ (fun v hv => ?_)
  subst hv
  refine Ans.ite (fun _ => Ans.some ⟨hb, Nat.le_refl _, 0, rfl, by omega, fun h => by simp at h⟩) (fun h => ?_)
  obtain ⟨j, k1, k2, k3, k4, k5, k6⟩ := DecR.num hb h2 (by omega)
  refine Ans.gd (by omega) (Ans.some ⟨by rw [List.take_length]; exact hb.drop _, by simp, val (b.take (j + 1)), k4, k6, fun he => ⟨he, ?_⟩⟩)
  show b = enc1 (val (b.take (j + 1))) ++ (b.take b.length).drop (Int.toNat v.2.1)
  rw [enc_val _ k5, List.take_length, k3, Int.toNat_natCast, List.take_append_drop]
theorem tsmall.rel (K : Nat) (hK : 11 ≤ K) (b : List Int) (e : Bool) (hb : Byt b) (hl : b.length ≤ 140737488355328) : Ans (tsmall.f K b e) (fun t => Byt t.2.1 ∧ t.2.1.length ≤ b.length ∧ ∃ v : Nat, t.1 = v ∧ v < 4294967296 ∧ (t.2.2 = false → e = false ∧ b = enc1 v ++ t.2.1)) := by
  unfold tsmall.f
  refine Ans.bind (tnumber.rel K hK b e hb hl) (fun t ht => ?_)
  obtain ⟨b1, l1, v, e1, hv, h1⟩ := ht
  refine Ans.ite (fun _ => Ans.some ⟨b1, l1, 0, rfl, by omega, fun h => by simp at h⟩) (fun h => Ans.some ⟨b1, l1, v, ?_, by omega, h1⟩)
  show IntKind.wrap .i64 t.1 = v
  rw [w64 (by omega) (by omega), e1]
theorem tall.rel (b : List Int) (e : Bool) (hb : Byt b) : Ans (tall.f b e) (fun t => (t.2.2 = false → e = false ∧ t.1 = strOfNums b)) := by
  unfold tall.f
  refine Ans.bind (ttext.rel b e _ hb (by omega)) (fun v hv => Ans.some (fun h => ?_))
  obtain ⟨h1, h2, h3, h4⟩ := hv.2.2 h
  refine ⟨h1, ?_⟩
  show v.1 = _
  rw [h3, Int.toNat_natCast, List.take_length]

abbrev bodyF (K : Nat) (t : Int × Int × Int × ByteArray × ByteArray × Int × Int × Int × Int × ByteArray × Int × Int × Int × Int × Bool) : Option (List Int × Int) := fBody.f K t.1 t.2.1 t.2.2.1 t.2.2.2.1 t.2.2.2.2.1 t.2.2.2.2.2.1 t.2.2.2.2.2.2.1 t.2.2.2.2.2.2.2.1 t.2.2.2.2.2.2.2.2.1 t.2.2.2.2.2.2.2.2.2.1 t.2.2.2.2.2.2.2.2.2.2.1 t.2.2.2.2.2.2.2.2.2.2.2.1 t.2.2.2.2.2.2.2.2.2.2.2.2.1 t.2.2.2.2.2.2.2.2.2.2.2.2.2.1
theorem enc_one (K : Nat) (hK : 11 ≤ K) (v : Nat) (h : v < 18446744073709551616) : Encode.f K [(v : Int)] = some (enc1 v) := Encode.one v h K (by omega)
theorem enc_two (K : Nat) (hK : 11 ≤ K) (v u : Nat) (h : v < 18446744073709551616) (h2 : u < 18446744073709551616) : Encode.f K [(v : Int), (u : Int)] = some (enc1 v ++ enc1 u) := by
  have := Encode.eq [(v : Int), (u : Int)] (by intro x hx; simp at hx; omega) (by simp) K (by omega) (by simp; omega)
  rw [this]; simp
theorem enc_four (K : Nat) (hK : 11 ≤ K) (v u x y : Nat) (h : v < 18446744073709551616) (h2 : u < 18446744073709551616) (h3 : x < 18446744073709551616) (h4 : y < 18446744073709551616) : Encode.f K [(v : Int), (u : Int), (x : Int), (y : Int)] = some (enc1 v ++ (enc1 u ++ (enc1 x ++ enc1 y))) := by
  have := Encode.eq [(v : Int), (u : Int), (x : Int), (y : Int)] (by intro z hz; simp at hz; omega) (by simp) K (by omega) (by simp; omega)
  rw [this]; simp
theorem el (v : Nat) (h : v < 18446744073709551616) : (enc1 v).length ≤ 10 := (enc1_len h).1

theorem parse.rel (K : Nat) (hK : 11 ≤ K) (b : List Int) (hb : Byt b) (hl : b.length ≤ 1099511627776) : Ans (parse.f K b) (fun t => t.2.2.2.2.2.2.2.2.2.2.2.2.2.2 = true → b ≠ [] ∧ bodyF K t = some (b, 0)) := by
  unfold parse.f
  refine Ans.bind (ttext.rel b false 1 hb (by omega)) (fun t5 h5 => ?_)
  obtain ⟨b5, l5, s5⟩ := h5
  refine Ans.ite (fun _ => Ans.some (fun h => by simp at h)) (fun hne => ?_)
  obtain ⟨_, g1, g2, g3⟩ := s5 (by simpa using hne)
  cases b with
  | nil => simp at g1
  | cons c r =>
    have e1 : (c :: r).take (Int.toNat 1) = [c] := rfl
    have e2 : (c :: r).drop (Int.toNat 1) = r := rfl
    rw [e1] at g2; rw [e2] at g3
    have hc := hb c List.mem_cons_self
    rw [List.length_cons] at hl
    have hc64 : IntKind.wrap .i64 (bt t5.1 0) = c := by rw [g2, bt_str c hc, w64 (by omega) (by omega)]
    have hc8 := wu8 c hc
    refine Ans.gd (by rw [g2, size_str]; exact ⟨Int.le_refl 0, by simp⟩) ?_
    simp only [hc64]
    rw [g3] at b5 l5 ⊢
    have hrl : r.length ≤ 1099511627776 := by omega
    refine Ans.bind (Q := fun o => o.2.1 = false → o.1 = [] → check.f c o.2.2.1 o.2.2.2.1 o.2.2.2.2.1 o.2.2.2.2.2.1 o.2.2.2.2.2.2.1 o.2.2.2.2.2.2.2.1 o.2.2.2.2.2.2.2.2.1 o.2.2.2.2.2.2.2.2.2.1 o.2.2.2.2.2.2.2.2.2.2.1 o.2.2.2.2.2.2.2.2.2.2.2.1 o.2.2.2.2.2.2.2.2.2.2.2.2.1 o.2.2.2.2.2.2.2.2.2.2.2.2.2.1 o.2.2.2.2.2.2.2.2.2.2.2.2.2.2 = some 0 → fBody.f K c o.2.2.1 o.2.2.2.1 o.2.2.2.2.1 o.2.2.2.2.2.1 o.2.2.2.2.2.2.1 o.2.2.2.2.2.2.2.1 o.2.2.2.2.2.2.2.2.1 o.2.2.2.2.2.2.2.2.2.1 o.2.2.2.2.2.2.2.2.2.2.1 o.2.2.2.2.2.2.2.2.2.2.2.1 o.2.2.2.2.2.2.2.2.2.2.2.2.1 o.2.2.2.2.2.2.2.2.2.2.2.2.2.1 o.2.2.2.2.2.2.2.2.2.2.2.2.2.2 = some (c :: r, 0)) ?_ (fun o ho => ?_)
    · refine Ans.ite (fun c1 => ?_) (fun n1 => Ans.ite (fun c2 => ?_) (fun n2 => Ans.ite (fun c3 => ?_) (fun n3 => Ans.ite (fun c4 => ?_) (fun n4 => ?_))))
      · refine Ans.bind (tnumber.rel K hK _ _ b5 (by omega)) (fun t1 h1 => ?_)
        obtain ⟨b1, l1, v, ev, hv, h1⟩ := h1
        refine Ans.bind (tsmall.rel K hK _ _ b1 (by omega)) (fun t2 h2 => ?_)
        obtain ⟨b2, l2, u, eu, hu, h2⟩ := h2
        refine Ans.bind (ttext.rel _ _ _ b2 (by omega)) (fun t3 h3 => ?_)
        obtain ⟨b3, l3, h3⟩ := h3
        refine Ans.bind (tall.rel _ _ b3) (fun t4 h4 => Ans.some (fun hf hr hk => ?_))
        simp only at hf hr hk ⊢
        obtain ⟨f3, k4⟩ := h4 hf
        obtain ⟨f2, m3, k3, r3⟩ := h3 f3
        obtain ⟨f1, k2⟩ := h2 f2
        obtain ⟨f0, k1⟩ := h1 f1
        rw [eu, Int.toNat_natCast] at m3 k3 r3
        have ez : t3.1.size = u := by rw [k3, size_str, List.length_take]; omega
        have z2 : t4.1.size = t2.2.1.length - u := by rw [k4, size_str, r3, List.length_drop]
        unfold fBody.f
        rw [hk, Option.bind_some, if_neg (by decide), if_pos c1, ez, wu64 u (by omega), ev, enc_two K hK v u hv (by omega), Option.bind_some]
        have q1 := el v hv; have q2 := el u (by omega)
        have e4 : (t3.1 ++ t4.1).size = t2.2.1.length := by rw [← bytesOf_length, bytes_app, List.length_append, bytesOf_length, bytesOf_length]; omega
        rw [gd_pos (by simp; omega), gd_pos (by omega), gd_pos (by rw [e4]; simp; omega), Option.bind_some, bytes_app, k3, k4, r3, bytes_str (b2.take _), bytes_str (b2.drop _), List.take_append_drop, hc8]
        congr 2
        rw [k1, k2]; simp
      · refine Ans.bind (tnumber.rel K hK _ _ b5 (by omega)) (fun t1 h1 => ?_)
        obtain ⟨b1, l1, v, ev, hv, h1⟩ := h1
        refine Ans.bind (tall.rel _ _ b1) (fun t4 h4 => Ans.some (fun hf hr hk => ?_))
        simp only at hf hr hk ⊢
        obtain ⟨f1, k4⟩ := h4 hf
        obtain ⟨f0, k1⟩ := h1 f1
        have z2 : t4.1.size = t1.2.1.length := by rw [k4, size_str]
        unfold fBody.f
        have q1 := el v hv
        rw [hk, Option.bind_some, if_neg (by decide), if_neg (by omega), if_pos c2, ev, enc_one K hK v hv, Option.bind_some, gd_pos (by simp; omega), gd_pos (by rw [z2]; simp; omega), Option.bind_some, k4, bytes_str b1, hc8]
        congr 2
        rw [k1]; simp
      · refine Ans.bind (tnumber.rel K hK _ _ b5 (by omega)) (fun t1 h1 => ?_)
        obtain ⟨b1, l1, v, ev, hv, h1⟩ := h1
        refine Ans.bind (ttext.rel _ _ 1 b1 (by omega)) (fun t2 h2 => ?_)
        obtain ⟨b2, l2, h2⟩ := h2
        refine Ans.bind (Q := fun o => t2.1 ≠ (⟨#[]⟩ : ByteArray) → o = IntKind.wrap .i64 (bt t2.1 0)) (Ans.ite (fun h => Ans.gd (by have := size_ne h; omega) (Ans.some (fun _ => rfl))) (fun h => Ans.some (fun h' => absurd h' h))) (fun d hd => ?_)
        refine Ans.bind (tsmall.rel K hK _ _ b2 (by omega)) (fun t3 h3 => ?_)
        obtain ⟨b3, l3, u, eu, hu, h3⟩ := h3
        refine Ans.bind (tsmall.rel K hK _ _ b3 (by omega)) (fun t4 h4 => ?_)
        obtain ⟨b4, l4, w, ew, hw, h4⟩ := h4
        refine Ans.bind (tall.rel _ _ b4) (fun t6 h6 => Ans.some (fun hf hr hk => ?_))
        simp only at hf hr hk ⊢
        obtain ⟨f4, k6⟩ := h6 hf
        obtain ⟨f3, k4⟩ := h4 f4
        obtain ⟨f2, k3⟩ := h3 f3
        obtain ⟨f1, m2, k2, r2⟩ := h2 f2
        obtain ⟨f0, k1⟩ := h1 f1
        obtain ⟨x, y, exy⟩ : ∃ x y, t1.2.1 = x :: y := by
          cases hq : t1.2.1 with
          | nil => rw [hq] at m2; simp at m2
          | cons x y => exact ⟨x, y, rfl⟩
        have hx := b1 x (by rw [exy]; exact List.mem_cons_self)
        rw [exy] at k2 r2
        have k2' : t2.1 = strOfNums [x] := k2
        have r2' : t2.2.1 = y := r2
        have hd' : d = x := by
          rw [hd (by intro h; have := congrArg ByteArray.size h; rw [k2', size_str] at this; simp [ByteArray.size] at this), k2', bt_str x hx, w64 (by omega) (by omega)]
        have z6 : t6.1.size = t4.2.1.length := by rw [k6, size_str]
        unfold fBody.f
        have q1 := el v hv; have q2 := el u (by omega); have q3 := el w (by omega)
        have hx8 := wu8 x hx
        rw [hk, Option.bind_some, if_neg (by decide), if_neg (by omega), if_neg (by omega), if_pos c3, ev, enc_one K hK v hv, Option.bind_some, gd_pos (by simp; omega), gd_pos (by simp; omega), eu, ew, wu64 u (by omega), wu64 w (by omega), enc_two K hK u w (by omega) (by omega), Option.bind_some, gd_pos (by simp; omega), gd_pos (by rw [z6]; simp; omega), Option.bind_some, k6, bytes_str b4, hc8, hd', hx8]
        congr 2
        rw [k1, exy, ← r2', k3, k4]; simp
      · refine Ans.bind (tsmall.rel K hK _ _ b5 (by omega)) (fun t1 h1 => ?_)
        obtain ⟨b1, l1, v, ev, hv, h1⟩ := h1
        refine Ans.bind (tsmall.rel K hK _ _ b1 (by omega)) (fun t2 h2 => ?_)
        obtain ⟨b2, l2, u, eu, hu, h2⟩ := h2
        refine Ans.bind (tsmall.rel K hK _ _ b2 (by omega)) (fun t3 h3 => ?_)
        obtain ⟨b3, l3, w, ew, hw, h3⟩ := h3
        refine Ans.bind (tsmall.rel K hK _ _ b3 (by omega)) (fun t4 h4 => Ans.some (fun hf hr hk => ?_))
        obtain ⟨b4, l4, x, ex, hx, h4⟩ := h4
        simp only at hf hr hk ⊢
        obtain ⟨f3, k4⟩ := h4 hf
        obtain ⟨f2, k3⟩ := h3 f3
        obtain ⟨f1, k2⟩ := h2 f2
        obtain ⟨f0, k1⟩ := h1 f1
        unfold fBody.f
        have q1 := el v (by omega); have q2 := el u (by omega); have q3 := el w (by omega); have q4 := el x (by omega)
        rw [hk, Option.bind_some, if_neg (by decide), if_neg (by omega), if_neg (by omega), if_neg (by omega), if_pos c4, ev, eu, ew, ex, wu32 x hx, wu64 v (by omega), wu64 u (by omega), wu64 w (by omega), wu64 x (by omega), enc_four K hK v u w x (by omega) (by omega) (by omega) (by omega), Option.bind_some, gd_pos (by simp; omega), Option.bind_some, hc8]
        congr 2
        rw [k1, k2, k3, k4, hr]; simp
      · refine Ans.some (fun hf hr hk => ?_)
        simp only at hf hr hk ⊢
        unfold fBody.f
        rw [hk, Option.bind_some, if_neg (by decide), if_neg (by omega), if_neg (by omega), if_neg (by omega), if_neg (by omega), Option.bind_some, hc8, hr]
    · refine Ans.bind (Q := fun x => x = true ∨ (o.2.1 = false ∧ o.1 = [] ∧ check.f c o.2.2.1 o.2.2.2.1 o.2.2.2.2.1 o.2.2.2.2.2.1 o.2.2.2.2.2.2.1 o.2.2.2.2.2.2.2.1 o.2.2.2.2.2.2.2.2.1 o.2.2.2.2.2.2.2.2.2.1 o.2.2.2.2.2.2.2.2.2.2.1 o.2.2.2.2.2.2.2.2.2.2.2.1 o.2.2.2.2.2.2.2.2.2.2.2.2.1 o.2.2.2.2.2.2.2.2.2.2.2.2.2.1 o.2.2.2.2.2.2.2.2.2.2.2.2.2.2 = some 0)) (Ans.ite (fun _ => Ans.some (.inl rfl)) (fun f1 => Ans.ite (fun _ => Ans.some (.inl rfl)) (fun f2 => ?_))) (fun x hx => Ans.ite (fun _ => Ans.some (fun h => by simp at h)) (fun hxf => Ans.some (fun _ => ?_)))
      · obtain ⟨k, hk, _⟩ := check.ans c o.2.2.1 o.2.2.2.1 o.2.2.2.2.1 o.2.2.2.2.2.1 o.2.2.2.2.2.2.1 o.2.2.2.2.2.2.2.1 o.2.2.2.2.2.2.2.2.1 o.2.2.2.2.2.2.2.2.2.1 o.2.2.2.2.2.2.2.2.2.2.1 o.2.2.2.2.2.2.2.2.2.2.2.1 o.2.2.2.2.2.2.2.2.2.2.2.2.1 o.2.2.2.2.2.2.2.2.2.2.2.2.2.1 o.2.2.2.2.2.2.2.2.2.2.2.2.2.2
        refine Ans.bind (Q := fun q => q = k) ⟨k, hk, rfl⟩ (fun q hq => Ans.some ?_)
        subst hq
        by_cases h0 : q = 0
        · subst h0; exact .inr ⟨by simpa using f1, List.eq_nil_of_length_eq_zero (by omega), hk⟩
        · exact .inl (decide_eq_true h0)
      · rcases hx with h | ⟨h1, h2, h3⟩
        · exact absurd h hxf
        · exact ⟨by simp, ho h1 h2 h3⟩
/-! ### The numbers that are read are in their types' bounds -/
def B64 (x : Int) : Prop := 0 ≤ x ∧ x < 18446744073709551616
def B32 (x : Int) : Prop := 0 ≤ x ∧ x < 4294967296
theorem parse.wf (K : Nat) (hK : 11 ≤ K) (b : List Int) (hb : Byt b) (hl : b.length ≤ 1099511627776) : Ans (parse.f K b) (fun t => B64 t.2.1 ∧ B64 t.2.2.2.2.2.1 ∧ B32 t.2.2.2.2.2.2.2.2.2.2.2.2.2.1) := by
  have z64 : B64 0 := ⟨by decide, by decide⟩
  have z32 : B32 0 := ⟨by decide, by decide⟩
  have nb : ∀ {x : Int}, (∃ v : Nat, x = v ∧ v < 18446744073709551616) → B64 x := fun ⟨v, e, h⟩ => ⟨by omega, by omega⟩
  unfold parse.f
  refine Ans.bind (ttext.ans b false 1 hb (by omega)) (fun t5 h5 => ?_)
  obtain ⟨b5, l5, s5⟩ := h5
  refine Ans.ite (fun _ => Ans.some ⟨z64, z64, z32⟩) (fun hne => ?_)
  have hs5 := s5 (by simpa using hne)
  refine Ans.gd (by rw [hs5]; decide) ?_
  refine Ans.bind (Q := fun o => B64 o.2.2.1 ∧ B64 o.2.2.2.2.2.2.1 ∧ B32 o.2.2.2.2.2.2.2.2.2.2.2.2.2.2) ?_ (fun o ho => ?_)
  · refine Ans.ite (fun _ => ?_) (fun _ => Ans.ite (fun _ => ?_) (fun _ => Ans.ite (fun _ => ?_) (fun _ => Ans.ite (fun _ => ?_) (fun _ => Ans.some ⟨z64, z64, z32⟩))))
    · refine Ans.bind (tnumber.rel K hK _ _ b5 (by omega)) (fun t1 h1 => ?_)
      obtain ⟨b1, l1, v, ev, hv, _⟩ := h1
      exact Ans.bind (tsmall.ans K hK _ _ b1 (by omega)) (fun t2 h2 => Ans.bind (ttext.ans _ _ _ h2.1 h2.2.2) (fun t3 h3 => Ans.bind (tall.ans _ _ h3.1) (fun _ _ => Ans.some ⟨nb ⟨v, ev, hv⟩, z64, z32⟩)))
    · refine Ans.bind (tnumber.rel K hK _ _ b5 (by omega)) (fun t1 h1 => ?_)
      obtain ⟨b1, l1, v, ev, hv, _⟩ := h1
      exact Ans.bind (tall.ans _ _ b1) (fun _ _ => Ans.some ⟨nb ⟨v, ev, hv⟩, z64, z32⟩)
    · refine Ans.bind (tnumber.rel K hK _ _ b5 (by omega)) (fun t1 h1 => ?_)
      obtain ⟨b1, l1, v, ev, hv, _⟩ := h1
      refine Ans.bind (ttext.ans _ _ 1 b1 (by omega)) (fun t2 h2 => ?_)
      refine Ans.bind (Q := fun _ => True) (Ans.ite (fun h => Ans.gd (by have := size_ne h; omega) (Ans.some trivial)) (fun _ => Ans.some trivial)) (fun _ _ => ?_)
      exact Ans.bind (tsmall.ans K hK _ _ h2.1 (by omega)) (fun t3 h3 => Ans.bind (tsmall.ans K hK _ _ h3.1 (by omega)) (fun t4 h4 => Ans.bind (tall.ans _ _ h4.1) (fun _ _ => Ans.some ⟨z64, nb ⟨v, ev, hv⟩, z32⟩)))
    · refine Ans.bind (tsmall.ans K hK _ _ b5 (by omega)) (fun t1 h1 => Ans.bind (tsmall.ans K hK _ _ h1.1 (by omega)) (fun t2 h2 => Ans.bind (tsmall.ans K hK _ _ h2.1 (by omega)) (fun t3 h3 => Ans.bind (tsmall.rel K hK _ _ h3.1 (by omega)) (fun t4 h4 => ?_))))
      obtain ⟨b4, l4, v, ev, hv, _⟩ := h4
      refine Ans.some ⟨z64, z64, ?_⟩
      show B32 (IntKind.wrap .u32 t4.1)
      rw [ev, wu32 v hv]
      exact ⟨by omega, by omega⟩
  · refine Ans.bind (Q := fun _ => True) (Ans.ite (fun _ => Ans.some trivial) (fun _ => Ans.ite (fun _ => Ans.some trivial) (fun _ => Ans.bind (check.ans _ _ _ _ _ _ _ _ _ _ _ _ _ _) (fun _ _ => Ans.some trivial)))) (fun _ _ => Ans.ite (fun _ => Ans.some ⟨z64, z64, z32⟩) (fun _ => Ans.some ho))
theorem Ans.and {α : Type} {x : Option α} {P Q : α → Prop} (h : Ans x P) (k : Ans x Q) : Ans x (fun v => P v ∧ Q v) := by
  obtain ⟨v, e, hv⟩ := h
  obtain ⟨u, e', hu⟩ := k
  rw [e] at e'; cases e'
  exact ⟨v, e, hv, hu⟩
end Go.Proofs.Ytakolnamobkkkaa
