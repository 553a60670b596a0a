/- Own text. A frame that was made is decoded; the plain part of the law FrameForged. Conditions: bytes. -/
import Derived.Test.YtakolnamobkkkaaPureD
import Derived.Test.YtakolnamobkkkaaLift9
set_option linter.unusedSimpArgs false
set_option linter.unusedVariables false
set_option maxRecDepth 100000
namespace Go.Proofs.Ytakolnamobkkkaa
open Go Go.Sx

theorem fLength.l1_ok (c : List Int) (h3 : 3 ≤ c.length) (hd : ∀ j : Nat, j < 3 → rd c (j : Int) < 128) : ∀ (n i : Nat), i + n = 3 → ∀ k, n < k → fLength.l1 c k (i : Int) = some (.inr ()) := by
  intro n
  induction n with
  | zero =>
    intro i h k hk
    obtain ⟨k, rfl⟩ : ∃ m, k = m + 1 := ⟨k - 1, by omega⟩
    rw [fLength.l1, if_neg (by omega)]
  | succ n ih =>
    intro i h k hk
    obtain ⟨k, rfl⟩ : ∃ m, k = m + 1 := ⟨k - 1, by omega⟩
    have := hd i (by omega)
    rw [fLength.l1, if_pos (by omega), if_neg (by omega), gd_pos (by omega), if_neg (by omega), w64 (by omega) (by omega), show ((i : Int) + 1) = ((i + 1 : Nat) : Int) by omega]
    exact ih (i + 1) (by omega) k (by omega)
theorem num_dig (K : Nat) (hK : 9 < K) (m n : Nat) (r : List Int) (hr : Byt r) (hm : 1 ≤ m ∧ m ≤ 9) (hn : n < 128 ^ m) : Number.f K (dig m n ++ r) (m : Int) = some ((n : Int), 0) := by
  obtain ⟨t, h1, h2⟩ := Number.eq (dig m n ++ r) (m : Int) (Byt.app.2 ⟨dig_byt _ _, hr⟩) K hK
  have hl := dig_len m n
  have ht : (dig m n ++ r).take m = dig m n := by rw [List.take_append_of_le_length (by omega), List.take_of_length_le (by omega)]
  rw [h1]
  rcases h2 with ⟨_, _, h⟩ | ⟨q, hq, _, _, ⟨_, _, h⟩ | ⟨_, _, _, h⟩ | ⟨_, e1, e2, _⟩⟩
  · omega
  · obtain rfl : m = q := by omega
    rw [List.length_append] at h; omega
  · obtain rfl : m = q := by omega
    rw [ht] at h
    exact absurd (fun x hx => (dig_mem m n x hx).2) h
  · obtain rfl : m = q := by omega
    rw [ht, bv_dig, Nat.mod_eq_of_lt hn] at e1
    exact congrArg some (Prod.ext e1 e2)
theorem fLength.ok (K : Nat) (hK : 9 < K) (n : Nat) (hn : n < 2097152) (r : List Int) (hr : Byt r) : fLength.f K (dig 3 n ++ r) = some ((n : Int), 0) := by
  have hl := dig_len 3 n
  unfold fLength.f
  refine thn_of (fLength.l1_ok _ (by rw [List.length_append]; omega) (fun j hj => ?_) 3 0 (by omega) K (by omega)) ?_
  · rw [rd_app_left _ _ _ (by omega)]
    exact (dig_mem 3 n _ (rd_mem _ _ (by omega))).2
  · have p3 : (128 : Nat) ^ 3 = 2097152 := by decide
    have := num_dig K hK 3 n r hr (by omega) (by omega)
    refine bind_of this ?_
    rw [w64 (by omega) (by omega)]

abbrev sumOf (e : List Int) : Nat := (goOn 0#32 (dig 3 e.length ++ e)).toNat
/-- A frame around bytes. -/
def frameOf (b : List Int) : List Int := [167] ++ (dig 3 (esc b).length ++ (esc b ++ dig 5 (sumOf (esc b))))
theorem frameOf_len (b : List Int) : (frameOf b).length = (esc b).length + 9 := by
  unfold frameOf; simp [dig_len]; omega
def Made (K : Nat) (b : List Int) (t : D16) : Prop := t = (0, 0, 0, ByteArray.empty, ByteArray.empty, 0, 0, 0, 0, ByteArray.empty, 0, 0, 0, 0, 0, 45) ∨ (t.2.2.2.2.2.2.2.2.2.2.2.2.2.2.2 = 0 ∧ t.2.2.2.2.2.2.2.2.2.2.2.2.2.2.1 = (((esc b).length + 9 : Nat) : Int) ∧
  fBody.f K t.1 t.2.1 t.2.2.1 t.2.2.2.1 t.2.2.2.2.1 t.2.2.2.2.2.1 t.2.2.2.2.2.2.1 t.2.2.2.2.2.2.2.1 t.2.2.2.2.2.2.2.2.1 t.2.2.2.2.2.2.2.2.2.1 t.2.2.2.2.2.2.2.2.2.2.1 t.2.2.2.2.2.2.2.2.2.2.2.1 t.2.2.2.2.2.2.2.2.2.2.2.2.1 t.2.2.2.2.2.2.2.2.2.2.2.2.2.1 = some (b, 0))
theorem fDecode.made (K : Nat) (x b y : List Int) (hx : Byt x) (hb : Byt b) (hy : Byt y) (hN : (esc b).length < 2097152) (hl : x.length + y.length ≤ 140737486258160) (hK : x.length + y.length + 2097300 < K) : Ans (fDecode.f K (x ++ (frameOf b ++ y)) (x.length : Int)) (Made K b) := by
  obtain ⟨p, hp⟩ : ∃ p, p = x.length := ⟨_, rfl⟩
  obtain ⟨n, hn⟩ : ∃ n, n = (esc b).length := ⟨_, rfl⟩
  obtain ⟨C, hC⟩ : ∃ C, C = x ++ (frameOf b ++ y) := ⟨_, rfl⟩
  have he := esc_byt hb
  have hblen := (esc_le b).1
  have hs5 := dig_byt 5 (sumOf (esc b))
  have h3l := dig_len 3 n
  have h5l := dig_len 5 (sumOf (esc b))
  have hCl : C.length = p + (n + 9) + y.length := by rw [hC, List.length_append, List.length_append, frameOf_len]; omega
  have d0 : C.drop p = 167 :: (dig 3 n ++ (esc b ++ (dig 5 (sumOf (esc b)) ++ y))) := by
    rw [hC, hp, List.drop_left, hn]; unfold frameOf; simp
  have d1 : C.drop (p + 1) = dig 3 n ++ (esc b ++ (dig 5 (sumOf (esc b)) ++ y)) := by rw [← List.drop_drop, d0]; rfl
  have d4 : C.drop (p + 4) = esc b ++ (dig 5 (sumOf (esc b)) ++ y) := by
    rw [show p + 4 = p + 1 + 3 by omega, ← List.drop_drop, d1, List.drop_left' h3l]
  have d9 : C.drop (p + 4 + n) = dig 5 (sumOf (esc b)) ++ y := by
    rw [← List.drop_drop, d4, List.drop_left' hn.symm]
  have s1 : (C.take (p + 4 + n)).drop (p + 4) = esc b := by
    rw [← take_drop3 C (p + 4) n (by omega), d4, List.take_left' hn.symm]
  have s2 : (C.take (p + 4 + n)).drop (p + 1) = dig 3 n ++ esc b := by
    rw [show p + 4 + n = p + 1 + (3 + n) by omega, ← take_drop3 C (p + 1) (3 + n) (by omega), d1, ← List.append_assoc, List.take_left' (by rw [List.length_append]; omega)]
  have s3 : (C.take (p + 9 + n)).drop (p + 4 + n) = dig 5 (sumOf (esc b)) := by
    rw [show p + 9 + n = p + 4 + n + 5 by omega, ← take_drop3 C (p + 4 + n) 5 (by omega), d9, List.take_left' h5l]
  have r0 : rd C (p : Int) = 167 := by
    have := rd_drop C p 0
    rw [d0] at this
    rw [show (p : Int) = ((p + 0 : Nat) : Int) by omega, ← this]; rfl
  have w1 : IntKind.wrap .i64 ((p : Int) + 1) = ((p + 1 : Nat) : Int) := by rw [w64 (by omega) (by omega)]; omega
  have w4 : IntKind.wrap .i64 ((p : Int) + 4) = ((p + 4 : Nat) : Int) := by rw [w64 (by omega) (by omega)]; omega
  have w5 : IntKind.wrap .i64 (((p + 4 : Nat) : Int) + (n : Int)) = ((p + 4 + n : Nat) : Int) := by rw [w64 (by omega) (by omega)]; omega
  have w9 : IntKind.wrap .i64 (((p + 4 + n : Nat) : Int) + 5) = ((p + 9 + n : Nat) : Int) := by rw [w64 (by omega) (by omega)]; omega
  have wl : IntKind.wrap .i64 (IntKind.wrap .i64 (4 + (n : Int)) + 5) = ((n + 9 : Nat) : Int) := by
    rw [w64 (n := 4 + (n : Int)) (by omega) (by omega), w64 (by omega) (by omega)]; omega
  have hlen := fLength.ok K (by omega) n (by omega) (esc b ++ (dig 5 (sumOf (esc b)) ++ y)) (Byt.app.2 ⟨he, Byt.app.2 ⟨hs5, hy⟩⟩)
  have hnext := Next.none (esc b) he (by omega) (esc_lead b)
  have hlt : sumOf (esc b) < 4294967296 := (goOn 0#32 (dig 3 (esc b).length ++ esc b)).isLt
  have p5 : (128 : Nat) ^ 5 = 34359738368 := by decide
  have hnum := num_dig K (by omega) 5 (sumOf (esc b)) [] Byt.nil (by omega) (by omega)
  rw [List.append_nil] at hnum
  have hsum : Sum.f K [dig 3 n ++ esc b] = some ((sumOf (esc b) : Nat) : Int) := by
    have := Sum.eq [dig 3 n ++ esc b] K (by omega) (fun q hq => by
      rw [List.mem_singleton] at hq; subst hq
      exact ⟨Byt.app.2 ⟨dig_byt _ _, he⟩, by rw [List.length_append]; omega, by rw [List.length_append]; omega⟩) (by simp) (by simp; omega)
    rw [this, hn]; simp [iv]
  obtain ⟨r2, o1, o2, o3, _⟩ := Open.inl he (by omega) K (by omega) (opn_esc b 0)
  rw [← hC, ← hp]
  unfold fDecode.f
  rw [if_neg (by omega), Option.bind_some, if_neg (by rw [decide_eq_true_eq]; omega), gd_pos (by omega), if_neg (by omega)]
  simp only [w1, w4, Int.toNat_natCast, List.take_length]
  rw [gd_pos (by omega), d1]
  refine Ans.bind (Q := fun q => q = ((n : Int), 0)) ⟨_, hlen, rfl⟩ (fun q hq => ?_)
  subst hq
  simp only [w5, w9, wl, Int.toNat_natCast]
  rw [if_neg (by simp), if_neg (by omega), gd_pos (by omega), s1, s2, s3]
  refine Ans.bind (Q := fun q => q = ((esc b).length : Int)) ⟨_, hnext, rfl⟩ (fun q hq => ?_)
  subst hq
  rw [if_neg (by omega), gd_pos (by omega)]
  refine Ans.bind (Q := fun q => q = ((sumOf (esc b) : Int), 0)) ⟨_, hnum, rfl⟩ (fun q hq => ?_)
  subst hq
  rw [if_neg (by simp), gd_pos (by omega), hsum, Option.bind_some, wu64 _ (by omega), Option.bind_some, if_neg (by simp)]
  refine Ans.bind (Q := fun q => q = r2) ⟨r2, o1, rfl⟩ (fun q hq => ?_)
  subst hq
  rw [if_neg (by omega), o2]
  refine Ans.bind (parse.rel K (by omega) b hb (by omega)) (fun t51 h51 => Ans.ite (fun hok => Ans.some (.inr ⟨rfl, by rw [hn], ?_⟩)) (fun _ => Ans.some (.inl rfl)))
  exact (h51 hok).2
theorem fDecode.madeG (K : Nat) (x b y : List Int) (hx : Byt x) (hb : Byt b) (hy : Byt y) (hN : (esc b).length < 2097152) (hl : x.length + (esc b).length + 9 + y.length ≤ 140737488355328) (hK : x.length + y.length + 2097300 < K) : Ans (fDecode.f K (x ++ (frameOf b ++ y)) (x.length : Int)) (fun t => ∃ q, parse.f K b = some q ∧ t = if q.2.2.2.2.2.2.2.2.2.2.2.2.2.2 = true then (q.1, q.2.1, q.2.2.1, q.2.2.2.1, q.2.2.2.2.1, q.2.2.2.2.2.1, q.2.2.2.2.2.2.1, q.2.2.2.2.2.2.2.1, q.2.2.2.2.2.2.2.2.1, q.2.2.2.2.2.2.2.2.2.1, q.2.2.2.2.2.2.2.2.2.2.1, q.2.2.2.2.2.2.2.2.2.2.2.1, q.2.2.2.2.2.2.2.2.2.2.2.2.1, q.2.2.2.2.2.2.2.2.2.2.2.2.2.1, (((esc b).length + 9 : Nat) : Int), 0) else ((0, 0, 0, ByteArray.empty, ByteArray.empty, 0, 0, 0, 0, ByteArray.empty, 0, 0, 0, 0, 0, 45) : D16)) := by
  obtain ⟨p, hp⟩ : ∃ p, p = x.length := ⟨_, rfl⟩
  obtain ⟨n, hn⟩ : ∃ n, n = (esc b).length := ⟨_, rfl⟩
  obtain ⟨C, hC⟩ : ∃ C, C = x ++ (frameOf b ++ y) := ⟨_, rfl⟩
  have he := esc_byt hb
  have hblen := (esc_le b).1
  have hs5 := dig_byt 5 (sumOf (esc b))
  have h3l := dig_len 3 n
  have h5l := dig_len 5 (sumOf (esc b))
  have hCl : C.length = p + (n + 9) + y.length := by rw [hC, List.length_append, List.length_append, frameOf_len]; omega
  have d0 : C.drop p = 167 :: (dig 3 n ++ (esc b ++ (dig 5 (sumOf (esc b)) ++ y))) := by
    rw [hC, hp, List.drop_left, hn]; unfold frameOf; simp
  have d1 : C.drop (p + 1) = dig 3 n ++ (esc b ++ (dig 5 (sumOf (esc b)) ++ y)) := by rw [← List.drop_drop, d0]; rfl
  have d4 : C.drop (p + 4) = esc b ++ (dig 5 (sumOf (esc b)) ++ y) := by
    rw [show p + 4 = p + 1 + 3 by omega, ← List.drop_drop, d1, List.drop_left' h3l]
  have d9 : C.drop (p + 4 + n) = dig 5 (sumOf (esc b)) ++ y := by
    rw [← List.drop_drop, d4, List.drop_left' hn.symm]
  have s1 : (C.take (p + 4 + n)).drop (p + 4) = esc b := by
    rw [← take_drop3 C (p + 4) n (by omega), d4, List.take_left' hn.symm]
  have s2 : (C.take (p + 4 + n)).drop (p + 1) = dig 3 n ++ esc b := by
    rw [show p + 4 + n = p + 1 + (3 + n) by omega, ← take_drop3 C (p + 1) (3 + n) (by omega), d1, ← List.append_assoc, List.take_left' (by rw [List.length_append]; omega)]
  have s3 : (C.take (p + 9 + n)).drop (p + 4 + n) = dig 5 (sumOf (esc b)) := by
    rw [show p + 9 + n = p + 4 + n + 5 by omega, ← take_drop3 C (p + 4 + n) 5 (by omega), d9, List.take_left' h5l]
  have r0 : rd C (p : Int) = 167 := by
    have := rd_drop C p 0
    rw [d0] at this
    rw [show (p : Int) = ((p + 0 : Nat) : Int) by omega, ← this]; rfl
  have w1 : IntKind.wrap .i64 ((p : Int) + 1) = ((p + 1 : Nat) : Int) := by rw [w64 (by omega) (by omega)]; omega
  have w4 : IntKind.wrap .i64 ((p : Int) + 4) = ((p + 4 : Nat) : Int) := by rw [w64 (by omega) (by omega)]; omega
  have w5 : IntKind.wrap .i64 (((p + 4 : Nat) : Int) + (n : Int)) = ((p + 4 + n : Nat) : Int) := by rw [w64 (by omega) (by omega)]; omega
  have w9 : IntKind.wrap .i64 (((p + 4 + n : Nat) : Int) + 5) = ((p + 9 + n : Nat) : Int) := by rw [w64 (by omega) (by omega)]; omega
  have wl : IntKind.wrap .i64 (IntKind.wrap .i64 (4 + (n : Int)) + 5) = ((n + 9 : Nat) : Int) := by
    rw [w64 (n := 4 + (n : Int)) (by omega) (by omega), w64 (by omega) (by omega)]; omega
  have hlen := fLength.ok K (by omega) n (by omega) (esc b ++ (dig 5 (sumOf (esc b)) ++ y)) (Byt.app.2 ⟨he, Byt.app.2 ⟨hs5, hy⟩⟩)
  have hnext := Next.none (esc b) he (by omega) (esc_lead b)
  have hlt : sumOf (esc b) < 4294967296 := (goOn 0#32 (dig 3 (esc b).length ++ esc b)).isLt
  have p5 : (128 : Nat) ^ 5 = 34359738368 := by decide
  have hnum := num_dig K (by omega) 5 (sumOf (esc b)) [] Byt.nil (by omega) (by omega)
  rw [List.append_nil] at hnum
  have hsum : Sum.f K [dig 3 n ++ esc b] = some ((sumOf (esc b) : Nat) : Int) := by
    have := Sum.eq [dig 3 n ++ esc b] K (by omega) (fun q hq => by
      rw [List.mem_singleton] at hq; subst hq
      exact ⟨Byt.app.2 ⟨dig_byt _ _, he⟩, by rw [List.length_append]; omega, by rw [List.length_append]; omega⟩) (by simp) (by simp; omega)
    rw [this, hn]; simp [iv]
  obtain ⟨r2, o1, o2, o3, _⟩ := Open.inl he (by omega) K (by omega) (opn_esc b 0)
  rw [← hC, ← hp]
  unfold fDecode.f
  rw [if_neg (by omega), Option.bind_some, if_neg (by rw [decide_eq_true_eq]; omega), gd_pos (by omega), if_neg (by omega)]
  simp only [w1, w4, Int.toNat_natCast, List.take_length]
  rw [gd_pos (by omega), d1]
  refine Ans.bind (Q := fun q => q = ((n : Int), 0)) ⟨_, hlen, rfl⟩ (fun q hq => ?_)
  subst hq
  simp only [w5, w9, wl, Int.toNat_natCast]
  rw [if_neg (by simp), if_neg (by omega), gd_pos (by omega), s1, s2, s3]
  refine Ans.bind (Q := fun q => q = ((esc b).length : Int)) ⟨_, hnext, rfl⟩ (fun q hq => ?_)
  subst hq
  rw [if_neg (by omega), gd_pos (by omega)]
  refine Ans.bind (Q := fun q => q = ((sumOf (esc b) : Int), 0)) ⟨_, hnum, rfl⟩ (fun q hq => ?_)
  subst hq
  rw [if_neg (by simp), gd_pos (by omega), hsum, Option.bind_some, wu64 _ (by omega), Option.bind_some, if_neg (by simp)]
  refine Ans.bind (Q := fun q => q = r2) ⟨r2, o1, rfl⟩ (fun q hq => ?_)
  subst hq
  rw [if_neg (by omega), o2]
  obtain ⟨q, hq, _⟩ := parse.rel K (by omega) b hb (by omega)
  refine Ans.bind (Q := fun v => v = q) ⟨q, hq, rfl⟩ (fun v hv => ?_)
  subst hv
  refine Ans.ite (fun hok => Ans.some ⟨v, hq, ?_⟩) (fun hok => Ans.some ⟨v, hq, ?_⟩)
  · rw [if_pos hok, hn]
  · rw [if_neg hok]

/-! ### FrameForged -/
theorem FrameForged.l1_eq (b : List Int) (hl : b.length ≤ 16000) : ∀ (n i c : Nat), i + n = b.length → c ≤ i → ∀ k, n < k → FrameForged.l1 b k ((c : Int), (i : Int)) = some ((c + ((b.drop i).count 167 + (b.drop i).count 166) : Nat) : Int) := by
  intro n
  induction n with
  | zero =>
    intro i c h hc k hk
    obtain ⟨k, rfl⟩ : ∃ m, k = m + 1 := ⟨k - 1, by omega⟩
    rw [FrameForged.l1]; simp only
    rw [if_neg (by omega), List.drop_of_length_le (by omega)]; rfl
  | succ n ih =>
    intro i c h hc k hk
    obtain ⟨k, rfl⟩ : ∃ m, k = m + 1 := ⟨k - 1, by omega⟩
    rw [FrameForged.l1]; simp only
    rw [if_pos (by omega), gd_pos (by omega)]
    have hd := drop_cons b i (by omega)
    by_cases h7 : rd b (i : Int) = 167
    · rw [if_pos h7, Option.bind_some, if_pos rfl, Option.bind_some, w64 (n := (c : Int) + 1) (by omega) (by omega), w64 (by omega) (by omega), show ((i : Int) + 1) = ((i + 1 : Nat) : Int) by omega, show ((c : Int) + 1) = ((c + 1 : Nat) : Int) by omega, ih (i + 1) (c + 1) (by omega) (by omega) k (by omega), hd, h7]
      congr 2
      simp [List.count_cons]; omega
    · rw [if_neg h7, gd_pos (by omega), gd_pos (by omega), Option.bind_some]
      by_cases h6 : rd b (i : Int) = 166
      · rw [if_pos (by simpa using h6), Option.bind_some, w64 (n := (c : Int) + 1) (by omega) (by omega), w64 (by omega) (by omega), show ((i : Int) + 1) = ((i + 1 : Nat) : Int) by omega, show ((c : Int) + 1) = ((c + 1 : Nat) : Int) by omega, ih (i + 1) (c + 1) (by omega) (by omega) k (by omega), hd, h6]
        congr 2
        simp [List.count_cons]; omega
      · rw [if_neg (by simpa using h6), Option.bind_some, w64 (by omega) (by omega), show ((i : Int) + 1) = ((i + 1 : Nat) : Int) by omega, ih (i + 1) c (by omega) (by omega) k (by omega), hd]
        congr 2
        simp [List.count_cons, h7, h6]
theorem FrameForged.l2_eq (b : List Int) (hl : b.length ≤ 16000) : ∀ (n i : Nat) (out : List Int), i + n = b.length → out.length ≤ 3 + 2 * i → ∀ k, n < k → FrameForged.l2 b k (out, (i : Int)) = some (out ++ esc (b.drop i)) := by
  intro n
  induction n with
  | zero =>
    intro i out h hc k hk
    obtain ⟨k, rfl⟩ : ∃ m, k = m + 1 := ⟨k - 1, by omega⟩
    rw [FrameForged.l2]; simp only
    rw [if_neg (by omega), List.drop_of_length_le (by omega), esc_nil, List.append_nil]
  | succ n ih =>
    intro i out h hc k hk
    obtain ⟨k, rfl⟩ : ∃ m, k = m + 1 := ⟨k - 1, by omega⟩
    rw [FrameForged.l2]; simp only
    rw [if_pos (by omega), gd_pos (by omega), drop_cons b i (by omega), esc_cons]
    by_cases h7 : rd b (i : Int) = 167
    · rw [if_pos h7, gd_pos (by simp; omega), Option.bind_some, w64 (by omega) (by omega), show ((i : Int) + 1) = ((i + 1 : Nat) : Int) by omega, ih (i + 1) _ (by omega) (by simp; omega) k (by omega), h7]
      simp [esc1]
    · rw [if_neg h7]
      by_cases h6 : rd b (i : Int) = 166
      · rw [if_pos h6, gd_pos (by simp; omega), Option.bind_some, w64 (by omega) (by omega), show ((i : Int) + 1) = ((i + 1 : Nat) : Int) by omega, ih (i + 1) _ (by omega) (by simp; omega) k (by omega), h6]
        simp [esc1]
      · rw [if_neg h6, gd_pos (by omega), gd_pos (by simp; omega), Option.bind_some, w64 (by omega) (by omega), show ((i : Int) + 1) = ((i + 1 : Nat) : Int) by omega, ih (i + 1) _ (by omega) (by simp; omega) k (by omega)]
        simp [esc1, h7, h6]
theorem dig3_eq (T : Nat) (h : T < 2097152) : [IntKind.wrap .u8 (IntKind.wrap .i64 (Int.tdiv (T : Int) 16384)), IntKind.wrap .u8 (Int.tmod (IntKind.wrap .i64 (Int.tdiv (T : Int) 128)) 128), IntKind.wrap .u8 (Int.tmod (T : Int) 128)] = dig 3 T := by
  have e1 : Int.tdiv (T : Int) 16384 = ((T / 16384 : Nat) : Int) := by rw [Int.tdiv_eq_ediv_of_nonneg (by omega)]; omega
  have e2 : Int.tdiv (T : Int) 128 = ((T / 128 : Nat) : Int) := by rw [Int.tdiv_eq_ediv_of_nonneg (by omega)]; omega
  have e3 : ∀ m : Nat, Int.tmod (m : Int) 128 = ((m % 128 : Nat) : Int) := fun m => by rw [Int.tmod_eq_emod_of_nonneg (by omega)]; omega
  rw [e1, e2, w64 (by omega) (by omega), w64 (by omega) (by omega), e3, e3, wu8 _ (by omega), wu8 _ (by omega), wu8 _ (by omega)]
  simp only [dig, List.nil_append, List.cons_append]
  congr 1
  congr 1; omega
theorem dig5_eq (S : Nat) (h : S < 4294967296) : [IntKind.wrap .u8 (Sx.shr .u32 (S : Int) 28), IntKind.wrap .u8 (Int.tmod (Sx.shr .u32 (S : Int) 21) 128), IntKind.wrap .u8 (Int.tmod (Sx.shr .u32 (S : Int) 14) 128), IntKind.wrap .u8 (Int.tmod (Sx.shr .u32 (S : Int) 7) 128), IntKind.wrap .u8 (Int.tmod (S : Int) 128)] = dig 5 S := by
  have h28 : Sx.shr .u32 (S : Int) 28 = ((S / 2 ^ 28 : Nat) : Int) := shr_nat .u32 S 28 (by decide)
  have h21 : Sx.shr .u32 (S : Int) 21 = ((S / 2 ^ 21 : Nat) : Int) := shr_nat .u32 S 21 (by decide)
  have h14 : Sx.shr .u32 (S : Int) 14 = ((S / 2 ^ 14 : Nat) : Int) := shr_nat .u32 S 14 (by decide)
  have h7 : Sx.shr .u32 (S : Int) 7 = ((S / 2 ^ 7 : Nat) : Int) := shr_nat .u32 S 7 (by decide)
  have e3 : ∀ m : Nat, Int.tmod (m : Int) 128 = ((m % 128 : Nat) : Int) := fun m => by rw [Int.tmod_eq_emod_of_nonneg (by omega)]; omega
  have d5 : dig 5 S = [((S / 128 / 128 / 128 / 128 % 128 : Nat) : Int), ((S / 128 / 128 / 128 % 128 : Nat) : Int), ((S / 128 / 128 % 128 : Nat) : Int), ((S / 128 % 128 : Nat) : Int), ((S % 128 : Nat) : Int)] := rfl
  rw [h28, h21, h14, h7, e3, e3, e3, e3, wu8 _ (by omega), wu8 _ (by omega), wu8 _ (by omega), wu8 _ (by omega), wu8 _ (by omega), d5, show S / 2 ^ 28 = S / 128 / 128 / 128 / 128 % 128 by omega, show S / 2 ^ 21 = S / 128 / 128 / 128 by omega, show S / 2 ^ 14 = S / 128 / 128 by omega, show S / 2 ^ 7 = S / 128 by omega]
theorem Pure.FrameForged : ∀ (a0 : List Int), (∀ x ∈ a0, (Lit.int .u8 x).wf = true) → a0.length * 1 ≤ 140737488351232 → ∃ K, FrameForged.f K a0 = some true := by
  intro b hb hl
  have hb := Byt.of hb
  refine ⟨3000000, ?_⟩
  generalize hK : 3000000 = K
  have key : Ans (FrameForged.f K b) (fun r => r = true) := by
    unfold FrameForged.f
    refine Ans.bind (Q := fun v => v = true) ⟨true, known.eq K (by omega), rfl⟩ (fun t1 ht1 => ?_)
    subst ht1
    refine Ans.ite (fun _ => Ans.some rfl) (fun h16 => ?_)
    have h16 : b.length ≤ 16000 := by omega
    have hel := esc_len b
    have hele := (esc_le b).2
    have c1 := FrameForged.l1_eq b h16 b.length 0 0 (by omega) (by omega) K (by omega)
    rw [List.drop_zero, Nat.zero_add] at c1
    refine Ans.bind (Q := fun q => q = ((b.count 167 + b.count 166 : Nat) : Int)) ⟨_, c1, rfl⟩ (fun o34 ho34 => ?_)
    have wT : IntKind.wrap .i64 (o34 + (b.length : Int)) = (((esc b).length : Nat) : Int) := by rw [ho34, w64 (by omega) (by omega)]; omega
    rw [wT, dig3_eq _ (by omega)]
    have c2 := FrameForged.l2_eq b h16 b.length 0 (dig 3 (esc b).length) (by omega) (by rw [dig_len]; omega) K (by omega)
    rw [List.drop_zero] at c2
    refine Ans.bind (Q := fun q => q = dig 3 (esc b).length ++ esc b) ⟨_, c2, rfl⟩ (fun o160 ho160 => ?_)
    subst ho160
    have he := esc_byt hb
    have h3l := dig_len 3 (esc b).length
    have hsum : Sum.f K [dig 3 (esc b).length ++ esc b] = some ((sumOf (esc b) : Nat) : Int) := by
      have := Sum.eq [dig 3 (esc b).length ++ esc b] K (by omega) (fun q hq => by
        rw [List.mem_singleton] at hq; subst hq
        exact ⟨Byt.app.2 ⟨dig_byt _ _, he⟩, by rw [List.length_append]; omega, by rw [List.length_append]; omega⟩) (by simp) (by simp; omega)
      rw [this]; simp [iv]
    refine Ans.bind (Q := fun q => q = ((sumOf (esc b) : Nat) : Int)) ⟨_, hsum, rfl⟩ (fun t278 h278 => ?_)
    subst h278
    have hlt : sumOf (esc b) < 4294967296 := (goOn 0#32 (dig 3 (esc b).length ++ esc b)).isLt
    rw [dig5_eq _ (by omega)]
    have h5l := dig_len 5 (sumOf (esc b))
    have hF : ([167] ++ (dig 3 (esc b).length ++ esc b)) ++ dig 5 (sumOf (esc b)) = frameOf b := by unfold frameOf; simp
    refine Ans.gd (by simp; omega) (Ans.gd (by simp; omega) ?_)
    rw [hF]
    have hm := fDecode.made K [] b [] Byt.nil hb Byt.nil (by omega) (by simp) (by simp; omega)
    rw [List.nil_append, List.append_nil] at hm
    refine Ans.bind hm (fun t ht => ?_)
    rcases ht with rfl | ⟨h0, hlen, hbody⟩
    · exact Ans.ite (fun _ => Ans.ite (fun _ => Ans.some (by decide)) (fun h => absurd rfl h)) (fun h => absurd (by decide) h)
    · refine Ans.ite (fun h => absurd h0 h) (fun _ => ?_)
      refine Ans.bind (Q := fun q => q = (b, 0)) ⟨_, hbody, rfl⟩ (fun q hq => ?_)
      subst hq
      have hs := same.eq b b (by omega) K (by omega)
      refine Ans.bind (Q := fun q => q = true) ⟨_, hs, by simp⟩ (fun q hq => ?_)
      subst hq
      rw [if_pos rfl, if_pos (by rw [hlen, frameOf_len]), if_pos rfl]
      exact Ans.some rfl
  obtain ⟨r, h, hr⟩ := key
  rw [h, hr]
end Go.Proofs.Ytakolnamobkkkaa
