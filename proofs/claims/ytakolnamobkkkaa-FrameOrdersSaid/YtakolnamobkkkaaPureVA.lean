/- Own text, laid out of another seat. Conditions: as there. -/
import Derived.Test.YtakolnamobkkkaaLiftA
import Derived.Test.YtakolnamobkkkaaSxPure
set_option linter.unusedSimpArgs false
set_option linter.unusedVariables false
set_option maxRecDepth 10000
namespace Go.Proofs.Ytakolnamobkkkaa
open Go Go.Sx


/-! ### The plain meaning -/
def encH (n : Nat) : List Int := if n < 128 then [] else ((n % 128 + 128 : Nat) : Int) :: encH (n / 128)
termination_by n
decreasing_by omega
def encL (n : Nat) : Nat := if n < 128 then n else encL (n / 128)
termination_by n
decreasing_by omega
def enc1 (n : Nat) : List Int := encH n ++ [(encL n : Int)]
theorem enc1_small (n : Nat) (h : n < 128) : enc1 n = [(n : Int)] := by unfold enc1; rw [encH, encL, if_pos h, if_pos h]; rfl
theorem enc1_big (n : Nat) (h : ¬ n < 128) : enc1 n = ((n % 128 + 128 : Nat) : Int) :: enc1 (n / 128) := by
  unfold enc1; rw [encH, encL, if_neg h, if_neg h]; rfl
theorem enc_ind {P : Nat → Prop} (h0 : ∀ n, n < 128 → P n) (h1 : ∀ n, ¬ n < 128 → P (n / 128) → P n) : ∀ n, P n := by
  intro n
  induction n using Nat.strongRecOn with
  | _ n ih =>
    by_cases h : n < 128
    · exact h0 n h
    · exact h1 n h (ih (n / 128) (by omega))
theorem encL_lt : ∀ n, encL n < 128 := enc_ind (fun n h => by rw [encL, if_pos h]; exact h) fun n h ih => by rw [encL, if_neg h]; exact ih
theorem encH_len : ∀ (j n : Nat), n < 128 ^ (j + 1) → (encH n).length ≤ j := by
  intro j
  induction j with
  | zero => intro n h; rw [encH, if_pos (by simpa using h)]; simp
  | succ j ih =>
    intro n h
    rw [encH]
    by_cases hn : n < 128
    · rw [if_pos hn]; simp
    · rw [if_neg hn, List.length_cons]
      have := ih (n / 128) (by rw [Nat.pow_succ] at h; omega)
      omega
theorem enc1_len {n : Nat} (h : n < 18446744073709551616) : (enc1 n).length ≤ 10 ∧ 1 ≤ (enc1 n).length := by
  have := encH_len 9 n (by have : (128 : Nat) ^ (9 + 1) = 1180591620717411303424 := by decide
                           omega)
  unfold enc1; simp; omega
def val : List Int → Nat
  | [] => 0
  | c :: r => c.toNat % 128 + 128 * val r
theorem val_app (x y : List Int) : val (x ++ y) = val x + 128 ^ x.length * val y := by
  induction x with
  | nil => simp [val]
  | cons c x ih =>
    simp only [List.cons_append, val, ih, List.length_cons, Nat.pow_succ]
    rw [Nat.mul_add, Nat.add_assoc, ← Nat.mul_assoc, Nat.mul_comm 128 (128 ^ x.length)]
theorem val_lt (x : List Int) : val x < 128 ^ x.length := by
  induction x with
  | nil => simp [val]
  | cons c x ih =>
    simp only [val, List.length_cons, Nat.pow_succ]
    omega
theorem val_enc : ∀ n, val (enc1 n) = n := by
  refine enc_ind ?_ ?_
  · intro n h; rw [enc1_small n h]; simp [val]; omega
  · intro n h ih; rw [enc1_big n h, val, ih]; omega
/-- The one way to write a number. -/
def Can : List Int → Prop
  | [] => False
  | [c] => 0 ≤ c ∧ c < 128
  | c :: d :: r => 128 ≤ c ∧ c < 256 ∧ Can (d :: r) ∧ ¬ (r = [] ∧ d = 0)
theorem can_pos : ∀ (d : Int) (r : List Int), Can (d :: r) → ¬ (r = [] ∧ d = 0) → 0 < val (d :: r)
  | d, [], h, hn => by
    have h' : 0 ≤ d ∧ d < 128 := h
    have : d ≠ 0 := fun e => hn ⟨rfl, e⟩
    simp only [val]; omega
  | d, e :: r, h, _ => by
    obtain ⟨h1, h2, h3, h4⟩ := h
    have := can_pos e r h3 h4
    rw [val]; omega
theorem enc_val : ∀ (l : List Int), Can l → enc1 (val l) = l
  | [], h => h.elim
  | [c], h => by
    have h' : 0 ≤ c ∧ c < 128 := h
    have e : val [c] = c.toNat := by simp only [val]; omega
    rw [e, enc1_small _ (by omega)]; congr 1; omega
  | c :: d :: r, h => by
    obtain ⟨h1, h2, h3, h4⟩ := h
    have hp := can_pos d r h3 h4
    have ih := enc_val (d :: r) h3
    have e : val (c :: d :: r) = c.toNat % 128 + 128 * val (d :: r) := rfl
    rw [e, enc1_big _ (by omega), show (c.toNat % 128 + 128 * val (d :: r)) / 128 = val (d :: r) by omega, ih]
    congr 1; omega
theorem can_enc : ∀ n, Can (enc1 n) := by
  refine enc_ind ?_ ?_
  · intro n h; rw [enc1_small n h]; show (0 : Int) ≤ n ∧ (n : Int) < 128; omega
  · intro n h ih
    rw [enc1_big n h]
    cases he : enc1 (n / 128) with
    | nil => rw [he] at ih; exact ih.elim
    | cons d r =>
      rw [he] at ih
      refine ⟨by omega, by omega, ih, fun ⟨h1, h2⟩ => ?_⟩
      have := val_enc (n / 128)
      rw [he, h1, h2] at this
      simp [val] at this; omega
theorem can_byt : ∀ (l : List Int), Can l → Byt l
  | [], h => h.elim
  | [c], h => by
    have h' : 0 ≤ c ∧ c < 128 := h
    exact Byt.cons.2 ⟨by omega, Byt.nil⟩
  | c :: d :: r, h => by
    obtain ⟨h1, h2, h3, h4⟩ := h
    exact Byt.cons.2 ⟨by omega, can_byt (d :: r) h3⟩

/-! ### Encode -/
theorem or128 (n : Nat) : Sx.bits .or .u8 (IntKind.wrap .u8 (n : Int)) 128 = ((n % 128 + 128 : Nat) : Int) := by
  have e : IntKind.wrap .u8 (n : Int) = ((n % 256 : Nat) : Int) := by
    rw [wrapU .u8 rfl]; show (n : Int) % 256 = _; omega
  rw [e]
  have h := bits_or .u8 rfl (n % 256) 128 (show n % 256 < 2 ^ 8 by omega) (show 128 < 2 ^ 8 by decide)
  refine Eq.trans h ?_
  congr 1
  have key : ∀ x : Fin 256, (x.val ||| 128) = x.val % 128 + 128 := by decide +kernel
  have := key ⟨n % 256, by omega⟩
  simp only at this
  rw [this]; omega
theorem Encode.l2_eq : ∀ (k n : Nat) (out : List Int), n < 128 ^ k → 1 ≤ k → n < 18446744073709551616 → out.length + (encH n).length ≤ 1099511627776 → Encode.l2 k (out, (n : Int)) = some (out ++ encH n, (encL n : Int)) := by
  intro k
  induction k with
  | zero => intro n out h h1; omega
  | succ k ih =>
    intro n out h h1 hn hl
    rw [Encode.l2]; simp only
    by_cases hs : n < 128
    · rw [if_neg (by omega), encH, encL, if_pos hs, if_pos hs, List.append_nil]
    · have hH : encH n = ((n % 128 + 128 : Nat) : Int) :: encH (n / 128) := by rw [encH, if_neg hs]
      have hL : encL n = encL (n / 128) := by rw [encL, if_neg hs]
      rw [hH] at hl
      simp only [List.length_cons] at hl
      have hk : 1 ≤ k := by
        rcases Nat.eq_zero_or_pos k with rfl | h0
        · simp at h; omega
        · exact h0
      rw [if_pos (by omega), or128, gd_pos (by simp; omega)]
      have e : Sx.shr .u64 (n : Int) 7 = ((n / 128 : Nat) : Int) := shr_nat .u64 n 7 (by decide)
      rw [e, ih (n / 128) _ (by rw [Nat.pow_succ] at h; omega) hk (by omega) (by simp; omega), hH, hL, List.append_assoc]; rfl
theorem Encode.l1_eq (K : Nat) (hK : 10 ≤ K) (l : List Int) (hw : ∀ x ∈ l, 0 ≤ x ∧ x < 18446744073709551616) (hl : l.length ≤ 1073741824) : ∀ (n : Nat) (out : List Int) (i : Nat), i + n = l.length → out.length ≤ 10 * i → ∀ k, n < k →
    Encode.l1 K l k (out, (i : Int)) = some (out ++ (l.drop i).flatMap fun x => enc1 x.toNat) := by
  intro n
  induction n with
  | zero =>
    intro out i h ho k hk
    obtain ⟨k, rfl⟩ : ∃ m, k = m + 1 := ⟨k - 1, by omega⟩
    rw [Encode.l1]; simp only
    rw [if_neg (by omega), List.drop_of_length_le (by omega)]; simp
  | succ n ih =>
    intro out i h ho k hk
    obtain ⟨k, rfl⟩ : ∃ m, k = m + 1 := ⟨k - 1, by omega⟩
    rw [Encode.l1]; simp only
    obtain ⟨hx0, hx1⟩ := hw _ (rd_mem l i (by omega))
    have hx : rd l (i : Int) = (((rd l (i : Int)).toNat : Nat) : Int) := by omega
    have hle := enc1_len (n := (rd l (i : Int)).toNat) (by omega)
    have hH : (encH (rd l (i : Int)).toNat).length ≤ 9 := by unfold enc1 at hle; simp at hle; omega
    rw [if_pos (by omega), gd_pos (by omega)]
    have h2 := Encode.l2_eq K (rd l (i : Int)).toNat out (by
      have h1 : (128 : Nat) ^ 10 ≤ 128 ^ K := Nat.pow_le_pow_right (by decide) hK
      have h2 : (128 : Nat) ^ 10 = 1180591620717411303424 := by decide
      omega) (by omega) (by omega) (by omega)
    rw [← hx] at h2
    have hL := encL_lt (rd l (i : Int)).toNat
    rw [h2, Option.bind_some]
    simp only
    rw [gd_pos (by simp; omega), w8 (by omega) (by omega), w64 (by omega) (by omega), show ((i : Int) + 1) = ((i + 1 : Nat) : Int) by omega, ih _ _ (by omega) (by simp; omega) k (by omega), drop_cons l i (by omega)]
    simp [enc1]
theorem Encode.eq (l : List Int) (hw : ∀ x ∈ l, 0 ≤ x ∧ x < 18446744073709551616) (hl : l.length ≤ 1073741824) (K : Nat) (hK : 10 ≤ K) (hk : l.length < K) : Encode.f K l = some (l.flatMap fun x => enc1 x.toNat) := by
  unfold Encode.f
  refine bind_of (Encode.l1_eq K hK l hw hl l.length [] 0 (by omega) (by simp) K hk) ?_
  simp
theorem Encode.one (n : Nat) (hn : n < 18446744073709551616) (K : Nat) (hK : 10 ≤ K) : Encode.f K [(n : Int)] = some (enc1 n) := by
  rw [Encode.eq _ (by simp; omega) (by simp) K hK (by simp; omega)]; simp

/-! ### Decode -/
theorem IndexFunc.l1_eq (l : List Int) (hl : l.length ≤ 1073741824) : ∀ (n i : Nat), i + n = l.length → (∀ j : Nat, j < i → 128 ≤ rd l j) → ∀ k, n < k →
    ∃ r, thn (IndexFunc.l1 l k (i : Int)) (fun _ => some (-1)) = some r ∧ ((r = -1 ∧ ∀ j : Nat, j < l.length → 128 ≤ rd l j) ∨ ∃ j : Nat, r = j ∧ j < l.length ∧ rd l j < 128 ∧ ∀ i : Nat, i < j → 128 ≤ rd l i) := by
  intro n
  induction n with
  | zero =>
    intro i h hi k hk
    obtain ⟨k, rfl⟩ : ∃ m, k = m + 1 := ⟨k - 1, by omega⟩
    rw [IndexFunc.l1, if_neg (by omega)]
    exact ⟨_, rfl, .inl ⟨rfl, fun j hj => hi j (by omega)⟩⟩
  | succ n ih =>
    intro i h hi k hk
    obtain ⟨k, rfl⟩ : ∃ m, k = m + 1 := ⟨k - 1, by omega⟩
    rw [IndexFunc.l1, if_pos (by omega), gd_pos (by omega), DecodeF.f, Option.bind_some]
    by_cases he : rd l (i : Int) < 128
    · rw [if_pos (by simpa using he)]
      exact ⟨_, rfl, .inr ⟨i, rfl, by omega, he, hi⟩⟩
    · rw [if_neg (by simpa using he), w64 (by omega) (by omega), show ((i : Int) + 1) = ((i + 1 : Nat) : Int) by omega]
      refine ih (i + 1) (by omega) (fun j hj => ?_) k (by omega)
      rcases Nat.lt_or_ge j i with h | h
      · exact hi j h
      · have : j = i := by omega
        subst this; omega
theorem IndexFunc.eq (l : List Int) (hl : l.length ≤ 1073741824) (K : Nat) (hK : l.length < K) : ∃ r, IndexFunc.f K l = some r ∧ ((r = -1 ∧ ∀ j : Nat, j < l.length → 128 ≤ rd l j) ∨ ∃ j : Nat, r = j ∧ j < l.length ∧ rd l j < 128 ∧ ∀ i : Nat, i < j → 128 ≤ rd l i) :=
  IndexFunc.l1_eq l hl l.length 0 (by omega) (fun j hj => by omega) K hK
theorem and127 {c : Int} (h : 0 ≤ c ∧ c < 256) : Sx.bits .and .u8 c 127 = ((c.toNat % 128 : Nat) : Int) := by
  obtain ⟨x, rfl⟩ : ∃ x : Nat, c = x := ⟨c.toNat, by omega⟩
  have hb := bits_and .u8 rfl x 127 (show x < 2 ^ 8 by omega) (show 127 < 2 ^ 8 by decide)
  refine Eq.trans hb ?_
  rw [Int.toNat_natCast, show (127 : Nat) = 2 ^ 7 - 1 from rfl, Nat.and_two_pow_sub_one_eq_mod]
theorem pow7 (i : Nat) : 2 ^ (7 * i) = 128 ^ i := by rw [Nat.pow_mul]
theorem Decode.l1_eq (b : List Int) (t : Int) (l : List Int) (hl : l = (b.take (Int.toNat (IntKind.wrap .i64 (t + 1)))).drop 0) (hB : Byt l) (h10 : l.length ≤ 10) : ∀ (n v i : Nat), i + n = l.length → v < 128 ^ i → v + 128 ^ i * val (l.drop i) < 18446744073709551616 → ∀ k, n < k →
    Decode.l1 b t k ((v : Int), l, (i : Int)) = some ((v + 128 ^ i * val (l.drop i) : Nat) : Int) := by
  intro n
  induction n with
  | zero =>
    intro v i h hv ht k hk
    obtain ⟨k, rfl⟩ : ∃ m, k = m + 1 := ⟨k - 1, by omega⟩
    rw [Decode.l1]; simp only
    rw [← hl, if_neg (by omega), List.drop_of_length_le (by omega)]; simp [val]
  | succ n ih =>
    intro v i h hv ht k hk
    obtain ⟨k, rfl⟩ : ∃ m, k = m + 1 := ⟨k - 1, by omega⟩
    rw [Decode.l1]; simp only
    have hd := drop_cons l i (by omega)
    have hc := hB _ (rd_mem l i (by omega))
    have hpow : 128 ^ i * 128 = 128 ^ (i + 1) := (Nat.pow_succ ..).symm
    have hval : val (l.drop i) = (rd l (i : Int)).toNat % 128 + 128 * val (l.drop (i + 1)) := by rw [hd, val]
    have hsum : v + 128 ^ i * val (l.drop i) = (v + (rd l (i : Int)).toNat % 128 * 128 ^ i) + 128 ^ (i + 1) * val (l.drop (i + 1)) := by
      rw [hval, Nat.mul_add, ← hpow, Nat.mul_assoc, Nat.mul_comm (128 ^ i) ((rd l (i : Int)).toNat % 128)]; omega
    have hw7 : IntKind.wrap .i64 (7 * (i : Int)) = ((7 * i : Nat) : Int) := by rw [w64 (by omega) (by omega)]; omega
    rw [← hl, if_pos (by omega), gd_pos (by omega), hw7, gd_pos (by omega), and127 hc, wu64 (by omega) (by omega)]
    have hfit : (rd l (i : Int)).toNat % 128 * 2 ^ (7 * i) < 18446744073709551616 := by rw [pow7]; omega
    have e1 : Sx.shl .u64 (((rd l (i : Int)).toNat % 128 : Nat) : Int) ((7 * i : Nat) : Int) = (((rd l (i : Int)).toNat % 128 * 2 ^ (7 * i) : Nat) : Int) := by
      rw [shl_nat .u64 rfl _ _ (show 7 * i ≤ 64 by omega)]
      congr 1; exact Nat.mod_eq_of_lt hfit
    have e2 : Sx.bits .or .u64 (v : Int) (((rd l (i : Int)).toNat % 128 * 2 ^ (7 * i) : Nat) : Int) = ((v + (rd l (i : Int)).toNat % 128 * 128 ^ i : Nat) : Int) := by
      rw [bits_or .u64 rfl _ _ (show v < 2 ^ 64 by omega) (show _ < 2 ^ 64 from hfit), or_add (by rw [pow7]; exact hv), pow7]
    rw [e1, e2, w64 (by omega) (by omega), show ((i : Int) + 1) = ((i + 1 : Nat) : Int) by omega, hsum]
    refine ih _ (i + 1) (by omega) ?_ (by rw [← hsum]; exact ht) k (by omega)
    have : (rd l (i : Int)).toNat % 128 * 128 ^ i ≤ 127 * 128 ^ i := Nat.mul_le_mul_right _ (by omega)
    omega
end Go.Proofs.Ytakolnamobkkkaa
