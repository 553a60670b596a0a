/- Own text. Numbers as bytes, read as plain functions: what Encode answers. Conditions: numbers below 2^64, of bounded number. -/
import Derived.Test.YtgikgekddnfheaaLiftB
import Derived.Test.YtgikgekddnfheaaSxPure
set_option linter.unusedSimpArgs false
set_option linter.unusedVariables false
namespace Go.Proofs.Ytgikgekddnfheaa
open Go Go.Sx

/-! ### The plain meaning -/
def encH (n : Nat) : List Int := if n < 128 then [] else ((n % 128 + 128 : Nat) : Int) :: encH (n / 128)
termination_by n
decreasing_by omega
def encL (n : Nat) : Nat := if n < 128 then n else encL (n / 128)
termination_by n
decreasing_by omega
def enc1 (n : Nat) : List Int := encH n ++ [(encL n : Int)]
theorem enc1_small (n : Nat) (h : n < 128) : enc1 n = [(n : Int)] := by unfold enc1; rw [encH, encL, if_pos h, if_pos h]; rfl
theorem enc1_big (n : Nat) (h : ¬ n < 128) : enc1 n = ((n % 128 + 128 : Nat) : Int) :: enc1 (n / 128) := by
  unfold enc1; rw [encH, encL, if_neg h, if_neg h]; rfl
theorem enc_ind {P : Nat → Prop} (h0 : ∀ n, n < 128 → P n) (h1 : ∀ n, ¬ n < 128 → P (n / 128) → P n) : ∀ n, P n := by
  intro n
  induction n using Nat.strongRecOn with
  | _ n ih =>
    by_cases h : n < 128
    · exact h0 n h
    · exact h1 n h (ih (n / 128) (by omega))
theorem encL_lt : ∀ n, encL n < 128 := enc_ind (fun n h => by rw [encL, if_pos h]; exact h) fun n h ih => by rw [encL, if_neg h]; exact ih
theorem encH_len : ∀ (j n : Nat), n < 128 ^ (j + 1) → (encH n).length ≤ j := by
  intro j
  induction j with
  | zero => intro n h; rw [encH, if_pos (by simpa using h)]; simp
  | succ j ih =>
    intro n h
    rw [encH]
    by_cases hn : n < 128
    · rw [if_pos hn]; simp
    · rw [if_neg hn, List.length_cons]
      have := ih (n / 128) (by rw [Nat.pow_succ] at h; omega)
      omega
theorem enc1_len {n : Nat} (h : n < 18446744073709551616) : (enc1 n).length ≤ 10 ∧ 1 ≤ (enc1 n).length := by
  have := encH_len 9 n (by have : (128 : Nat) ^ (9 + 1) = 1180591620717411303424 := by decide
                           omega)
  unfold enc1; simp; omega
def val : List Int → Nat
  | [] => 0
  | c :: r => c.toNat % 128 + 128 * val r
theorem val_app (x y : List Int) : val (x ++ y) = val x + 128 ^ x.length * val y := by
  induction x with
  | nil => simp [val]
  | cons c x ih =>
    simp only [List.cons_append, val, ih, List.length_cons, Nat.pow_succ]
    rw [Nat.mul_add, Nat.add_assoc, ← Nat.mul_assoc, Nat.mul_comm 128 (128 ^ x.length)]
theorem val_lt (x : List Int) : val x < 128 ^ x.length := by
  induction x with
  | nil => simp [val]
  | cons c x ih =>
    simp only [val, List.length_cons, Nat.pow_succ]
    omega
theorem val_enc : ∀ n, val (enc1 n) = n := by
  refine enc_ind ?_ ?_
  · intro n h; rw [enc1_small n h]; simp [val]; omega
  · intro n h ih; rw [enc1_big n h, val, ih]; omega
/-- The one way to write a number. -/
def Can : List Int → Prop
  | [] => False
  | [c] => 0 ≤ c ∧ c < 128
  | c :: d :: r => 128 ≤ c ∧ c < 256 ∧ Can (d :: r) ∧ ¬ (r = [] ∧ d = 0)
theorem can_pos : ∀ (d : Int) (r : List Int), Can (d :: r) → ¬ (r = [] ∧ d = 0) → 0 < val (d :: r)
  | d, [], h, hn => by
    have h' : 0 ≤ d ∧ d < 128 := h
    have : d ≠ 0 := fun e => hn ⟨rfl, e⟩
    simp only [val]; omega
  | d, e :: r, h, _ => by
    obtain ⟨h1, h2, h3, h4⟩ := h
    have := can_pos e r h3 h4
    rw [val]; omega
theorem enc_val : ∀ (l : List Int), Can l → enc1 (val l) = l
  | [], h => h.elim
  | [c], h => by
    have h' : 0 ≤ c ∧ c < 128 := h
    have e : val [c] = c.toNat := by simp only [val]; omega
    rw [e, enc1_small _ (by omega)]; congr 1; omega
  | c :: d :: r, h => by
    obtain ⟨h1, h2, h3, h4⟩ := h
    have hp := can_pos d r h3 h4
    have ih := enc_val (d :: r) h3
    have e : val (c :: d :: r) = c.toNat % 128 + 128 * val (d :: r) := rfl
    rw [e, enc1_big _ (by omega), show (c.toNat % 128 + 128 * val (d :: r)) / 128 = val (d :: r) by omega, ih]
    congr 1; omega
theorem can_enc : ∀ n, Can (enc1 n) := by
  refine enc_ind ?_ ?_
  · intro n h; rw [enc1_small n h]; show (0 : Int) ≤ n ∧ (n : Int) < 128; omega
  · intro n h ih
    rw [enc1_big n h]
    cases he : enc1 (n / 128) with
    | nil => rw [he] at ih; exact ih.elim
    | cons d r =>
      rw [he] at ih
      refine ⟨by omega, by omega, ih, fun ⟨h1, h2⟩ => ?_⟩
      have := val_enc (n / 128)
      rw [he, h1, h2] at this
      simp [val] at this; omega
theorem can_byt : ∀ (l : List Int), Can l → Byt l
  | [], h => h.elim
  | [c], h => by
    have h' : 0 ≤ c ∧ c < 128 := h
    exact Byt.cons.2 ⟨by omega, Byt.nil⟩
  | c :: d :: r, h => by
    obtain ⟨h1, h2, h3, h4⟩ := h
    exact Byt.cons.2 ⟨by omega, can_byt (d :: r) h3⟩

/-! ### Encode -/
theorem or128 (n : Nat) : Sx.bits .or .u8 (IntKind.wrap .u8 (n : Int)) 128 = ((n % 128 + 128 : Nat) : Int) := by
  have e : IntKind.wrap .u8 (n : Int) = ((n % 256 : Nat) : Int) := by
    rw [wrapU .u8 rfl]; show (n : Int) % 256 = _; omega
  rw [e]
  have h := bits_or .u8 rfl (n % 256) 128 (show n % 256 < 2 ^ 8 by omega) (show 128 < 2 ^ 8 by decide)
  refine Eq.trans h ?_
  congr 1
  have key : ∀ x : Fin 256, (x.val ||| 128) = x.val % 128 + 128 := by decide +kernel
  have := key ⟨n % 256, by omega⟩
  simp only at this
  rw [this]; omega
theorem Encode.l2_eq : ∀ (k n : Nat) (out : List Int), n < 128 ^ k → 1 ≤ k → n < 18446744073709551616 → out.length + (encH n).length ≤ 1099511627776 → Encode.l2 k (out, (n : Int)) = some (out ++ encH n, (encL n : Int)) := by
  intro k
  induction k with
  | zero => intro n out h h1; omega
  | succ k ih =>
    intro n out h h1 hn hl
    rw [Encode.l2]; simp only
    by_cases hs : n < 128
    · rw [if_neg (by omega), encH, encL, if_pos hs, if_pos hs, List.append_nil]
    · have hH : encH n = ((n % 128 + 128 : Nat) : Int) :: encH (n / 128) := by rw [encH, if_neg hs]
      have hL : encL n = encL (n / 128) := by rw [encL, if_neg hs]
      rw [hH] at hl
      simp only [List.length_cons] at hl
      have hk : 1 ≤ k := by
        rcases Nat.eq_zero_or_pos k with rfl | h0
        · simp at h; omega
        · exact h0
      rw [if_pos (by omega), or128, gd_pos (by simp; omega)]
      have e : Sx.shr .u64 (n : Int) 7 = ((n / 128 : Nat) : Int) := shr_nat .u64 n 7 (by decide)
      rw [e, ih (n / 128) _ (by rw [Nat.pow_succ] at h; omega) hk (by omega) (by simp; omega), hH, hL, List.append_assoc]; rfl
theorem Encode.l1_eq (K : Nat) (hK : 10 ≤ K) (l : List Int) (hw : ∀ x ∈ l, 0 ≤ x ∧ x < 18446744073709551616) (hl : l.length ≤ 1073741824) : ∀ (n : Nat) (out : List Int) (i : Nat), i + n = l.length → out.length ≤ 10 * i → ∀ k, n < k →
    Encode.l1 K l k (out, (i : Int)) = some (out ++ (l.drop i).flatMap fun x => enc1 x.toNat) := by
  intro n
  induction n with
  | zero =>
    intro out i h ho k hk
    obtain ⟨k, rfl⟩ : ∃ m, k = m + 1 := ⟨k - 1, by omega⟩
    rw [Encode.l1]; simp only
    rw [if_neg (by omega), List.drop_of_length_le (by omega)]; simp
  | succ n ih =>
    intro out i h ho k hk
    obtain ⟨k, rfl⟩ : ∃ m, k = m + 1 := ⟨k - 1, by omega⟩
    rw [Encode.l1]; simp only
    obtain ⟨hx0, hx1⟩ := hw _ (rd_mem l i (by omega))
    have hx : rd l (i : Int) = (((rd l (i : Int)).toNat : Nat) : Int) := by omega
    have hle := enc1_len (n := (rd l (i : Int)).toNat) (by omega)
    have hH : (encH (rd l (i : Int)).toNat).length ≤ 9 := by unfold enc1 at hle; simp at hle; omega
    rw [if_pos (by omega), gd_pos (by omega)]
    have h2 := Encode.l2_eq K (rd l (i : Int)).toNat out (by
      have h1 : (128 : Nat) ^ 10 ≤ 128 ^ K := Nat.pow_le_pow_right (by decide) hK
      have h2 : (128 : Nat) ^ 10 = 1180591620717411303424 := by decide
      omega) (by omega) (by omega) (by omega)
    rw [← hx] at h2
    have hL := encL_lt (rd l (i : Int)).toNat
    rw [h2, Option.bind_some]
    simp only
    rw [gd_pos (by simp; omega), w8 (by omega) (by omega), w64 (by omega) (by omega), show ((i : Int) + 1) = ((i + 1 : Nat) : Int) by omega, ih _ _ (by omega) (by simp; omega) k (by omega), drop_cons l i (by omega)]
    simp [enc1]
theorem Encode.eq (l : List Int) (hw : ∀ x ∈ l, 0 ≤ x ∧ x < 18446744073709551616) (hl : l.length ≤ 1073741824) (K : Nat) (hK : 10 ≤ K) (hk : l.length < K) : Encode.f K l = some (l.flatMap fun x => enc1 x.toNat) := by
  unfold Encode.f
  refine bind_of (Encode.l1_eq K hK l hw hl l.length [] 0 (by omega) (by simp) K hk) ?_
  simp
theorem Encode.one (n : Nat) (hn : n < 18446744073709551616) (K : Nat) (hK : 10 ≤ K) : Encode.f K [(n : Int)] = some (enc1 n) := by
  rw [Encode.eq _ (by simp; omega) (by simp) K hK (by simp; omega)]; simp

end Go.Proofs.Ytgikgekddnfheaa
