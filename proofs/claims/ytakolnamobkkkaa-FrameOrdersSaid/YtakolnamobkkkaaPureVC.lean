/- Own text, laid out of another seat. Conditions: as there. -/
import Derived.Test.YtakolnamobkkkaaPureVB
set_option linter.unusedSimpArgs false
set_option linter.unusedVariables false
set_option maxRecDepth 10000
namespace Go.Proofs.Ytakolnamobkkkaa
open Go Go.Sx


/-- The digits, the highest first. -/
def dig : Nat → Nat → List Int
  | 0, _ => []
  | c + 1, n => dig c (n / 128) ++ [((n % 128 : Nat) : Int)]
theorem dig_len : ∀ c n, (dig c n).length = c
  | 0, _ => rfl
  | c + 1, n => by rw [dig, List.length_append, dig_len c]; rfl
theorem dig_front : ∀ i n, dig (i + 1) n = ((n / 128 ^ i % 128 : Nat) : Int) :: dig i n
  | 0, n => by simp [dig]
  | i + 1, n => by
    rw [dig, dig_front i (n / 128), Nat.div_div_eq_div_mul, ← Nat.pow_succ', dig]; rfl
theorem dig_mem : ∀ c n, ∀ x ∈ dig c n, 0 ≤ x ∧ x < 128
  | 0, _, x, h => by cases h
  | c + 1, n, x, h => by
    rw [dig, List.mem_append] at h
    rcases h with h | h
    · exact dig_mem c _ x h
    · simp at h; omega
theorem dig_byt (c n : Nat) : Byt (dig c n) := fun x hx => by have := dig_mem c n x hx; omega
/-- The number that digits write. -/
def bv : List Int → Nat
  | [] => 0
  | c :: r => c.toNat * 128 ^ r.length + bv r
theorem bv_lt : ∀ l : List Int, (∀ x ∈ l, 0 ≤ x ∧ x < 128) → bv l < 128 ^ l.length
  | [], _ => by simp [bv]
  | c :: r, h => by
    have := bv_lt r fun x hx => h x (by simp [hx])
    have hc := h c (by simp)
    simp only [bv, List.length_cons, Nat.pow_succ]
    have : c.toNat * 128 ^ r.length ≤ 127 * 128 ^ r.length := Nat.mul_le_mul_right _ (by omega)
    omega
theorem bv_dig : ∀ c n, bv (dig c n) = n % 128 ^ c
  | 0, n => by simp [dig, bv, Nat.mod_one]
  | c + 1, n => by
    rw [dig_front, bv, dig_len, bv_dig c n, Int.toNat_natCast]
    have h1 := Nat.mod_mul (x := n) (a := 128 ^ c) (b := 128)
    rw [Nat.pow_succ, h1]
    rw [Nat.mul_comm (128 ^ c) (n / 128 ^ c % 128)]; omega
theorem dig_bv : ∀ l : List Int, (∀ x ∈ l, 0 ≤ x ∧ x < 128) → dig l.length (bv l) = l
  | [], _ => rfl
  | c :: r, h => by
    have hr := dig_bv r fun x hx => h x (by simp [hx])
    have hlt := bv_lt r fun x hx => h x (by simp [hx])
    have hc := h c (by simp)
    have hpos : 0 < 128 ^ r.length := Nat.pow_pos (by decide)
    have e1 : (c.toNat * 128 ^ r.length + bv r) / 128 ^ r.length % 128 = c.toNat := by
      rw [Nat.mul_comm, Nat.mul_add_div hpos, Nat.div_eq_of_lt hlt]; omega
    have e2 : ∀ (k n m : Nat), dig k (m * 128 ^ k + n) = dig k n := by
      intro k
      induction k with
      | zero => intro n m; rfl
      | succ k ih =>
        intro n m
        have e3 : (m * 128 ^ (k + 1) + n) / 128 ^ k % 128 = n / 128 ^ k % 128 := by
          rw [Nat.pow_succ, show m * (128 ^ k * 128) + n = 128 ^ k * (m * 128) + n by rw [Nat.mul_comm (128 ^ k) (m * 128), Nat.mul_assoc, Nat.mul_comm 128], Nat.mul_add_div (Nat.pow_pos (by decide)), Nat.mul_comm m, Nat.mul_add_mod]
        rw [dig_front, dig_front, e3, Nat.pow_succ, show m * (128 ^ k * 128) + n = (m * 128) * 128 ^ k + n by rw [Nat.mul_comm (128 ^ k), Nat.mul_assoc], ih]
    rw [List.length_cons, dig_front, bv, e1, e2, hr]
    congr 1; omega

theorem Digits.l1_eq (c n : Nat) (hc : c ≤ 9) (hn : n < 18446744073709551616) : ∀ (m i : Nat), i + m = c → ∀ k, m < k →
    Digits.l1 (c : Int) (n : Int) k (List.replicate (c - i) 0 ++ dig i n, (i : Int)) = some (dig c n) := by
  intro m
  induction m with
  | zero =>
    intro i h k hk
    obtain ⟨k, rfl⟩ : ∃ m, k = m + 1 := ⟨k - 1, by omega⟩
    rw [Digits.l1]; simp only
    rw [if_neg (by simp; omega), show c - i = 0 by omega, show i = c by omega]; rfl
  | succ m ih =>
    intro i h k hk
    obtain ⟨k, rfl⟩ : ∃ m, k = m + 1 := ⟨k - 1, by omega⟩
    rw [Digits.l1]; simp only
    have hw7 : IntKind.wrap .i64 (7 * (i : Int)) = ((7 * i : Nat) : Int) := by rw [w64 (by omega) (by omega)]; omega
    have hw1 : IntKind.wrap .i64 (IntKind.wrap .i64 ((c : Int) - 1) - (i : Int)) = ((c - 1 - i : Nat) : Int) := by
      rw [w64 (n := (c : Int) - 1) (by omega) (by omega), w64 (by omega) (by omega)]; omega
    have hlen : (List.replicate (c - i) (0 : Int) ++ dig i n).length = c := by rw [List.length_append, List.length_replicate, dig_len]; omega
    have e1 : Sx.shr .u64 (n : Int) ((7 * i : Nat) : Int) = ((n / 128 ^ i : Nat) : Int) := by rw [shr_nat .u64 _ _ (show 7 * i ≤ 64 by omega), pow7]
    have e2 : Sx.bits .and .u8 (IntKind.wrap .u8 ((n / 128 ^ i : Nat) : Int)) 127 = ((n / 128 ^ i % 128 : Nat) : Int) := by
      have : IntKind.wrap .u8 ((n / 128 ^ i : Nat) : Int) = ((n / 128 ^ i % 256 : Nat) : Int) := by
        rw [wrapU .u8 rfl]; show _ % (256 : Int) = _; omega
      rw [this, and127 (by omega), Int.toNat_natCast]
      congr 1; omega
    rw [if_pos (by simp; omega), hw7, gd_pos (by omega), hw1, gd_pos (by omega), gd_pos (by omega), e1, e2, w64 (by omega) (by omega), show ((i : Int) + 1) = ((i + 1 : Nat) : Int) by omega, Int.toNat_natCast]
    have e3 : (List.replicate (c - i) (0 : Int) ++ dig i n).set (c - 1 - i) ((n / 128 ^ i % 128 : Nat) : Int) = List.replicate (c - (i + 1)) 0 ++ dig (i + 1) n := by
      rw [dig_front, show c - i = (c - (i + 1)) + 1 by omega, List.replicate_succ', List.append_assoc, List.set_append_right _ _ (by simp; omega)]
      simp [show c - 1 - i - (c - (i + 1)) = 0 by omega]
    rw [e3]
    exact ih (i + 1) (by omega) k (by omega)
theorem Digits.eq (n : Nat) (c : Int) (hn : n < 18446744073709551616) (K : Nat) (hK : 9 < K) : ∃ t, Digits.f K (n : Int) c = some t ∧
    ((t.1 = [] ∧ t.2 = 20 ∧ (c < 1 ∨ 9 < c)) ∨ ∃ m : Nat, c = m ∧ 1 ≤ m ∧ m ≤ 9 ∧ ((t.1 = [] ∧ t.2 = 24 ∧ 128 ^ m ≤ n) ∨ (t.1 = dig m n ∧ t.2 = 0 ∧ n < 128 ^ m))) := by
  unfold Digits.f
  by_cases h1 : c < 1
  · rw [if_pos h1, Option.bind_some, if_pos rfl]; exact ⟨_, rfl, .inl ⟨rfl, rfl, .inl h1⟩⟩
  · rw [if_neg h1, Option.bind_some]
    by_cases h2 : 9 < c
    · rw [if_pos (by simpa using h2)]; exact ⟨_, rfl, .inl ⟨rfl, rfl, .inr h2⟩⟩
    · obtain ⟨m, rfl⟩ : ∃ m : Nat, c = m := ⟨c.toNat, by omega⟩
      have hw7 : IntKind.wrap .i64 (7 * (m : Int)) = ((7 * m : Nat) : Int) := by rw [w64 (by omega) (by omega)]; omega
      have e1 : Sx.shr .u64 (n : Int) ((7 * m : Nat) : Int) = ((n / 128 ^ m : Nat) : Int) := by rw [shr_nat .u64 _ _ (show 7 * m ≤ 64 by omega), pow7]
      have hpos : 0 < 128 ^ m := Nat.pow_pos (by decide)
      rw [if_neg (by simpa using h2), hw7, gd_pos (by omega), e1]
      by_cases h3 : 128 ^ m ≤ n
      · have : 0 < n / 128 ^ m := Nat.div_pos h3 hpos
        rw [if_pos (by omega)]; exact ⟨_, rfl, .inr ⟨m, rfl, by omega, by omega, .inl ⟨rfl, rfl, h3⟩⟩⟩
      · have : n / 128 ^ m = 0 := Nat.div_eq_of_lt (by omega)
        rw [if_neg (by omega), gd_pos (by omega), Int.toNat_natCast]
        have hl := Digits.l1_eq m n (by omega) hn m 0 (by omega) K (by omega)
        rw [show m - 0 = m from rfl, dig, List.append_nil] at hl
        exact ⟨_, bind_of hl rfl, .inr ⟨m, rfl, by omega, by omega, .inr ⟨rfl, rfl, by omega⟩⟩⟩

theorem Number.l1_eq (b : List Int) (c : Nat) (l : List Int) (hl : l = (b.take (Int.toNat (c : Int))).drop 0) (hB : Byt l) (h9 : l.length ≤ 9) : ∀ (m v i : Nat), i + m = l.length → v < 128 ^ i → ∀ k, m < k →
    Number.l1 b (c : Int) k ((v : Int), l, (i : Int)) = some (if ∀ x ∈ l.drop i, x < 128 then .inr ((v * 128 ^ m + bv (l.drop i) : Nat) : Int) else .inl (0, 24)) := by
  intro m
  induction m with
  | zero =>
    intro v i h hv k hk
    obtain ⟨k, rfl⟩ : ∃ m, k = m + 1 := ⟨k - 1, by omega⟩
    rw [Number.l1]; simp only
    rw [← hl, if_neg (by omega), List.drop_of_length_le (by omega)]; simp [bv]
  | succ m ih =>
    intro v i h hv k hk
    obtain ⟨k, rfl⟩ : ∃ m, k = m + 1 := ⟨k - 1, by omega⟩
    rw [Number.l1]; simp only
    have hd := drop_cons l i (by omega)
    have hc := hB _ (rd_mem l i (by omega))
    rw [← hl, if_pos (by omega), gd_pos (by omega)]
    by_cases h1 : 127 < rd l (i : Int)
    · rw [if_pos h1, if_neg (by rw [hd]; intro hx; have := hx _ (List.mem_cons_self ..); omega)]
    · have hp8 : (128 : Nat) ^ i ≤ 128 ^ 8 := Nat.pow_le_pow_right (by decide) (by omega)
      have hp : (128 : Nat) ^ 8 = 72057594037927936 := by decide
      have e1 : Sx.shl .u64 (v : Int) 7 = ((v * 2 ^ 7 : Nat) : Int) := by
        have h := shl_nat .u64 rfl v 7 (show 7 ≤ 64 by decide)
        refine Eq.trans h ?_
        congr 1; exact Nat.mod_eq_of_lt (show v * 2 ^ 7 < 2 ^ 64 by omega)
      have e2 : IntKind.wrap .u64 (rd l (i : Int)) = (((rd l (i : Int)).toNat : Nat) : Int) := by rw [wu64 (by omega) (by omega)]; omega
      have e3 : Sx.bits .or .u64 ((v * 2 ^ 7 : Nat) : Int) (((rd l (i : Int)).toNat : Nat) : Int) = ((v * 128 + (rd l (i : Int)).toNat : Nat) : Int) := by
        rw [bits_or .u64 rfl _ _ (show v * 2 ^ 7 < 2 ^ 64 by omega) (show (rd l (i : Int)).toNat < 2 ^ 64 by omega), Nat.or_comm, or_add (show _ < 2 ^ 7 by omega)]
        congr 1; omega
      rw [if_neg h1, e1, e2, e3, w64 (by omega) (by omega), show ((i : Int) + 1) = ((i + 1 : Nat) : Int) by omega, ih _ (i + 1) (by omega) (by rw [Nat.pow_succ]; omega) k (by omega), hd]
      have hl2 : (l.drop (i + 1)).length = m := by simp; omega
      have hiff : (∀ x ∈ rd l (i : Int) :: l.drop (i + 1), x < 128) ↔ ∀ x ∈ l.drop (i + 1), x < 128 := by
        simp only [List.mem_cons, forall_eq_or_imp]
        exact ⟨fun h => h.2, fun h => ⟨by omega, h⟩⟩
      by_cases h2 : ∀ x ∈ l.drop (i + 1), x < 128
      · rw [if_pos h2, if_pos (hiff.2 h2)]
        congr 3
        rw [bv, hl2, Nat.pow_succ, Nat.add_mul, Nat.mul_assoc, Nat.mul_comm 128 (128 ^ m)]; omega
      · rw [if_neg h2, if_neg (fun h => h2 (hiff.1 h))]
theorem Number.eq (b : List Int) (c : Int) (hb : Byt b) (K : Nat) (hK : 9 < K) : ∃ t, Number.f K b c = some t ∧
    ((t.1 = 0 ∧ t.2 = 20 ∧ (c < 1 ∨ 9 < c)) ∨ ∃ m : Nat, c = m ∧ 1 ≤ m ∧ m ≤ 9 ∧ ((t.1 = 0 ∧ t.2 = 21 ∧ b.length < m) ∨ (m ≤ b.length ∧ t.1 = 0 ∧ t.2 = 24 ∧ ¬ ∀ x ∈ b.take m, x < 128) ∨ (m ≤ b.length ∧ t.1 = (bv (b.take m) : Nat) ∧ t.2 = 0 ∧ ∀ x ∈ b.take m, x < 128))) := by
  unfold Number.f
  by_cases h1 : c < 1
  · rw [if_pos h1, Option.bind_some, if_pos rfl]; exact ⟨_, rfl, .inl ⟨rfl, rfl, .inl h1⟩⟩
  · rw [if_neg h1, Option.bind_some]
    by_cases h2 : 9 < c
    · rw [if_pos (by simpa using h2)]; exact ⟨_, rfl, .inl ⟨rfl, rfl, .inr h2⟩⟩
    · obtain ⟨m, rfl⟩ : ∃ m : Nat, c = m := ⟨c.toNat, by omega⟩
      rw [if_neg (by simpa using h2)]
      by_cases h3 : b.length < m
      · rw [if_pos (by omega)]; exact ⟨_, rfl, .inr ⟨m, rfl, by omega, by omega, .inl ⟨rfl, rfl, h3⟩⟩⟩
      · rw [if_neg (by omega), Int.toNat_natCast, gd_pos (by omega), List.drop_zero]
        have hl := Number.l1_eq b m (b.take m) (by simp) (hb.take m) (by simp; omega) (b.take m).length 0 0 (by simp) (by simp) K (by simp; omega)
        simp only [List.drop_zero, Nat.zero_mul, Nat.zero_add] at hl
        by_cases h4 : ∀ x ∈ b.take m, x < 128
        · rw [if_pos h4] at hl
          exact ⟨_, thn_of hl rfl, .inr ⟨m, rfl, by omega, by omega, .inr (.inr ⟨by omega, rfl, rfl, h4⟩)⟩⟩
        · rw [if_neg h4] at hl
          exact ⟨_, thn_ofL hl, .inr ⟨m, rfl, by omega, by omega, .inr (.inl ⟨by omega, rfl, rfl, h4⟩)⟩⟩
end Go.Proofs.Ytakolnamobkkkaa
