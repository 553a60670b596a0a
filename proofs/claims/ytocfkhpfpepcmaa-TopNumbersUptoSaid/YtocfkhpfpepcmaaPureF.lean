/- Own text. How long a number's writing is; the plain part of the law VintBack. Conditions: numbers below 2^64, bytes, at most 1048576 of both. -/
import Derived.Test.YtocfkhpfpepcmaaPureE
import Derived.Test.YtocfkhpfpepcmaaLiftC
set_option linter.unusedSimpArgs false
set_option linter.unusedVariables false
namespace Go.Proofs.Ytocfkhpfpepcmaa
open Go Go.Sx

/-- How many bits a number has. -/
def bl (n : Nat) : Nat := if n = 0 then 0 else bl (n / 2) + 1
termination_by n
decreasing_by omega
theorem bl_zero : bl 0 = 0 := by rw [bl]; rfl
theorem bl_pos (n : Nat) (h : 0 < n) : bl n = bl (n / 2) + 1 := by rw [bl, if_neg (by omega)]
theorem bl_div : ∀ (k n : Nat), 2 ^ k ≤ n → bl n = bl (n / 2 ^ k) + k
  | 0, n, _ => by simp
  | k + 1, n, h => by
    have h2 : 2 ^ k ≤ n := by rw [Nat.pow_succ] at h; omega
    have h3 : 2 ≤ n / 2 ^ k := (Nat.le_div_iff_mul_le (Nat.pow_pos (by decide))).2 (by rw [Nat.pow_succ] at h; omega)
    have e : n / 2 ^ k / 2 = n / 2 ^ (k + 1) := by rw [Nat.div_div_eq_div_mul, Nat.pow_succ]
    rw [bl_div k n h2, bl_pos (n / 2 ^ k) (by omega), e]; omega
/-- The same, so many times at most. -/
def blF : Nat → Nat → Nat
  | 0, _ => 0
  | f + 1, n => if n = 0 then 0 else blF f (n / 2) + 1
theorem blF_eq : ∀ (f n : Nat), n < 2 ^ f → blF f n = bl n
  | 0, n, h => by
    have : n = 0 := by simpa using h
    rw [this, bl_zero]; rfl
  | f + 1, n, h => by
    rw [blF]
    by_cases h0 : n = 0
    · rw [if_pos h0, h0, bl_zero]
    · rw [if_neg h0, bl_pos n (by omega), blF_eq f (n / 2) (by rw [Nat.pow_succ] at h; omega)]
theorem bl_lt (n k : Nat) (h : n < 2 ^ k) : bl n ≤ k := by
  rw [← blF_eq k n h]
  clear h
  induction k generalizing n with
  | zero => exact Nat.le_refl _
  | succ k ih =>
    rw [blF]; split
    · omega
    · have := ih (n / 2); omega
theorem str1_size : str1.size = 256 := by decide +kernel
theorem str1_bt (x : Nat) (h : x < 256) : bt str1 (x : Int) = (bl x : Int) := by
  have key : ∀ x : Fin 256, bt str1 ((x.val : Nat) : Int) = ((blF 8 x.val : Nat) : Int) := by decide +kernel
  have := key ⟨x, h⟩
  rw [this, blF_eq 8 x h]
theorem Len64.eq (n : Nat) (hn : n < 18446744073709551616) : Len64.f (n : Int) = some (bl n : Int) := by
  have tab : ∀ (x y : Nat) (p : Prop) [Decidable p], x < 256 → y ≤ 64 → (p ↔ True) → True := fun _ _ _ _ _ _ _ => trivial
  have s32 : Sx.shr .u64 (n : Int) 32 = ((n / 2 ^ 32 : Nat) : Int) := shr_nat .u64 n 32 (by decide)
  have s16 : ∀ m : Nat, Sx.shr .u64 (m : Int) 16 = ((m / 2 ^ 16 : Nat) : Int) := fun m => shr_nat .u64 m 16 (by decide)
  have s8 : ∀ m : Nat, Sx.shr .u64 (m : Int) 8 = ((m / 2 ^ 8 : Nat) : Int) := fun m => shr_nat .u64 m 8 (by decide)
  have fin : ∀ (x : Nat) (c : Nat), x < 256 → c ≤ 56 → gd ((0 : Int) ≤ IntKind.wrap .u8 (x : Int) ∧ IntKind.wrap .u8 (x : Int) < (str1.size : Int)) (some (IntKind.wrap .i64 ((c : Int) + IntKind.wrap .i64 (bt str1 (IntKind.wrap .u8 (x : Int)))))) = some ((bl x + c : Nat) : Int) := by
    intro x c hx hc
    have hb := bl_lt x 8 (by omega)
    rw [w8 (by omega) (by omega), str1_size, gd_pos (by omega), str1_bt x hx, w64 (n := (bl x : Int)) (by omega) (by omega), w64 (by omega) (by omega)]
    congr 1; omega
  unfold Len64.f
  rw [s32]
  by_cases h32 : 2 ^ 32 ≤ n
  · have e := bl_div 32 n h32
    rw [if_pos (by omega), s16]
    by_cases h16 : 2 ^ 16 ≤ n / 2 ^ 32
    · have e16 := bl_div 16 _ h16
      rw [if_pos (by omega)]
      by_cases h8 : 2 ^ 8 ≤ n / 2 ^ 32 / 2 ^ 16
      · have e8 := bl_div 8 _ h8
        rw [if_pos (by omega), s8, show IntKind.wrap .i64 (IntKind.wrap .i64 (32 + 16) + 8) = ((56 : Nat) : Int) from rfl, fin _ 56 (by omega) (by omega)]
        congr 2; omega
      · rw [if_neg (by omega), show IntKind.wrap .i64 (32 + 16) = ((48 : Nat) : Int) from rfl, fin _ 48 (by omega) (by omega)]
        congr 2; omega
    · rw [if_neg (by omega)]
      by_cases h8 : 2 ^ 8 ≤ n / 2 ^ 32
      · have e8 := bl_div 8 _ h8
        rw [if_pos (by omega), s8, show IntKind.wrap .i64 (32 + 8) = ((40 : Nat) : Int) from rfl, fin _ 40 (by omega) (by omega)]
        congr 2; omega
      · rw [if_neg (by omega)]
        have h := fin (n / 2 ^ 32) 32 (by omega) (by omega)
        clear s32 s16 s8 h16 h8
        generalize n / 2 ^ 32 = m at h e ⊢
        rw [e]
        exact h
  · rw [if_neg (by omega)]
    by_cases h16 : 2 ^ 16 ≤ n
    · have e16 := bl_div 16 _ h16
      rw [if_pos (by omega), s16]
      by_cases h8 : 2 ^ 8 ≤ n / 2 ^ 16
      · have e8 := bl_div 8 _ h8
        rw [if_pos (by omega), s8, show IntKind.wrap .i64 (IntKind.wrap .i64 (0 + 16) + 8) = ((24 : Nat) : Int) from rfl, fin _ 24 (by omega) (by omega)]
        congr 2; omega
      · rw [if_neg (by omega), show IntKind.wrap .i64 (0 + 16) = ((16 : Nat) : Int) from rfl, fin _ 16 (by omega) (by omega)]
        congr 2; omega
    · rw [if_neg (by omega)]
      by_cases h8 : 2 ^ 8 ≤ n
      · have e8 := bl_div 8 _ h8
        rw [if_pos (by omega), s8, show IntKind.wrap .i64 (0 + 8) = ((8 : Nat) : Int) from rfl, fin _ 8 (by omega) (by omega)]
        congr 2; omega
      · rw [if_neg (by omega)]
        exact fin n 0 (by omega) (by omega)
theorem enc1_bl : ∀ n, (enc1 n).length = max 1 ((bl n + 6) / 7) := by
  refine enc_ind ?_ ?_
  · intro n h
    have := bl_lt n 7 (by omega)
    rw [enc1_small n h]; simp; omega
  · intro n h ih
    have e := bl_div 7 n (by omega)
    have hp := bl_pos (n / 128) (by omega)
    rw [enc1_big n h, List.length_cons, ih]
    have : n / 2 ^ 7 = n / 128 := rfl
    rw [this] at e
    omega
theorem Size.one (n : Nat) (hn : n < 18446744073709551616) (K : Nat) (hK : 2 ≤ K) : Size.f K [(n : Int)] = some (((enc1 n).length : Nat) : Int) := by
  obtain ⟨K, rfl⟩ : ∃ m, K = m + 2 := ⟨K - 2, by omega⟩
  have hb := bl_lt n 64 (by omega)
  have hl := enc1_bl n
  have h1 : Size.l1 [(n : Int)] (K + 2) (0, 0) = some (((enc1 n).length : Nat) : Int) := by
    rw [Size.l1]; simp only
    have hr : rd [(n : Int)] 0 = (n : Int) := rfl
    have hd : Int.tdiv ((bl n + 6 : Nat) : Int) 7 = (((bl n + 6) / 7 : Nat) : Int) := by
      rw [Int.tdiv_eq_ediv_of_nonneg (by omega)]; omega
    rw [if_pos (by simp), gd_pos (by simp), hr, Len64.eq n hn, Option.bind_some, w64 (n := (bl n : Int) + 6) (by omega) (by omega), show (bl n : Int) + 6 = ((bl n + 6 : Nat) : Int) by omega, hd, w64 (n := (((bl n + 6) / 7 : Nat) : Int)) (by omega) (by omega), w64 (by omega) (by omega), w64 (n := (0 : Int) + 1) (by omega) (by omega), Size.l1]
    simp only
    rw [if_neg (by simp)]
    congr 1; omega
  unfold Size.f
  rw [h1]; rfl
theorem flat_len : ∀ l' : List Int, (∀ x ∈ l', 0 ≤ x ∧ x < 18446744073709551616) → (l'.flatMap fun x => enc1 x.toNat).length ≤ 10 * l'.length := by
  intro l'
  induction l' with
  | nil => simp
  | cons x r ih2 =>
    intro hx
    have h1 := ih2 fun y hy => hx y (by simp [hy])
    have h2 := enc1_len (n := x.toNat) (by have := hx x (by simp); omega)
    rw [List.flatMap_cons, List.length_append, List.length_cons]; omega
theorem VintBack.l1_eq (K : Nat) (hK : 30 ≤ K) (l behind : List Int) (hw : ∀ x ∈ l, 0 ≤ x ∧ x < 18446744073709551616) (hb : Byt behind) (hl : l.length + behind.length ≤ 1048576) : ∀ (n i : Nat) (cur : List Int), i + n = l.length → cur = ((l.drop i).flatMap fun x => enc1 x.toNat) ++ behind → ∀ k, n < k →
    VintBack.l1 K l k (cur, (i : Int)) = some (.inr behind) := by
  intro n
  induction n with
  | zero =>
    intro i cur h hc k hk
    obtain ⟨k, rfl⟩ : ∃ m, k = m + 1 := ⟨k - 1, by omega⟩
    rw [VintBack.l1]; simp only
    rw [if_neg (by omega), hc, List.drop_of_length_le (by omega)]; rfl
  | succ n ih =>
    intro i cur h hc k hk
    obtain ⟨k, rfl⟩ : ∃ m, k = m + 1 := ⟨k - 1, by omega⟩
    rw [VintBack.l1]; simp only
    obtain ⟨hx0, hx1⟩ := hw _ (rd_mem l i (by omega))
    obtain ⟨m, hm⟩ : ∃ m : Nat, rd l (i : Int) = m := ⟨(rd l (i : Int)).toNat, by omega⟩
    have hcur : cur = enc1 m ++ (((l.drop (i + 1)).flatMap fun x => enc1 x.toNat) ++ behind) := by
      rw [hc, drop_cons l i (by omega), hm]; simp
    have hrest : Byt (((l.drop (i + 1)).flatMap fun x => enc1 x.toNat) ++ behind) := by
      refine Byt.app.2 ⟨fun y hy => ?_, hb⟩
      obtain ⟨x, _, hy⟩ := List.mem_flatMap.1 hy
      exact can_byt _ (can_enc _) y hy
    have h9 := flat_len (l.drop (i + 1)) fun x hx => hw x (List.mem_of_mem_drop hx)
    have hme := enc1_len (n := m) (by omega)
    rw [List.length_drop] at h9
    have hclen : cur.length = (enc1 m).length + (((l.drop (i + 1)).flatMap fun x => enc1 x.toNat).length + behind.length) := by rw [hcur]; simp
    obtain ⟨t, ht, hd⟩ := Decode.eq cur (by rw [hcur]; exact Byt.app.2 ⟨can_byt _ (can_enc m), hrest⟩) (by omega) K (by omega)
    rw [hcur] at hd
    obtain ⟨t1, t2, t3⟩ := hd.can (can_enc m) (by rw [val_enc]; omega)
    rw [val_enc] at t1
    rw [if_pos (by omega), ht, Option.bind_some, if_neg (by omega), gd_pos (by omega), gd_pos (by omega), if_neg (by omega), if_neg (by omega), if_neg (by omega), gd_pos (by omega), gd_pos (by omega), hm, Size.one m (by omega) K (by omega), Option.bind_some, Option.bind_some]
    simp only
    rw [if_neg (by simp [t2]), t2, Int.toNat_natCast, gd_pos (by omega), List.take_length, w64 (by omega) (by omega), show ((i : Int) + 1) = ((i + 1 : Nat) : Int) by omega]
    exact ih (i + 1) _ (by omega) (by rw [hcur, List.drop_left' rfl]) k (by omega)
namespace Pure
theorem VintBack : ∀ (a0 : List Int) (a1 : List Int), (∀ x ∈ a0, (Lit.int .u64 x).wf = true) → (∀ x ∈ a1, (Lit.int .u8 x).wf = true) → a0.length + a1.length ≤ 1048576 → ∃ K, VintBack.f K a0 a1 = some true := by
  intro l b hw hb hl
  have hb := Byt.of hb
  have hw : ∀ x ∈ l, 0 ≤ x ∧ x < 18446744073709551616 := fun x hx => wfu64 (hw x hx)
  refine ⟨l.length + b.length + 30, ?_⟩
  unfold VintBack.f
  have hlen := flat_len l hw
  rw [Encode.eq l hw (by omega) _ (by omega) (by omega), Option.bind_some, gd_pos (by omega)]
  refine thn_of (VintBack.l1_eq _ (by omega) l b hw hb hl l.length 0 _ (by omega) (by simp) _ (by omega)) ?_
  rw [same.eq _ _ (by omega) _ (by omega), Option.bind_some, if_pos (by simp), works.eq _ (by omega)]
  rfl
end Pure
end Go.Proofs.Ytocfkhpfpepcmaa
