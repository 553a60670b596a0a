/- Own text. By table a sum is the same. Conditions: bytes and 32-bit numbers, the tables as New makes them. -/
import Derived.Test.YtghlmkbchdmnoaaPureB
set_option linter.unusedSimpArgs false
set_option linter.unusedVariables false
set_option maxRecDepth 10000
namespace Go.Proofs.Ytghlmkbchdmnoaa
open Go Go.Sx

theorem Tab.get {l : List Int} (h : Tab l 256 256 0) (k i : Nat) (hi : i < 256) (hk : k < 8) : rd l ((k * 256 + i : Nat) : Int) = iv (steps (8 * (k + 1)) (by_ (i : Int))) := by
  refine h.2 i k hi hk ?_
  rcases Nat.eq_zero_or_pos k with h0 | h0
  · exact .inl ⟨h0, hi⟩
  · exact .inr ⟨h0, .inl hi⟩
theorem xor_shr_by (s : W) {c : Int} (h : 0 ≤ c ∧ c < 256) : (s ^^^ by_ c) >>> 8 = s >>> 8 := by
  have hz : by_ c >>> 8 = 0#32 := by
    apply BitVec.eq_of_toNat_eq
    unfold by_
    rw [BitVec.toNat_ushiftRight, BitVec.toNat_ofNat, Nat.shiftRight_eq_div_pow]
    show c.toNat % 4294967296 / 256 = 0
    omega
  rw [BitVec.ushiftRight_xor_distrib, hz, BitVec.xor_zero]
theorem low_xor (s : W) {c : Int} (h : 0 ≤ c ∧ c < 256) : Sx.bits .xor .u8 (IntKind.wrap .u8 (iv s)) c = (((s ^^^ by_ c).toNat % 256 : Nat) : Int) := by
  obtain ⟨n, rfl⟩ : ∃ n : Nat, c = n := ⟨c.toNat, by omega⟩
  have hn : n < 2 ^ 8 := by omega
  have hm : s.toNat % 256 < 2 ^ 8 := Nat.mod_lt _ (by decide)
  rw [byte_iv, bits_xor .u8 rfl _ _ hm hn]
  congr 1
  have e1 : (s ^^^ by_ (n : Int)).toNat = s.toNat ^^^ n := by
    unfold by_
    rw [BitVec.toNat_xor, BitVec.toNat_ofNat, Int.toNat_natCast, Nat.mod_eq_of_lt (Nat.lt_trans hn (by decide))]
  rw [e1]
  apply Nat.eq_of_testBit_eq
  intro j
  have e256 : (256 : Nat) = 2 ^ 8 := rfl
  rw [e256, Nat.testBit_xor, Nat.testBit_mod_two_pow, Nat.testBit_mod_two_pow, Nat.testBit_xor]
  by_cases hj : j < 8
  · simp [hj]
  · have : n.testBit j = false := Nat.testBit_lt_two_pow (Nat.lt_of_lt_of_le hn (Nat.pow_le_pow_right (by decide) (by omega)))
    simp [hj, this]
theorem ByTable.l1_eq (tab : List Int) (ht : Tab tab 256 256 0) (l : List Int) (hb : Byt l) (hl : l.length ≤ 140737488355328) : ∀ (n i : Nat) (s : W), i + n = l.length → ∀ k, n < k → ByTable.l1 l tab k (iv s, (i : Int)) = some (iv (run s (l.drop i))) := by
  intro n
  induction n with
  | zero =>
    intro i s h k hk
    obtain ⟨k, rfl⟩ : ∃ m, k = m + 1 := ⟨k - 1, by omega⟩
    rw [ByTable.l1]; simp only
    rw [if_neg (by omega), List.drop_of_length_le (by omega)]; rfl
  | succ n ih =>
    intro i s h k hk
    obtain ⟨k, rfl⟩ : ∃ m, k = m + 1 := ⟨k - 1, by omega⟩
    rw [ByTable.l1]; simp only
    have hc := hb _ (rd_mem l i (by omega))
    have hd := drop_cons l i (by omega)
    have g1 : (i : Int) < (l.length : Int) := by omega
    have g2 : (0 : Int) ≤ (i : Int) ∧ (i : Int) < (l.length : Int) := by omega
    have g3 : (0 : Int) ≤ 0 ∧ 0 < ((8 : Nat) : Int) := by omega
    have hw : IntKind.wrap .i64 ((i : Int) + 1) = ((i + 1 : Nat) : Int) := by rw [w64 (by omega) (by omega)]; omega
    have hn : i + 1 + n = l.length := by omega
    have hnk : n < k := by omega
    generalize rd l (i : Int) = c at hc hd
    have hs : Sx.shr .u32 (iv s) 8 = iv (s >>> 8) := iv_shr s 8 (by decide)
    have b3 : (s ^^^ by_ c).toNat % 256 < 2048 := Nat.lt_trans (byte_lt _) (by decide)
    have h0 := ht.get 0 ((s ^^^ by_ c).toNat % 256) (byte_lt _) (by decide)
    rw [Nat.zero_mul, Nat.zero_add] at h0
    rw [if_pos g1, gd_pos g2, gd_pos g3, low_xor s hc, gd_pos (byte_in _), ix0, gd_pos (in_len ht.1 b3), h0, hs, iv_xor, hw, ih (i + 1) _ hn k hnk, hd]
    show some (iv (run _ _)) = some (iv (run (T (s ^^^ by_ c)) _))
    rw [T_split (s ^^^ by_ c), xor_shr_by s hc]; rfl
theorem ByTable.eq (tab : List Int) (ht : Tab tab 256 256 0) (s : W) (l : List Int) (hb : Byt l) (hl : l.length ≤ 140737488355328) (K : Nat) (hk : l.length < K) : ByTable.f K tab (iv s) l = some (iv (goOn s l)) := by
  unfold ByTable.f
  rw [iv_compl]
  refine bind_of (ByTable.l1_eq tab ht l hb hl l.length 0 _ (by omega) K hk) ?_
  rw [iv_compl]; rfl
end Go.Proofs.Ytghlmkbchdmnoaa
