/- Own text. The tables, read as plain functions: by table and by eight, a sum is the same. Conditions: bytes and 32-bit numbers. -/
import Derived.Test.YtghlmkbchdmnoaaPureA
set_option linter.unusedSimpArgs false
set_option linter.unusedVariables false
set_option maxRecDepth 10000
namespace Go.Proofs.Ytghlmkbchdmnoaa
open Go Go.Sx

theorem steps_shift : ∀ (k : Nat) (x : W), (∀ j, j < k → x.getLsbD j = false) → steps k x = x >>> k
  | 0, x, _ => by simp [steps]
  | k + 1, x, h => by
    have e : step x = x >>> 1 := by rw [step_eq, h 0 (by omega)]; simp
    rw [steps, e, steps_shift k (x >>> 1) (fun j hj => by rw [BitVec.getLsbD_ushiftRight]; exact h (1 + j) (by omega)), ← BitVec.shiftRight_add, Nat.add_comm]
theorem steps_add : ∀ (m k : Nat) (x : W), steps (m + k) x = steps k (steps m x)
  | 0, k, x => by rw [Nat.zero_add]; rfl
  | m + 1, k, x => by rw [show m + 1 + k = (m + k) + 1 by omega, steps, steps_add m k]; rfl
theorem byte_iv (x : W) : IntKind.wrap .u8 (iv x) = ((x.toNat % 256 : Nat) : Int) := by
  unfold iv; rw [wrapU .u8 rfl]; show (x.toNat : Int) % 256 = _; omega
theorem by_byte (x : W) : by_ ((x.toNat % 256 : Nat) : Int) = x &&& 255#32 := by
  apply BitVec.eq_of_toNat_eq
  unfold by_
  rw [Int.toNat_natCast, BitVec.toNat_ofNat, BitVec.toNat_and]
  have : (255#32 : W).toNat = 2 ^ 8 - 1 := by decide
  rw [this, Nat.and_two_pow_sub_one_eq_mod]
  omega
theorem T_split (x : W) : T x = (x >>> 8) ^^^ T (by_ ((x.toNat % 256 : Nat) : Int)) := by
  rw [by_byte]
  have hx : x = (x &&& ~~~255#32) ^^^ (x &&& 255#32) := by
    apply BitVec.eq_of_getLsbD_eq
    intro i hi
    rw [BitVec.getLsbD_xor, BitVec.getLsbD_and, BitVec.getLsbD_and, BitVec.getLsbD_not]
    cases x.getLsbD i <;> cases (255#32 : W).getLsbD i <;> simp [hi]
  have hlow : ∀ j, j < 8 → (x &&& ~~~255#32).getLsbD j = false := by
    intro j hj
    rw [BitVec.getLsbD_and, BitVec.getLsbD_not]
    have : ∀ j : Fin 8, (255#32 : W).getLsbD j.val = true := by decide
    rw [this ⟨j, hj⟩]; simp
  have hsh : (x &&& ~~~255#32) >>> 8 = x >>> 8 := by
    apply BitVec.eq_of_getLsbD_eq
    intro i hi
    rw [BitVec.getLsbD_ushiftRight, BitVec.getLsbD_ushiftRight, BitVec.getLsbD_and, BitVec.getLsbD_not]
    rcases Nat.lt_or_ge (8 + i) 32 with h | h
    · have : ∀ j : Fin 24, (255#32 : W).getLsbD (8 + j.val) = false := by decide
      rw [this ⟨i, by omega⟩]; simp [h]
    · rw [BitVec.getLsbD_of_ge _ _ h]; simp
  calc T x = T ((x &&& ~~~255#32) ^^^ (x &&& 255#32)) := by rw [← hx]
    _ = T (x &&& ~~~255#32) ^^^ T (x &&& 255#32) := T_xor _ _
    _ = (x >>> 8) ^^^ T (x &&& 255#32) := by rw [show T (x &&& ~~~255#32) = steps 8 (x &&& ~~~255#32) from rfl, steps_shift 8 _ hlow, hsh]

/-! ### The tables -/
theorem rd_set (l : List Int) (j m : Nat) (v : Int) (hj : j < l.length) : rd (l.set j v) (m : Int) = if m = j then v else rd l (m : Int) := by
  unfold rd
  rw [Int.toNat_natCast, List.getD_eq_getElem?_getD, List.getD_eq_getElem?_getD, List.getElem?_set]
  by_cases h : j = m
  · subst h; simp [hj]
  · rw [if_neg h, if_neg (fun e => h e.symm)]
/-- How far the tables are made: row 0 for the first i0 bytes; then byte by byte, row by row. -/
def Tab (l : List Int) (i0 i k : Nat) : Prop := l.length = 2048 ∧ ∀ i' k' : Nat, i' < 256 → k' < 8 → ((k' = 0 ∧ i' < i0) ∨ (1 ≤ k' ∧ (i' < i ∨ (i' = i ∧ k' < k)))) → rd l ((k' * 256 + i' : Nat) : Int) = iv (steps (8 * (k' + 1)) (by_ (i' : Int)))
theorem New.l1_eq (K : Nat) (hK : 9 ≤ K) : ∀ (n i : Nat) (l : List Int), i + n = 256 → Tab l i 0 0 → ∀ k, n < k → ∃ l', New.l1 K k ((i : Int), l) = some l' ∧ Tab l' 256 0 0 := by
  intro n
  induction n with
  | zero =>
    intro i l h ht k hk
    obtain ⟨k, rfl⟩ : ∃ m, k = m + 1 := ⟨k - 1, by omega⟩
    rw [New.l1]; simp only
    rw [if_neg (by omega)]
    exact ⟨l, rfl, by rw [show (256 : Nat) = i by omega]; exact ht⟩
  | succ n ih =>
    intro i l h ht k hk
    obtain ⟨k, rfl⟩ : ∃ m, k = m + 1 := ⟨k - 1, by omega⟩
    rw [New.l1]; simp only
    have h8 : IntKind.wrap .u8 (i : Int) = (i : Int) := w8 (by omega) (by omega)
    have hB := Bitwise.eq (BitVec.allOnes 32) [(i : Int)] (by simp [Byt]; omega) (by simp) K hK (by simp; omega)
    have e1 : iv (BitVec.allOnes 32) = 4294967295 := by decide
    rw [e1] at hB
    rw [if_pos (by omega), gd_pos (by omega), h8, hB, Option.bind_some, gd_pos (by omega), gd_pos (by have := ht.1; omega), iv_compl, w64 (by omega) (by omega), show ((i : Int) + 1) = ((i + 1 : Nat) : Int) by omega]
    have e2 : ~~~(goOn (BitVec.allOnes 32) [(i : Int)]) = steps (8 * (0 + 1)) (by_ (i : Int)) := by
      unfold goOn
      have : ~~~(BitVec.allOnes 32) = (0#32 : W) := by decide
      rw [BitVec.not_not, this]
      show T (0#32 ^^^ by_ (i : Int)) = _
      rw [BitVec.zero_xor]; rfl
    have e3 : 0 + Int.toNat 0 * 256 + Int.toNat (i : Int) * 1 = i := by simp
    rw [e2, e3]
    refine ih (i + 1) _ (by omega) ⟨by rw [List.length_set]; exact ht.1, fun i' k' hi hk' hd => ?_⟩ k (by omega)
    rcases hd with ⟨rfl, hd⟩ | ⟨_, hd⟩
    · rw [rd_set _ _ _ _ (by have := ht.1; omega)]
      by_cases he : i' = i
      · subst he; rw [if_pos (by omega)]
      · rw [if_neg (by omega)]; exact ht.2 i' 0 hi hk' (.inl ⟨rfl, by omega⟩)
    · omega
theorem ix0 (n : Nat) : 0 + Int.toNat 0 * 256 + Int.toNat (n : Int) * 1 = n := by rw [Int.toNat_natCast, Int.toNat_zero]; omega
theorem in_len {l : List Int} {m : Nat} (h : l.length = 2048) (hm : m < 2048) : m < l.length := by rw [h]; exact hm
theorem byte_in (X : W) : (0 : Int) ≤ ((X.toNat % 256 : Nat) : Int) ∧ ((X.toNat % 256 : Nat) : Int) < ((256 : Nat) : Int) := by omega
theorem byte_lt (X : W) : X.toNat % 256 < 256 := Nat.mod_lt _ (by decide)
theorem New.l3_eq (i : Nat) (hi : i < 256) (l0 : List Int) : ∀ (n k : Nat) (l : List Int), k + n = 8 → 1 ≤ k → Tab l 256 i k → ∀ f, n < f → ∃ l', New.l3 ((i : Int), l0) f ((k : Int), l) = some l' ∧ Tab l' 256 (i + 1) 0 := by
  intro n
  induction n with
  | zero =>
    intro k l h hk1 ht f hf
    obtain ⟨f, rfl⟩ : ∃ m, f = m + 1 := ⟨f - 1, by omega⟩
    rw [New.l3]; simp only
    rw [if_neg (by omega)]
    refine ⟨l, rfl, ht.1, fun i' k' h1 h2 h3 => ht.2 i' k' h1 h2 ?_⟩
    rcases h3 with h3 | ⟨h3, h4⟩
    · exact .inl h3
    · exact .inr ⟨h3, by omega⟩
  | succ n ih =>
    intro k l h hk1 ht f hf
    obtain ⟨f, rfl⟩ : ∃ m, f = m + 1 := ⟨f - 1, by omega⟩
    rw [New.l3]; simp only
    have hw : IntKind.wrap .i64 ((k : Int) - 1) = ((k - 1 : Nat) : Int) := by rw [w64 (by omega) (by omega)]; omega
    have e1 : 0 + Int.toNat ((k - 1 : Nat) : Int) * 256 + Int.toNat (i : Int) * 1 = (k - 1) * 256 + i := by simp
    have e2 : 0 + Int.toNat (k : Int) * 256 + Int.toNat (i : Int) * 1 = k * 256 + i := by simp
    have b1 : (k - 1) * 256 + i < 2048 := by omega
    have b2 : k * 256 + i < 2048 := by omega
    have g1 : (0 : Int) ≤ ((k - 1 : Nat) : Int) ∧ ((k - 1 : Nat) : Int) < ((8 : Nat) : Int) := by omega
    have g2 : (0 : Int) ≤ (i : Int) ∧ (i : Int) < ((256 : Nat) : Int) := by omega
    have g3 : (0 : Int) ≤ 0 ∧ 0 < ((8 : Nat) : Int) := by omega
    have g4 : (0 : Int) ≤ (k : Int) ∧ (k : Int) < ((8 : Nat) : Int) := by omega
    have g5 : (k : Int) < 8 := by omega
    have hw2 : IntKind.wrap .i64 ((k : Int) + 1) = ((k + 1 : Nat) : Int) := by rw [w64 (by omega) (by omega)]; omega
    have ek : 8 * (k + 1) = 8 * ((k - 1) + 1) + 8 := by omega
    have hcase : ((k - 1 = 0 ∧ i < 256) ∨ (1 ≤ k - 1 ∧ (i < i ∨ (i = i ∧ k - 1 < k)))) := by omega
    have hk8 : k - 1 < 8 := by omega
    have hx : rd l (((k - 1) * 256 + i : Nat) : Int) = iv (steps (8 * ((k - 1) + 1)) (by_ (i : Int))) := ht.2 i (k - 1) hi hk8 hcase
    have hT : T (steps (8 * ((k - 1) + 1)) (by_ (i : Int))) = steps (8 * (k + 1)) (by_ (i : Int)) := by
      rw [ek, steps_add]; rfl
    generalize steps (8 * ((k - 1) + 1)) (by_ (i : Int)) = X at hx hT
    have h0 : rd l ((X.toNat % 256 : Nat) : Int) = iv (T (by_ ((X.toNat % 256 : Nat) : Int))) := by
      have := ht.2 (X.toNat % 256) 0 (byte_lt X) (by decide) (.inl ⟨rfl, byte_lt X⟩)
      rw [Nat.zero_mul, Nat.zero_add] at this
      exact this
    have b3 : X.toNat % 256 < 2048 := Nat.lt_trans (byte_lt X) (by decide)
    have hs : Sx.shr .u32 (iv X) 8 = iv (X >>> 8) := iv_shr X 8 (by decide)
    rw [if_pos g5, hw, gd_pos g1, gd_pos g2, e1, gd_pos (in_len ht.1 b1), gd_pos g3, hx, byte_iv, gd_pos (byte_in X), ix0, gd_pos (in_len ht.1 b3), gd_pos g4, gd_pos g2, e2, gd_pos (in_len ht.1 b2), h0, hs, iv_xor, ← T_split, hw2]
    have hn : k + 1 + n = 8 := by omega
    have hk2 : 1 ≤ k + 1 := by omega
    have hnf : n < f := by omega
    clear hx h0
    rw [hT]
    refine ih (k + 1) _ hn hk2 ⟨by rw [List.length_set]; exact ht.1, fun i' k' h1 h2 h3 => ?_⟩ f hnf
    rw [rd_set _ _ _ _ (in_len ht.1 b2)]
    by_cases he : k' * 256 + i' = k * 256 + i
    · have hk' : k' = k := by omega
      have hi' : i' = i := by omega
      subst hk'; subst hi'; rw [if_pos rfl]
    · rw [if_neg he]
      refine ht.2 i' k' h1 h2 ?_
      rcases h3 with h3 | ⟨h3, h4⟩
      · exact .inl h3
      · refine .inr ⟨h3, ?_⟩
        rcases h4 with h4 | ⟨h4, h5⟩
        · exact .inl h4
        · refine .inr ⟨h4, ?_⟩
          subst h4; omega
theorem New.l2_eq (K : Nat) (hK : 9 ≤ K) : ∀ (n i : Nat) (l : List Int), i + n = 256 → Tab l 256 i 0 → ∀ k, n < k → ∃ l', New.l2 K k ((i : Int), l) = some l' ∧ Tab l' 256 256 0 := by
  intro n
  induction n with
  | zero =>
    intro i l h ht k hk
    obtain ⟨k, rfl⟩ : ∃ m, k = m + 1 := ⟨k - 1, by omega⟩
    rw [New.l2]; simp only
    rw [if_neg (by omega)]
    have : i = 256 := by omega
    subst this
    exact ⟨l, rfl, ht⟩
  | succ n ih =>
    intro i l h ht k hk
    obtain ⟨k, rfl⟩ : ∃ m, k = m + 1 := ⟨k - 1, by omega⟩
    rw [New.l2]; simp only
    rw [if_pos (by omega)]
    obtain ⟨l', h1, h2⟩ := New.l3_eq i (by omega) l 7 1 l (by omega) (by omega) ⟨ht.1, fun i' k' a b c => ht.2 i' k' a b (by omega)⟩ K (by omega)
    have h1' : New.l3 ((i : Int), l) K (1, l) = some l' := h1
    rw [h1', Option.bind_some, w64 (by omega) (by omega), show ((i : Int) + 1) = ((i + 1 : Nat) : Int) by omega]
    exact ih (i + 1) l' (by omega) h2 k (by omega)
theorem New.eq (K : Nat) (hK : 300 ≤ K) : ∃ l, New.f K = some l ∧ Tab l 256 256 0 := by
  unfold New.f
  obtain ⟨l1, h1, t1⟩ := New.l1_eq K (by omega) 256 0 (List.replicate 2048 0) (by omega) ⟨List.length_replicate, fun i' k' a b c => by omega⟩ K (by omega)
  obtain ⟨l2, h2, t2⟩ := New.l2_eq K (by omega) 256 0 l1 (by omega) t1 K (by omega)
  exact ⟨l2, bind_of h1 (bind_of h2 rfl), t2⟩
end Go.Proofs.Ytghlmkbchdmnoaa
