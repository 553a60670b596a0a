/- Own text, laid out of another seat. Conditions: as there. -/
import Derived.Test.YtkblnahoidbfkaaPureVA
set_option linter.unusedSimpArgs false
set_option linter.unusedVariables false
set_option maxRecDepth 10000
namespace Go.Proofs.Ytkblnahoidbfkaa
open Go Go.Sx
/-! ### lent, kept, turned -/
theorem lent.l1_eq (b : List Int) (hl : b.length ≤ 140737488355328) : ∀ (n i : Nat) (out : List Int), out.length = b.length + 8 → i + n = b.length + 8 → ∀ k, n < k → lent.l1 b k (out, (i : Int)) = some (out.take i ++ (b ++ List.replicate 8 238).drop i) := by
  intro n
  induction n with
  | zero =>
    intro i out ho h k hk
    obtain ⟨k, rfl⟩ : ∃ m, k = m + 1 := ⟨k - 1, by omega⟩
    rw [lent.l1]; simp only
    rw [if_neg (by omega), List.take_of_length_le (by omega), List.drop_of_length_le (by simp; omega), List.append_nil]
  | succ n ih =>
    intro i out ho h k hk
    obtain ⟨k, rfl⟩ : ∃ m, k = m + 1 := ⟨k - 1, by omega⟩
    rw [lent.l1]; simp only
    rw [if_pos (by omega), gd_pos (by omega), gd_pos (by omega), Int.toNat_natCast]
    have step : ∀ v : Int, v = rd (b ++ List.replicate 8 238) (i : Int) → lent.l1 b k ((out.set i v), IntKind.wrap .i64 ((i : Int) + 1)) = some (out.take i ++ (b ++ List.replicate 8 238).drop i) := by
      intro v hv
      rw [w64 (by omega) (by omega), show ((i : Int) + 1) = ((i + 1 : Nat) : Int) by omega, ih (i + 1) _ (by simpa using ho) (by omega) k (by omega)]
      congr 1
      rw [drop_cons (b ++ List.replicate 8 238) i (by simp; omega), ← hv, take_snoc _ _ (by simp; omega), rd_nat _ _ (by simp; omega), List.take_set, List.set_eq_of_length_le (by simp; omega)]
      simp
    by_cases hi : i < b.length
    · rw [if_pos (by omega), gd_pos (by omega), gd_pos (by simp; omega), gd_pos (by simp; omega), Option.bind_some, List.set_set]
      exact step _ (rd_app_left _ _ _ hi).symm
    · rw [if_neg (by omega), Option.bind_some]
      refine step 238 ?_
      rw [rd_app_right _ _ _ (by omega) (by simp; omega), rd_nat _ _ (by simp; omega), List.getElem_replicate]
theorem lent.eq (b : List Int) (hl : b.length ≤ 140737488351232) (K : Nat) (hK : b.length + 8 < K) : lent.f K b = some (b, List.replicate 8 238) := by
  unfold lent.f
  have e : IntKind.wrap .i64 ((b.length : Int) + 8) = ((b.length + 8 : Nat) : Int) := by rw [w64 (by omega) (by omega)]; omega
  rw [e, gd_pos (by omega), Int.toNat_natCast]
  have h := lent.l1_eq b (by omega) (b.length + 8) 0 (List.replicate (b.length + 8) 0) (by simp) (by omega) K hK
  refine bind_of h ?_
  rw [Int.toNat_natCast, List.drop_zero, List.take_zero, List.nil_append, gd_pos (by simp), List.take_left' rfl, List.drop_left' rfl]
theorem kept.l1_eq (l s : List Int) (hl : l = s ++ List.replicate 8 238) (hs : l.length < 4611686018427387904) : ∀ (n i : Nat), i + n = l.length → ∀ k, n < k → kept.l1 s k (l, (i : Int)) = some (.inr ()) := by
  intro n
  induction n with
  | zero =>
    intro i h k hk
    obtain ⟨k, rfl⟩ : ∃ m, k = m + 1 := ⟨k - 1, by omega⟩
    rw [kept.l1]; simp only
    rw [if_neg (by omega)]
  | succ n ih =>
    intro i h k hk
    obtain ⟨k, rfl⟩ : ∃ m, k = m + 1 := ⟨k - 1, by omega⟩
    have hlen : l.length = s.length + 8 := by subst hl; simp
    rw [kept.l1]; simp only
    rw [if_pos (by omega)]
    have step : kept.l1 s k (l, IntKind.wrap .i64 ((i : Int) + 1)) = some (.inr ()) := by
      rw [w64 (by omega) (by omega), show ((i : Int) + 1) = ((i + 1 : Nat) : Int) by omega]
      exact ih (i + 1) (by omega) k (by omega)
    refine bind_of (v := false) ?_ (by simpa using step)
    by_cases hi : i < s.length
    · have e : rd l (i : Int) = rd s (i : Int) := by subst hl; exact rd_app_left _ _ _ hi
      rw [if_pos (by omega), gd_pos (by omega), gd_pos (by omega), gd_pos (by omega), gd_pos (by omega), if_neg (by simp [e]), if_neg (by omega)]
    · have e : rd l (i : Int) = 238 := by
        subst hl
        rw [rd_app_right _ _ _ (by omega) (by simp; omega), rd_nat _ _ (by simp; omega), List.getElem_replicate]
      rw [if_neg (by omega), if_pos (by omega), gd_pos (by omega), gd_pos (by omega), e]
      simp
theorem kept.eq (s : List Int) (hs : s.length ≤ 140737488351232) (K : Nat) (hK : s.length + 8 < K) : kept.f K s (List.replicate 8 238) s = some true := by
  unfold kept.f
  have e : IntKind.wrap .i64 ((s.length : Int) + 8) = ((s.length + 8 : Nat) : Int) := by rw [w64 (by omega) (by omega)]; omega
  rw [e, Int.toNat_natCast, gd_pos (by simp; omega), List.drop_zero, List.take_of_length_le (by simp)]
  refine thn_of (kept.l1_eq _ s rfl (by simp; omega) (s.length + 8) 0 (by simp) K hK) ?_
  simp
theorem turned.l1_eq : ∀ (n i : Nat) (l : List Int), Byt l → l.length ≤ 140737488355328 → i + n = l.length → ∀ k, n < k → ∃ r, turned.l1 k ((i : Int), l) = some r ∧ Byt r ∧ r.length = l.length := by
  intro n
  induction n with
  | zero =>
    intro i l hb hl h k hk
    obtain ⟨k, rfl⟩ : ∃ m, k = m + 1 := ⟨k - 1, by omega⟩
    rw [turned.l1]; simp only
    rw [if_neg (by omega)]; exact ⟨l, rfl, hb, rfl⟩
  | succ n ih =>
    intro i l hb hl h k hk
    obtain ⟨k, rfl⟩ : ∃ m, k = m + 1 := ⟨k - 1, by omega⟩
    rw [turned.l1]; simp only
    rw [if_pos (by omega), gd_pos (by omega), gd_pos (by omega), gd_pos (by omega), w64 (n := (i : Int) + 1) (by omega) (by omega), show ((i : Int) + 1) = ((i + 1 : Nat) : Int) by omega, Int.toNat_natCast]
    have hc := hb _ (rd_mem l i (by omega))
    obtain ⟨x, hx⟩ : ∃ x : Nat, rd l (i : Int) = x := ⟨(rd l (i : Int)).toNat, by omega⟩
    have ht : Int.tmod (i : Int) 2 = ((i % 2 : Nat) : Int) := by rw [Int.tmod_eq_emod_of_nonneg (by omega)]; omega
    have hw : IntKind.wrap .u8 (IntKind.wrap .i64 (1 + Int.tmod (i : Int) 2)) = ((1 + i % 2 : Nat) : Int) := by
      rw [ht, w64 (by omega) (by omega), w8 (by omega) (by omega)]; omega
    have hxor : Sx.bits .xor .u8 (rd l (i : Int)) ((1 + i % 2 : Nat) : Int) = ((x ^^^ (1 + i % 2) : Nat) : Int) := by
      rw [hx]; exact bits_xor .u8 rfl x (1 + i % 2) (show x < 2 ^ 8 by omega) (show _ < 2 ^ 8 by omega)
    have hxb : x ^^^ (1 + i % 2) < 256 := Nat.xor_lt_two_pow (n := 8) (show x < 2 ^ 8 by omega) (show _ < 2 ^ 8 by omega)
    rw [hw, hxor]
    obtain ⟨r, h1, h2, h3⟩ := ih (i + 1) (l.set i ((x ^^^ (1 + i % 2) : Nat) : Int)) (fun u hu => by
      rcases List.mem_or_eq_of_mem_set hu with h | h
      · exact hb u h
      · rw [h]; omega) (by simpa using hl) (by simp; omega) k (by omega)
    exact ⟨r, h1, h2, by simpa using h3⟩
theorem turned.eq (l z : List Int) (hb : Byt l) (hl : l.length ≤ 140737488355328) (K : Nat) (hK : l.length < K) : ∃ r, turned.f K l z = some r ∧ Byt r ∧ r.length = l.length := by
  obtain ⟨r, h1, h2⟩ := turned.l1_eq l.length 0 l hb hl (by omega) K hK
  exact ⟨r, bind_of h1 rfl, h2⟩
end Go.Proofs.Ytkblnahoidbfkaa
