/- Own text. The document's Decode beside the program's; bytes that are lent; sizes. The plain parts of the laws VintDecode, VintBack. Conditions: what the rows say of their inputs. -/
import Derived.Test.YtocfkhpfpepcmaaPureD
set_option linter.unusedSimpArgs false
set_option linter.unusedVariables false
namespace Go.Proofs.Ytocfkhpfpepcmaa
open Go Go.Sx

theorem DecR.uniq {b : List Int} {t t' : Int × Int × Int} (h : DecR b t) (h' : DecR b t') : t.1 = t'.1 ∧ t.2.1 = t'.2.1 ∧ t.2.2 = t'.2.2 := by
  rcases h with ⟨a1, a2, a3, a4, a5⟩ | ⟨a1, a2, a3, a4, a5⟩ | ⟨j, a1, a2, a3, a4, a5⟩ <;> rcases h' with ⟨b1, b2, b3, b4, b5⟩ | ⟨b1, b2, b3, b4, b5⟩ | ⟨j', b1, b2, b3, b4, b5⟩
  · exact ⟨by omega, by omega, by omega⟩
  · omega
  · have := a5 j' b1; omega
  · omega
  · exact ⟨by omega, by omega, by omega⟩
  · have := a5 j' b2; omega
  · have := b5 j a1; omega
  · have := b5 j a2; omega
  · have hj : j = j' := by
      rcases Nat.lt_trichotomy j j' with h | h | h
      · have := b4 j h; omega
      · exact h
      · have := a4 j' h; omega
    subst hj
    rcases a5 with ⟨c1, c2, c3, c4⟩ | ⟨c1, c2, c3, c4, c5⟩ | ⟨c1, c2, c3, c4, c5⟩ <;> rcases b5 with ⟨d1, d2, d3, d4⟩ | ⟨d1, d2, d3, d4, d5⟩ | ⟨d1, d2, d3, d4, d5⟩
    · exact ⟨by omega, by omega, by omega⟩
    · exact absurd c4 d4
    · exact absurd c4 d4
    · exact absurd d4 c4
    · exact ⟨by omega, by omega, by omega⟩
    · exact absurd c5 d5
    · exact absurd d4 c4
    · exact absurd d5 c5
    · exact ⟨by omega, by omega, by omega⟩

theorem refDecode.l1_eq (b : List Int) (hl : b.length ≤ 140737488355328) : ∀ (n i : Nat), i + n = 10 → i ≤ b.length → (∀ j : Nat, j < i → 128 ≤ rd b j) → ∀ k, n < k →
    ∃ j : Nat, refDecode.l1 b k (i : Int) = some (j : Int) ∧ j ≤ b.length ∧ j ≤ 10 ∧ (∀ m : Nat, m < j → 128 ≤ rd b m) ∧ (j < b.length → j < 10 → rd b j < 128) := by
  intro n
  induction n with
  | zero =>
    intro i h hi hall k hk
    obtain ⟨k, rfl⟩ : ∃ m, k = m + 1 := ⟨k - 1, by omega⟩
    rw [refDecode.l1]
    have e : (if (i : Int) < (b.length : Int) then (if (i : Int) < 10 then (gd ((0 : Int) ≤ (i : Int) ∧ (i : Int) < (b.length : Int)) (gd ((0 : Int) ≤ (i : Int) ∧ (i : Int) < (b.length : Int)) (some (decide (128 ≤ (rd b (i : Int))))))) else (some false)) else (some false)) = some false := by
      split
      · rw [if_neg (by omega)]
      · rfl
    rw [e, Option.bind_some, if_neg (by simp)]
    exact ⟨i, rfl, hi, by omega, hall, fun _ h => by omega⟩
  | succ n ih =>
    intro i h hi hall k hk
    obtain ⟨k, rfl⟩ : ∃ m, k = m + 1 := ⟨k - 1, by omega⟩
    rw [refDecode.l1]
    by_cases h1 : i < b.length
    · rw [if_pos (by omega), if_pos (by omega), gd_pos (by omega), gd_pos (by omega), Option.bind_some]
      by_cases h2 : 128 ≤ rd b (i : Int)
      · rw [if_pos (by simpa using h2), w64 (by omega) (by omega), show ((i : Int) + 1) = ((i + 1 : Nat) : Int) by omega]
        refine ih (i + 1) (by omega) (by omega) (fun j hj => ?_) k (by omega)
        rcases Nat.lt_or_ge j i with h | h
        · exact hall j h
        · have : j = i := by omega
          subst this; exact h2
      · rw [if_neg (by simpa using h2)]
        exact ⟨i, rfl, hi, by omega, hall, fun _ _ => by omega⟩
    · rw [if_neg (by omega), Option.bind_some, if_neg (by simp)]
      exact ⟨i, rfl, hi, by omega, hall, fun h => by omega⟩
theorem refDecode.l2_eq (b : List Int) (j : Nat) (hb : Byt b) (hj : j < b.length) (h10 : j < 10) (hv : val (b.take (j + 1)) < 18446744073709551616) : ∀ (i : Nat), i ≤ j + 1 → ∀ k, i < k →
    refDecode.l2 b k ((val ((b.take (j + 1)).drop i) : Nat), (i : Int) - 1) = some ((val (b.take (j + 1)) : Nat) : Int) := by
  intro i
  induction i with
  | zero =>
    intro h k hk
    obtain ⟨k, rfl⟩ : ∃ m, k = m + 1 := ⟨k - 1, by omega⟩
    rw [refDecode.l2]; simp only
    rw [if_neg (by omega), List.drop_zero]
  | succ i ih =>
    intro h k hk
    obtain ⟨k, rfl⟩ : ∃ m, k = m + 1 := ⟨k - 1, by omega⟩
    rw [refDecode.l2]; simp only
    have hlen : (b.take (j + 1)).length = j + 1 := by simp; omega
    have hd := drop_cons (b.take (j + 1)) i (by omega)
    rw [rd_take b (j + 1) i (by omega) (by omega)] at hd
    have hc := hb _ (rd_mem b i (by omega))
    have hval : val ((b.take (j + 1)).drop i) = (rd b (i : Int)).toNat % 128 + 128 * val ((b.take (j + 1)).drop (i + 1)) := by rw [hd, val]
    have hle : val ((b.take (j + 1)).drop i) ≤ val (b.take (j + 1)) := by
      have e : b.take (j + 1) = (b.take (j + 1)).take i ++ (b.take (j + 1)).drop i := (List.take_append_drop _ _).symm
      have e2 := val_app ((b.take (j + 1)).take i) ((b.take (j + 1)).drop i)
      rw [← e] at e2
      have : 1 * val ((b.take (j + 1)).drop i) ≤ 128 ^ ((b.take (j + 1)).take i).length * val ((b.take (j + 1)).drop i) := Nat.mul_le_mul_right _ (Nat.pow_pos (by decide))
      omega
    have htm : Int.tmod (rd b (i : Int)) 128 = (((rd b (i : Int)).toNat % 128 : Nat) : Int) := by
      rw [Int.tmod_eq_emod_of_nonneg hc.1]; omega
    have e0 : ((i + 1 : Nat) : Int) - 1 = (i : Int) := by omega
    rw [e0, if_pos (by omega), gd_pos (by omega), htm, wu64 (n := (((rd b (i : Int)).toNat % 128 : Nat) : Int)) (by omega) (by omega), wu64 (n := ((val ((b.take (j + 1)).drop (i + 1)) : Nat) : Int) * 128) (by omega) (by omega), wu64 (by omega) (by omega), w64 (by omega) (by omega)]
    have e1 : ((val ((b.take (j + 1)).drop (i + 1)) : Nat) : Int) * 128 + (((rd b (i : Int)).toNat % 128 : Nat) : Int) = ((val ((b.take (j + 1)).drop i) : Nat) : Int) := by omega
    rw [e1]
    exact ih (by omega) k (by omega)
theorem refDecode.eq (b : List Int) (hb : Byt b) (hl : b.length ≤ 140737488355328) (K : Nat) (hK : 11 < K) : ∃ t, refDecode.f K b = some t ∧ DecR b t := by
  unfold refDecode.f
  obtain ⟨j, h1, h2, h3, h4, h5⟩ := refDecode.l1_eq b hl 10 0 (by omega) (by omega) (fun j hj => by omega) K (by omega)
  have h1' : refDecode.l1 b K 0 = some (j : Int) := h1
  rw [h1', Option.bind_some]
  have e9 : (if (j : Int) = 10 then (some true) else (if (j : Int) = 9 then (if (j : Int) < (b.length : Int) then (gd ((0 : Int) ≤ (j : Int) ∧ (j : Int) < (b.length : Int)) (gd ((0 : Int) ≤ (j : Int) ∧ (j : Int) < (b.length : Int)) (some (decide (1 < (rd b (j : Int))))))) else (some false)) else (some false))) = some (decide (j = 10 ∨ (j = 9 ∧ j < b.length ∧ 1 < rd b (j : Int)))) := by
    by_cases a : j = 10
    · rw [if_pos (by omega)]; simp [a]
    · rw [if_neg (by omega)]
      by_cases c : j = 9
      · rw [if_pos (by omega)]
        by_cases d : j < b.length
        · rw [if_pos (by omega), gd_pos (by omega), gd_pos (by omega)]; simp [c]; omega
        · rw [if_neg (by omega)]; simp [c]; omega
      · rw [if_neg (by omega)]; simp [a, c]
  rw [e9, Option.bind_some]
  by_cases c1 : j = 10 ∨ (j = 9 ∧ j < b.length ∧ 1 < rd b (j : Int))
  · rw [if_pos (by simpa using c1)]
    refine ⟨_, rfl, ?_⟩
    rcases c1 with c1 | ⟨c1, c2, c3⟩
    · exact .inr (.inl ⟨rfl, rfl, rfl, by omega, fun m hm => h4 m (by omega)⟩)
    · exact .inr (.inr ⟨j, c2, by omega, h5 c2 (by omega), h4, .inl ⟨rfl, rfl, rfl, c1, c3⟩⟩)
  · rw [if_neg (by simpa using c1)]
    by_cases c2 : j = b.length
    · rw [if_pos (by omega)]
      exact ⟨_, rfl, .inl ⟨rfl, rfl, rfl, by omega, fun m hm => h4 m (by omega)⟩⟩
    · have hlt : j < b.length := by omega
      have h10 : j < 10 := by omega
      rw [if_neg (by omega)]
      have e0 : (if 0 < (j : Int) then (gd ((0 : Int) ≤ (j : Int) ∧ (j : Int) < (b.length : Int)) (gd ((0 : Int) ≤ (j : Int) ∧ (j : Int) < (b.length : Int)) (some (decide ((rd b (j : Int)) = 0))))) else (some false)) = some (decide (0 < j ∧ rd b (j : Int) = 0)) := by
        by_cases h : 0 < j
        · rw [if_pos (by omega), gd_pos (by omega), gd_pos (by omega)]; simp [h]
        · rw [if_neg (by omega)]; simp [h]
      have h9 : ¬ (j = 9 ∧ 1 < rd b (j : Int)) := fun h => c1 (.inr ⟨h.1, hlt, h.2⟩)
      rw [e0, Option.bind_some]
      by_cases c3 : 0 < j ∧ rd b (j : Int) = 0
      · rw [if_pos (by simpa using c3)]
        exact ⟨_, rfl, .inr (.inr ⟨j, hlt, h10, h5 hlt h10, h4, .inr (.inl ⟨rfl, rfl, rfl, h9, c3⟩)⟩)⟩
      · rw [if_neg (by simpa using c3)]
        have hfit := val_fit b j hb hlt h10 h9
        have h6 := refDecode.l2_eq b j hb hlt h10 hfit (j + 1) (Nat.le_refl _) K (by omega)
        rw [List.drop_of_length_le (by simp; omega), show (((j + 1 : Nat) : Int) - 1) = (j : Int) by omega] at h6
        have h6' : refDecode.l2 b K (0, (j : Int)) = some ((val (b.take (j + 1)) : Nat) : Int) := h6
        have ew : IntKind.wrap .i64 ((j : Int) + 1) = ((j + 1 : Nat) : Int) := by rw [w64 (by omega) (by omega)]; omega
        refine ⟨_, bind_of h6' rfl, .inr (.inr ⟨j, hlt, h10, h5 hlt h10, h4, .inr (.inr ⟨rfl, ew, rfl, h9, c3⟩)⟩)⟩

/-! ### lent, kept, turned -/
theorem lent.l1_eq (b : List Int) (hl : b.length ≤ 140737488355328) : ∀ (n i : Nat) (out : List Int), out.length = b.length + 8 → i + n = b.length + 8 → ∀ k, n < k → lent.l1 b k (out, (i : Int)) = some (out.take i ++ (b ++ List.replicate 8 238).drop i) := by
  intro n
  induction n with
  | zero =>
    intro i out ho h k hk
    obtain ⟨k, rfl⟩ : ∃ m, k = m + 1 := ⟨k - 1, by omega⟩
    rw [lent.l1]; simp only
    rw [if_neg (by omega), List.take_of_length_le (by omega), List.drop_of_length_le (by simp; omega), List.append_nil]
  | succ n ih =>
    intro i out ho h k hk
    obtain ⟨k, rfl⟩ : ∃ m, k = m + 1 := ⟨k - 1, by omega⟩
    rw [lent.l1]; simp only
    rw [if_pos (by omega), gd_pos (by omega), gd_pos (by omega), Int.toNat_natCast]
    have step : ∀ v : Int, v = rd (b ++ List.replicate 8 238) (i : Int) → lent.l1 b k ((out.set i v), IntKind.wrap .i64 ((i : Int) + 1)) = some (out.take i ++ (b ++ List.replicate 8 238).drop i) := by
      intro v hv
      rw [w64 (by omega) (by omega), show ((i : Int) + 1) = ((i + 1 : Nat) : Int) by omega, ih (i + 1) _ (by simpa using ho) (by omega) k (by omega)]
      congr 1
      rw [drop_cons (b ++ List.replicate 8 238) i (by simp; omega), ← hv, take_snoc _ _ (by simp; omega), rd_nat _ _ (by simp; omega), List.take_set, List.set_eq_of_length_le (by simp; omega)]
      simp
    by_cases hi : i < b.length
    · rw [if_pos (by omega), gd_pos (by omega), gd_pos (by simp; omega), gd_pos (by simp; omega), Option.bind_some, List.set_set]
      exact step _ (rd_app_left _ _ _ hi).symm
    · rw [if_neg (by omega), Option.bind_some]
      refine step 238 ?_
      rw [rd_app_right _ _ _ (by omega) (by simp; omega), rd_nat _ _ (by simp; omega), List.getElem_replicate]
theorem lent.eq (b : List Int) (hl : b.length ≤ 140737488351232) (K : Nat) (hK : b.length + 8 < K) : lent.f K b = some (b, List.replicate 8 238) := by
  unfold lent.f
  have e : IntKind.wrap .i64 ((b.length : Int) + 8) = ((b.length + 8 : Nat) : Int) := by rw [w64 (by omega) (by omega)]; omega
  rw [e, gd_pos (by omega), Int.toNat_natCast]
  have h := lent.l1_eq b (by omega) (b.length + 8) 0 (List.replicate (b.length + 8) 0) (by simp) (by omega) K hK
  refine bind_of h ?_
  rw [Int.toNat_natCast, List.drop_zero, List.take_zero, List.nil_append, gd_pos (by simp), List.take_left' rfl, List.drop_left' rfl]
theorem kept.l1_eq (l s : List Int) (hl : l = s ++ List.replicate 8 238) (hs : l.length < 4611686018427387904) : ∀ (n i : Nat), i + n = l.length → ∀ k, n < k → kept.l1 s k (l, (i : Int)) = some (.inr ()) := by
  intro n
  induction n with
  | zero =>
    intro i h k hk
    obtain ⟨k, rfl⟩ : ∃ m, k = m + 1 := ⟨k - 1, by omega⟩
    rw [kept.l1]; simp only
    rw [if_neg (by omega)]
  | succ n ih =>
    intro i h k hk
    obtain ⟨k, rfl⟩ : ∃ m, k = m + 1 := ⟨k - 1, by omega⟩
    have hlen : l.length = s.length + 8 := by subst hl; simp
    rw [kept.l1]; simp only
    rw [if_pos (by omega)]
    have step : kept.l1 s k (l, IntKind.wrap .i64 ((i : Int) + 1)) = some (.inr ()) := by
      rw [w64 (by omega) (by omega), show ((i : Int) + 1) = ((i + 1 : Nat) : Int) by omega]
      exact ih (i + 1) (by omega) k (by omega)
    refine bind_of (v := false) ?_ (by simpa using step)
    by_cases hi : i < s.length
    · have e : rd l (i : Int) = rd s (i : Int) := by subst hl; exact rd_app_left _ _ _ hi
      rw [if_pos (by omega), gd_pos (by omega), gd_pos (by omega), gd_pos (by omega), gd_pos (by omega), if_neg (by simp [e]), if_neg (by omega)]
    · have e : rd l (i : Int) = 238 := by
        subst hl
        rw [rd_app_right _ _ _ (by omega) (by simp; omega), rd_nat _ _ (by simp; omega), List.getElem_replicate]
      rw [if_neg (by omega), if_pos (by omega), gd_pos (by omega), gd_pos (by omega), e]
      simp
theorem kept.eq (s : List Int) (hs : s.length ≤ 140737488351232) (K : Nat) (hK : s.length + 8 < K) : kept.f K s (List.replicate 8 238) s = some true := by
  unfold kept.f
  have e : IntKind.wrap .i64 ((s.length : Int) + 8) = ((s.length + 8 : Nat) : Int) := by rw [w64 (by omega) (by omega)]; omega
  rw [e, Int.toNat_natCast, gd_pos (by simp; omega), List.drop_zero, List.take_of_length_le (by simp)]
  refine thn_of (kept.l1_eq _ s rfl (by simp; omega) (s.length + 8) 0 (by simp) K hK) ?_
  simp
theorem turned.l1_eq : ∀ (n i : Nat) (l : List Int), Byt l → l.length ≤ 140737488355328 → i + n = l.length → ∀ k, n < k → ∃ r, turned.l1 k ((i : Int), l) = some r ∧ Byt r ∧ r.length = l.length := by
  intro n
  induction n with
  | zero =>
    intro i l hb hl h k hk
    obtain ⟨k, rfl⟩ : ∃ m, k = m + 1 := ⟨k - 1, by omega⟩
    rw [turned.l1]; simp only
    rw [if_neg (by omega)]; exact ⟨l, rfl, hb, rfl⟩
  | succ n ih =>
    intro i l hb hl h k hk
    obtain ⟨k, rfl⟩ : ∃ m, k = m + 1 := ⟨k - 1, by omega⟩
    rw [turned.l1]; simp only
    rw [if_pos (by omega), gd_pos (by omega), gd_pos (by omega), gd_pos (by omega), w64 (n := (i : Int) + 1) (by omega) (by omega), show ((i : Int) + 1) = ((i + 1 : Nat) : Int) by omega, Int.toNat_natCast]
    have hc := hb _ (rd_mem l i (by omega))
    obtain ⟨x, hx⟩ : ∃ x : Nat, rd l (i : Int) = x := ⟨(rd l (i : Int)).toNat, by omega⟩
    have ht : Int.tmod (i : Int) 2 = ((i % 2 : Nat) : Int) := by rw [Int.tmod_eq_emod_of_nonneg (by omega)]; omega
    have hw : IntKind.wrap .u8 (IntKind.wrap .i64 (1 + Int.tmod (i : Int) 2)) = ((1 + i % 2 : Nat) : Int) := by
      rw [ht, w64 (by omega) (by omega), w8 (by omega) (by omega)]; omega
    have hxor : Sx.bits .xor .u8 (rd l (i : Int)) ((1 + i % 2 : Nat) : Int) = ((x ^^^ (1 + i % 2) : Nat) : Int) := by
      rw [hx]; exact bits_xor .u8 rfl x (1 + i % 2) (show x < 2 ^ 8 by omega) (show _ < 2 ^ 8 by omega)
    have hxb : x ^^^ (1 + i % 2) < 256 := Nat.xor_lt_two_pow (n := 8) (show x < 2 ^ 8 by omega) (show _ < 2 ^ 8 by omega)
    rw [hw, hxor]
    obtain ⟨r, h1, h2, h3⟩ := ih (i + 1) (l.set i ((x ^^^ (1 + i % 2) : Nat) : Int)) (fun u hu => by
      rcases List.mem_or_eq_of_mem_set hu with h | h
      · exact hb u h
      · rw [h]; omega) (by simpa using hl) (by simp; omega) k (by omega)
    exact ⟨r, h1, h2, by simpa using h3⟩
theorem turned.eq (l z : List Int) (hb : Byt l) (hl : l.length ≤ 140737488355328) (K : Nat) (hK : l.length < K) : ∃ r, turned.f K l z = some r ∧ Byt r ∧ r.length = l.length := by
  obtain ⟨r, h1, h2⟩ := turned.l1_eq l.length 0 l hb hl (by omega) K hK
  exact ⟨r, bind_of h1 rfl, h2⟩

namespace Pure
theorem VintDecode : ∀ (a0 : List Int), (∀ x ∈ a0, (Lit.int .u8 x).wf = true) → a0.length * 1 ≤ 140737488351232 → ∃ K, VintDecode.f K a0 = some true := by
  intro b hb hl
  have hb := Byt.of hb
  refine ⟨b.length + 30, ?_⟩
  unfold VintDecode.f
  generalize hK : b.length + 30 = K
  obtain ⟨t0, d0, e0⟩ := Decode.eq [] Byt.nil (by simp) K (by omega)
  obtain ⟨t1, d1, e1⟩ := Decode.eq b hb (by omega) K (by omega)
  obtain ⟨t2, d2, e2⟩ := refDecode.eq b hb (by omega) K (by omega)
  obtain ⟨r, h1, h2, h3⟩ := turned.eq b (List.replicate 8 238) hb (by omega) K (by omega)
  obtain ⟨t3, d3, e3⟩ := Decode.eq r h2 (by omega) K (by omega)
  obtain ⟨t4, d4, e4⟩ := refDecode.eq r h2 (by omega) K (by omega)
  obtain ⟨u1, u2, u3⟩ := e1.uniq e2
  obtain ⟨v1, v2, v3⟩ := e3.uniq e4
  have z : t0.1 = 0 ∧ t0.2.1 = 0 ∧ t0.2.2 = 21 := by
    rcases e0 with ⟨a, b, c, _⟩ | ⟨_, _, _, h, _⟩ | ⟨j, h, _⟩
    · exact ⟨a, b, c⟩
    · simp at h
    · simp at h
  rw [lent.eq b (by omega) K (by omega), Option.bind_some]
  simp only
  rw [d0, Option.bind_some, d1, Option.bind_some, d2, Option.bind_some, kept.eq b (by omega) K (by omega), Option.bind_some, h1, Option.bind_some, d3, Option.bind_some, d4, Option.bind_some, if_pos rfl, if_pos v1, if_pos v2, Option.bind_some, if_pos u1, if_pos u2, if_pos u3, if_pos (by simpa using v3), if_pos z.1, if_pos z.2.1, if_pos z.2.2, works.eq K (by omega)]
  rfl
end Pure
end Go.Proofs.Ytocfkhpfpepcmaa
