/- Own text. The plain parts of the laws VintOnce, VintCut, VintSorted, VintDigitsBack. Conditions: what the rows say of their inputs. -/
import Derived.Test.YtocfkhpfpepcmaaPureC
import Derived.Test.YtocfkhpfpepcmaaLiftB
set_option linter.unusedSimpArgs false
set_option linter.unusedVariables false
namespace Go.Proofs.Ytocfkhpfpepcmaa
open Go Go.Sx

theorem DecR.zero {b : List Int} {t : Int × Int × Int} (h : DecR b t) (h0 : t.2.2 ≠ 0) : t.1 = 0 ∧ t.2.1 = 0 := by
  rcases h with ⟨a, b, _⟩ | ⟨a, b, _⟩ | ⟨j, _, _, _, _, ⟨a, b, _⟩ | ⟨a, b, _⟩ | ⟨_, _, e, _⟩⟩
  · exact ⟨a, b⟩
  · exact ⟨a, b⟩
  · exact ⟨a, b⟩
  · exact ⟨a, b⟩
  · exact absurd e h0
/-- What is told as a number is the front of the bytes, in its one writing. -/
theorem DecR.num {b : List Int} {t : Int × Int × Int} (hb : Byt b) (h : DecR b t) (h0 : t.2.2 = 0) : ∃ j : Nat, j < b.length ∧ j < 10 ∧ t.2.1 = ((j + 1 : Nat) : Int) ∧ t.1 = (val (b.take (j + 1)) : Nat) ∧ Can (b.take (j + 1)) ∧ val (b.take (j + 1)) < 18446744073709551616 := by
  rcases h with ⟨_, _, e, _⟩ | ⟨_, _, e, _⟩ | ⟨j, h1, h2, h3, h4, ⟨_, _, e, _⟩ | ⟨_, _, e, _⟩ | ⟨e1, e2, e3, e4, e5⟩⟩
  · omega
  · omega
  · omega
  · omega
  · refine ⟨j, h1, h2, e2, e1, ?_, val_fit b j hb h1 h2 e4⟩
    refine can_of (b.take (j + 1)) j (hb.take _) (by simp; omega) (fun i hi => ?_) ?_ ?_
    · rw [rd_take b _ i (by omega) (by omega)]; exact h4 i hi
    · rw [rd_take b _ j (by omega) (by omega)]; exact h3
    · rw [rd_take b _ j (by omega) (by omega)]; exact e5

namespace Pure
theorem VintOnce : ∀ (a0 : List Int), (∀ x ∈ a0, (Lit.int .u8 x).wf = true) → a0.length * 1 ≤ 140737488351232 → ∃ K, VintOnce.f K a0 = some true := by
  intro b hb hl
  have hb := Byt.of hb
  refine ⟨30, ?_⟩
  unfold VintOnce.f
  obtain ⟨t, ht, hd⟩ := Decode.eq b hb (by omega) 30 (by omega)
  rw [ht, Option.bind_some, works.eq 30 (by omega), Option.bind_some]
  by_cases h0 : t.2.2 = 0
  · obtain ⟨j, h1, h2, h3, h4, h5, h6⟩ := hd.num hb h0
    have h7 : ((j + 1 : Nat) : Int) = (j : Int) + 1 := by omega
    rw [if_neg (by omega), if_neg (by omega), if_neg (by omega), Option.bind_some, if_neg (by simp; omega), h4, Encode.one _ h6 30 (by omega), Option.bind_some, enc_val _ h5, h3, Int.toNat_natCast, gd_pos (by omega), List.drop_zero, same.eq _ _ (by simp; omega) 30 (by simp; omega)]
    simp
  · obtain ⟨h1, h2⟩ := hd.zero h0
    rw [if_pos h0, if_pos rfl, if_pos h1, h2]; simp
theorem VintCut : ∀ (a0 : Int) (a1 : Int) (a2 : Int), (Lit.int .u64 a0).wf = true → (Lit.int .i64 a1).wf = true → (Lit.int .u8 a2).wf = true → ∃ K, VintCut.f K a0 a1 a2 = some true := by
  intro a0 a1 a2 h0 h1 h2
  have h0 := wfu64 h0
  have h1 := wf64 h1
  have h2 := wf8 h2
  obtain ⟨n, rfl⟩ : ∃ n : Nat, a0 = n := ⟨a0.toNat, by omega⟩
  refine ⟨30, ?_⟩
  unfold VintCut.f
  have hlen := enc1_len (n := n) (by omega)
  have hbyt := can_byt _ (can_enc n)
  obtain ⟨j0, k1, k2, k3, k4⟩ := can_rd _ (can_enc n)
  rw [Encode.one n (by omega) 30 (by omega), Option.bind_some, works.eq 30 (by omega), Option.bind_some, if_neg (by omega), Option.bind_some, if_neg (by simp)]
  -- both ways of picking a place come to a place
  have main : ∀ k : Nat, k < (enc1 n).length → ∀ z : Int, z = k →
      gd ((0 : Int) ≤ z ∧ (0 ≤ (Int.toNat z) ∧ (Int.toNat z) ≤ (enc1 n).length)) ((Decode.f 30 (((enc1 n).take (Int.toNat z)).drop 0)).bind fun t21 => if t21.2.2 ≠ 21 then (some false) else (if a2 = 0 then (some true) else (gd ((0 : Int) ≤ z ∧ z < ((enc1 n).length : Int)) (gd ((0 : Int) ≤ z ∧ z < ((enc1 n).length : Int)) (gd ((0 : Int) ≤ z ∧ z < ((enc1 n).length : Int)) ((Decode.f 30 ((enc1 n).set (Int.toNat z) (Sx.bits .xor .u8 (rd (enc1 n) z) a2))).bind fun t31 => if t31.2.2 ≠ 0 then (some true) else (if t31.1 ≠ (n : Int) then (some true) else (some (decide (t31.2.1 ≠ (((enc1 n).set (Int.toNat z) (Sx.bits .xor .u8 (rd (enc1 n) z) a2)).length : Int))))))))))) = some true := by
    intro k hk z hz
    subst hz
    rw [Int.toNat_natCast, gd_pos (by omega), List.drop_zero]
    obtain ⟨t, ht, hd⟩ := Decode.eq ((enc1 n).take k) (hbyt.take k) (by simp; omega) 30 (by omega)
    have hrd : ∀ i : Nat, i < k → rd ((enc1 n).take k) (i : Int) = rd (enc1 n) (i : Int) := fun i hi => rd_take _ k i (by omega) hi
    have hl : ((enc1 n).take k).length = k := by simp; omega
    have h21 : t.2.2 = 21 := by
      rcases hd with ⟨_, _, e, _⟩ | ⟨_, _, _, e, _⟩ | ⟨j, e1, e2, e3, _⟩
      · exact e
      · omega
      · have := k2 j (by omega)
        rw [hrd j (by omega)] at e3; omega
    rw [ht, Option.bind_some, if_neg (by omega)]
    by_cases hby : a2 = 0
    · rw [if_pos hby]
    · rw [if_neg hby, gd_pos (by omega), gd_pos (by omega), gd_pos (by omega)]
      have hc := hbyt _ (rd_mem (enc1 n) k hk)
      obtain ⟨x, hx⟩ : ∃ x : Nat, rd (enc1 n) (k : Int) = x := ⟨(rd (enc1 n) (k : Int)).toNat, by omega⟩
      obtain ⟨y, hy⟩ : ∃ y : Nat, a2 = y := ⟨a2.toNat, by omega⟩
      have hxor : Sx.bits .xor .u8 (rd (enc1 n) (k : Int)) a2 = ((x ^^^ y : Nat) : Int) := by rw [hx, hy]; exact bits_xor .u8 rfl x y (show x < 2 ^ 8 by omega) (show y < 2 ^ 8 by omega)
      have hxb : x ^^^ y < 256 := Nat.xor_lt_two_pow (n := 8) (show x < 2 ^ 8 by omega) (show y < 2 ^ 8 by omega)
      have hB : Byt ((enc1 n).set k ((x ^^^ y : Nat) : Int)) := fun u hu => by
        rcases List.mem_or_eq_of_mem_set hu with h | h
        · exact hbyt u h
        · rw [h]; omega
      rw [hxor]
      obtain ⟨t', ht', hd'⟩ := Decode.eq _ hB (by simp; omega) 30 (by omega)
      rw [ht', Option.bind_some]
      by_cases e0 : t'.2.2 = 0
      · rw [if_neg (by omega)]
        by_cases e1 : t'.1 = (n : Int)
        · rw [if_neg (by omega)]
          congr 1
          rw [decide_eq_true_iff]
          intro e2
          obtain ⟨j, g1, g2, g3, g4, g5, g6⟩ := hd'.num hB e0
          rw [List.length_set] at e2 g1
          have hj : j + 1 = (enc1 n).length := by omega
          have g7 := enc_val _ g5
          have g8 : val (((enc1 n).set k ((x ^^^ y : Nat) : Int)).take (j + 1)) = n := by omega
          rw [g8, List.take_of_length_le (by simp; omega)] at g7
          have g9 : rd (enc1 n) (k : Int) = ((x ^^^ y : Nat) : Int) := by
            have g10 : rd ((enc1 n).set k ((x ^^^ y : Nat) : Int)) (k : Int) = ((x ^^^ y : Nat) : Int) := by
              rw [rd_nat _ _ (by simp; omega), List.getElem_set_self]
            rw [← g7] at g10; exact g10
          have g11 : x = x ^^^ y := by omega
          have g12 : x ^^^ x = x ^^^ (x ^^^ y) := by rw [← g11]
          rw [Nat.xor_self, ← Nat.xor_assoc, Nat.xor_self, Nat.zero_xor] at g12
          omega
        · rw [if_pos e1]
      · rw [if_pos e0]
  by_cases hneg : a1 < 0
  · have hw : IntKind.wrap .i64 (0 - IntKind.wrap .i64 (a1 + 1)) = -(a1 + 1) := by
      rw [w64 (n := a1 + 1) (by omega) (by omega), w64 (by omega) (by omega)]; omega
    have hm : Int.tmod (-(a1 + 1)) ((enc1 n).length : Int) = ((-(a1 + 1) % ((enc1 n).length : Int)).toNat : Int) := by
      have h3 : (0 : Int) ≤ -(a1 + 1) := by omega
      rw [Int.tmod_eq_emod_of_nonneg h3]
      have := Int.emod_nonneg (-(a1 + 1)) (b := ((enc1 n).length : Int)) (by omega)
      omega
    have hlt : (-(a1 + 1) % ((enc1 n).length : Int)).toNat < (enc1 n).length := by
      have := Int.emod_lt_of_pos (-(a1 + 1)) (b := ((enc1 n).length : Int)) (by omega)
      omega
    rw [if_pos hneg, gd_pos (by omega), hw]
    exact main _ hlt _ hm
  · have hm : Int.tmod a1 ((enc1 n).length : Int) = ((a1 % ((enc1 n).length : Int)).toNat : Int) := by
      rw [Int.tmod_eq_emod_of_nonneg (by omega)]
      have := Int.emod_nonneg a1 (b := ((enc1 n).length : Int)) (by omega)
      omega
    have hlt : (a1 % ((enc1 n).length : Int)).toNat < (enc1 n).length := by
      have := Int.emod_lt_of_pos a1 (b := ((enc1 n).length : Int)) (by omega)
      omega
    rw [if_neg hneg, gd_pos (by omega)]
    exact main _ hlt _ hm
theorem VintSorted : ∀ (a0 : Int) (a1 : Int) (a2 : Int), (Lit.int .u64 a0).wf = true → (Lit.int .u64 a1).wf = true → (Lit.int .i64 a2).wf = true → ∃ K, VintSorted.f K a0 a1 a2 = some true := by
  intro a0 a1 a2 h0 h1 h2
  have h0 := wfu64 h0
  have h1 := wfu64 h1
  obtain ⟨n, rfl⟩ : ∃ n : Nat, a0 = n := ⟨a0.toNat, by omega⟩
  obtain ⟨m, rfl⟩ : ∃ n : Nat, a1 = n := ⟨a1.toNat, by omega⟩
  refine ⟨30, ?_⟩
  unfold VintSorted.f
  obtain ⟨t, ht, hd⟩ := Digits.eq n a2 (by omega) 30 (by omega)
  obtain ⟨u, hu, he⟩ := Digits.eq m a2 (by omega) 30 (by omega)
  rw [ht, Option.bind_some, hu, Option.bind_some, works.eq 30 (by omega), Option.bind_some]
  rcases hd with ⟨_, d1, d2⟩ | ⟨c, rfl, d2, d3, d4⟩
  · have e1 : u.2 = 20 := by
      rcases he with ⟨_, e, _⟩ | ⟨c, rfl, e2, e3, _⟩
      · exact e
      · omega
    rw [if_pos (by omega), Option.bind_some, if_pos rfl, if_pos d1, e1]; simp
  · rcases he with ⟨_, _, e2⟩ | ⟨c', hc', e2, e3, e4⟩
    · omega
    · obtain rfl : c = c' := by omega
      rcases d4 with ⟨_, d5, d6⟩ | ⟨d4, d5, d6⟩
      · rw [if_pos (by omega), Option.bind_some, if_pos rfl, if_neg (by omega), Option.bind_some, if_pos rfl, if_neg (by simp), if_pos d5]
      · rcases e4 with ⟨_, e5, e6⟩ | ⟨e4, e5, e6⟩
        · rw [if_neg (by omega), Option.bind_some, if_pos (by simp; omega), if_neg (by omega), Option.bind_some, if_pos rfl, if_neg (by simp), if_neg (by omega), e5]; simp
        · have l1 := dig_len c n
          have l2 := dig_len c m
          have v1 : bv (dig c n) = n := by rw [bv_dig, Nat.mod_eq_of_lt d6]
          have v2 : bv (dig c m) = m := by rw [bv_dig, Nat.mod_eq_of_lt e6]
          rw [if_neg (by omega), Option.bind_some, if_neg (by simp; omega), if_pos rfl, d4, e4, less.eq _ _ (by omega) (by omega) (dig_mem c n) (dig_mem c m) 30 (by omega), Option.bind_some, less.eq _ _ (by omega) (by omega) (dig_mem c m) (dig_mem c n) 30 (by omega), v1, v2, if_pos (by simp), Option.bind_some]
          simp
theorem VintDigitsBack : ∀ (a0 : Int) (a1 : Int) (a2 : List Int), (Lit.int .u64 a0).wf = true → (Lit.int .i64 a1).wf = true → (∀ x ∈ a2, (Lit.int .u8 x).wf = true) → a2.length * 1 ≤ 140737488351232 → ∃ K, VintDigitsBack.f K a0 a1 a2 = some true := by
  intro a0 a1 b h0 h1 hb hl
  have h0 := wfu64 h0
  have h1 := wf64 h1
  have hb := Byt.of hb
  obtain ⟨n, rfl⟩ : ∃ n : Nat, a0 = n := ⟨a0.toNat, by omega⟩
  refine ⟨30, ?_⟩
  unfold VintDigitsBack.f
  obtain ⟨t, ht, hd⟩ := Digits.eq n a1 (by omega) 30 (by omega)
  obtain ⟨u, hu, he⟩ := Number.eq b a1 hb 30 (by omega)
  -- what is read as digits is written again
  have back : u.2 = 0 → ∃ m : Nat, a1 = m ∧ 1 ≤ m ∧ m ≤ 9 ∧ m ≤ b.length ∧ ∃ v, Digits.f 30 u.1 a1 = some v ∧ v.2 = 0 ∧ v.1 = b.take m := by
    intro hz
    rcases he with ⟨_, e, _⟩ | ⟨m, rfl, e2, e3, ⟨_, e, _⟩ | ⟨_, _, e, _⟩ | ⟨e4, e5, e6, e7⟩⟩
    · omega
    · omega
    · omega
    · have hall : ∀ x ∈ b.take m, 0 ≤ x ∧ x < 128 := fun x hx => ⟨(hb.take m x hx).1, e7 x hx⟩
      have hlen : (b.take m).length = m := by simp; omega
      have hlt := bv_lt (b.take m) hall
      rw [hlen] at hlt
      have hp : (128 : Nat) ^ m ≤ 128 ^ 9 := Nat.pow_le_pow_right (by decide) e3
      have hp9 : (128 : Nat) ^ 9 = 9223372036854775808 := by decide
      obtain ⟨v, hv, hw⟩ := Digits.eq (bv (b.take m)) (m : Int) (by omega) 30 (by omega)
      refine ⟨m, rfl, e2, e3, e4, v, by rw [e5]; exact hv, ?_⟩
      rcases hw with ⟨_, _, w⟩ | ⟨m', hm', _, _, ⟨_, _, w⟩ | ⟨w1, w2, w3⟩⟩
      · omega
      · obtain rfl : m = m' := by omega
        omega
      · obtain rfl : m = m' := by omega
        refine ⟨w2, ?_⟩
        have := dig_bv (b.take m) hall
        rw [hlen] at this
        rw [w1, this]
  have tail : ((Number.f 30 b a1).bind fun t25 => if t25.2 = 0 then ((Digits.f 30 t25.1 a1).bind fun t28 => (if t28.2 ≠ 0 then (some true) else (if (t28.1.length : Int) ≠ a1 then (some true) else (if (b.length : Int) < (t28.1.length : Int) then (some true) else (gd ((0 : Int) ≤ a1 ∧ (0 ≤ (Int.toNat a1) ∧ (Int.toNat a1) ≤ b.length)) ((same.f 30 t28.1 ((b.take (Int.toNat a1)).drop 0)).bind fun t50 => some (!t50)))))).bind fun o41 => if o41 = true then (some false) else (some true)) else (some true)) = some true := by
    rw [hu, Option.bind_some]
    by_cases hz : u.2 = 0
    · obtain ⟨m, rfl, e2, e3, e4, v, hv, e5, e6⟩ := back hz
      have hlen : (b.take m).length = m := by simp; omega
      rw [if_pos hz, hv, Option.bind_some, if_neg (by omega), e6, hlen, if_neg (by omega), if_neg (by omega), Int.toNat_natCast, gd_pos (by omega), List.drop_zero, same.eq _ _ (by omega) 30 (by omega)]
      simp
    · rw [if_neg hz]
  rw [ht, Option.bind_some, works.eq 30 (by omega), Option.bind_some]
  by_cases hz : t.2 = 0
  · rw [if_pos hz]
    obtain ⟨m, hm, e2, e3, e4, e5⟩ : ∃ m : Nat, a1 = m ∧ 1 ≤ m ∧ m ≤ 9 ∧ t.1 = dig m n ∧ n < 128 ^ m := by
      rcases hd with ⟨_, e, _⟩ | ⟨m, e1, e2, e3, ⟨_, e, _⟩ | ⟨e4, _, e5⟩⟩
      · omega
      · omega
      · exact ⟨m, e1, e2, e3, e4, e5⟩
    have hlen := dig_len m n
    obtain ⟨w, hw, hx⟩ := Number.eq (dig m n ++ b) a1 (Byt.app.2 ⟨dig_byt m n, hb⟩) 30 (by omega)
    have htk : (dig m n ++ b).take m = dig m n := by rw [List.take_left' hlen]
    have hw2 : w.2 = 0 ∧ w.1 = n := by
      rcases hx with ⟨_, _, x⟩ | ⟨m', hm', _, _, ⟨_, _, x⟩ | ⟨_, _, _, x⟩ | ⟨_, x1, x2, _⟩⟩
      · omega
      · simp at x; omega
      · obtain rfl : m = m' := by omega
        exfalso; apply x; rw [htk]; intro y hy; exact (dig_mem m n y hy).2
      · obtain rfl : m = m' := by omega
        rw [htk, bv_dig, Nat.mod_eq_of_lt e5] at x1
        exact ⟨x2, x1⟩
    have hwr : IntKind.wrap .i64 (a1 + (b.length : Int)) = a1 + (b.length : Int) := w64 (by omega) (by omega)
    rw [e4, gd_pos (by omega), hw, Option.bind_some, if_neg (by omega), if_neg (by omega), Option.bind_some, hwr, if_neg (by simp; omega)]
    exact tail
  · rw [if_neg hz]
    exact tail
end Pure
end Go.Proofs.Ytocfkhpfpepcmaa
