/- Own text, laid out of another seat. Conditions: as there. -/
import Derived.Test.YtakolnamobkkkaaPureVA
set_option linter.unusedSimpArgs false
set_option linter.unusedVariables false
set_option maxRecDepth 10000
namespace Go.Proofs.Ytakolnamobkkkaa
open Go Go.Sx


/-! ### Decode -/
/-- What Decode answers: too short, too long, not canonical, a number. -/
def DecR (b : List Int) (t : Int × Int × Int) : Prop :=
  (t.1 = 0 ∧ t.2.1 = 0 ∧ t.2.2 = 21 ∧ b.length < 10 ∧ ∀ j : Nat, j < b.length → 128 ≤ rd b j) ∨
  (t.1 = 0 ∧ t.2.1 = 0 ∧ t.2.2 = 22 ∧ 10 ≤ b.length ∧ ∀ j : Nat, j < 10 → 128 ≤ rd b j) ∨
  ∃ j : Nat, j < b.length ∧ j < 10 ∧ rd b j < 128 ∧ (∀ i : Nat, i < j → 128 ≤ rd b i) ∧
    ((t.1 = 0 ∧ t.2.1 = 0 ∧ t.2.2 = 22 ∧ j = 9 ∧ 1 < rd b j) ∨
     (t.1 = 0 ∧ t.2.1 = 0 ∧ t.2.2 = 23 ∧ ¬ (j = 9 ∧ 1 < rd b j) ∧ 0 < j ∧ rd b j = 0) ∨
     (t.1 = (val (b.take (j + 1)) : Nat) ∧ t.2.1 = ((j + 1 : Nat) : Int) ∧ t.2.2 = 0 ∧ ¬ (j = 9 ∧ 1 < rd b j) ∧ ¬ (0 < j ∧ rd b j = 0)))
theorem rd_take (b : List Int) (m i : Nat) (hm : m ≤ b.length) (h : i < m) : rd (b.take m) (i : Int) = rd b (i : Int) := by
  rw [rd_nat _ _ (by simp; omega), rd_nat _ _ (by omega)]; simp
theorem val_fit (b : List Int) (j : Nat) (hb : Byt b) (hj : j < b.length) (h10 : j < 10) (h9 : ¬ (j = 9 ∧ 1 < rd b j)) : val (b.take (j + 1)) < 18446744073709551616 := by
  have h1 := val_lt (b.take j)
  have hl : (b.take j).length = j := by simp; omega
  have hc := hb _ (rd_mem b j hj)
  rw [hl] at h1
  rw [take_snoc b j hj, val_app, hl]
  have h2 : val [rd b (j : Int)] ≤ 127 ∧ (j = 9 → val [rd b (j : Int)] ≤ 1) := by simp only [val]; omega
  have hp : (128 : Nat) ^ 9 = 9223372036854775808 := by decide
  rcases Nat.lt_or_ge j 9 with h | h
  · have h3 : 128 ^ (j + 1) ≤ 128 ^ 9 := Nat.pow_le_pow_right (by decide) (by omega)
    have h4 : 128 ^ j * val [rd b (j : Int)] ≤ 128 ^ j * 127 := Nat.mul_le_mul_left _ h2.1
    rw [Nat.pow_succ] at h3; omega
  · have : j = 9 := by omega
    subst this
    have := h2.2 rfl
    have h4 : 128 ^ 9 * val [rd b ((9 : Nat) : Int)] ≤ 128 ^ 9 * 1 := Nat.mul_le_mul_left _ this
    omega
theorem Decode.eq (b : List Int) (hb : Byt b) (hl : b.length ≤ 140737488355328) (K : Nat) (hK : 11 ≤ K) : ∃ t, Decode.f K b = some t ∧ DecR b t := by
  unfold Decode.f
  obtain ⟨m, hm, hm2⟩ : ∃ m : Nat, min (b.length : Int) 10 = m ∧ m = min b.length 10 := ⟨min b.length 10, by omega, rfl⟩
  rw [hm, Int.toNat_natCast, List.drop_zero, gd_pos (by omega)]
  have hml : (b.take m).length = m := by simp; omega
  obtain ⟨r, hr, hd⟩ := IndexFunc.eq (b.take m) (by omega) K (by omega)
  have hrd : ∀ i : Nat, i < m → rd (b.take m) (i : Int) = rd b (i : Int) := fun i hi => rd_take b m i (by omega) hi
  rw [hr, Option.bind_some]
  rw [hml] at hd
  rcases hd with ⟨rfl, hall⟩ | ⟨j, rfl, hj, hlt, hall⟩
  · rw [if_pos (by omega), Option.bind_some]
    by_cases h : b.length < 10
    · rw [if_pos (by simp; omega)]
      exact ⟨_, rfl, .inl ⟨rfl, rfl, rfl, h, fun j hj => by rw [← hrd j (by omega)]; exact hall j (by omega)⟩⟩
    · rw [if_neg (by simp; omega), if_pos (by omega), Option.bind_some, if_pos (by decide)]
      exact ⟨_, rfl, .inr (.inl ⟨rfl, rfl, rfl, by omega, fun j hj => by rw [← hrd j (by omega)]; exact hall j (by omega)⟩)⟩
  · rw [hrd j hj] at hlt
    have hall' : ∀ i : Nat, i < j → 128 ≤ rd b i := fun i hi => by rw [← hrd i (by omega)]; exact hall i hi
    have hjb : j < b.length := by omega
    rw [if_neg (by omega), Option.bind_some, if_neg (by simp), if_neg (by omega)]
    have e9 : (if (j : Int) = 9 then gd ((0 : Int) ≤ (j : Int) ∧ (j : Int) < (b.length : Int)) (gd ((0 : Int) ≤ (j : Int) ∧ (j : Int) < (b.length : Int)) (some (decide (1 < rd b (j : Int))))) else some false) = some (decide (j = 9 ∧ 1 < rd b (j : Int))) := by
      by_cases h : j = 9
      · rw [if_pos (by omega), gd_pos (by omega), gd_pos (by omega)]; simp [h]
      · rw [if_neg (by omega)]; simp [h]
    have e0 : (if 0 < (j : Int) then gd ((0 : Int) ≤ (j : Int) ∧ (j : Int) < (b.length : Int)) (gd ((0 : Int) ≤ (j : Int) ∧ (j : Int) < (b.length : Int)) (some (decide (rd b (j : Int) = 0)))) else some false) = some (decide (0 < j ∧ rd b (j : Int) = 0)) := by
      by_cases h : 0 < j
      · rw [if_pos (by omega), gd_pos (by omega), gd_pos (by omega)]; simp [h]
      · rw [if_neg (by omega)]; simp [h]
    rw [e9, Option.bind_some]
    by_cases h9 : j = 9 ∧ 1 < rd b (j : Int)
    · rw [if_pos (by simpa using h9)]
      exact ⟨_, rfl, .inr (.inr ⟨j, hjb, by omega, hlt, hall', .inl ⟨rfl, rfl, rfl, h9⟩⟩)⟩
    · rw [if_neg (by simpa using h9), e0, Option.bind_some]
      by_cases h0 : 0 < j ∧ rd b (j : Int) = 0
      · rw [if_pos (by simpa using h0)]
        exact ⟨_, rfl, .inr (.inr ⟨j, hjb, by omega, hlt, hall', .inr (.inl ⟨rfl, rfl, rfl, h9, h0⟩)⟩)⟩
      · rw [if_neg (by simpa using h0), thn_inr]
        have ew : IntKind.wrap .i64 ((j : Int) + 1) = ((j + 1 : Nat) : Int) := by rw [w64 (by omega) (by omega)]; omega
        have hfit := val_fit b j hb hjb (by omega) h9
        have hloop := Decode.l1_eq b (j : Int) (b.take (j + 1)) (by rw [ew, Int.toNat_natCast, List.drop_zero]) (hb.take _) (by simp; omega) (b.take (j + 1)).length 0 0 (by simp) (by simp) (by simpa using hfit) K (by simp; omega)
        rw [ew, Int.toNat_natCast, gd_pos (by omega), List.drop_zero]
        refine ⟨_, bind_of hloop rfl, .inr (.inr ⟨j, hjb, by omega, hlt, hall', .inr (.inr ⟨by simp, rfl, rfl, h9, h0⟩)⟩)⟩
/-- Bytes that are told as a number are its one writing. -/
theorem can_of : ∀ (l : List Int) (j : Nat), Byt l → l.length = j + 1 → (∀ i : Nat, i < j → 128 ≤ rd l i) → rd l (j : Int) < 128 → ¬ (0 < j ∧ rd l (j : Int) = 0) → Can l
  | [], j, _, h, _, _, _ => by simp at h
  | [c], j, hb, h, _, hlt, _ => by
    have : j = 0 := by simpa using h
    subst this
    exact ⟨(hb c (by simp)).1, hlt⟩
  | c :: d :: r, j, hb, h, hall, hlt, h0 => by
    obtain ⟨j, rfl⟩ : ∃ m, j = m + 1 := ⟨j - 1, by simp at h; omega⟩
    have hs : ∀ i : Nat, i < j + 1 → rd (c :: d :: r) ((i + 1 : Nat) : Int) = rd (d :: r) (i : Int) := fun i hi => by
      rw [rd_nat _ _ (by simp at h ⊢; omega), rd_nat _ _ (by simp at h ⊢; omega)]; simp
    obtain ⟨hc, hb'⟩ := Byt.cons.1 hb
    have hlast : rd (d :: r) (j : Int) ≠ 0 := fun e => h0 ⟨by omega, by rw [hs j (by omega)]; exact e⟩
    refine ⟨hall 0 (by omega), hc.2, can_of (d :: r) j hb' (by simpa using h) (fun i hi => by rw [← hs i (by omega)]; exact hall (i + 1) (by omega)) (by rw [← hs j (by omega)]; exact hlt) (fun ⟨_, e⟩ => hlast e), fun ⟨e1, e2⟩ => ?_⟩
    subst e1; subst e2
    have : j = 0 := by simpa using h
    subst this
    exact hlast rfl
theorem can_rd : ∀ (l : List Int), Can l → ∃ j : Nat, l.length = j + 1 ∧ (∀ i : Nat, i < j → 128 ≤ rd l i) ∧ rd l (j : Int) < 128 ∧ (0 < j → rd l (j : Int) ≠ 0)
  | [], h => h.elim
  | [c], h => by
    have h' : 0 ≤ c ∧ c < 128 := h
    exact ⟨0, rfl, fun i hi => by omega, h'.2, fun h => by omega⟩
  | c :: d :: r, h => by
    obtain ⟨h1, h2, h3, h4⟩ := h
    obtain ⟨j, k1, k2, k3, k4⟩ := can_rd (d :: r) h3
    have hs : ∀ i : Nat, i < j + 1 → rd (c :: d :: r) ((i + 1 : Nat) : Int) = rd (d :: r) (i : Int) := fun i hi => by
      rw [rd_nat _ _ (by simp at k1 ⊢; omega), rd_nat _ _ (by simp at k1 ⊢; omega)]; simp
    refine ⟨j + 1, by simpa using k1, fun i hi => ?_, by rw [hs j (by omega)]; exact k3, fun _ => ?_⟩
    · cases i with
      | zero => exact h1
      | succ i => rw [hs i (by omega)]; exact k2 i (by omega)
    · rw [hs j (by omega)]
      rcases Nat.eq_zero_or_pos j with rfl | hp
      · have : r = [] := by simpa using k1
        subst this
        exact fun e => h4 ⟨rfl, e⟩
      · exact k4 hp
/-- A number's one writing is told as it, whatever stands behind. -/
theorem DecR.can {l r : List Int} {t : Int × Int × Int} (h : DecR (l ++ r) t) (hc : Can l) (hv : val l < 18446744073709551616) : t.1 = (val l : Nat) ∧ t.2.1 = (l.length : Nat) ∧ t.2.2 = 0 := by
  obtain ⟨j0, k1, k2, k3, k4⟩ := can_rd l hc
  have hl : ∀ i : Nat, i < l.length → rd (l ++ r) (i : Int) = rd l (i : Int) := fun i hi => rd_app_left l r i hi
  have hb := can_byt l hc
  have hlast := hb _ (rd_mem l j0 (by omega))
  -- the last digit is not too great
  have hsplit : val l = val (l.take j0) + 128 ^ j0 * (rd l (j0 : Int)).toNat := by
    have e : l = l.take j0 ++ [rd l (j0 : Int)] := by
      rw [← take_snoc l j0 (by omega), ← k1, List.take_length]
    have e2 : val l = val (l.take j0 ++ [rd l (j0 : Int)]) := by rw [← e]
    have e3 : (l.take j0).length = j0 := by simp; omega
    rw [e2, val_app, e3]
    congr 2
    simp only [val]; omega
  have hp : (128 : Nat) ^ 9 = 9223372036854775808 := by decide
  have hj9 : j0 ≤ 9 := by
    rcases Nat.lt_or_ge j0 10 with h | h
    · omega
    · have h1 : (128 : Nat) ^ 10 ≤ 128 ^ j0 := Nat.pow_le_pow_right (by decide) h
      have h2 : (128 : Nat) ^ 10 = 1180591620717411303424 := by decide
      have h3 := k4 (by omega)
      have h4 : 128 ^ j0 * 1 ≤ 128 ^ j0 * (rd l (j0 : Int)).toNat := Nat.mul_le_mul_left _ (by omega)
      omega
  have hj1 : ¬ (j0 = 9 ∧ 1 < rd l (j0 : Int)) := by
    rintro ⟨rfl, h⟩
    have h4 : 128 ^ 9 * 2 ≤ 128 ^ 9 * (rd l ((9 : Nat) : Int)).toNat := Nat.mul_le_mul_left _ (by omega)
    omega
  rcases h with ⟨_, _, _, h1, h2⟩ | ⟨_, _, _, h1, h2⟩ | ⟨j, h1, h2, h3, h4, h5⟩
  · have := h2 j0 (by simp; omega)
    rw [hl j0 (by omega)] at this; omega
  · have := h2 j0 (by omega)
    rw [hl j0 (by omega)] at this; omega
  · have hj : j = j0 := by
      rcases Nat.lt_trichotomy j j0 with h | h | h
      · have := k2 j h
        rw [hl j (by omega)] at h3; omega
      · exact h
      · have := h4 j0 h
        rw [hl j0 (by omega)] at this; omega
    subst hj
    rw [hl j (by omega)] at h5
    have ht : (l ++ r).take (j + 1) = l := by rw [← k1, List.take_left']; rfl
    rw [ht] at h5
    rcases h5 with ⟨_, _, _, e⟩ | ⟨_, _, _, _, e1, e2⟩ | ⟨e1, e2, e3, _, _⟩
    · exact absurd e hj1
    · exact absurd e2 (k4 e1)
    · exact ⟨e1, by rw [e2, k1], e3⟩

/-! ### same -/
theorem same.l1_eq (a b : List Int) (hab : a.length = b.length) (hl : a.length ≤ 140737488355328) : ∀ (n i : Nat), i + n = a.length → ∀ k, n < k → thn (same.l1 a b k (i : Int)) (fun _ => some true) = some (decide (a.drop i = b.drop i)) := by
  intro n
  induction n with
  | zero =>
    intro i h k hk
    obtain ⟨k, rfl⟩ : ∃ m, k = m + 1 := ⟨k - 1, by omega⟩
    rw [same.l1, if_neg (by omega), List.drop_of_length_le (by omega), List.drop_of_length_le (by omega)]; simp
  | succ n ih =>
    intro i h k hk
    obtain ⟨k, rfl⟩ : ∃ m, k = m + 1 := ⟨k - 1, by omega⟩
    rw [same.l1, if_pos (by omega), gd_pos (by omega), gd_pos (by omega), gd_pos (by omega), gd_pos (by omega), drop_cons a i (by omega), drop_cons b i (by omega)]
    by_cases he : rd a (i : Int) = rd b (i : Int)
    · rw [if_neg (by simpa using he), w64 (by omega) (by omega), show ((i : Int) + 1) = ((i + 1 : Nat) : Int) by omega, ih (i + 1) (by omega) k (by omega)]
      simp [he]
    · rw [if_pos he]; simp [he]
theorem same.eq (a b : List Int) (hl : a.length ≤ 140737488355328) (K : Nat) (hK : a.length < K) : same.f K a b = some (decide (a = b)) := by
  unfold same.f
  by_cases h : a.length = b.length
  · rw [if_neg (by omega)]
    have := same.l1_eq a b h hl a.length 0 (by omega) K hK
    simpa using this
  · rw [if_pos (by omega)]
    have : a ≠ b := fun e => h (by rw [e])
    simp [this]
end Go.Proofs.Ytakolnamobkkkaa
