/- Own text. The plain part of the law EscapeStops. Conditions: bytes, at most 1048576 of them. -/
import Derived.Test.YtgikgekddnfheaaPureD
set_option linter.unusedSimpArgs false
set_option linter.unusedVariables false
namespace Go.Proofs.Ytgikgekddnfheaa
open Go Go.Sx

theorem pick.eq (a : Int) (n : Nat) (ha : -9223372036854775808 ≤ a ∧ a < 9223372036854775808) (hn : 0 < n) : ∃ t : Nat, pick.f a (n : Int) = some (t : Int) ∧ t < n := by
  unfold pick.f
  by_cases h : a < 0
  · rw [if_pos h, gd_pos (by omega), w64 (n := a + 1) (by omega) (by omega), w64 (n := 0 - (a + 1)) (by omega) (by omega)]
    have h0 : 0 ≤ 0 - (a + 1) := by omega
    have h1 := Int.emod_nonneg (0 - (a + 1)) (show (n : Int) ≠ 0 by omega)
    have h2 := Int.emod_lt_of_pos (0 - (a + 1)) (show (0 : Int) < n by omega)
    rw [Int.tmod_eq_emod_of_nonneg h0]
    exact ⟨((0 - (a + 1)) % (n : Int)).toNat, by congr 1; omega, by omega⟩
  · rw [if_neg h, gd_pos (by omega)]
    have h1 := Int.emod_nonneg a (show (n : Int) ≠ 0 by omega)
    have h2 := Int.emod_lt_of_pos a (show (0 : Int) < n by omega)
    rw [Int.tmod_eq_emod_of_nonneg (by omega)]
    exact ⟨(a % (n : Int)).toNat, by congr 1; omega, by omega⟩

theorem Pure.EscapeStops : ∀ (a0 : List Int) (a1 : Int), (∀ x ∈ a0, (Lit.int .u8 x).wf = true) → (Lit.int .i64 a1).wf = true → a0.length ≤ 1048576 → ∃ K, EscapeStops.f K a0 a1 = some true := by
  intro s a h0 h1 hl
  have hB := Byt.of h0
  have ha := wf64 h1
  refine ⟨2 * 1048576 + 20, ?_⟩
  obtain ⟨K, hK⟩ : ∃ K, K = 2 * 1048576 + 20 := ⟨_, rfl⟩
  rw [← hK]
  have hwl := esc_le s
  have hwB := esc_byt hB
  obtain ⟨w, hw⟩ : ∃ w, w = esc s := ⟨_, rfl⟩
  obtain ⟨L, hL⟩ : ∃ L, L = ents w 0 := ⟨_, rfl⟩
  have hLs : L.map (·.2) = s := by rw [hL, hw]; exact ents_esc s 0
  have hLl : L.length = s.length := by rw [← hLs]; simp
  have hinc : L.Pairwise (fun x y => x.1 < y.1) := by rw [hL]; exact ents_inc _ _
  have hlb : ∀ x ∈ L, 0 ≤ x.1 := by rw [hL]; exact ents_lb _ _
  have hsnd : ∀ n (h : n < L.length), rd s (n : Int) = L[n].2 := fun n h => by rw [← hLs]; exact rd_map (·.2) L n h
  unfold EscapeStops.f
  refine bind_of (awake.eq K (by omega)) ?_
  refine bind_of (Wrap.eq s hB (by omega) K (by omega)) ?_
  rw [← hw] at hwl hwB ⊢
  refine bind_of (v := ()) rfl ?_
  rw [w64 (by omega) (by omega)]
  obtain ⟨t, ht, htl⟩ := pick.eq a (s.length + 1) ha (by omega)
  rw [show ((s.length + 1 : Nat) : Int) = (s.length : Int) + 1 by omega] at ht
  refine bind_of ht ?_
  rw [w64 (n := 1 + (t : Int)) (by omega) (by omega)]
  obtain ⟨m, hm⟩ : ∃ m, m = 1 + t := ⟨_, rfl⟩
  rw [show (1 : Int) + (t : Int) = (m : Int) by omega]
  have eq := fun {S E : Type} (step : S → (Int × Int) → Option (S ⊕ E)) (σ : S) => (EachF.eq step σ w hwB (by omega) K (by omega)).trans (by rw [← hL])
  simp only [eq]
  -- the first range
  have l1 : ∀ step : List Int → Int × Int → Option (List Int ⊕ List Int), (∀ n (h : n < L.length), n < m → step (s.take n) L[n] = some (if n + 1 = m then .inr (s.take m) else .inl (s.take (n + 1)))) →
      ((foldE step [] L).bind fun t91 => ysel t91 (fun i82 => some i82) (fun e86 => some e86)) = some (s.take m) := by
    intro step hs
    have := foldE_walk step L (fun n => s.take n) m (s.take m) (by omega) hs
    rw [List.take_zero] at this
    rw [this]
    by_cases h : m ≤ L.length
    · rw [if_pos h]; rfl
    · rw [if_neg h, hLl, List.take_of_length_le (Nat.le_refl _)]
      show some s = _
      rw [List.take_of_length_le (by omega)]
  have tk : ∀ n, n < L.length → s.take n ++ [rd s (n : Int)] = s.take (n + 1) := fun n h => (take_snoc s n (by omega)).symm
  refine bind_of (l1 _ fun n h hnm => ?_) ?_
  · rw [← hsnd n h, gd_pos (by simp; omega), tk n h]
    have hlen : ((s.take (n + 1)).length : Int) = ((n + 1 : Nat) : Int) := by rw [List.length_take]; omega
    rw [hlen]
    by_cases e : n + 1 = m
    · rw [if_pos (by omega), if_pos e, e]
    · rw [if_neg (by omega), if_neg e]
  -- the second
  have last : ∀ n, ∃ z : Int, (n = 0 → z = -1) ∧ (∀ h : n - 1 < L.length, 0 < n → z = L[n - 1].1) := by
    intro n
    by_cases h : n - 1 < L.length ∧ 0 < n
    · exact ⟨L[n - 1].1, by omega, fun _ _ => rfl⟩
    · exact ⟨-1, fun _ => rfl, fun h1 h2 => absurd ⟨h1, h2⟩ h⟩
  let z : Nat → Int := fun n => if h : n - 1 < L.length ∧ 0 < n then (L[n - 1]'h.1).1 else -1
  have z0 : z 0 = -1 := by simp [z]
  have zs : ∀ n (h : n < L.length), z (n + 1) = L[n].1 := fun n h => by simp [z, h]
  have zlt : ∀ n (h : n < L.length), z n < L[n].1 := by
    intro n h
    cases n with
    | zero => rw [z0]; have := hlb _ (List.getElem_mem h); omega
    | succ n => rw [zs n (by omega)]; exact List.pairwise_iff_getElem.1 hinc n (n + 1) (by omega) h (by omega)
  have l2 := fun (step : Bool × Int × List Int → Int × Int → Option ((Bool × Int × List Int) ⊕ (List Int × Int × Bool))) => foldE_all step L (fun n => (true, z n, s.take n))
  simp only [z0, List.take_zero] at l2
  refine bind_of (l2 _ fun n h => ?_) ?_
  · simp only [if_true, decide_eq_true (zlt n h), Option.bind_some]
    rw [← hsnd n h, tk n h, gd_pos (by simp; omega)]
    have hlen : ((s.take (n + 1)).length : Int) = ((n + 1 : Nat) : Int) := by rw [List.length_take]; omega
    rw [hlen, if_neg (by omega), zs n h]
  rw [hLl, List.take_of_length_le (Nat.le_refl _)]
  show Option.bind _ _ = _
  obtain ⟨m', hm', hmd⟩ : ∃ m' : Nat, (if (s.length : Int) < (m : Int) then some (s.length : Int) else some (m : Int)) = some (m' : Int) ∧ m' = min m s.length := by
    by_cases h : (s.length : Int) < (m : Int)
    · exact ⟨s.length, by rw [if_pos h], by omega⟩
    · exact ⟨m, by rw [if_neg h], by omega⟩
  refine bind_of hm' ?_
  refine bind_of (same.eq s s hB hB) ?_
  rw [gd_pos (by omega)]
  have htk : (s.take (Int.toNat (m' : Int))).drop 0 = s.take m := by
    rw [List.drop_zero, Int.toNat_natCast, hmd]
    by_cases h : m ≤ s.length
    · rw [Nat.min_eq_left h]
    · rw [Nat.min_eq_right (by omega), List.take_of_length_le (Nat.le_refl _), List.take_of_length_le (by omega)]
  rw [htk]
  refine bind_of (same.eq _ _ (hB.take m) (hB.take m)) ?_
  have l3 := fun (step : Int → Int × Int → Option (Int ⊕ Int)) => foldE_all step L (fun n => (n : Int))
  refine bind_of (l3 _ fun n h => ?_) ?_
  · have hr := hsnd n h
    rw [if_neg (by omega), gd_pos (by omega), gd_pos (by omega), Option.bind_some, if_neg (by simp [hr]), w64 (by omega) (by omega)]
    by_cases e : (n : Int) + 1 ≠ (m' : Int)
    · rw [if_pos e]; simp
    · rw [if_neg e]
      refine bind_of (l3 _ fun k hk => ?_) ?_
      · have hrk := hsnd k hk
        rw [if_neg (by omega), gd_pos (by omega), gd_pos (by omega), Option.bind_some, if_neg (by simp [hrk]), w64 (by omega) (by omega)]
        simp
      · show (if (L.length : Int) ≠ (s.length : Int) then _ else _) = _
        rw [if_neg (by omega)]; simp
  · rw [hLl]
    simp [ysel]
end Go.Proofs.Ytgikgekddnfheaa
