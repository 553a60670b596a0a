/- Own text. Sum; the document's first example. Conditions: bytes and 32-bit numbers. -/
import Derived.Test.YtghlmkbchdmnoaaPureE
set_option linter.unusedSimpArgs false
set_option linter.unusedVariables false
set_option maxRecDepth 10000
namespace Go.Proofs.Ytghlmkbchdmnoaa
open Go Go.Sx

theorem Sum.l1_eq (K : Nat) (hK : 9 ≤ K) (ps : List (List Int)) (hb : ∀ p ∈ ps, Byt p ∧ p.length ≤ 140737488355328 ∧ p.length < K) (hl : ps.length ≤ 1073741824) : ∀ (n i : Nat) (s : W), i + n = ps.length → ∀ k, n < k → Sum.l1 K ps k (iv s, (i : Int)) = some (iv (goOn s (ps.drop i).flatten)) := by
  intro n
  induction n with
  | zero =>
    intro i s h k hk
    obtain ⟨k, rfl⟩ : ∃ m, k = m + 1 := ⟨k - 1, by omega⟩
    rw [Sum.l1]; simp only
    rw [if_neg (by omega), List.drop_of_length_le (by omega)]
    show some (iv s) = some (iv (~~~(~~~s))); rw [BitVec.not_not]
  | succ n ih =>
    intro i s h k hk
    obtain ⟨k, rfl⟩ : ∃ m, k = m + 1 := ⟨k - 1, by omega⟩
    rw [Sum.l1]; simp only
    have hi : i < ps.length := by omega
    have hr : rd ps (i : Int) = ps[i] := by simp [rd, List.getD_eq_getElem?_getD, hi]
    obtain ⟨h1, h2, h3⟩ := hb ps[i] (List.getElem_mem hi)
    rw [if_pos (by omega), gd_pos (by omega), hr, Bitwise.eq s _ h1 h2 K hK h3, Option.bind_some, w64 (by omega) (by omega), show ((i : Int) + 1) = ((i + 1 : Nat) : Int) by omega, ih (i + 1) _ (by omega) k (by omega), List.drop_eq_getElem_cons hi, List.flatten_cons, goOn_app]
theorem Sum.eq (ps : List (List Int)) (K : Nat) (hK : 9 ≤ K) (hb : ∀ p ∈ ps, Byt p ∧ p.length ≤ 140737488355328 ∧ p.length < K) (hl : ps.length ≤ 1073741824) (hk : ps.length < K) : Sum.f K ps = some (iv (goOn 0#32 ps.flatten)) := by
  unfold Sum.f
  have h := Sum.l1_eq K hK ps hb hl ps.length 0 0#32 (by omega) K hk
  exact bind_of h rfl
theorem example9 : iv (goOn 0#32 [49, 50, 51, 52, 53, 54, 55, 56, 57]) = 3808858755 := by decide +kernel
theorem known.eq (K : Nat) (hK : 300 ≤ K) : known.f K = some true := by
  unfold known.f
  obtain ⟨tab, h1, ht⟩ := New.eq K hK
  have hB : Byt [49, 50, 51, 52, 53, 54, 55, 56, 57] := by simp [Byt]
  have z : iv 0#32 = 0 := rfl
  have b1 := Bitwise.eq 0#32 _ hB (by simp) K (by omega) (by simp; omega)
  have b2 := ByTable.eq tab ht 0#32 _ hB (by simp) K (by simp; omega)
  have b3 := ByEight.eq tab ht 0#32 _ hB (by simp) K (by omega) (by simp; omega)
  rw [z, example9] at b1 b2 b3
  have b4 : Sum.f K [(([49, 50, 51, 52, 53, 54, 55, 56, 57] : List Int).take (Int.toNat 4)).drop 0, ([] : List Int), (([49, 50, 51, 52, 53, 54, 55, 56, 57] : List Int).take ([49, 50, 51, 52, 53, 54, 55, 56, 57] : List Int).length).drop (Int.toNat 4)] = some 3808858755 := by
    have h := Sum.eq [[49, 50, 51, 52], [], [53, 54, 55, 56, 57]] K (by omega) (by simp [Byt]; omega) (by simp) (by simp; omega)
    have e : [[49, 50, 51, 52], [], [53, 54, 55, 56, 57]].flatten = ([49, 50, 51, 52, 53, 54, 55, 56, 57] : List Int) := rfl
    rw [e, example9] at h
    exact h
  rw [h1, Option.bind_some, b1, Option.bind_some, if_pos rfl, b2, Option.bind_some, if_pos rfl, b3, Option.bind_some, Option.bind_some, if_pos (by decide), gd_pos (by decide), gd_pos (by decide)]
  exact bind_of b4 rfl
end Go.Proofs.Ytghlmkbchdmnoaa
