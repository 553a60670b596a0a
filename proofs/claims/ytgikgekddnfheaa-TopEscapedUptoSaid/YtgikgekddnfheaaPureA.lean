/- Own text. The escape layer's functions, read as plain functions: what they answer; the plain parts of the laws that use them. -/
import Derived.Test.YtgikgekddnfheaaLiftA
import Derived.Test.YtgikgekddnfheaaSxPure
set_option linter.unusedSimpArgs false
set_option linter.unusedVariables false
namespace Go.Proofs.Ytgikgekddnfheaa
open Go Go.Sx

/-! ### room, whole -/
theorem room.l1_eq : ∀ (n : Nat) (l : List Int) (i : Nat), i + n = l.length → l.length < 4611686018427387904 → ∀ k, n < k → room.l1 k (l, (i : Int)) = some (l.take i ++ List.replicate n 238) := by
  intro n
  induction n with
  | zero =>
    intro l i h hl k hk
    obtain ⟨k, rfl⟩ : ∃ m, k = m + 1 := ⟨k - 1, by omega⟩
    rw [room.l1]
    simp only
    rw [if_neg (by omega)]
    simp [show i = l.length by omega]
  | succ n ih =>
    intro l i h hl k hk
    obtain ⟨k, rfl⟩ : ∃ m, k = m + 1 := ⟨k - 1, by omega⟩
    rw [room.l1]
    simp only
    rw [if_pos (by omega), gd_pos (by omega), gd_pos (by omega), w64 (by omega) (by omega)]
    rw [show ((i : Int) + 1) = ((i + 1 : Nat) : Int) by omega, Int.toNat_natCast]
    rw [ih (l.set i 238) (i + 1) (by simp; omega) (by simpa using hl) k (by omega)]
    congr 1
    have h1 : (l.set i 238).take (i + 1) = l.take i ++ [238] := by
      rw [take_snoc _ _ (by simp; omega), rd_nat _ _ (by simp; omega), List.take_set, List.set_eq_of_length_le (by simp; omega)]
      simp
    rw [h1, List.append_assoc, List.replicate_succ, List.singleton_append]
theorem room.eq (s : List Int) (hs : s.length ≤ 140737488351232) (K : Nat) (hK : 8 < K) : room.f K s = some (s ++ List.replicate 8 238) := by
  unfold room.f
  have e : IntKind.wrap .i64 ((s.length : Int) + 8) = ((s.length + 8 : Nat) : Int) := by rw [w64 (by omega) (by omega)]; omega
  rw [e, Int.toNat_natCast, List.length_replicate, gd_pos (by omega)]
  refine bind_of (room.l1_eq 8 _ s.length (by simp <;> omega) (by simp <;> omega) K hK) ?_
  congr 1
  have h1 : s.take (s.length + 8) = s := List.take_of_length_le (by omega)
  rw [h1, List.take_append_of_le_length (Nat.le_refl _), List.take_length]
theorem whole.l1_eq (l s : List Int) (hl : l = s ++ List.replicate 8 238) (hs : l.length < 4611686018427387904) : ∀ (n i : Nat), i + n = l.length → ∀ k, n < k → whole.l1 l s k (i : Int) = some (.inr ()) := by
  intro n
  induction n with
  | zero =>
    intro i h k hk
    obtain ⟨k, rfl⟩ : ∃ m, k = m + 1 := ⟨k - 1, by omega⟩
    rw [whole.l1, if_neg (by omega)]
  | succ n ih =>
    intro i h k hk
    obtain ⟨k, rfl⟩ : ∃ m, k = m + 1 := ⟨k - 1, by omega⟩
    have hlen : l.length = s.length + 8 := by subst hl; simp
    rw [whole.l1, if_pos (by omega)]
    have step : whole.l1 l s k (IntKind.wrap .i64 ((i : Int) + 1)) = some (.inr ()) := by
      rw [w64 (by omega) (by omega), show ((i : Int) + 1) = ((i + 1 : Nat) : Int) by omega]
      exact ih (i + 1) (by omega) k (by omega)
    refine bind_of (v := false) ?_ (by simpa using step)
    by_cases hi : i < s.length
    · have e : rd l (i : Int) = rd s (i : Int) := by subst hl; exact rd_app_left _ _ _ hi
      rw [if_pos (by omega), gd_pos (by omega), gd_pos (by omega), gd_pos (by omega), gd_pos (by omega), if_neg (by simp [e]), if_neg (by omega)]
    · have e : rd l (i : Int) = 238 := by
        subst hl
        rw [rd_app_right _ _ _ (by omega) (by simp; omega), rd_nat _ _ (by simp; omega), List.getElem_replicate]
      rw [if_neg (by omega), if_pos (by omega), gd_pos (by omega), gd_pos (by omega), e]
      simp
theorem whole.eq (s : List Int) (hs : s.length ≤ 140737488351232) (K : Nat) (hK : s.length + 8 < K) : whole.f K (s ++ List.replicate 8 238) s = some true :=
  thn_of (whole.l1_eq _ s rfl (by simp; omega) (s.length + 8) 0 (by simp) K hK) rfl

/-! ### Next -/
/-- r is the place of the first lead byte from a place on, or the length. -/
def First (s : List Int) (fr r : Int) : Prop :=
  (r = s.length ∧ ∀ i : Nat, i < s.length → fr ≤ i → rd s i ≠ 167) ∨ ∃ j : Nat, r = j ∧ j < s.length ∧ fr ≤ j ∧ rd s j = 167 ∧ ∀ i : Nat, i < j → fr ≤ i → rd s i ≠ 167
theorem First.uniq {s : List Int} {fr r r' : Int} (h : First s fr r) (h' : First s fr r') : r = r' := by
  rcases h with ⟨rfl, h⟩ | ⟨j, rfl, h1, h2, h3, h4⟩ <;> rcases h' with ⟨rfl, h'⟩ | ⟨j', rfl, h1', h2', h3', h4'⟩
  · rfl
  · exact absurd h3' (h j' h1' h2')
  · exact absurd h3 (h' j h1 h2)
  · rcases Nat.lt_trichotomy j j' with h | h | h
    · exact absurd h3 (h4' j h h2)
    · rw [h]
    · exact absurd h3' (h4 j' h h2')
theorem Next.eq (s : List Int) (fr : Int) (hb : Byt s) (hs : s.length < 4611686018427387904) : ∃ r, Next.f s fr = some r ∧ First s fr r := by
  unfold Next.f
  rw [gd_pos (by omega)]
  obtain ⟨m, hm⟩ : ∃ m : Nat, min (max fr 0) (s.length : Int) = m := ⟨(min (max fr 0) (s.length : Int)).toNat, by omega⟩
  rw [hm, Int.toNat_natCast, List.take_length]
  have hf : IndexByte.f (s.drop m) 167 = some (fidx (s.drop m) 167) := by unfold IndexByte.f; rw [idxB_eq (hb.drop m) (by omega)]
  rw [hf, Option.bind_some]
  have hd : ∀ i : Nat, m + i < s.length → rd (s.drop m) (i : Int) = rd s ((m + i : Nat) : Int) := fun i hi => by
    rw [rd_nat _ _ (by simp; omega), rd_nat _ _ hi]; simp
  rcases fidx_spec 167 (s.drop m) with ⟨h1, h2⟩ | ⟨j, h1, h2, h3, h4⟩
  · refine ⟨s.length, by rw [h1, if_neg (by omega)], .inl ⟨rfl, fun i hi hfi he => h2 ?_⟩⟩
    have : rd (s.drop m) ((i - m : Nat) : Int) = 167 := by rw [hd _ (by omega), show m + (i - m) = i by omega]; exact he
    rw [← this]; exact rd_mem _ _ (by simp; omega)
  · rw [List.length_drop] at h2
    refine ⟨((m + j : Nat) : Int), by rw [h1, if_pos (by omega), w64 (by omega) (by omega)]; congr 1, .inr ⟨m + j, rfl, by omega, by omega, by rw [← hd j (by omega)]; exact h3, fun i hi hfi he => ?_⟩⟩
    refine h4 (i - m) (by omega) ?_
    rw [hd _ (by omega), show m + (i - m) = i by omega]; exact he
theorem refNext.l1_eq (s : List Int) (fr : Int) (hs : s.length < 4611686018427387904) : ∀ (n i : Nat), i + n = s.length → (∀ j : Nat, j < i → fr ≤ j → rd s j ≠ 167) → ∀ k, n < k →
    ∃ r, thn (refNext.l1 s fr k (i : Int)) (fun _ => some (s.length : Int)) = some r ∧ First s fr r := by
  intro n
  induction n with
  | zero =>
    intro i h hi k hk
    obtain ⟨k, rfl⟩ : ∃ m, k = m + 1 := ⟨k - 1, by omega⟩
    rw [refNext.l1, if_neg (by omega)]
    exact ⟨_, rfl, .inl ⟨rfl, fun j hj => hi j (by omega)⟩⟩
  | succ n ih =>
    intro i h hi k hk
    obtain ⟨k, rfl⟩ : ∃ m, k = m + 1 := ⟨k - 1, by omega⟩
    rw [refNext.l1, if_pos (by omega)]
    have step (hno : fr ≤ i → rd s i ≠ 167) : ∃ r, thn (refNext.l1 s fr k (IntKind.wrap .i64 ((i : Int) + 1))) (fun _ => some (s.length : Int)) = some r ∧ First s fr r := by
      rw [w64 (by omega) (by omega), show ((i : Int) + 1) = ((i + 1 : Nat) : Int) by omega]
      refine ih (i + 1) (by omega) (fun j hj hf => ?_) k (by omega)
      rcases Nat.lt_or_ge j i with h | h
      · exact hi j h hf
      · have : j = i := by omega
        subst this; exact hno hf
    by_cases hf : fr ≤ i
    · rw [if_pos hf, gd_pos (by omega), gd_pos (by omega), Option.bind_some]
      by_cases he : rd s i = 167
      · rw [if_pos (by simp [he])]
        exact ⟨_, rfl, .inr ⟨i, rfl, by omega, hf, he, hi⟩⟩
      · rw [if_neg (by simp [he])]
        exact step fun _ => he
    · rw [if_neg hf, Option.bind_some, if_neg (by simp)]
      exact step fun h => absurd h hf
theorem refNext.eq (s : List Int) (fr : Int) (hs : s.length < 4611686018427387904) (K : Nat) (hK : s.length < K) : ∃ r, refNext.f K s fr = some r ∧ First s fr r :=
  refNext.l1_eq s fr hs s.length 0 (by omega) (fun j hj => by omega) K hK
theorem Next.same (s : List Int) (fr : Int) (hb : Byt s) (hs : s.length < 4611686018427387904) (K : Nat) (hK : s.length < K) : ∃ r, Next.f s fr = some r ∧ refNext.f K s fr = some r := by
  obtain ⟨r, h1, h2⟩ := Next.eq s fr hb hs
  obtain ⟨r', h1', h2'⟩ := refNext.eq s fr hs K hK
  exact ⟨r, h1, by rw [h1', h2.uniq h2']⟩

namespace Pure
theorem EscapeNexts : ∀ (a0 : List Int) (a1 : Int) (a2 : Int), (∀ x ∈ a0, (Lit.int .u8 x).wf = true) → a0.length * 1 ≤ 140737488351232 → (Lit.int .i64 a1).wf = true → (Lit.int .i64 a2).wf = true → ∃ K, EscapeNexts.f K a0 a1 a2 = some true := by
  intro s fr ot hb hs _ _
  have hb := Byt.of hb
  refine ⟨s.length + 9, ?_⟩
  unfold EscapeNexts.f
  rw [room.eq s (by omega) _ (by omega), Option.bind_some, gd_pos (by simp), Int.toNat_natCast, List.take_append_of_le_length (Nat.le_refl _), List.take_length, List.drop_zero]
  obtain ⟨r1, h1, h1'⟩ := Next.same s fr hb (by omega) (s.length + 9) (by omega)
  obtain ⟨r2, h2, h2'⟩ := Next.same s ot hb (by omega) (s.length + 9) (by omega)
  have h3 : Next.f [0, 167, 167] 2 = some 2 := by
    obtain ⟨r, h, h'⟩ := Next.eq [0, 167, 167] 2 (by simp [Byt]) (by simp)
    rw [h]
    have : First [0, 167, 167] 2 2 := .inr ⟨2, rfl, by decide, by decide, rfl, fun i hi hf => by omega⟩
    rw [h'.uniq this]
  rw [h1, Option.bind_some, gd_pos (by simp), h2, Option.bind_some, h3, Option.bind_some, whole.eq s (by omega) _ (by omega), Option.bind_some, if_pos rfl, h1', Option.bind_some, if_pos rfl, h2', Option.bind_some, if_pos rfl]
  simp
end Pure
end Go.Proofs.Ytgikgekddnfheaa
