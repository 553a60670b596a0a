/- Own text, laid out of another seat. Conditions: as there. -/
import Derived.Test.YtakolnamobkkkaaLiftA
import Derived.Test.YtakolnamobkkkaaSxPure
set_option linter.unusedSimpArgs false
set_option linter.unusedVariables false
set_option maxRecDepth 10000
namespace Go.Proofs.Ytakolnamobkkkaa
open Go Go.Sx
/-- r is the place of the first lead byte from a place on, or the length. -/
def First (s : List Int) (fr r : Int) : Prop :=
  (r = s.length ∧ ∀ i : Nat, i < s.length → fr ≤ i → rd s i ≠ 167) ∨ ∃ j : Nat, r = j ∧ j < s.length ∧ fr ≤ j ∧ rd s j = 167 ∧ ∀ i : Nat, i < j → fr ≤ i → rd s i ≠ 167
theorem First.uniq {s : List Int} {fr r r' : Int} (h : First s fr r) (h' : First s fr r') : r = r' := by
  rcases h with ⟨rfl, h⟩ | ⟨j, rfl, h1, h2, h3, h4⟩ <;> rcases h' with ⟨rfl, h'⟩ | ⟨j', rfl, h1', h2', h3', h4'⟩
  · rfl
  · exact absurd h3' (h j' h1' h2')
  · exact absurd h3 (h' j h1 h2)
  · rcases Nat.lt_trichotomy j j' with h | h | h
    · exact absurd h3 (h4' j h h2)
    · rw [h]
    · exact absurd h3' (h4 j' h h2')
theorem Next.eq (s : List Int) (fr : Int) (hb : Byt s) (hs : s.length < 4611686018427387904) : ∃ r, Next.f s fr = some r ∧ First s fr r := by
  unfold Next.f
  rw [gd_pos (by omega)]
  obtain ⟨m, hm⟩ : ∃ m : Nat, min (max fr 0) (s.length : Int) = m := ⟨(min (max fr 0) (s.length : Int)).toNat, by omega⟩
  rw [hm, Int.toNat_natCast, List.take_length]
  have hf : IndexByte.f (s.drop m) 167 = some (fidx (s.drop m) 167) := by unfold IndexByte.f; rw [idxB_eq (hb.drop m) (by omega)]
  rw [hf, Option.bind_some]
  have hd : ∀ i : Nat, m + i < s.length → rd (s.drop m) (i : Int) = rd s ((m + i : Nat) : Int) := fun i hi => by
    rw [rd_nat _ _ (by simp; omega), rd_nat _ _ hi]; simp
  rcases fidx_spec 167 (s.drop m) with ⟨h1, h2⟩ | ⟨j, h1, h2, h3, h4⟩
  · refine ⟨s.length, by rw [h1, if_neg (by omega)], .inl ⟨rfl, fun i hi hfi he => h2 ?_⟩⟩
    have : rd (s.drop m) ((i - m : Nat) : Int) = 167 := by rw [hd _ (by omega), show m + (i - m) = i by omega]; exact he
    rw [← this]; exact rd_mem _ _ (by simp; omega)
  · rw [List.length_drop] at h2
    refine ⟨((m + j : Nat) : Int), by rw [h1, if_pos (by omega), w64 (by omega) (by omega)]; congr 1, .inr ⟨m + j, rfl, by omega, by omega, by rw [← hd j (by omega)]; exact h3, fun i hi hfi he => ?_⟩⟩
    refine h4 (i - m) (by omega) ?_
    rw [hd _ (by omega), show m + (i - m) = i by omega]; exact he
theorem Next.none (t : List Int) (hb : Byt t) (hs : t.length < 4611686018427387904) (ht : (167 : Int) ∉ t) : Next.f t 0 = some (t.length : Int) := by
  obtain ⟨r, h, h'⟩ := Next.eq t 0 hb hs
  rw [h, h'.uniq (.inl ⟨rfl, fun i hi _ e => ht (e ▸ rd_mem t i hi)⟩)]
end Go.Proofs.Ytakolnamobkkkaa
