/- Own text. The plain part of the law TopEscaped. Conditions: bytes and numbers below 2^64, at most 1048576 of them. -/
import Derived.Test.YtgikgekddnfheaaPureC
import Derived.Test.YtgikgekddnfheaaPureV
set_option linter.unusedSimpArgs false
set_option linter.unusedVariables false
namespace Go.Proofs.Ytgikgekddnfheaa
open Go Go.Sx

theorem TopEscaped.l1_eq (t : List Int) (hs : t.length < 4611686018427387904) (ht : (167 : Int) ∉ t) : ∀ (n i : Nat), i + n = t.length → ∀ k, n < k → TopEscaped.l1 t k (i : Int) = some (.inr ()) := by
  intro n
  induction n with
  | zero =>
    intro i h k hk
    obtain ⟨k, rfl⟩ : ∃ m, k = m + 1 := ⟨k - 1, by omega⟩
    rw [TopEscaped.l1, if_neg (by omega)]
  | succ n ih =>
    intro i h k hk
    obtain ⟨k, rfl⟩ : ∃ m, k = m + 1 := ⟨k - 1, by omega⟩
    have hm : rd t (i : Int) ≠ 167 := fun e => ht (e ▸ rd_mem t i (by omega))
    rw [TopEscaped.l1, if_pos (by omega), gd_pos (by omega), if_neg hm, w64 (by omega) (by omega), show ((i : Int) + 1) = ((i + 1 : Nat) : Int) by omega]
    exact ih _ (by omega) k (by omega)
theorem joined.eq (a b : List Int) (h : a.length + b.length ≤ 1099511627776) : joined.f a b = some (a ++ b) := by
  unfold joined.f
  rw [gd_pos (by simp; omega), gd_pos (by simp; omega)]; simp
theorem sameBytes.eq (a b : List Int) (ha : Byt a) (hb : Byt b) : sameBytes.f a b = some (decide (a = b)) := by
  unfold sameBytes.f; simp only [strOfNums_eq ha hb]
theorem enc_all_byt (l : List Int) (hw : ∀ x ∈ l, 0 ≤ x ∧ x < 18446744073709551616) : Byt (l.flatMap fun x => enc1 x.toNat) := by
  intro y hy
  obtain ⟨x, hx, h⟩ := List.mem_flatMap.1 hy
  exact can_byt _ (can_enc _) y h
theorem enc_all_len (l : List Int) (hw : ∀ x ∈ l, 0 ≤ x ∧ x < 18446744073709551616) : (l.flatMap fun x => enc1 x.toNat).length ≤ 10 * l.length := by
  induction l with
  | nil => simp
  | cons x l ih =>
    have h1 := ih fun y hy => hw y (List.mem_cons_of_mem _ hy)
    have h2 := hw x List.mem_cons_self
    have h3 := (enc1_len (n := x.toNat) (by omega)).1
    simp only [List.flatMap_cons, List.length_append, List.length_cons]; omega
theorem Pure.TopEscaped : ∀ (a0 : List Int) (a1 : List Int), (∀ x ∈ a0, (Lit.int .u8 x).wf = true) → (∀ x ∈ a1, (Lit.int .u64 x).wf = true) → a0.length + a1.length ≤ 1048576 → ∃ K, TopEscaped.f K a0 a1 = some true := by
  intro a l h0 h1 hl
  have ha := Byt.of h0
  have hw : ∀ x ∈ l, 0 ≤ x ∧ x < 18446744073709551616 := fun x hx => wfu64 (h1 x hx)
  refine ⟨50000000, ?_⟩
  obtain ⟨K, hK⟩ : ∃ K, K = 50000000 := ⟨_, rfl⟩
  rw [← hK]
  obtain ⟨b, hb⟩ : ∃ b, b = l.flatMap fun x => enc1 x.toNat := ⟨_, rfl⟩
  have hbB : Byt b := hb ▸ enc_all_byt l hw
  have hbl : b.length ≤ 10 * l.length := hb ▸ enc_all_len l hw
  have habB : Byt (a ++ b) := Byt.app.2 ⟨ha, hbB⟩
  have habl : (a ++ b).length = a.length + b.length := List.length_append
  have e1 := esc_le a
  have e2 := esc_le b
  have e3 := esc_le (a ++ b)
  have zB := esc_byt habB
  have zL := esc_lead (a ++ b)
  unfold TopEscaped.f
  refine bind_of (Wrap.eq _ (by simp [Byt]) (by simp) K (by simp; omega)) ?_
  refine bind_of ((Encode.eq l hw (by omega) K (by omega) (by omega)).trans (by rw [← hb])) ?_
  refine bind_of (Wrap.eq a ha (by omega) K (by omega)) ?_
  refine bind_of (Wrap.eq b hbB (by omega) K (by omega)) ?_
  refine bind_of (joined.eq a b (by omega)) ?_
  refine bind_of (Wrap.eq _ habB (by omega) K (by omega)) ?_
  have hz : esc a ++ esc b = esc (a ++ b) := (esc_app a b).symm
  have hlit : strOfNums (esc [167, 0, 166]) = (⟨#[166, 1, 0, 166, 0]⟩ : ByteArray) := by decide +kernel
  have hnx := Next.none _ zB (by omega) zL
  obtain ⟨r, o1, o2, o3, o4⟩ := Open.inl zB (by omega) K (by omega) (opn_esc (a ++ b) 0)
  have joinab : joined.f a b = some (a ++ b) := joined.eq a b (by omega)
  refine bind_of (v := false) ?_ ?_
  · rw [if_neg (by rw [hlit]; simp)]
    refine bind_of (joined.eq _ _ (by omega)) ?_
    rw [hz]
    refine bind_of (sameBytes.eq _ _ zB zB) ?_
    rw [if_pos (by simp)]
    refine bind_of joinab ?_
    refine bind_of (Size.eq K _ habB (by omega)) ?_
    simp
  rw [if_neg (by simp)]
  refine bind_of o1 ?_
  refine bind_of (v := false) ?_ ?_
  · rw [if_neg (by omega), if_neg (by omega)]
    refine bind_of joinab ?_
    rw [o2]
    refine bind_of (sameBytes.eq _ _ habB habB) ?_
    rw [if_pos (by simp)]
    refine bind_of hnx ?_
    simp
  rw [if_neg (by simp)]
  refine thn_of (TopEscaped.l1_eq (esc (a ++ b)) (by omega) zL _ 0 (Nat.zero_add _) K (by omega)) ?_
  refine bind_of (joined.eq _ _ (by simp; omega)) ?_
  have hop : opn (esc (a ++ b) ++ [167]) 0 = .inr (31, ((esc (a ++ b)).length : Int)) := by
    rw [opn_app _ [167] 0 _ (opn_esc (a ++ b) 0), opn_lead]; simp
  obtain ⟨r', p1, p2, p3, p4⟩ := Open.inr (Byt.app.2 ⟨zB, by simp [Byt]⟩) (by simp; omega) K (by simp; omega) hop
  refine bind_of p1 ?_
  rw [if_pos p3, if_pos p4, p2]
  rfl
end Go.Proofs.Ytgikgekddnfheaa
