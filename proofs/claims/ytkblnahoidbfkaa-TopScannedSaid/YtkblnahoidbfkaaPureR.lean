/- Own text. Every byte is in one extent; the plain part of the law ScanCover. Conditions: bytes of bounded number. -/
import Derived.Test.YtkblnahoidbfkaaPureQ
import Derived.Test.YtkblnahoidbfkaaLift4
set_option linter.unusedSimpArgs false
set_option linter.unusedVariables false
set_option maxRecDepth 100000
namespace Go.Proofs.Ytkblnahoidbfkaa
open Go Go.Sx

theorem ScanCover.l2_eq (K : Nat) (T : List T40_) (s : Int × Int) (b : List Int) (x : T40_) (hx : rd T s.2 = x) (a m : Nat) (e1 : x.2.1 = a) (e2 : x.2.2 = m) (hl : a + m ≤ 16777216)
    (h : ∀ q : Nat, a ≤ q → q < a + m → ∃ t : D16, fDecode.f K b (q : Int) = some t ∧ ((decide (t.2.2.2.2.2.2.2.2.2.2.2.2.2.2.2 = 0)) = (if x.1 = true then false else decide ((q : Int) = (a : Int)))) ∧ ((q : Int) = a → x.1 = false → t.2.2.2.2.2.2.2.2.2.2.2.2.2.2.1 = m)) :
    ∀ (n q : Nat), q + n = a + m → a ≤ q → ∀ k, n < k → ScanCover.l2 K T s b k (q : Int) = some (.inr ()) := by
  intro n
  induction n with
  | zero =>
    intro q hq ha k hk
    obtain ⟨k, rfl⟩ : ∃ m, k = m + 1 := ⟨k - 1, by omega⟩
    rw [ScanCover.l2, hx, e1, e2, w64 (by omega) (by omega), if_neg (by omega)]
  | succ n ih =>
    intro q hq ha k hk
    obtain ⟨k, rfl⟩ : ∃ m, k = m + 1 := ⟨k - 1, by omega⟩
    obtain ⟨t, h1, h2, h3⟩ := h q ha (by omega)
    have hih := ih (q + 1) (by omega) (by omega) k (by omega)
    rw [ScanCover.l2, hx, e1, e2, w64 (by omega) (by omega), if_pos (by omega), h1, Option.bind_some]
    have hb : (if x.1 = true then some false else some (decide ((q : Int) = (a : Int)))) = some (decide (t.2.2.2.2.2.2.2.2.2.2.2.2.2.2.2 = 0)) := by
      rw [h2]; split <;> rfl
    rw [hb, Option.bind_some, if_neg (by simp)]
    by_cases ht : t.2.2.2.2.2.2.2.2.2.2.2.2.2.2.2 = 0
    · have hxq : x.1 = false ∧ (q : Int) = a := by
        rw [decide_eq_true ht] at h2
        cases hx1 : x.1 with
        | true => rw [hx1, if_pos rfl] at h2; cases h2
        | false => rw [hx1, if_neg (by simp)] at h2; exact ⟨rfl, of_decide_eq_true h2.symm⟩
      rw [if_pos (decide_eq_true ht), h3 hxq.2 hxq.1, Option.bind_some, if_neg (by simp), w64 (by omega) (by omega), show ((q : Int) + 1) = ((q + 1 : Nat) : Int) by omega]
      exact hih
    · rw [if_neg (by simp [ht]), Option.bind_some, if_neg (by simp), w64 (by omega) (by omega), show ((q : Int) + 1) = ((q + 1 : Nat) : Int) by omega]
      exact hih
theorem ScanCover.step (K : Nat) (T : List T40_) (b : List Int) (hK : 16777300 < K) (hT : T.length ≤ 16777216) (hlb : b.length ≤ 16777216) (i : Nat) (hi : i < T.length) (x : T40_) (hx : rd T (i : Int) = x) (a m : Nat) (e1 : x.2.1 = a) (e2 : x.2.2 = m) (hm : 1 ≤ m) (hl : a + m ≤ b.length) (hj : x.1 = true → 0 < i → (rd T ((i - 1 : Nat) : Int)).1 = false)
    (h : ∀ q : Nat, a ≤ q → q < a + m → ∃ t : D16, fDecode.f K b (q : Int) = some t ∧ ((decide (t.2.2.2.2.2.2.2.2.2.2.2.2.2.2.2 = 0)) = (if x.1 = true then false else decide ((q : Int) = (a : Int)))) ∧ ((q : Int) = a → x.1 = false → t.2.2.2.2.2.2.2.2.2.2.2.2.2.2.1 = m)) (k : Nat) :
    ScanCover.l1 K T b (k + 1) ((a : Int), (i : Int)) = ScanCover.l1 K T b k (((a + m : Nat) : Int), ((i + 1 : Nat) : Int)) := by
  rw [ScanCover.l1]; simp only
  rw [if_pos (by omega), gd_pos (by omega), gd_pos (by omega), hx, e1, e2, if_neg (by simp), if_neg (by omega), w64 (n := (b.length : Int) - (a : Int)) (by omega) (by omega), if_neg (by omega)]
  have hb : (if x.1 = true then (if 0 < (i : Int) then (gd ((0 : Int) ≤ (IntKind.wrap .i64 ((i : Int) - 1)) ∧ (IntKind.wrap .i64 ((i : Int) - 1)) < (T.length : Int)) (gd ((0 : Int) ≤ (IntKind.wrap .i64 ((i : Int) - 1)) ∧ (IntKind.wrap .i64 ((i : Int) - 1)) < (T.length : Int)) (some ((rd T (IntKind.wrap .i64 ((i : Int) - 1))).1)))) else (some false)) else (some false)) = some false := by
    split
    · rename_i h1
      split
      · rename_i h2
        rw [w64 (by omega) (by omega), show ((i : Int) - 1) = ((i - 1 : Nat) : Int) by omega, gd_pos (by omega), gd_pos (by omega), hj h1 (by omega)]
      · rfl
    · rfl
  rw [hb, Option.bind_some, if_neg (by simp)]
  rw [ScanCover.l2_eq K T ((a : Int), (i : Int)) b x hx a m e1 e2 (by omega) h m a rfl (Nat.le_refl _) K (by omega), thn_inr, w64 (by omega) (by omega), w64 (by omega) (by omega)]
  congr 1
theorem drop_rd {α : Type} [Inhabited α] {T : List α} {i : Nat} {x : α} {r : List α} (h : T.drop i = x :: r) : i < T.length ∧ rd T (i : Int) = x ∧ T.drop (i + 1) = r := by
  have hi : i < T.length := by
    rcases Nat.lt_or_ge i T.length with h1 | h1
    · exact h1
    · rw [List.drop_of_length_le h1] at h; cases h
  rw [List.drop_eq_getElem_cons hi] at h
  obtain ⟨h1, h2⟩ := List.cons.inj h
  refine ⟨hi, ?_, h2⟩
  rw [← h1]
  simp [rd, List.getD, List.getElem?_eq_getElem hi]
/-- Decoding, by whether a frame stands there. -/
theorem dec_no {b : List Int} (hb : Byt b) (hl : b.length ≤ 16777216) {K : Nat} (hK : b.length + 2097400 < K) {q : Nat} (h : ∀ n f, ¬ FrAt b q n f) : ∃ t : D16, fDecode.f K b (q : Int) = some t ∧ t.2.2.2.2.2.2.2.2.2.2.2.2.2.2.2 ≠ 0 := by
  obtain ⟨e, he, hd⟩ := fDecode.no K b hb (by omega) (by omega) (q : Int) (fun p n f e hf => by
    obtain rfl : q = p := by omega
    exact h n f hf)
  exact ⟨_, hd, he⟩
theorem ScanCover.l1_eq {b : List Int} (hb : Byt b) (hlb : b.length ≤ 8388608) {K : Nat} (hK : 16777300 < K) (T : List T40_) (hT : T.length ≤ 16777216) {a : Nat} {l : List Fr} (h : Frs b a l) : ∀ (i : Nat), a ≤ b.length → T.drop i = exts b.length a l → (0 < i → (rd T ((i - 1 : Nat) : Int)).1 = false) → ∀ k, T.length - i < k → ScanCover.l1 K T b k ((a : Int), (i : Int)) = some (.inr (b.length : Int)) := by
  induction h with
  | nil h1 =>
    rename_i a
    intro i ha hd hj k hk
    obtain ⟨k, rfl⟩ : ∃ m, k = m + 1 := ⟨k - 1, by omega⟩
    rw [exts] at hd
    have fin : ∀ (i : Nat) (k : Nat), T.length ≤ i → ScanCover.l1 K T b (k + 1) ((b.length : Int), (i : Int)) = some (.inr (b.length : Int)) := by
      intro i k hi
      rw [ScanCover.l1]; simp only
      rw [if_neg (by omega)]
    by_cases hlt : a < b.length
    · rw [if_pos hlt] at hd
      obtain ⟨hi, hx, hd2⟩ := drop_rd hd
      have hi2 : T.length ≤ i + 1 := List.drop_eq_nil_iff.1 hd2
      rw [ScanCover.step K T b hK hT (by omega) i hi _ hx a (b.length - a) rfl rfl (by omega) (by omega) (fun _ h => hj h) (fun q h2 h3 => ?_) k]
      · obtain ⟨k, rfl⟩ : ∃ m, k = m + 1 := ⟨k - 1, by omega⟩
        rw [show a + (b.length - a) = b.length by omega]
        exact fin _ k hi2
      · obtain ⟨t, h4, h5⟩ := dec_no hb (by omega) (K := K) (by omega) (fun n f => h1 q n f h2)
        exact ⟨t, h4, by simp [h5], fun _ h => by cases h⟩
    · rw [if_neg hlt] at hd
      have hi2 : T.length ≤ i := List.drop_eq_nil_iff.1 hd
      obtain rfl : a = b.length := by omega
      exact fin _ k hi2
  | cons h1 h2 h3 h4 ih =>
    rename_i a p n f l
    intro i ha hd hj k hk
    have hfl := h2.le
    rw [exts] at hd
    have frame : ∀ (i : Nat) (k : Nat), T.drop i = (false, (p : Int), (n : Int)) :: exts b.length (p + n) l → T.length - i < k → ScanCover.l1 K T b k ((p : Int), (i : Int)) = some (.inr (b.length : Int)) := by
      intro i k hd hk
      obtain ⟨hi, hx, hd2⟩ := drop_rd hd
      obtain ⟨k, rfl⟩ : ∃ m, k = m + 1 := ⟨k - 1, by omega⟩
      rw [ScanCover.step K T b hK hT (by omega) i hi _ hx p n rfl rfl (by omega) (by omega) (fun h => by cases h) (fun q h5 h6 => ?_) k]
      · exact ih (i + 1) (by omega) hd2 (fun _ => by rw [Nat.add_sub_cancel, hx]) k (by omega)
      · by_cases hq : q = p
        · subst hq
          exact ⟨_, fDecode.at K b hb (by omega) (by omega) h2, by simp [d16], fun _ _ => rfl⟩
        · obtain ⟨t, h7, h8⟩ := dec_no hb (by omega) (K := K) (by omega) (q := q) (fun m g hg => absurd hg.lead.1 (h2.lead.2 q (by omega) (by omega)))
          exact ⟨t, h7, by simp [h8]; omega, fun h => by omega⟩
    by_cases hlt : a < p
    · rw [if_pos hlt] at hd
      obtain ⟨hi, hx, hd2⟩ := drop_rd hd
      obtain ⟨k, rfl⟩ : ∃ m, k = m + 1 := ⟨k - 1, by omega⟩
      rw [ScanCover.step K T b hK hT (by omega) i hi _ hx a (p - a) rfl rfl (by omega) (by omega) (fun _ h => hj h) (fun q h5 h6 => ?_) k]
      · rw [show a + (p - a) = p by omega]
        exact frame (i + 1) k hd2 (by omega)
      · obtain ⟨t, h7, h8⟩ := dec_no hb (by omega) (K := K) (by omega) (fun m g => h3 q m g h5 (by omega))
        exact ⟨t, h7, by simp [h8], fun _ h => by cases h⟩
    · rw [if_neg hlt] at hd
      obtain rfl : a = p := by omega
      exact frame i k hd hk
theorem Pure.ScanCover : ∀ (a0 : List Int), (∀ x ∈ a0, (Lit.int .u8 x).wf = true) → a0.length ≤ 1048576 → ∃ K, ScanCover.f K a0 = some true := by
  intro b hb hl
  have hb := Byt.of hb
  refine ⟨40000000, ?_⟩
  generalize hK : 40000000 = K
  obtain ⟨l, h⟩ := Frs.all b 0
  have hlen := h.len (Nat.zero_le _)
  have hel := exts_len b.length l 0
  unfold ScanCover.f
  rw [sExtents.eq hb (by omega) K (by omega) h, Option.bind_some, works.eq K (by omega), Option.bind_some]
  have := ScanCover.l1_eq hb (by omega) (K := K) (by omega) (exts b.length 0 l) (by omega) h 0 (Nat.zero_le _) rfl (fun h => by omega) K (by omega)
  have this : ScanCover.l1 K (exts b.length 0 l) b K (0, 0) = some (.inr (b.length : Int)) := this
  rw [this, thn_inr, if_pos rfl]
end Go.Proofs.Ytkblnahoidbfkaa
