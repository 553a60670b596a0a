/- Own text. Every number, with its place; the plain part of the law VintAll. Conditions: bytes of bounded number. -/
import Derived.Test.YtocfkhpfpepcmaaPureE
import Derived.Test.YtocfkhpfpepcmaaLiftE
import Derived.Test.YtocfkhpfpepcmaaSxFold
set_option linter.unusedSimpArgs false
set_option linter.unusedVariables false
set_option maxRecDepth 100000
namespace Go.Proofs.Ytocfkhpfpepcmaa
open Go Go.Sx

/-- The numbers from a place on, with their places. -/
inductive Pl (b : List Int) : Nat → List T43_ → Prop
  | stop {i : Nat} : (∀ t, DecR (b.drop i) t → t.2.2 ≠ 0) → Pl b i []
  | go {i j : Nat} {t : Int × Int × Int} {L : List T43_} : DecR (b.drop i) t → t.2.2 = 0 → t.2.1 = ((j + 1 : Nat) : Int) → i + (j + 1) ≤ b.length → Pl b (i + (j + 1)) L → Pl b i (((i : Int), t.1) :: L)
theorem byt_drop {b : List Int} (hb : Byt b) (i : Nat) : Byt (b.drop i) := fun x hx => hb x (List.mem_of_mem_drop hx)
theorem Pl.exists {b : List Int} (hb : Byt b) (hl : b.length ≤ 140737488355328) : ∀ (m i : Nat), b.length - i ≤ m → ∃ L, Pl b i L := by
  intro m
  induction m with
  | zero =>
    intro i h
    refine ⟨[], .stop fun t ht h0 => ?_⟩
    obtain ⟨j, hj, _⟩ := ht.num (byt_drop hb i) h0
    rw [List.length_drop] at hj; omega
  | succ m ih =>
    intro i h
    obtain ⟨t, _, ht⟩ := Decode.eq (b.drop i) (byt_drop hb i) (by rw [List.length_drop]; omega) 11 (by omega)
    by_cases h0 : t.2.2 = 0
    · obtain ⟨j, hj, _, h2, _⟩ := ht.num (byt_drop hb i) h0
      rw [List.length_drop] at hj
      obtain ⟨L, hL⟩ := ih (i + (j + 1)) (by omega)
      exact ⟨_, .go ht h0 h2 (by omega) hL⟩
    · exact ⟨[], .stop fun t' ht' h0' => h0 (by have := (ht.uniq ht').2.2; omega)⟩
theorem Pl.len {b : List Int} {i : Nat} {L : List T43_} (h : Pl b i L) : i ≤ b.length → i + L.length ≤ b.length := by
  induction h with
  | stop _ => intro h; simpa using h
  | go _ _ _ h1 _ ih => intro _; have := ih h1; rw [List.length_cons]; omega
theorem refAll.l1_eq {b : List Int} (hb : Byt b) (hl : b.length ≤ 140737488351232) (K : Nat) (hK : 11 < K) {i : Nat} {L : List T43_} (h : Pl b i L) : i ≤ b.length → ∀ (out : List T43_), out.length + L.length ≤ 100000000000 → ∀ k, L.length + 1 < k → thn (refAll.l1 K b k (out, (i : Int))) (fun o => some o) = some (out ++ L) := by
  induction h with
  | @stop i h1 =>
    intro hi out ho k hk
    obtain ⟨k, rfl⟩ : ∃ q, k = q + 1 := ⟨k - 1, by omega⟩
    rw [refAll.l1]; simp only
    by_cases hlt : i < b.length
    · obtain ⟨t, ht, hd⟩ := refDecode.eq (b.drop i) (byt_drop hb i) (by rw [List.length_drop]; omega) K hK
      rw [if_pos (by omega), gd_pos (by omega), List.take_length, Int.toNat_natCast, ht, Option.bind_some, if_pos (h1 t hd)]
      simp [thn]
    · rw [if_neg (by omega)]
      simp [thn]
  | @go i j t L h1 h2 h3 h4 h5 ih =>
    intro hi out ho k hk
    obtain ⟨k, rfl⟩ : ∃ q, k = q + 1 := ⟨k - 1, by omega⟩
    rw [List.length_cons] at ho hk
    obtain ⟨t', ht, hd⟩ := refDecode.eq (b.drop i) (byt_drop hb i) (by rw [List.length_drop]; omega) K hK
    obtain ⟨u1, u2, u3⟩ := hd.uniq h1
    rw [refAll.l1]; simp only
    rw [if_pos (by omega), gd_pos (by omega), List.take_length, Int.toNat_natCast, ht, Option.bind_some, if_neg (by omega), gd_pos (by simp; omega), u1, u2, h3, w64 (by omega) (by omega), show (i : Int) + ((j + 1 : Nat) : Int) = ((i + (j + 1) : Nat) : Int) by omega, ih h4 _ (by simp; omega) k (by omega)]
    simp
theorem refAll.eq {b : List Int} (hb : Byt b) (hl : b.length ≤ 100000000) (K : Nat) (hK : b.length + 30 < K) {L : List T43_} (h : Pl b 0 L) : refAll.f K b = some L := by
  have hlen := h.len (Nat.zero_le _)
  have := refAll.l1_eq hb (by omega) K (by omega) h (Nat.zero_le _) [] (by simp; omega) K (by omega)
  have this : thn (refAll.l1 K b K ([], 0)) (fun o => some o) = _ := this
  unfold refAll.f
  exact this
theorem AllF.l1_eq {S E : Type} (step : S → (Int × Int) → Option (S ⊕ E)) {b : List Int} (hb : Byt b) (hl : b.length ≤ 140737488351232) (K : Nat) (hK : 11 < K) {i : Nat} {L : List T43_} (h : Pl b i L) : i ≤ b.length → ∀ (σ : S) (k : Nat), L.length < k → AllF.l1 K b step k ((i : Int), σ) = foldE step σ L := by
  induction h with
  | @stop i h1 =>
    intro hi σ k hk
    obtain ⟨k, rfl⟩ : ∃ q, k = q + 1 := ⟨k - 1, by omega⟩
    obtain ⟨t, ht, hd⟩ := Decode.eq (b.drop i) (byt_drop hb i) (by rw [List.length_drop]; omega) K (by omega)
    rw [AllF.l1]; simp only
    rw [gd_pos (by omega), List.take_length, Int.toNat_natCast, ht, Option.bind_some, if_pos (h1 t hd)]
    rfl
  | @go i j t L h1 h2 h3 h4 h5 ih =>
    intro hi σ k hk
    obtain ⟨k, rfl⟩ : ∃ q, k = q + 1 := ⟨k - 1, by omega⟩
    rw [List.length_cons] at hk
    obtain ⟨t', ht, hd⟩ := Decode.eq (b.drop i) (byt_drop hb i) (by rw [List.length_drop]; omega) K (by omega)
    obtain ⟨u1, u2, u3⟩ := hd.uniq h1
    rw [AllF.l1]; simp only
    rw [gd_pos (by omega), List.take_length, Int.toNat_natCast, ht, Option.bind_some, if_neg (by omega), u1, u2, h3, w64 (by omega) (by omega), show (i : Int) + ((j + 1 : Nat) : Int) = ((i + (j + 1) : Nat) : Int) by omega, foldE]
    congr 1
    funext o
    cases o with
    | inl s' => exact ih h4 s' k (by omega)
    | inr e => rfl
theorem AllF.eq {S E : Type} (step : S → (Int × Int) → Option (S ⊕ E)) {b : List Int} (hb : Byt b) (hl : b.length ≤ 100000000) (K : Nat) (hK : b.length + 30 < K) {L : List T43_} (h : Pl b 0 L) (σ : S) : AllF.f K step σ b = foldE step σ L := by
  have hlen := h.len (Nat.zero_le _)
  exact AllF.l1_eq step hb (by omega) K (by omega) h (Nat.zero_le _) σ K (by omega)
/-- A fold along the list itself: each round finds what stands at its place. -/
theorem fold_own {E : Type} (L : List T43_) (step : Int → (Int × Int) → Option (Int ⊕ E)) (hst : ∀ q : Nat, q < L.length → step (q : Int) (rd L (q : Int)) = some (.inl ((q + 1 : Nat) : Int))) : ∀ (m q : Nat), q + m = L.length → foldE step (q : Int) (L.drop q) = some (.inl (L.length : Int)) := by
  intro m
  induction m with
  | zero =>
    intro q h
    rw [List.drop_of_length_le (by omega), show q = L.length by omega]; rfl
  | succ m ih =>
    intro q h
    have hq : q < L.length := by omega
    have hd : L.drop q = rd L (q : Int) :: L.drop (q + 1) := by
      rw [List.drop_eq_getElem_cons hq]; congr 1; simp [rd, List.getD, List.getElem?_eq_getElem hq]
    rw [hd, foldE_cons (hst q hq)]
    exact ih (q + 1) (by omega)
theorem fold_own0 {E : Type} (L : List T43_) (step : Int → (Int × Int) → Option (Int ⊕ E)) (hst : ∀ q : Nat, q < L.length → step (q : Int) (rd L (q : Int)) = some (.inl ((q + 1 : Nat) : Int))) : foldE step 0 L = some (.inl (L.length : Int)) := by
  have := fold_own L step hst L.length 0 (by omega)
  rwa [List.drop_zero] at this
theorem fold_most (L : List T43_) (a : Nat) (ha : a < L.length) {E : Type} (step : Int → (Int × Int) → Option (Int ⊕ (Int ⊕ E))) (hst : ∀ q : Nat, q < a → step (q : Int) (rd L (q : Int)) = some (.inl ((q + 1 : Nat) : Int))) (hs : step (a : Int) (rd L (a : Int)) = some (.inr (.inl (a : Int)))) : ∀ (m q : Nat), q + m = a → foldE step (q : Int) (L.drop q) = some (.inr (.inl (a : Int))) := by
  intro m
  induction m with
  | zero =>
    intro q h
    obtain rfl : q = a := by omega
    have hd : L.drop q = rd L (q : Int) :: L.drop (q + 1) := by
      rw [List.drop_eq_getElem_cons ha]; congr 1; simp [rd, List.getD, List.getElem?_eq_getElem ha]
    rw [hd, foldE_stop hs]
  | succ m ih =>
    intro q h
    have hq : q < L.length := by omega
    have hd : L.drop q = rd L (q : Int) :: L.drop (q + 1) := by
      rw [List.drop_eq_getElem_cons hq]; congr 1; simp [rd, List.getD, List.getElem?_eq_getElem hq]
    rw [hd, foldE_cons (hst q (by omega))]
    exact ih (q + 1) (by omega)
theorem pl56 : Pl [5, 6] 0 [(0, 5), (1, 6)] := by
  have b1 : Byt [5, 6] := by intro x hx; simp at hx; omega
  have b2 : Byt [6] := by intro x hx; simp at hx; omega
  have h1 : DecR [5, 6] (5, 1, 0) := by
    obtain ⟨t, h, hd⟩ := Decode.eq [5, 6] b1 (by simp) 40 (by omega)
    have e : Decode.f 40 [5, 6] = some (5, 1, 0) := by kernel_rfl
    rw [e] at h; cases h; exact hd
  have h2 : DecR [6] (6, 1, 0) := by
    obtain ⟨t, h, hd⟩ := Decode.eq [6] b2 (by simp) 40 (by omega)
    have e : Decode.f 40 [6] = some (6, 1, 0) := by kernel_rfl
    rw [e] at h; cases h; exact hd
  refine .go (i := 0) (j := 0) (t := (5, 1, 0)) h1 rfl rfl (by simp) (.go (i := 1) (j := 0) (t := (6, 1, 0)) h2 rfl rfl (by simp) (.stop fun t ht h0 => ?_))
  obtain ⟨j, hj, _⟩ := ht.num (by intro x hx; simp at hx) h0
  simp at hj
theorem ysel_l {S E R : Type} (s : S) (f : S → Option R) (g : E → Option R) : ysel (.inl s) f g = f s := rfl
theorem Pure.VintAll : ∀ (a0 : List Int) (a1 : Int), (∀ x ∈ a0, (Lit.int .u8 x).wf = true) → (Lit.int .i64 a1).wf = true → a0.length ≤ 1048576 → ∃ K, VintAll.f K a0 a1 = some true := by
  intro b most hb _ hl
  have hb := Byt.of hb
  refine ⟨40000000, ?_⟩
  generalize hK : 40000000 = K
  obtain ⟨L, hL⟩ := Pl.exists hb (by omega) b.length 0 (by omega)
  have hlen := hL.len (Nat.zero_le _)
  unfold VintAll.f
  rw [lent.eq b (by omega) K (by omega), Option.bind_some, refAll.eq hb (by omega) K (by omega) hL, Option.bind_some]
  show thn _ _ = _
  simp only
  rw [AllF.eq _ hb (by omega) K (by omega) hL]
  have own : ∀ q : Nat, q < L.length → (0 : Int) ≤ (q : Int) ∧ (q : Int) < (L.length : Int) := fun q hq => by omega
  have wq : ∀ q : Nat, q < 16777216 → IntKind.wrap .i64 ((q : Int) + 1) = ((q + 1 : Nat) : Int) := fun q hq => by rw [w64 (by omega) (by omega)]; omega
  -- left behind the first so many
  obtain ⟨n, hn, hfold⟩ : ∃ n : Int, (n = (L.length : Int) ∨ n = most) ∧ ∀ {st : Int → (Int × Int) → Option (Int ⊕ (Int ⊕ Int))}, (∀ q : Nat, q < L.length → (q : Int) ≠ most → st (q : Int) (rd L (q : Int)) = some (.inl ((q + 1 : Nat) : Int))) → (∀ q : Nat, (q : Int) = most → ∀ x, st (q : Int) x = some (.inr (.inl (q : Int)))) → ((foldE st 0 L).bind fun t125 => ysel t125 (fun i117 => some (.inr i117)) (fun o => ysel o (fun e120 => some (.inr e120)) (fun (e122 : Int) => some (.inl false)))) = some (Sum.inr n) := by
    by_cases h : ∃ a : Nat, (a : Int) = most ∧ a < L.length
    · obtain ⟨a, ha, halt⟩ := h
      refine ⟨(a : Int), .inr ha, fun {st} h1 h2 => ?_⟩
      have := fold_most L a halt st (fun q hq => h1 q (by omega) (by omega)) (h2 a ha _) a 0 (by omega)
      rw [List.drop_zero] at this
      have this : foldE st 0 L = _ := this
      rw [this]; rfl
    · refine ⟨(L.length : Int), .inl rfl, fun {st} h1 h2 => ?_⟩
      rw [fold_own0 L st (fun q hq => h1 q hq (fun e => h ⟨q, e, hq⟩))]; rfl
  rw [hfold (fun q hq hne => by rw [if_neg hne, if_neg (by omega), gd_pos (own q hq), gd_pos (own q hq), if_neg (by simp), gd_pos (own q hq), gd_pos (own q hq), Option.bind_some, if_neg (by simp), wq q (by omega)]) (fun q e x => by rw [if_pos e]), thn_inr]
  have e1 : (if n ≠ (L.length : Int) then some (decide (n ≠ most)) else some false) = some false := by
    by_cases h : n = (L.length : Int)
    · rw [if_neg (by simp [h])]
    · rw [if_pos h]
      rcases hn with hn | hn
      · exact absurd hn h
      · simp [hn]
  rw [e1, Option.bind_some, if_neg (by simp)]
  -- once more, and within that
  rw [AllF.eq _ hb (by omega) K (by omega) hL, fold_own0 L _ (fun q hq => by
    rw [if_neg (by omega), gd_pos (own q hq), gd_pos (own q hq), if_neg (by simp), gd_pos (own q hq), gd_pos (own q hq), Option.bind_some, if_neg (by simp), wq q (by omega)]
    by_cases h2 : (2 : Int) < ((q + 1 : Nat) : Int)
    · rw [if_pos h2]
    · rw [if_neg h2, AllF.eq _ hb (by omega) K (by omega) hL, fold_own0 L _ (fun q' hq' => by
        rw [if_neg (by omega), gd_pos (own q' hq'), gd_pos (own q' hq'), if_neg (by simp), gd_pos (own q' hq'), gd_pos (own q' hq'), Option.bind_some, if_neg (by simp), wq q' (by omega)])]
      rw [Option.bind_some, ysel_l, if_neg (by simp)]), Option.bind_some, ysel_l]
  rw [AllF.eq _ (by intro x hx; simp at hx; omega) (by simp) K (by simp; omega) pl56]
  have e2 : ∀ {E : Type} (st : Int → (Int × Int) → Option (Int ⊕ E)), st 0 (0, 5) = some (.inl 1) → st 1 (1, 6) = some (.inl 2) → foldE st 0 [(0, 5), (1, 6)] = some (.inl 2) := fun st h1 h2 => by rw [foldE_cons h1, foldE_cons h2]; rfl
  rw [e2 _ (by rfl) (by rfl), Option.bind_some]
  rw [ysel_l, if_neg (by simp)]
  show (some ()).bind _ = _
  rw [Option.bind_some]
  rw [AllF.eq _ hb (by omega) K (by omega) hL, fold_own0 L _ (fun q hq => by rw [wq q (by omega)]), Option.bind_some, ysel_l, kept.eq b (by omega) K (by omega), Option.bind_some, if_pos rfl, Option.bind_some]
  obtain ⟨T, hT, hTb, hTl⟩ := turned.eq b (List.replicate 8 238) hb (by omega) K (by omega)
  obtain ⟨M, hM⟩ := Pl.exists hTb (by omega) T.length 0 (by omega)
  have hMlen := hM.len (Nat.zero_le _)
  have ownM : ∀ q : Nat, q < M.length → (0 : Int) ≤ (q : Int) ∧ (q : Int) < (M.length : Int) := fun q hq => by omega
  rw [hT, Option.bind_some, refAll.eq hTb (by omega) K (by omega) hM, Option.bind_some]
  show (some ()).bind _ = _
  rw [Option.bind_some]
  rw [AllF.eq _ hTb (by omega) K (by omega) hM, fold_own0 M _ (fun q hq => by
    rw [if_neg (by omega), gd_pos (ownM q hq), gd_pos (ownM q hq), if_neg (by simp), gd_pos (ownM q hq), gd_pos (ownM q hq), Option.bind_some, if_neg (by simp), wq q (by omega)]), Option.bind_some, ysel_l, if_pos rfl, if_pos (by simp), if_pos rfl, works.eq K (by omega)]
  rfl
end Go.Proofs.Ytocfkhpfpepcmaa
