/- Own text. Each, read as a plain function: a fold over what bytes mean; the plain parts of the laws EscapeEaches and EscapeStops. Conditions: bytes, at most 1048576 of them. -/
import Derived.Test.YtgikgekddnfheaaPureC
import Derived.Test.YtgikgekddnfheaaLiftC
import Derived.Test.YtgikgekddnfheaaSxFold
set_option linter.unusedSimpArgs false
set_option linter.unusedVariables false
namespace Go.Proofs.Ytgikgekddnfheaa
open Go Go.Sx

/-! ### What bytes mean, each with its place, up to the first that is none -/
def ents : List Int → Int → List (Int × Int)
  | [], _ => []
  | c :: r, q => if c = 167 then [] else if c = 166 then (match r with
      | [] => []
      | b :: r' => if 1 < b then [] else (q, 166 + b) :: ents r' (q + 2)) else (q, c) :: ents r (q + 1)
theorem ents_nil (q : Int) : ents [] q = [] := rfl
theorem ents_lead (r : List Int) (q : Int) : ents (167 :: r) q = [] := by rw [ents.eq_def]; simp
theorem ents_end (q : Int) : ents [166] q = [] := by rw [ents.eq_def]; simp
theorem ents_bad (b : Int) (r : List Int) (q : Int) (h : 1 < b) : ents (166 :: b :: r) q = [] := by rw [ents.eq_def]; simp [h]
theorem ents_pair (b : Int) (r : List Int) (q : Int) (h : ¬ 1 < b) : ents (166 :: b :: r) q = (q, 166 + b) :: ents r (q + 2) := by rw [ents.eq_def]; simp [h]
theorem ents_plain (c : Int) (r : List Int) (q : Int) (h1 : c ≠ 167) (h2 : c ≠ 166) : ents (c :: r) q = (q, c) :: ents r (q + 1) := by rw [ents.eq_def]; simp [h1, h2]
theorem ents_len (s : List Int) : ∀ q, (ents s q).length ≤ s.length := by
  refine opn_ind (P := fun s => ∀ q, (ents s q).length ≤ s.length) ?_ ?_ ?_ ?_ ?_ ?_ s
  · intro q; simp [ents]
  · intro r q; simp [ents_lead]
  · intro q; simp [ents_end]
  · intro b r h q; simp [ents_bad _ _ _ h]
  · intro b r h ih q; rw [ents_pair _ _ _ h]; have := ih (q + 2); simp; omega
  · intro c r h1 h2 ih q; rw [ents_plain _ _ _ h1 h2]; have := ih (q + 1); simp; omega
theorem ents_esc (s : List Int) : ∀ q, (ents (esc s) q).map (·.2) = s := by
  induction s with
  | nil => intro q; rfl
  | cons c s ih =>
    intro q
    rw [esc_cons]
    unfold esc1
    by_cases h1 : c = 167
    · rw [if_pos h1, h1]; show (ents (166 :: 1 :: esc s) q).map _ = _
      rw [ents_pair _ _ _ (by omega), List.map_cons, ih]; rfl
    · rw [if_neg h1]
      by_cases h2 : c = 166
      · rw [if_pos h2, h2]; show (ents (166 :: 0 :: esc s) q).map _ = _
        rw [ents_pair _ _ _ (by omega), List.map_cons, ih]; rfl
      · rw [if_neg h2]; show (ents (c :: esc s) q).map _ = _
        rw [ents_plain _ _ _ h1 h2, List.map_cons, ih]
theorem ents_lb (s : List Int) : ∀ q, ∀ x ∈ ents s q, q ≤ x.1 := by
  refine opn_ind (P := fun s => ∀ q, ∀ x ∈ ents s q, q ≤ x.1) ?_ ?_ ?_ ?_ ?_ ?_ s
  · intro q x hx; simp [ents] at hx
  · intro r q x hx; simp [ents_lead] at hx
  · intro q x hx; simp [ents_end] at hx
  · intro b r h q x hx; simp [ents_bad _ _ _ h] at hx
  · intro b r h ih q x hx
    rw [ents_pair _ _ _ h] at hx
    rcases List.mem_cons.1 hx with rfl | hx
    · exact Int.le_refl _
    · have := ih _ _ hx; omega
  · intro c r h1 h2 ih q x hx
    rw [ents_plain _ _ _ h1 h2] at hx
    rcases List.mem_cons.1 hx with rfl | hx
    · exact Int.le_refl _
    · have := ih _ _ hx; omega
theorem ents_inc (s : List Int) : ∀ q, (ents s q).Pairwise (fun x y => x.1 < y.1) := by
  refine opn_ind (P := fun s => ∀ q, (ents s q).Pairwise (fun x y => x.1 < y.1)) ?_ ?_ ?_ ?_ ?_ ?_ s
  · intro q; simp [ents]
  · intro r q; simp [ents_lead]
  · intro q; simp [ents_end]
  · intro b r h q; simp [ents_bad _ _ _ h]
  · intro b r h ih q
    rw [ents_pair _ _ _ h]
    exact List.pairwise_cons.2 ⟨fun x hx => by have := ents_lb _ _ _ hx; simp only; omega, ih _⟩
  · intro c r h1 h2 ih q
    rw [ents_plain _ _ _ h1 h2]
    exact List.pairwise_cons.2 ⟨fun x hx => by have := ents_lb _ _ _ hx; simp only; omega, ih _⟩

theorem EachF.l1_eq {S E : Type} (step : S → (Int × Int) → Option (S ⊕ E)) (s : List Int) (hB : Byt s) (hs : s.length ≤ 1099511627776) : ∀ (n : Nat) (σ : S) (i : Nat), s.length - i = n → i ≤ s.length → ∀ k, n < k →
    (thn (EachF.l1 s step k ((i : Int), σ)) fun o => some (.inl o)) = foldE step σ (ents (s.drop i) i) := by
  intro n
  induction n using Nat.strongRecOn with
  | _ n ih =>
    intro σ i h hi k hk
    obtain ⟨k, rfl⟩ : ∃ m, k = m + 1 := ⟨k - 1, by omega⟩
    rw [EachF.l1]; simp only
    by_cases hlt : i < s.length
    · rw [if_pos (by omega)]
      unfold one.f
      rw [gd_pos (by omega)]
      have hd := drop_cons s i hlt
      have hc := hB _ (rd_mem s i hlt)
      by_cases h1 : rd s (i : Int) = 167
      · rw [if_pos h1, Option.bind_some]; simp only
        rw [if_pos (by omega), hd, h1, ents_lead]; rfl
      · rw [if_neg h1]
        by_cases h2 : rd s (i : Int) = 166
        · have e1 : IntKind.wrap .i64 ((i : Int) + 1) = ((i + 1 : Nat) : Int) := by rw [w64 (by omega) (by omega)]; omega
          rw [if_pos h2, e1]
          by_cases h3 : i + 1 = s.length
          · rw [if_pos (by omega), Option.bind_some, if_pos rfl, Option.bind_some]; simp only
            rw [if_pos (by omega), hd, h2, List.drop_of_length_le (by omega), ents_end]; rfl
          · have hd2 := drop_cons s (i + 1) (by omega)
            have hb := hB _ (rd_mem s (i + 1) (by omega))
            rw [if_neg (by omega), gd_pos (by omega), gd_pos (by omega), Option.bind_some]
            by_cases h4 : 1 < rd s ((i + 1 : Nat) : Int)
            · rw [if_pos (by simpa using h4), Option.bind_some]; simp only
              rw [if_pos (by omega), hd, h2, hd2, ents_bad _ _ _ h4]; rfl
            · rw [if_neg (by simpa using h4), gd_pos (by omega), Option.bind_some]; simp only
              rw [if_neg (by omega), w8 (by omega) (by omega), w64 (by omega) (by omega), show ((i : Int) + 2) = ((i + 2 : Nat) : Int) by omega, hd, h2, hd2, ents_pair _ _ _ h4, foldE]
              cases step σ ((i : Int), 166 + rd s ((i + 1 : Nat) : Int)) with
              | none => rfl
              | some o =>
                cases o with
                | inl σ' => exact ih (s.length - (i + 2)) (by omega) σ' (i + 2) rfl (by omega) k (by omega)
                | inr e => rfl
        · rw [if_neg h2, Option.bind_some]; simp only
          rw [if_neg (by omega), w64 (by omega) (by omega), show ((i : Int) + 1) = ((i + 1 : Nat) : Int) by omega, hd, ents_plain _ _ _ h1 h2, foldE]
          cases step σ ((i : Int), rd s (i : Int)) with
          | none => rfl
          | some o =>
            cases o with
            | inl σ' => exact ih (s.length - (i + 1)) (by omega) σ' (i + 1) rfl (by omega) k (by omega)
            | inr e => rfl
    · rw [if_neg (by omega), List.drop_of_length_le (by omega)]
      rfl
theorem EachF.eq {S E : Type} (step : S → (Int × Int) → Option (S ⊕ E)) (σ : S) (s : List Int) (hB : Byt s) (hs : s.length ≤ 1099511627776) (K : Nat) (hK : s.length < K) : EachF.f K step σ s = foldE step σ (ents s 0) := by
  unfold EachF.f
  have h := EachF.l1_eq step s hB hs s.length σ 0 (by omega) (by omega) K hK
  rw [List.drop_zero] at h
  exact h

theorem Look.l1_eq (s : List Int) (hB : Byt s) (hs : s.length ≤ 1048576) : ∀ (n : Nat) (pl at_ : List Int) (i : Nat), s.length - i = n → i ≤ s.length → pl.length ≤ i → at_.length ≤ i → ∀ k, n < k →
    ∃ x y, (thn (Look.l1 s k ((i : Int), pl, at_)) fun o => some (o.1, o.2, (0 : Int), (0 : Int))) = some (pl ++ (ents (s.drop i) i).map (·.2), at_ ++ (ents (s.drop i) i).map (·.1), x, y) := by
  intro n
  induction n using Nat.strongRecOn with
  | _ n ih =>
    intro pl at_ i h hi hp ha k hk
    obtain ⟨k, rfl⟩ : ∃ m, k = m + 1 := ⟨k - 1, by omega⟩
    rw [Look.l1]; simp only
    by_cases hlt : i < s.length
    · rw [if_pos (by omega), gd_pos (by omega)]
      have hd := drop_cons s i hlt
      have hc := hB _ (rd_mem s i hlt)
      by_cases h1 : rd s (i : Int) = 167
      · rw [if_pos h1, hd, h1, ents_lead]; exact ⟨31, (i : Int), by simp⟩
      · rw [if_neg h1]
        by_cases h2 : rd s (i : Int) = 166
        · have e1 : IntKind.wrap .i64 ((i : Int) + 1) = ((i + 1 : Nat) : Int) := by rw [w64 (by omega) (by omega)]; omega
          rw [if_pos h2, e1]
          by_cases h3 : i + 1 = s.length
          · rw [if_pos (by omega), Option.bind_some, if_pos rfl, hd, h2, List.drop_of_length_le (by omega), ents_end]; exact ⟨32, (i : Int), by simp⟩
          · have hd2 := drop_cons s (i + 1) (by omega)
            have hb := hB _ (rd_mem s (i + 1) (by omega))
            rw [if_neg (by omega), gd_pos (by omega), gd_pos (by omega), Option.bind_some]
            by_cases h4 : 1 < rd s ((i + 1 : Nat) : Int)
            · rw [if_pos (by simpa using h4), hd, h2, hd2, ents_bad _ _ _ h4]; exact ⟨32, (i : Int), by simp⟩
            · rw [if_neg (by simpa using h4), gd_pos (by omega)]
              have e2 : IntKind.wrap .i64 ((i : Int) + 2) = ((i + 2 : Nat) : Int) := by rw [w64 (by omega) (by omega)]; omega
              have step : ∀ v, v = 166 + rd s ((i + 1 : Nat) : Int) → ∃ x y, (thn (Look.l1 s k (((i + 2 : Nat) : Int), pl ++ [v], at_ ++ [(i : Int)])) fun o => some (o.1, o.2, (0 : Int), (0 : Int))) = some (pl ++ (ents (s.drop i) i).map (·.2), at_ ++ (ents (s.drop i) i).map (·.1), x, y) := by
                rintro v rfl
                obtain ⟨x, y, hxy⟩ := ih (s.length - (i + 2)) (by omega) (pl ++ [166 + rd s ((i + 1 : Nat) : Int)]) (at_ ++ [(i : Int)]) (i + 2) rfl (by omega) (by simp; omega) (by simp; omega) k (by omega)
                refine ⟨x, y, hxy.trans ?_⟩
                rw [hd, h2, hd2, ents_pair _ _ _ h4, show ((i + 2 : Nat) : Int) = (i : Int) + 2 by omega]
                simp
              rw [e2]
              by_cases h5 : rd s ((i + 1 : Nat) : Int) = 1
              · rw [if_pos h5, gd_pos (by simp; omega), gd_pos (by simp; omega)]
                exact step 167 (by omega)
              · rw [if_neg h5, gd_pos (by simp; omega), gd_pos (by simp; omega), h2]
                exact step 166 (by omega)
        · rw [if_neg h2, gd_pos (by simp; omega), gd_pos (by simp; omega), w64 (by omega) (by omega), show ((i : Int) + 1) = ((i + 1 : Nat) : Int) by omega]
          obtain ⟨x, y, hxy⟩ := ih (s.length - (i + 1)) (by omega) (pl ++ [rd s (i : Int)]) (at_ ++ [(i : Int)]) (i + 1) rfl (by omega) (by simp; omega) (by simp; omega) k (by omega)
          refine ⟨x, y, hxy.trans ?_⟩
          rw [hd, ents_plain _ _ _ h1 h2, show ((i + 1 : Nat) : Int) = (i : Int) + 1 by omega]
          simp
    · rw [if_neg (by omega), List.drop_of_length_le (by omega)]
      exact ⟨0, 0, by simp [ents]⟩
theorem Look.eq (s : List Int) (hB : Byt s) (hs : s.length ≤ 1048576) (K : Nat) (hK : s.length < K) : ∃ x y, Look.f K s = some ((ents s 0).map (·.2), (ents s 0).map (·.1), x, y) := by
  obtain ⟨x, y, h⟩ := Look.l1_eq s hB hs s.length [] [] 0 (by omega) (by omega) (by simp) (by simp) K hK
  rw [List.drop_zero] at h
  refine ⟨x, y, ?_⟩
  unfold Look.f
  exact h

/-! ### EscapeEaches -/
theorem rd_map {α : Type} (f : α → Int) (L : List α) (n : Nat) (h : n < L.length) : rd (L.map f) (n : Int) = f L[n] := by
  rw [rd_nat _ _ (by simpa using h)]; simp
theorem each.eq (s : List Int) (hB : Byt s) (hs : s.length ≤ 1048576) (most : Int) (hm : (Lit.int .i64 most).wf = true) (K : Nat) (hK : s.length + 8 < K) : each.f K s most = some true := by
  have hm64 := wf64 hm
  unfold each.f
  refine bind_of (room.eq s (by omega) K (by omega)) ?_
  obtain ⟨x, y, hL⟩ := Look.eq s hB hs K (by omega)
  refine bind_of hL ?_
  simp only
  obtain ⟨L, hLd⟩ : ∃ L, L = ents s 0 := ⟨_, rfl⟩
  have hlen : L.length ≤ s.length := by rw [hLd]; exact ents_len s 0
  rw [← hLd]
  obtain ⟨m, hmd, hm0⟩ : ∃ m : Int, (if most < 1 then some (1 : Int) else some most) = some m ∧ 1 ≤ m ∧ m < 9223372036854775808 := by
    by_cases h : most < 1
    · exact ⟨1, by rw [if_pos h], by omega, by omega⟩
    · exact ⟨most, by rw [if_neg h], by omega, by omega⟩
  refine bind_of hmd ?_
  have htake : ((s ++ List.replicate 8 (238 : Int)).take (Int.toNat (s.length : Int))).drop 0 = s := by simp
  rw [gd_pos (by simp), htake]
  refine bind_of (v := ()) rfl ?_
  rw [EachF.eq _ _ s hB (by omega) K (by omega), ← hLd]
  have hw := fun (step : Int × Bool → Int × Int → Option ((Int × Bool) ⊕ (Int × Bool))) (hstep : ∀ n (h : n < L.length), n < m.toNat → step ((n : Int), true) L[n] = some (if n + 1 = m.toNat then .inr (((n + 1 : Nat) : Int), true) else .inl (((n + 1 : Nat) : Int), true))) =>
    foldE_walk step L (fun n => ((n : Int), true)) m.toNat (m, true) (by omega) (fun n h h2 => by
      rw [hstep n h h2]
      by_cases e : n + 1 = m.toNat
      · rw [if_pos e, if_pos e]; congr 3; omega
      · rw [if_neg e, if_neg e])
  rw [show ((0 : Int), true) = (((0 : Nat) : Int), true) from rfl, hw _ (fun n h h2 => by
    simp only [if_true, List.length_map]
    rw [if_pos (by omega), gd_pos (by omega), gd_pos (by omega), rd_map _ L n h, if_pos rfl, gd_pos (by omega), gd_pos (by omega), rd_map _ L n h]
    simp only [Option.bind_some, decide_true, Bool.not_true]
    rw [w64 (by omega) (by omega)]
    by_cases e : n + 1 = m.toNat
    · rw [if_pos (by omega), Option.bind_some, if_pos rfl, if_pos e]; rfl
    · rw [if_neg (by omega), Option.bind_some, if_neg (by simp), if_neg e]; rfl)]
  rw [List.length_map]
  have fin : ∀ (z : Int), z = (if m < (L.length : Int) then m else (L.length : Int)) → ((if m < (L.length : Int) then some m else some (L.length : Int)).bind fun o177 => (whole.f K (s ++ List.replicate 8 238) s).bind fun t182 => if true = true then (if t182 = true then some (decide (z = o177)) else some false) else some false) = some true := by
    intro z hz
    rw [whole.eq s (by omega) K (by omega)]
    by_cases h : m < (L.length : Int)
    · rw [if_pos h] at hz ⊢; simp [hz]
    · rw [if_neg h] at hz ⊢; simp [hz]
  by_cases h : m.toNat ≤ L.length
  · rw [if_pos h]
    refine Eq.trans ?_ (fin m (by split <;> omega))
    rfl
  · rw [if_neg h]
    refine Eq.trans ?_ (fin (L.length : Int) (by rw [if_neg (by omega)]))
    rfl
theorem Pure.EscapeEaches : ∀ (a0 : List Int) (a1 : Int) (a2 : List Int), (∀ x ∈ a0, (Lit.int .u8 x).wf = true) → (Lit.int .i64 a1).wf = true → (∀ x ∈ a2, (Lit.int .u8 x).wf = true) → a0.length + a2.length ≤ 1048576 → ∃ K, EscapeEaches.f K a0 a1 a2 = some true := by
  intro s m t h0 h1 h2 hl
  refine ⟨1048576 + 20, ?_⟩
  have wl : ∀ n : Nat, n ≤ 1048576 → (Lit.int .i64 (IntKind.wrap .i64 ((n : Int) + 1))).wf = true := by
    intro n hn
    rw [w64 (by omega) (by omega)]
    simp [Lit.wf, IntKind.min, IntKind.max, IntKind.bits, IntKind.signed]; omega
  unfold EscapeEaches.f
  rw [each.eq s (Byt.of h0) (by omega) m h1 _ (by omega), Option.bind_some, each.eq t (Byt.of h2) (by omega) _ (wl _ (by omega)) _ (by omega), Option.bind_some,
    each.eq s (Byt.of h0) (by omega) _ (wl _ (by omega)) _ (by omega), Option.bind_some, each.eq [166, 1, 98, 166] (by simp [Byt]) (by simp) 9 (by decide) _ (by simp), Option.bind_some]
  rfl
end Go.Proofs.Ytgikgekddnfheaa
