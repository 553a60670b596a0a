/- Own text. All, read as a plain function: a fold over the numbers that stand behind one another; the plain part of the law VintSplit. Conditions: bytes, numbers below 2^64, at most 1048576 of them. -/
import Derived.Test.YtocfkhpfpepcmaaPureF
import Derived.Test.YtocfkhpfpepcmaaLiftD
import Derived.Test.YtocfkhpfpepcmaaSxFold
set_option linter.unusedSimpArgs false
set_option linter.unusedVariables false
namespace Go.Proofs.Ytocfkhpfpepcmaa
open Go Go.Sx

/-- L are the numbers at the front of b, with their places, from q on. -/
def IsNums : List (Int × Int) → List Int → Int → Prop
  | [], b, _ => ∀ t, DecR b t → t.2.2 ≠ 0
  | x :: L, b, q => ∃ t, DecR b t ∧ t.2.2 = 0 ∧ x = (q, t.1) ∧ IsNums L (b.drop t.2.1.toNat) (q + t.2.1)
theorem nums_ex : ∀ (n : Nat) (b : List Int) (q : Int), b.length = n → Byt b → b.length ≤ 140737488355328 → ∃ L, IsNums L b q ∧ L.length ≤ b.length ∧ ∀ x ∈ L, q ≤ x.1 ∧ x.1 < q + b.length := by
  intro n
  induction n using Nat.strongRecOn with
  | _ n ih =>
    intro b q hn hb hl
    obtain ⟨t, _, ht⟩ := Decode.eq b hb hl 11 (by omega)
    by_cases h0 : t.2.2 = 0
    · obtain ⟨j, h1, h2, h3, h4, _⟩ := DecR.num hb ht h0
      have hd : t.2.1.toNat = j + 1 := by omega
      obtain ⟨L, hL, hl2, hx⟩ := ih (b.length - (j + 1)) (by omega) (b.drop (j + 1)) (q + t.2.1) (by simp) (hb.drop _) (by simp; omega)
      refine ⟨(q, t.1) :: L, ⟨t, ht, h0, rfl, by rw [hd]; exact hL⟩, by simp at hl2 ⊢; omega, fun x hm => ?_⟩
      rcases List.mem_cons.1 hm with rfl | hm
      · simp only; omega
      · have := hx x hm
        rw [List.length_drop] at this; omega
    · exact ⟨[], fun t' h' => by rw [← (DecR.uniq ht h').2.2]; exact h0, by simp, by simp⟩
theorem nums_shift (d : Int) : ∀ (L : List (Int × Int)) (b : List Int) (q : Int), IsNums L b q → IsNums (L.map fun x => (x.1 + d, x.2)) b (q + d)
  | [], b, q, h => h
  | x :: L, b, q, h => by
    obtain ⟨t, h1, h2, rfl, h3⟩ := h
    refine ⟨t, h1, h2, rfl, ?_⟩
    have := nums_shift d L _ _ h3
    rwa [show q + t.2.1 + d = q + d + t.2.1 by omega] at this
theorem AllF.l1_eq {S E : Type} (step : S → (Int × Int) → Option (S ⊕ E)) (K : Nat) (hK : 11 ≤ K) (b : List Int) (hb : Byt b) (hl : b.length ≤ 140737488355328) : ∀ (L : List (Int × Int)) (i : Nat) (σ : S), i ≤ b.length → IsNums L (b.drop i) i → ∀ k, L.length < k →
    AllF.l1 K b step k ((i : Int), σ) = foldE step σ L
  | [], i, σ, hi, h, k, hk => by
    obtain ⟨k, rfl⟩ : ∃ m, k = m + 1 := ⟨k - 1, by simp at hk; omega⟩
    obtain ⟨t, h1, h2⟩ := Decode.eq (b.drop i) (hb.drop i) (by simp; omega) K hK
    rw [AllF.l1]; simp only
    rw [gd_pos (by omega), Int.toNat_natCast, List.take_length, h1, Option.bind_some, if_pos (h t h2)]
    rfl
  | x :: L, i, σ, hi, h, k, hk => by
    obtain ⟨k, rfl⟩ : ∃ m, k = m + 1 := ⟨k - 1, by simp at hk; omega⟩
    obtain ⟨t, h1, h2⟩ := Decode.eq (b.drop i) (hb.drop i) (by simp; omega) K hK
    obtain ⟨u, g1, g2, rfl, g3⟩ := h
    obtain ⟨e1, e2, e3⟩ := DecR.uniq h2 g1
    obtain ⟨j, k1, k2, k3, _⟩ := DecR.num (hb.drop i) g1 g2
    rw [List.length_drop] at k1
    rw [AllF.l1]; simp only
    rw [gd_pos (by omega), Int.toNat_natCast, List.take_length, h1, Option.bind_some, if_neg (by omega), e1, foldE, e2, k3, w64 (by omega) (by omega), show (i : Int) + ((j + 1 : Nat) : Int) = ((i + (j + 1) : Nat) : Int) by omega]
    have g4 : IsNums L (b.drop (i + (j + 1))) ((i + (j + 1) : Nat) : Int) := by
      rw [k3, Int.toNat_natCast, List.drop_drop] at g3
      rwa [show (i : Int) + ((j + 1 : Nat) : Int) = ((i + (j + 1) : Nat) : Int) by omega] at g3
    cases step σ ((i : Int), u.1) with
    | none => rfl
    | some o =>
      cases o with
      | inl σ' => exact AllF.l1_eq step K hK b hb hl L (i + (j + 1)) σ' (by omega) g4 k (by simp at hk; omega)
      | inr e => rfl
theorem AllF.eq {S E : Type} (step : S → (Int × Int) → Option (S ⊕ E)) (σ : S) (b : List Int) (hb : Byt b) (hl : b.length ≤ 140737488355328) (L : List (Int × Int)) (hL : IsNums L b 0) (K : Nat) (hK : 11 ≤ K) (hk : L.length < K) : AllF.f K step σ b = foldE step σ L := by
  unfold AllF.f
  exact AllF.l1_eq step K hK b hb hl L 0 σ (by omega) (by rw [List.drop_zero]; exact hL) K hk

/-! ### Numbers that were written -/
abbrev flat (l : List Int) : List Int := l.flatMap fun x => enc1 x.toNat
theorem flat_byt (l : List Int) : Byt (flat l) := by
  intro y hy
  obtain ⟨x, hx, h⟩ := List.mem_flatMap.1 hy
  exact can_byt _ (can_enc _) y h
def encP : List Int → Int → List (Int × Int)
  | [], _ => []
  | x :: l, q => (q, x) :: encP l (q + (enc1 x.toNat).length)
theorem encP_len : ∀ (l : List Int) (q : Int), (encP l q).length = l.length
  | [], _ => rfl
  | x :: l, q => by rw [encP, List.length_cons, List.length_cons, encP_len l]
theorem encP_snd : ∀ (l : List Int) (q : Int), (encP l q).map (·.2) = l
  | [], _ => rfl
  | x :: l, q => by rw [encP, List.map_cons, encP_snd l]
theorem nums_enc : ∀ (l : List Int) (q : Int) (r : List Int) (Lr : List (Int × Int)), (∀ x ∈ l, 0 ≤ x ∧ x < 18446744073709551616) → Byt r → (flat l ++ r).length ≤ 140737488355328 → IsNums Lr r (q + (flat l).length) → IsNums (encP l q ++ Lr) (flat l ++ r) q
  | [], q, r, Lr, _, _, _, h => by simpa [encP] using h
  | x :: l, q, r, Lr, hw, hr, hl, h => by
    obtain ⟨hx0, hx1⟩ := hw x List.mem_cons_self
    have e : flat (x :: l) ++ r = enc1 x.toNat ++ (flat l ++ r) := by simp [flat]
    have hB : Byt (enc1 x.toNat ++ (flat l ++ r)) := Byt.app.2 ⟨can_byt _ (can_enc _), Byt.app.2 ⟨flat_byt l, hr⟩⟩
    rw [e] at hl ⊢
    obtain ⟨t, _, ht⟩ := Decode.eq _ hB hl 11 (by omega)
    obtain ⟨h1, h2, h3⟩ := DecR.can ht (can_enc x.toNat) (by rw [val_enc]; omega)
    rw [val_enc] at h1
    refine ⟨t, ht, h3, by rw [h1]; congr 1; omega, ?_⟩
    rw [h2, Int.toNat_natCast, List.drop_left]
    refine nums_enc l _ r Lr (fun y hy => hw y (List.mem_cons_of_mem _ hy)) hr (by simp at hl ⊢; omega) ?_
    have e2 : (flat (x :: l)).length = (enc1 x.toNat).length + (flat l).length := by simp [flat]
    rw [e2] at h
    rwa [show q + ((enc1 x.toNat).length : Int) + ((flat l).length : Int) = q + (((enc1 x.toNat).length + (flat l).length : Nat) : Int) by omega]

theorem rd_map2 {α : Type} (f : α → Int) (L : List α) (n : Nat) (h : n < L.length) : rd (L.map f) (n : Int) = f L[n] := by
  rw [rd_nat _ _ (by simpa using h)]; simp
theorem VintSplit.l1_eq (K : Nat) (hK : 2 ≤ K) (l : List Int) (hw : ∀ x ∈ l, 0 ≤ x ∧ x < 18446744073709551616) (hl : l.length ≤ 1048576) : ∀ (n i q : Nat) (ats nums : List Int), i + n = l.length → q ≤ 10 * i → ats.length = i → nums.length = i → ∀ k, n < k →
    VintSplit.l1 K l k ((q : Int), (i : Int), ats, nums) = some (ats ++ (encP (l.drop i) q).map (·.1), nums ++ l.drop i) := by
  intro n
  induction n with
  | zero =>
    intro i q ats nums h hq ha hn k hk
    obtain ⟨k, rfl⟩ : ∃ m, k = m + 1 := ⟨k - 1, by omega⟩
    rw [VintSplit.l1]; simp only
    rw [if_neg (by omega), List.drop_of_length_le (by omega)]
    simp [encP]
  | succ n ih =>
    intro i q ats nums h hq ha hn k hk
    obtain ⟨k, rfl⟩ : ∃ m, k = m + 1 := ⟨k - 1, by omega⟩
    obtain ⟨hx0, hx1⟩ := hw _ (rd_mem l i (by omega))
    have hx : rd l (i : Int) = (((rd l (i : Int)).toNat : Nat) : Int) := by omega
    have hs := Size.one (rd l (i : Int)).toNat (by omega) K hK
    have hle := enc1_len (n := (rd l (i : Int)).toNat) (by omega)
    rw [← hx] at hs
    rw [VintSplit.l1]; simp only
    rw [if_pos (by omega), gd_pos (by simp; omega), gd_pos (by omega), gd_pos (by omega), gd_pos (by simp; omega), gd_pos (by omega), hs, Option.bind_some, w64 (by omega) (by omega), w64 (by omega) (by omega),
      show (q : Int) + (((enc1 (rd l (i : Int)).toNat).length : Nat) : Int) = ((q + (enc1 (rd l (i : Int)).toNat).length : Nat) : Int) by omega, show ((i : Int) + 1) = ((i + 1 : Nat) : Int) by omega,
      ih _ _ _ _ (by omega) (by omega) (by simp [ha]) (by simp [hn]) k (by omega), drop_cons l i (by omega), encP]
    simp
theorem Pure.VintSplit : ∀ (a0 : List Int) (a1 : List Int), (∀ x ∈ a0, (Lit.int .u64 x).wf = true) → (∀ x ∈ a1, (Lit.int .u8 x).wf = true) → a0.length + a1.length ≤ 1048576 → ∃ K, VintSplit.f K a0 a1 = some true := by
  intro l b h0 h1 hl
  have hw : ∀ x ∈ l, 0 ≤ x ∧ x < 18446744073709551616 := fun x hx => wfu64 (h0 x hx)
  have hb := Byt.of h1
  refine ⟨20000000, ?_⟩
  obtain ⟨K, hK⟩ : ∃ K, K = 20000000 := ⟨_, rfl⟩
  rw [← hK]
  have hfl := flat_len l hw
  have hfB := flat_byt l
  obtain ⟨a, ha⟩ : ∃ a, a = flat l := ⟨_, rfl⟩
  have hal : a.length ≤ 10 * l.length := by rw [ha]; exact hfl
  obtain ⟨L2, hL2, hL2l, hL2b⟩ := nums_ex _ b 0 rfl hb (by omega)
  have hwB : Byt (a ++ b) := Byt.app.2 ⟨ha ▸ hfB, hb⟩
  have hLT : IsNums (encP l 0 ++ L2.map fun x => (x.1 + (a.length : Int), x.2)) (a ++ b) 0 := by
    rw [ha]
    refine nums_enc l 0 b _ hw hb (by rw [← ha]; simp; omega) ?_
    have := nums_shift ((flat l).length : Int) L2 b 0 hL2
    exact this
  obtain ⟨LT, hLTd⟩ : ∃ LT, LT = encP l 0 ++ L2.map fun x => (x.1 + (a.length : Int), x.2) := ⟨_, rfl⟩
  rw [← hLTd] at hLT
  have hLTl : LT.length = l.length + L2.length := by rw [hLTd]; simp [encP_len]
  unfold VintSplit.f
  refine bind_of (v := a) ((Encode.eq l hw (by omega) K (by omega) (by omega)).trans (congrArg some ha.symm)) ?_
  rw [gd_pos (by simp; omega), gd_pos (by simp; omega)]
  refine bind_of (v := ()) rfl ?_
  refine bind_of (v := ()) rfl ?_
  refine bind_of (v := ()) rfl ?_
  refine bind_of ((VintSplit.l1_eq K (by omega) l hw (by omega) l.length 0 0 [] [] (by omega) (by omega) rfl rfl K (by omega)).trans (by rw [List.drop_zero, List.nil_append, List.nil_append])) ?_
  simp only
  -- the second list
  rw [AllF.eq _ _ b hb (by omega) L2 hL2 K (by omega) (by omega)]
  have l2 := fun (step : List Int × List Int → Int × Int → Option ((List Int × List Int) ⊕ Empty)) => foldE_all step L2 (fun n => ((encP l 0).map (·.1) ++ (L2.take n).map (fun x => (a.length : Int) + x.1), l ++ (L2.take n).map (·.2)))
  simp only [List.take_zero, List.map_nil, List.append_nil, List.take_length] at l2
  have tk : ∀ n (h : n < L2.length), L2.take (n + 1) = L2.take n ++ [L2[n]] := fun n h => (List.take_append_getElem h).symm
  refine bind_of (l2 _ fun n h => ?_) ?_
  · have hx := hL2b _ (List.getElem_mem h)
    rw [gd_pos (by simp [encP_len]; omega), gd_pos (by simp; omega), w64 (by omega) (by omega), tk n h]
    simp only [List.map_append, List.map_cons, List.map_nil, List.append_assoc]
  have hf1 : (encP l 0).map (·.1) ++ L2.map (fun x => (a.length : Int) + x.1) = LT.map (·.1) := by
    rw [hLTd, List.map_append, List.map_map]
    congr 1
    exact List.map_congr_left fun x _ => Int.add_comm _ _
  have hf2 : l ++ L2.map (·.2) = LT.map (·.2) := by
    rw [hLTd, List.map_append, encP_snd, List.map_map]; rfl
  rw [hf1, hf2]
  show Option.bind _ _ = _
  simp only
  rw [List.nil_append, AllF.eq _ _ (a ++ b) hwB (by simp; omega) LT hLT K (by omega) (by omega)]
  have l3 := fun (step : Int → Int × Int → Option (Int ⊕ Int)) => foldE_all step LT (fun n => (n : Int))
  refine bind_of (l3 _ fun n h => ?_) ?_
  · simp only [List.length_map]
    rw [if_neg (by omega), gd_pos (by omega), gd_pos (by omega), rd_map2 _ LT n h, if_neg (by simp), gd_pos (by omega), gd_pos (by omega), rd_map2 _ LT n h]
    simp only [ne_eq, not_true_eq_false, decide_false, Option.bind_some]
    rw [if_neg (by simp), w64 (by omega) (by omega)]
    simp
  · show (if (LT.length : Int) = ((LT.map (·.1)).length : Int) then _ else _) = _
    rw [if_pos (by simp), works.eq K (by omega)]
    rfl
end Go.Proofs.Ytocfkhpfpepcmaa
