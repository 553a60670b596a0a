/- Own text. By eight a sum is the same, as the program goes. Conditions: bytes and 32-bit numbers, the tables as New makes them. -/
import Derived.Test.YtghlmkbchdmnoaaPureD
set_option linter.unusedSimpArgs false
set_option linter.unusedVariables false
set_option maxRecDepth 10000
namespace Go.Proofs.Ytghlmkbchdmnoaa
open Go Go.Sx

theorem ixk (k n : Nat) : 0 + Int.toNat (k : Int) * 256 + Int.toNat (n : Int) * 1 = k * 256 + n := by rw [Int.toNat_natCast, Int.toNat_natCast]; omega
/-- The four bytes at the front, put together as the program does. -/
theorem front4 {l : List Int} (hb : Byt l) (hl : 8 ≤ l.length) : Sx.bits .or .u32 (Sx.bits .or .u32 (Sx.bits .or .u32 (IntKind.wrap .u32 (rd l 0)) (Sx.shl .u32 (IntKind.wrap .u32 (rd l 1)) 8)) (Sx.shl .u32 (IntKind.wrap .u32 (rd l 2)) 16)) (Sx.shl .u32 (IntKind.wrap .u32 (rd l 3)) 24) = iv (word [rd l 0, rd l 1, rd l 2, rd l 3]) := by
  have h0 : 0 ≤ rd l 0 ∧ rd l 0 < 256 := hb _ (rd_mem l 0 (by omega))
  have h1 : 0 ≤ rd l 1 ∧ rd l 1 < 256 := hb _ (rd_mem l 1 (by omega))
  have h2 : 0 ≤ rd l 2 ∧ rd l 2 < 256 := hb _ (rd_mem l 2 (by omega))
  have h3 : 0 ≤ rd l 3 ∧ rd l 3 < 256 := hb _ (rd_mem l 3 (by omega))
  have s8 : ∀ x : W, Sx.shl .u32 (iv x) 8 = iv (x <<< 8) := fun x => iv_shl x 8 (by decide)
  have s16 : ∀ x : W, Sx.shl .u32 (iv x) 16 = iv (x <<< 16) := fun x => iv_shl x 16 (by decide)
  have s24 : ∀ x : W, Sx.shl .u32 (iv x) 24 = iv (x <<< 24) := fun x => iv_shl x 24 (by decide)
  rw [iv_by h0, iv_by h1, iv_by h2, iv_by h3, s8, s16, s24, iv_or, iv_or, iv_or, or4 h0 h1 h2 h3]
theorem ByEight.l2_step (tab : List Int) (ht : Tab tab 256 256 0) (l : List Int) (hb : Byt l) (hl : 8 ≤ l.length) (s acc : W) (j k : Nat) (hj : j < 4) :
    ByEight.l2 (l, iv s) tab (k + 1) (iv acc, (j : Int)) = ByEight.l2 (l, iv s) tab k (iv (acc ^^^ (steps (8 * (7 - j + 1)) (by_ ((((s ^^^ word [rd l 0, rd l 1, rd l 2, rd l 3]) >>> (8 * j)).toNat % 256 : Nat) : Int)) ^^^ steps (8 * (3 - j + 1)) (by_ (rd l ((4 + j : Nat) : Int))))), ((j + 1 : Nat) : Int)) := by
  rw [ByEight.l2]; simp only
  have hc := hb _ (rd_mem l (4 + j) (by omega))
  have w8j : IntKind.wrap .i64 (8 * (j : Int)) = ((8 * j : Nat) : Int) := by rw [w64 (by omega) (by omega)]; omega
  have w7 : IntKind.wrap .i64 (7 - (j : Int)) = ((7 - j : Nat) : Int) := by rw [w64 (by omega) (by omega)]; omega
  have w3 : IntKind.wrap .i64 (3 - (j : Int)) = ((3 - j : Nat) : Int) := by rw [w64 (by omega) (by omega)]; omega
  have w4 : IntKind.wrap .i64 (4 + (j : Int)) = ((4 + j : Nat) : Int) := by rw [w64 (by omega) (by omega)]; omega
  have w1 : IntKind.wrap .i64 ((j : Int) + 1) = ((j + 1 : Nat) : Int) := by rw [w64 (by omega) (by omega)]; omega
  have g1 : (j : Int) < 4 := by omega
  have g2 : (0 : Int) ≤ ((8 * j : Nat) : Int) := by omega
  have g3 : (0 : Int) ≤ ((7 - j : Nat) : Int) ∧ ((7 - j : Nat) : Int) < ((8 : Nat) : Int) := by omega
  have g4 : (0 : Int) ≤ ((4 + j : Nat) : Int) ∧ ((4 + j : Nat) : Int) < (l.length : Int) := by omega
  have g5 : (0 : Int) ≤ ((3 - j : Nat) : Int) ∧ ((3 - j : Nat) : Int) < ((8 : Nat) : Int) := by omega
  have g6 : (0 : Int) ≤ rd l ((4 + j : Nat) : Int) ∧ rd l ((4 + j : Nat) : Int) < ((256 : Nat) : Int) := by omega
  have hj8 : 8 * j ≤ 32 := by omega
  have h7 : 7 - j < 8 := by omega
  have h3 : 3 - j < 8 := by omega
  obtain ⟨m, hm, hm2⟩ : ∃ m : Nat, rd l ((4 + j : Nat) : Int) = m ∧ m < 256 := ⟨(rd l ((4 + j : Nat) : Int)).toNat, by omega, by omega⟩
  have hf := front4 hb hl
  generalize word [rd l 0, rd l 1, rd l 2, rd l 3] = wd at hf ⊢
  have b1 : (7 - j) * 256 + ((s ^^^ wd) >>> (8 * j)).toNat % 256 < 2048 := by have := byte_lt ((s ^^^ wd) >>> (8 * j)); omega
  have b2 : (3 - j) * 256 + m < 2048 := by omega
  rw [if_pos g1, hf, iv_xor, w8j, gd_pos g2, w7, gd_pos g3, iv_shr _ _ hj8, byte_iv, gd_pos (byte_in _), ixk, gd_pos (in_len ht.1 b1), w4, gd_pos g4, gd_pos g4, w3, gd_pos g5, gd_pos g6, hm, ixk, gd_pos (in_len ht.1 b2), ht.get _ _ (byte_lt _) h7, ht.get _ _ hm2 h3, iv_xor, iv_xor, w1]
theorem list8 {l : List Int} (hl : 8 ≤ l.length) : l.take 8 = [rd l 0, rd l 1, rd l 2, rd l 3, rd l 4, rd l 5, rd l 6, rd l 7] := by
  match l, hl with
  | a :: b :: c :: d :: e :: f :: g :: h :: r, _ => rfl
theorem ByEight.l2_eq (tab : List Int) (ht : Tab tab 256 256 0) (l : List Int) (hb : Byt l) (hl : 8 ≤ l.length) (s : W) (K : Nat) (hK : 5 ≤ K) : ByEight.l2 (l, iv s) tab K (0, 0) = some (iv (run s (l.take 8))) := by
  obtain ⟨k, rfl⟩ : ∃ k, K = k + 5 := ⟨K - 5, by omega⟩
  have e0 : ByEight.l2 (l, iv s) tab (k + 5) (0, 0) = ByEight.l2 (l, iv s) tab (k + 4 + 1) (iv 0#32, ((0 : Nat) : Int)) := rfl
  rw [e0, ByEight.l2_step tab ht l hb hl s _ 0 (k + 4) (by decide), ByEight.l2_step tab ht l hb hl s _ (0 + 1) (k + 3) (by decide), ByEight.l2_step tab ht l hb hl s _ (0 + 1 + 1) (k + 2) (by decide), ByEight.l2_step tab ht l hb hl s _ (0 + 1 + 1 + 1) (k + 1) (by decide)]
  have hend : ∀ acc : W, ByEight.l2 (l, iv s) tab (k + 1) (iv acc, ((0 + 1 + 1 + 1 + 1 : Nat) : Int)) = some (iv acc) := fun acc => by rw [ByEight.l2]; rfl
  rw [hend, list8 hl]
  have hB : Byt [rd l 0, rd l 1, rd l 2, rd l 3, rd l 4, rd l 5, rd l 6, rd l 7] := by rw [← list8 hl]; exact hb.take 8
  rw [run8 s _ _ _ _ _ _ _ _ hB]
  have hB2 : Byt [rd l 4, rd l 5, rd l 6, rd l 7] := by
    have hB' : Byt ([rd l 0, rd l 1, rd l 2, rd l 3] ++ [rd l 4, rd l 5, rd l 6, rd l 7]) := hB
    exact (Byt.app.1 hB').2
  rw [steps32 hB2]
  generalize s ^^^ word [rd l 0, rd l 1, rd l 2, rd l 3] = x
  rw [steps64 x]
  congr 2
  have z8 : x >>> (8 * 0) = x := by simp
  rw [z8]
  show _ ^^^ (steps 64 _ ^^^ steps 32 (by_ (rd l 4))) ^^^ (steps 56 _ ^^^ steps 24 (by_ (rd l 5))) ^^^ (steps 48 _ ^^^ steps 16 (by_ (rd l 6))) ^^^ (steps 40 _ ^^^ steps 8 (by_ (rd l 7))) = _
  rw [BitVec.zero_xor]
  ac_rfl
theorem ByEight.l1_eq (K : Nat) (hK : 5 ≤ K) (tab : List Int) (ht : Tab tab 256 256 0) : ∀ (n : Nat) (l : List Int) (s : W), l.length = n → Byt l → l.length ≤ 140737488355328 → ∀ k, n < k → ∃ (s' : W) (l' : List Int), ByEight.l1 K tab k (l, iv s) = some (l', iv s') ∧ Byt l' ∧ l'.length ≤ l.length ∧ run s' l' = run s l := by
  intro n
  induction n using Nat.strongRecOn with
  | _ n ih =>
    intro l s hn hb hl k hk
    obtain ⟨k, rfl⟩ : ∃ m, k = m + 1 := ⟨k - 1, by omega⟩
    rw [ByEight.l1]; simp only
    by_cases h8 : 8 ≤ l.length
    · have g0 : ∀ j : Int, 0 ≤ j → j < 8 → (0 : Int) ≤ j ∧ j < (l.length : Int) := fun j a b => by omega
      have g8 : (0 : Int) ≤ 8 ∧ ((Int.toNat 8) ≤ l.length ∧ l.length ≤ l.length) := ⟨by decide, h8, Nat.le_refl _⟩
      rw [if_pos (by omega), gd_pos (g0 0 (by decide) (by decide)), gd_pos (g0 0 (by decide) (by decide)), gd_pos (g0 1 (by decide) (by decide)), gd_pos (g0 1 (by decide) (by decide)), gd_pos (g0 2 (by decide) (by decide)), gd_pos (g0 2 (by decide) (by decide)), gd_pos (g0 3 (by decide) (by decide)), gd_pos (g0 3 (by decide) (by decide)),
        ByEight.l2_eq tab ht l hb h8 s K hK, Option.bind_some, gd_pos g8, List.take_length]
      have hd : (l.drop (Int.toNat 8)) = l.drop 8 := rfl
      rw [hd]
      obtain ⟨s', l', h1, h2, h3, h4⟩ := ih (n - 8) (by omega) (l.drop 8) (run s (l.take 8)) (by simp; omega) (hb.drop 8) (by simp; omega) k (by omega)
      refine ⟨s', l', h1, h2, ?_, ?_⟩
      · rw [List.length_drop] at h3; omega
      · rw [h4, ← run_app, List.take_append_drop]
    · rw [if_neg (by omega)]
      exact ⟨s, l, rfl, hb, Nat.le_refl _, rfl⟩
theorem ByEight.eq (tab : List Int) (ht : Tab tab 256 256 0) (s : W) (l : List Int) (hb : Byt l) (hl : l.length ≤ 140737488355328) (K : Nat) (hK : 5 ≤ K) (hk : l.length < K) : ByEight.f K tab (iv s) l = some (iv (goOn s l)) := by
  unfold ByEight.f
  rw [iv_compl]
  obtain ⟨s', l', h1, h2, h3, h4⟩ := ByEight.l1_eq K hK tab ht l.length l (~~~s) rfl hb hl K hk
  rw [h1, Option.bind_some]
  simp only
  rw [iv_compl, ByTable.eq tab ht _ l' h2 (by omega) K (by omega), Option.bind_some]
  unfold goOn
  rw [BitVec.not_not, h4]
end Go.Proofs.Ytghlmkbchdmnoaa
