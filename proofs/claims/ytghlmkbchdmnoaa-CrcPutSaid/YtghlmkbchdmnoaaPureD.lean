/- Own text. By eight a sum is the same. Conditions: bytes and 32-bit numbers, the tables as New makes them. -/
import Derived.Test.YtghlmkbchdmnoaaPureC
set_option linter.unusedSimpArgs false
set_option linter.unusedVariables false
set_option maxRecDepth 10000
namespace Go.Proofs.Ytghlmkbchdmnoaa
open Go Go.Sx

theorem T_shl (x : W) (h : ∀ j, 24 ≤ j → x.getLsbD j = false) : T (x <<< 8) = x := by
  have h1 : ∀ j, j < 8 → (x <<< 8).getLsbD j = false := by
    intro j hj
    rw [BitVec.getLsbD_shiftLeft]; simp [hj]
  show steps 8 (x <<< 8) = x
  rw [steps_shift 8 _ h1]
  apply BitVec.eq_of_getLsbD_eq
  intro i hi
  rw [BitVec.getLsbD_ushiftRight, BitVec.getLsbD_shiftLeft]
  rcases Nat.lt_or_ge (8 + i) 32 with h2 | h2
  · simp [h2, show ¬ (8 + i < 8) by omega]
  · have : x.getLsbD i = false := h i (by omega)
    simp [this]
theorem by_hi {c : Int} (h : 0 ≤ c ∧ c < 256) (j : Nat) (hj : 8 ≤ j) : (by_ c).getLsbD j = false := by
  unfold by_
  rw [BitVec.getLsbD_ofNat]
  have : c.toNat.testBit j = false := Nat.testBit_lt_two_pow (Nat.lt_of_lt_of_le (show c.toNat < 2 ^ 8 by omega) (Nat.pow_le_pow_right (by decide) hj))
  rw [this]; simp
/-- Bytes from the front, put into one number. -/
def word : List Int → W
  | [] => 0#32
  | c :: r => by_ c ^^^ (word r <<< 8)
theorem word_hi : ∀ (l : List Int), Byt l → ∀ j, 8 * l.length ≤ j → (word l).getLsbD j = false
  | [], _, j, _ => by simp [word]
  | c :: r, hb, j, hj => by
    obtain ⟨hc, hr⟩ := Byt.cons.1 hb
    rw [List.length_cons] at hj
    rw [word, BitVec.getLsbD_xor, by_hi hc j (by omega), BitVec.getLsbD_shiftLeft, word_hi r hr (j - 8) (by omega)]; simp
theorem run_word : ∀ (l : List Int) (s : W), Byt l → l.length ≤ 4 → run s l = steps (8 * l.length) (s ^^^ word l)
  | [], s, _, _ => by simp [run, word, steps]
  | c :: r, s, hb, hl => by
    obtain ⟨hc, hr⟩ := Byt.cons.1 hb
    rw [List.length_cons] at hl ⊢
    have e : T (s ^^^ by_ c) ^^^ word r = T (s ^^^ (by_ c ^^^ (word r <<< 8))) := by
      rw [← BitVec.xor_assoc, T_xor (s ^^^ by_ c) (word r <<< 8), T_shl (word r) (fun j hj => word_hi r hr j (by omega))]
    rw [run, run_word r _ hr (by omega), e, show 8 * (r.length + 1) = 8 + 8 * r.length by omega, steps_add, word]; rfl
theorem peel (m : Nat) (x : W) : steps (8 + m) x = steps m (x >>> 8) ^^^ steps (8 + m) (by_ ((x.toNat % 256 : Nat) : Int)) := by
  rw [steps_add, show steps 8 x = T x from rfl, T_split, steps_xor, steps_add 8 m (by_ _)]; rfl
theorem steps_zero : ∀ k, steps k (0#32) = 0#32
  | 0 => rfl
  | k + 1 => by rw [steps, show step 0#32 = 0#32 by decide, steps_zero k]
/-- Sixty-four steps, byte by byte. -/
theorem steps64 (x : W) : steps 64 x = steps 64 (by_ ((x.toNat % 256 : Nat) : Int)) ^^^ (steps 56 (by_ (((x >>> 8).toNat % 256 : Nat) : Int)) ^^^ (steps 48 (by_ (((x >>> 16).toNat % 256 : Nat) : Int)) ^^^ steps 40 (by_ (((x >>> 24).toNat % 256 : Nat) : Int)))) := by
  have h1 := peel 56 x
  have h2 := peel 48 (x >>> 8)
  have h3 := peel 40 (x >>> 16)
  have h4 := peel 32 (x >>> 24)
  have e1 : (x >>> 8) >>> 8 = x >>> 16 := by rw [← BitVec.shiftRight_add]
  have e2 : (x >>> 16) >>> 8 = x >>> 24 := by rw [← BitVec.shiftRight_add]
  have e3 : (x >>> 24) >>> 8 = 0#32 := by
    rw [← BitVec.shiftRight_add]
    apply BitVec.eq_of_getLsbD_eq
    intro i hi
    rw [BitVec.getLsbD_ushiftRight, BitVec.getLsbD_of_ge _ _ (by omega)]; simp
  rw [e1] at h2; rw [e2] at h3; rw [e3, steps_zero, BitVec.zero_xor] at h4
  have h1' : steps 64 x = steps 56 (x >>> 8) ^^^ steps 64 (by_ ((x.toNat % 256 : Nat) : Int)) := h1
  have h2' : steps 56 (x >>> 8) = steps 48 (x >>> 16) ^^^ steps 56 (by_ (((x >>> 8).toNat % 256 : Nat) : Int)) := h2
  have h3' : steps 48 (x >>> 16) = steps 40 (x >>> 24) ^^^ steps 48 (by_ (((x >>> 16).toNat % 256 : Nat) : Int)) := h3
  have h4' : steps 40 (x >>> 24) = steps 40 (by_ (((x >>> 24).toNat % 256 : Nat) : Int)) := h4
  rw [h1', h2', h3', h4', BitVec.xor_comm _ (steps 64 _), BitVec.xor_comm _ (steps 56 _), BitVec.xor_comm _ (steps 48 _)]
theorem word4 (a b c d : Int) : word [a, b, c, d] = by_ a ^^^ ((by_ b <<< 8) ^^^ ((by_ c <<< 16) ^^^ (by_ d <<< 24))) := by
  simp only [word]
  rw [BitVec.zero_shiftLeft, BitVec.xor_zero, BitVec.shiftLeft_xor_distrib, BitVec.shiftLeft_xor_distrib, ← BitVec.shiftLeft_add, BitVec.shiftLeft_xor_distrib, ← BitVec.shiftLeft_add, ← BitVec.shiftLeft_add]
/-- Bytes that lie apart: or is exclusive or. -/
theorem or4 {a b c d : Int} (ha : 0 ≤ a ∧ a < 256) (hb : 0 ≤ b ∧ b < 256) (hc : 0 ≤ c ∧ c < 256) (hd : 0 ≤ d ∧ d < 256) : by_ a ||| (by_ b <<< 8) ||| (by_ c <<< 16) ||| (by_ d <<< 24) = word [a, b, c, d] := by
  rw [word4]
  apply BitVec.eq_of_getLsbD_eq
  intro i hi
  simp only [BitVec.getLsbD_or, BitVec.getLsbD_xor, BitVec.getLsbD_shiftLeft]
  have z : ∀ {x : Int}, (0 ≤ x ∧ x < 256) → ∀ j, 8 ≤ j → (by_ x).getLsbD j = false := fun h j hj => by_hi h j hj
  rcases Nat.lt_or_ge i 8 with h | h
  · simp [h, show i < 16 by omega, show i < 24 by omega]
  · rw [z ha i h]
    rcases Nat.lt_or_ge i 16 with h2 | h2
    · simp [h2, show i < 24 by omega]
    · rw [z hb (i - 8) (by omega)]
      rcases Nat.lt_or_ge i 24 with h3 | h3
      · simp [h3]
      · rw [z hc (i - 16) (by omega)]; simp
/-- Eight bytes, by the tables. -/
theorem run8 (s : W) (a b c d e f g h : Int) (hB : Byt [a, b, c, d, e, f, g, h]) : run s [a, b, c, d, e, f, g, h] = steps 64 (s ^^^ word [a, b, c, d]) ^^^ steps 32 (word [e, f, g, h]) := by
  have hB' : Byt ([a, b, c, d] ++ [e, f, g, h]) := hB
  obtain ⟨h1, h2⟩ := Byt.app.1 hB'
  rw [show [a, b, c, d, e, f, g, h] = [a, b, c, d] ++ [e, f, g, h] from rfl, run_app, run_word [a, b, c, d] s h1 (by simp), run_word _ _ h2 (by simp), steps_xor]
  rw [show 8 * [a, b, c, d].length = 32 from rfl, show 8 * [e, f, g, h].length = 32 from rfl, ← steps_add]
theorem steps32 {a b c d : Int} (hB : Byt [a, b, c, d]) : steps 32 (word [a, b, c, d]) = steps 32 (by_ a) ^^^ (steps 24 (by_ b) ^^^ (steps 16 (by_ c) ^^^ steps 8 (by_ d))) := by
  have h1 := run_word [a, b, c, d] 0#32 hB (by simp)
  rw [BitVec.zero_xor] at h1
  have h1' : steps 32 (word [a, b, c, d]) = run 0#32 [a, b, c, d] := h1.symm
  rw [h1']
  simp only [run, BitVec.zero_xor, T]
  simp only [steps_xor, ← steps_add, BitVec.xor_assoc, Nat.reduceAdd]
end Go.Proofs.Ytghlmkbchdmnoaa
