/- Own text. Forge undoes steps; the plain part of the law CrcWill. Conditions: bytes and 32-bit numbers. -/
import Derived.Test.YtghlmkbchdmnoaaPureF
import Derived.Test.YtghlmkbchdmnoaaLiftB
set_option linter.unusedSimpArgs false
set_option linter.unusedVariables false
set_option maxRecDepth 10000
namespace Go.Proofs.Ytghlmkbchdmnoaa
open Go Go.Sx

/-- A step, taken back, as the program does. -/
def unstep (y : W) : W := ((y ^^^ (poly &&& -(y >>> 31))) <<< 1) ||| (y >>> 31)
theorem iv_unstep (y : W) : Sx.bits .or .u32 (Sx.shl .u32 (Sx.bits .xor .u32 (iv y) (Sx.bits .and .u32 2197175160 (IntKind.wrap .u32 (0 - (Sx.shr .u32 (iv y) 31))))) 1) (Sx.shr .u32 (iv y) 31) = iv (unstep y) := by
  have h1 : Sx.shr .u32 (iv y) 31 = iv (y >>> 31) := iv_shr y 31 (by decide)
  have h3 : ∀ z : W, Sx.bits .and .u32 2197175160 (iv z) = iv (poly &&& z) := fun z => iv_and poly z
  have h4 : ∀ z : W, Sx.shl .u32 (iv z) 1 = iv (z <<< 1) := fun z => iv_shl z 1 (by decide)
  rw [h1, iv_neg, h3, iv_xor, h4, iv_or]; rfl
theorem top (y : W) : y >>> 31 = if y.getLsbD 31 then 1#32 else 0#32 := by
  apply BitVec.eq_of_getLsbD_eq
  intro i hi
  rw [BitVec.getLsbD_ushiftRight]
  rcases Nat.eq_zero_or_pos i with rfl | h
  · cases h : y.getLsbD 31 <;> simp [h]
  · rw [BitVec.getLsbD_of_ge _ _ (by omega)]
    cases y.getLsbD 31 <;> simp [BitVec.getLsbD_one]; omega
theorem step_unstep (y : W) : step (unstep y) = y := by
  have hneg : -(1#32 : W) = BitVec.allOnes 32 := by decide
  unfold unstep
  rw [top]
  cases hy : y.getLsbD 31
  · have e : ((y ^^^ (poly &&& -(if (false = true) then 1#32 else 0#32))) <<< 1) ||| (if (false = true) then 1#32 else 0#32) = y <<< 1 := by simp
    rw [e, step_eq]
    have : (y <<< 1).getLsbD 0 = false := by simp
    rw [this]
    apply BitVec.eq_of_getLsbD_eq
    intro i hi
    simp only [Bool.false_eq_true, if_false, BitVec.xor_zero, BitVec.getLsbD_ushiftRight, BitVec.getLsbD_shiftLeft]
    rcases Nat.lt_or_ge (1 + i) 32 with h | h
    · simp [h]
    · have : i = 31 := by omega
      subst this; simp; simpa using hy.symm
  · have e : ((y ^^^ (poly &&& -(if (true = true) then 1#32 else 0#32))) <<< 1) ||| (if (true = true) then 1#32 else 0#32) = ((y ^^^ poly) <<< 1) ||| 1#32 := by
      rw [if_pos rfl, hneg, BitVec.and_allOnes]
    rw [e, step_eq]
    have h0 : (((y ^^^ poly) <<< 1) ||| 1#32).getLsbD 0 = true := by simp
    have hz : (y ^^^ poly).getLsbD 31 = false := by
      rw [BitVec.getLsbD_xor, hy]; decide
    rw [h0, if_pos rfl]
    have hs : (((y ^^^ poly) <<< 1) ||| 1#32) >>> 1 = y ^^^ poly := by
      apply BitVec.eq_of_getLsbD_eq
      intro i hi
      rw [BitVec.getLsbD_ushiftRight, BitVec.getLsbD_or, BitVec.getLsbD_shiftLeft, BitVec.getLsbD_one]
      rcases Nat.lt_or_ge (1 + i) 32 with h | h
      · simp [h]
      · have : i = 31 := by omega
        subst this; rw [hz]; simp
    rw [hs, BitVec.xor_assoc, BitVec.xor_self, BitVec.xor_zero]
def unsteps : Nat → W → W
  | 0, y => y
  | k + 1, y => unsteps k (unstep y)
theorem steps_succ : ∀ (k : Nat) (x : W), steps (k + 1) x = step (steps k x)
  | 0, _ => rfl
  | k + 1, x => by rw [steps, steps_succ k, steps]
theorem steps_unsteps : ∀ (k : Nat) (y : W), steps k (unsteps k y) = y
  | 0, _ => rfl
  | k + 1, y => by rw [steps_succ, unsteps, steps_unsteps k, step_unstep]
theorem Forge.l1_eq : ∀ (m i : Nat) (y : W), i + m = 32 → ∀ k, m < k → Forge.l1 k (iv y, (i : Int)) = some (iv (unsteps m y)) := by
  intro m
  induction m with
  | zero =>
    intro i y h k hk
    obtain ⟨k, rfl⟩ : ∃ m, k = m + 1 := ⟨k - 1, by omega⟩
    rw [Forge.l1]; simp only
    rw [if_neg (by omega)]; rfl
  | succ m ih =>
    intro i y h k hk
    obtain ⟨k, rfl⟩ : ∃ m, k = m + 1 := ⟨k - 1, by omega⟩
    rw [Forge.l1]; simp only
    have g : (i : Int) < 32 := by omega
    have hw : IntKind.wrap .i64 ((i : Int) + 1) = ((i + 1 : Nat) : Int) := by rw [w64 (by omega) (by omega)]; omega
    rw [if_pos g, iv_unstep, hw, ih (i + 1) _ (by omega) k (by omega)]; rfl
/-- The four bytes of a number. -/
def four (x : W) : List Int := [((x.toNat % 256 : Nat) : Int), (((x >>> 8).toNat % 256 : Nat) : Int), (((x >>> 16).toNat % 256 : Nat) : Int), (((x >>> 24).toNat % 256 : Nat) : Int)]
theorem Forge.eq (s w : W) (K : Nat) (hK : 33 ≤ K) : Forge.f K (iv s) (iv w) = some (four (unsteps 32 (~~~w) ^^^ ~~~s)) := by
  unfold Forge.f
  have s8 : ∀ x : W, Sx.shr .u32 (iv x) 8 = iv (x >>> 8) := fun x => iv_shr x 8 (by decide)
  have s16 : ∀ x : W, Sx.shr .u32 (iv x) 16 = iv (x >>> 16) := fun x => iv_shr x 16 (by decide)
  have s24 : ∀ x : W, Sx.shr .u32 (iv x) 24 = iv (x >>> 24) := fun x => iv_shr x 24 (by decide)
  rw [iv_compl]
  refine bind_of (Forge.l1_eq 32 0 _ (by omega) K (by omega)) ?_
  rw [iv_compl, iv_xor, s8, s16, s24, byte_iv, byte_iv, byte_iv, byte_iv]; rfl
theorem four_byt (x : W) : Byt (four x) := by
  intro c hc
  simp only [four, List.mem_cons, List.not_mem_nil, or_false] at hc
  rcases hc with rfl | rfl | rfl | rfl <;> omega
theorem split8 (x : W) : x = by_ ((x.toNat % 256 : Nat) : Int) ^^^ ((x >>> 8) <<< 8) := by
  rw [by_byte]
  apply BitVec.eq_of_getLsbD_eq
  intro i hi
  rw [BitVec.getLsbD_xor, BitVec.getLsbD_and, BitVec.getLsbD_shiftLeft, BitVec.getLsbD_ushiftRight]
  have key : ∀ j : Fin 32, (255#32 : W).getLsbD j.val = decide (j.val < 8) := by decide
  rw [key ⟨i, hi⟩]
  by_cases h : i < 8
  · simp [h]
  · simp [h, hi, show 8 + (i - 8) = i by omega]
theorem word_four (x : W) : word (four x) = x := by
  have e1 : (x >>> 8) >>> 8 = x >>> 16 := by rw [← BitVec.shiftRight_add]
  have e2 : (x >>> 16) >>> 8 = x >>> 24 := by rw [← BitVec.shiftRight_add]
  have e3 : (x >>> 24) >>> 8 = 0#32 := by
    rw [← BitVec.shiftRight_add]
    apply BitVec.eq_of_getLsbD_eq
    intro i hi
    rw [BitVec.getLsbD_ushiftRight, BitVec.getLsbD_of_ge _ _ (by omega)]; simp
  have h1 := split8 x
  have h2 := split8 (x >>> 8)
  have h3 := split8 (x >>> 16)
  have h4 := split8 (x >>> 24)
  rw [e1] at h2; rw [e2] at h3; rw [e3] at h4
  simp only [word, four]
  rw [← h4, ← h3, ← h2, ← h1]
theorem goOn_forge (s w : W) : goOn s (four (unsteps 32 (~~~w) ^^^ ~~~s)) = w := by
  unfold goOn
  rw [run_word _ _ (four_byt _) (by simp [four]), word_four, show 8 * (four (unsteps 32 (~~~w) ^^^ ~~~s)).length = 32 from rfl]
  have : ~~~s ^^^ (unsteps 32 (~~~w) ^^^ ~~~s) = unsteps 32 (~~~w) := by
    rw [BitVec.xor_comm (unsteps 32 (~~~w)), ← BitVec.xor_assoc, BitVec.xor_self, BitVec.zero_xor]
  rw [this, steps_unsteps, BitVec.not_not]
theorem four_inj {x y : W} (h : four x = four y) : x = y := by rw [← word_four x, ← word_four y, h]
theorem four_len (x : W) : (four x).length = 4 := rfl
namespace Pure
theorem CrcWill : ∀ (a0 : List Int) (a1 : Int) (a2 : Int), (∀ x ∈ a0, (Lit.int .u8 x).wf = true) → a0.length * 1 ≤ 140737488351232 → (Lit.int .u32 a1).wf = true → (Lit.int .u32 a2).wf = true → ∃ K, CrcWill.f K a0 a1 a2 = some true := by
  intro b a1 a2 hb hl h1 h2
  have hb := Byt.of hb
  obtain ⟨w, rfl⟩ := iv_of (wfu32 h1)
  obtain ⟨o, rfl⟩ := iv_of (wfu32 h2)
  refine ⟨b.length + 400, ?_⟩
  generalize hK : b.length + 400 = K
  have k300 : 300 ≤ K := by omega
  unfold CrcWill.f
  have hs : Sum.f K [b] = some (iv (goOn 0#32 b)) := by
    have := Sum.eq [b] K (by omega) (fun p hp => by simp at hp; subst hp; exact ⟨hb, by omega, by omega⟩) (by simp) (by simp; omega)
    simpa using this
  generalize hg : goOn 0#32 b = s at hs
  have hf := Forge.eq s w K (by omega)
  have hf2 := Forge.eq s o K (by omega)
  have sum2 : ∀ v : W, Sum.f K [b, four (unsteps 32 (~~~v) ^^^ ~~~s)] = some (iv v) := by
    intro v
    have := Sum.eq [b, four (unsteps 32 (~~~v) ^^^ ~~~s)] K (by omega) (fun p hp => by
      simp only [List.mem_cons, List.not_mem_nil, or_false] at hp
      rcases hp with rfl | rfl
      · exact ⟨hb, by omega, by omega⟩
      · exact ⟨four_byt _, by rw [four_len]; omega, by rw [four_len]; omega⟩) (by simp) (by simp; omega)
    rw [this]
    simp only [List.flatten_cons, List.flatten_nil, List.append_nil]
    rw [goOn_app, hg, goOn_forge]
  have hw := sum2 w
  have ho := sum2 o
  have heq : (four (unsteps 32 (~~~w) ^^^ ~~~s) = four (unsteps 32 (~~~o) ^^^ ~~~s)) ↔ w = o := by
    constructor
    · intro h
      rw [h, ho] at hw
      exact (iv_inj.1 (Option.some.inj hw)).symm
    · intro h; rw [h]
  have hlf : ∃ p0 p1 p2 p3 : Int, four (unsteps 32 (~~~w) ^^^ ~~~s) = [p0, p1, p2, p3] := ⟨_, _, _, _, rfl⟩
  have hlg : ∃ p0 p1 p2 p3 : Int, four (unsteps 32 (~~~o) ^^^ ~~~s) = [p0, p1, p2, p3] := ⟨_, _, _, _, rfl⟩
  obtain ⟨p0, p1, p2, p3, ef⟩ := hlf
  obtain ⟨q0, q1, q2, q3, eg⟩ := hlg
  rw [ef] at hf hw heq
  rw [eg] at hf2 ho heq
  have hd : decide (iv w = iv o) = decide (w = o) := by simp only [iv_inj]
  rw [known.eq K k300, Option.bind_some, hs, Option.bind_some, hf, Option.bind_some, Option.bind_some, hf2, Option.bind_some, if_pos rfl, if_neg (by simp), Option.bind_some, if_neg (by simp)]
  refine bind_of (v := decide ([p0, p1, p2, p3] = [q0, q1, q2, q3])) ?_ ?_
  · have r0 : rd [p0, p1, p2, p3] 0 = p0 ∧ rd [p0, p1, p2, p3] 1 = p1 ∧ rd [p0, p1, p2, p3] 2 = p2 ∧ rd [p0, p1, p2, p3] 3 = p3 := ⟨rfl, rfl, rfl, rfl⟩
    have r1 : rd [q0, q1, q2, q3] 0 = q0 ∧ rd [q0, q1, q2, q3] 1 = q1 ∧ rd [q0, q1, q2, q3] 2 = q2 ∧ rd [q0, q1, q2, q3] 3 = q3 := ⟨rfl, rfl, rfl, rfl⟩
    simp only [gd, List.length_cons, List.length_nil]
    simp [r0, r1]
    by_cases e0 : p0 = q0 <;> by_cases e1 : p1 = q1 <;> by_cases e2 : p2 = q2 <;> simp [e0, e1, e2]
  · rw [hw, Option.bind_some, if_pos rfl, ho, Option.bind_some, if_pos rfl, hd]
    simp only [heq, decide_true]
end Pure
end Go.Proofs.Ytghlmkbchdmnoaa
