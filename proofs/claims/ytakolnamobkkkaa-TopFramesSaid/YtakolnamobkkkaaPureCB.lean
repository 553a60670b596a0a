/- Own text, laid out of another seat. Conditions: as there. -/
import Derived.Test.YtakolnamobkkkaaPureCA
set_option linter.unusedSimpArgs false
set_option linter.unusedVariables false
set_option maxRecDepth 10000
namespace Go.Proofs.Ytakolnamobkkkaa
open Go Go.Sx
/-! ### The steps are linear -/
theorem low_and (x : W) : x &&& 1#32 = if x.getLsbD 0 then 1#32 else 0#32 := by
  apply BitVec.eq_of_getLsbD_eq
  intro i hi
  rw [BitVec.getLsbD_and, BitVec.getLsbD_one]
  by_cases h0 : i = 0
  · subst h0
    cases h : x.getLsbD 0 <;> simp
  · have : (decide (i = 0)) = false := by simp [h0]
    cases h : x.getLsbD 0 <;> simp [h0, BitVec.getLsbD_one]
theorem step_eq (x : W) : step x = (x >>> 1) ^^^ (if x.getLsbD 0 then poly else 0#32) := by
  unfold step
  rw [low_and]
  cases x.getLsbD 0
  · simp
  · have : -(1#32 : W) = BitVec.allOnes 32 := by decide
    rw [if_pos rfl, if_pos rfl, this, BitVec.and_allOnes]
theorem step_xor (a b : W) : step (a ^^^ b) = step a ^^^ step b := by
  have e4 : ∀ p q r s : W, (p ^^^ q) ^^^ (r ^^^ s) = (p ^^^ r) ^^^ (q ^^^ s) := fun p q r s => by
    rw [BitVec.xor_assoc, ← BitVec.xor_assoc q r s, BitVec.xor_comm q r, BitVec.xor_assoc r q s, ← BitVec.xor_assoc]
  rw [step_eq, step_eq, step_eq, BitVec.getLsbD_xor, BitVec.ushiftRight_xor_distrib, e4 (a >>> 1)]
  congr 1
  cases a.getLsbD 0 <;> cases b.getLsbD 0 <;> simp
theorem steps_xor : ∀ (k : Nat) (a b : W), steps k (a ^^^ b) = steps k a ^^^ steps k b
  | 0, _, _ => rfl
  | k + 1, a, b => by rw [steps, step_xor, steps_xor k]; rfl
theorem T_xor (a b : W) : T (a ^^^ b) = T a ^^^ T b := steps_xor 8 a b
theorem steps_add : ∀ (m k : Nat) (x : W), steps (m + k) x = steps k (steps m x)
  | 0, k, x => by rw [Nat.zero_add]; rfl
  | m + 1, k, x => by rw [show m + 1 + k = (m + k) + 1 by omega, steps, steps_add m k]; rfl
theorem steps_zero : ∀ k, steps k (0#32) = 0#32
  | 0 => rfl
  | k + 1 => by rw [steps, show step 0#32 = 0#32 by decide, steps_zero k]
/-- Sixty-four steps, byte by byte. -/


theorem step_inj0 (x : W) (h : step x = 0#32) : x = 0#32 := by
  have h31 : x.getLsbD 0 = false := by
    have := congrArg (fun y : W => y.getLsbD 31) h
    simp only [step_eq, BitVec.getLsbD_xor, BitVec.getLsbD_ushiftRight] at this
    cases hx : x.getLsbD 0 with
    | false => rfl
    | true => rw [hx, if_pos rfl, BitVec.getLsbD_of_ge x _ (by omega)] at this; revert this; decide
  rw [step_eq, h31, if_neg (by simp), BitVec.xor_zero] at h
  apply BitVec.eq_of_getLsbD_eq
  intro i hi
  rcases Nat.eq_zero_or_pos i with rfl | hp
  · rw [h31]; simp
  · have := congrArg (fun y : W => y.getLsbD (i - 1)) h
    simp only [BitVec.getLsbD_ushiftRight] at this
    rw [show 1 + (i - 1) = i by omega] at this
    rw [this]; simp
theorem steps_inj0 : ∀ k x, steps k x = 0#32 → x = 0#32
  | 0, x, h => h
  | k + 1, x, h => step_inj0 x (steps_inj0 k _ h)
theorem run_xor : ∀ (l : List Int) (a b : W), run (a ^^^ b) l = run a l ^^^ steps (8 * l.length) b
  | [], a, b => rfl
  | c :: r, a, b => by
    show run (T (a ^^^ b ^^^ by_ c)) r = run (T (a ^^^ by_ c)) r ^^^ _
    have e : a ^^^ b ^^^ by_ c = (a ^^^ by_ c) ^^^ b := by rw [BitVec.xor_assoc, BitVec.xor_comm b, ← BitVec.xor_assoc]
    rw [e, T_xor, run_xor r, show 8 * (c :: r).length = 8 + 8 * r.length by simp; omega, steps_add]
    rfl
theorem T_one (k : Nat) (hk : k < 8) : T (1#32 <<< k) = steps (8 - k) 1#32 := by
  have h : ∀ i : Fin 8, T (1#32 <<< i.val) = steps (8 - i.val) 1#32 := by decide +kernel
  exact h ⟨k, hk⟩
theorem steps_one (k : Nat) (hk : k < 32) : steps k (1#32 <<< k) = 1#32 := by
  have h : ∀ i : Fin 32, steps i.val (1#32 <<< i.val) = 1#32 := by decide +kernel
  exact h ⟨k, hk⟩
theorem flip_by {c : Int} (h : 0 ≤ c ∧ c < 256) (k : Nat) (hk : k < 8) : by_ (Sx.bits .xor .u8 c (Sx.shl .u8 1 (k : Int))) = by_ c ^^^ (1#32 <<< k) ∧ 0 ≤ Sx.bits .xor .u8 c (Sx.shl .u8 1 (k : Int)) ∧ Sx.bits .xor .u8 c (Sx.shl .u8 1 (k : Int)) < 256 := by
  obtain ⟨n, rfl⟩ : ∃ n : Nat, c = n := ⟨c.toNat, by omega⟩
  have hs : Sx.shl .u8 1 (k : Int) = ((2 ^ k : Nat) : Int) := by
    have h : ∀ i : Fin 8, Sx.shl .u8 1 ((i.val : Nat) : Int) = ((2 ^ i.val : Nat) : Int) := by decide +kernel
    exact h ⟨k, hk⟩
  have ho : BitVec.ofNat 32 (2 ^ k) = 1#32 <<< k := by
    have h : ∀ i : Fin 8, BitVec.ofNat 32 (2 ^ i.val) = 1#32 <<< i.val := by decide +kernel
    exact h ⟨k, hk⟩
  have h2 : 2 ^ k < 2 ^ 8 := Nat.pow_lt_pow_right (by decide) hk
  rw [hs, bits_xor .u8 rfl n (2 ^ k) (by show n < 256; omega) (by show 2 ^ k < 256; omega)]
  have hx : n ^^^ 2 ^ k < 2 ^ 8 := Nat.xor_lt_two_pow (by omega) h2
  refine ⟨?_, by omega, by omega⟩
  unfold by_
  rw [Int.toNat_natCast, Int.toNat_natCast, ← ho, BitVec.ofNat_xor]
/-- A bit, turned. -/
def flip (l : List Int) (m : Nat) : List Int := l.set (m / 8) (Sx.bits .xor .u8 (rd l ((m / 8 : Nat) : Int)) (Sx.shl .u8 1 ((m % 8 : Nat) : Int)))
theorem flip_len (l : List Int) (m : Nat) : (flip l m).length = l.length := by unfold flip; rw [List.length_set]
theorem flip_byt (l : List Int) (m : Nat) (hb : Byt l) (h : m < 8 * l.length) : Byt (flip l m) := by
  intro y hy
  unfold flip at hy
  rcases List.mem_or_eq_of_mem_set hy with h1 | h1
  · exact hb y h1
  · rw [h1]; exact (flip_by (hb _ (rd_mem l _ (by omega))) _ (by omega)).2
theorem run_flip : ∀ (l : List Int) (m : Nat) (s : W), Byt l → m < 8 * l.length → run s (flip l m) = run s l ^^^ steps (8 * l.length - m) 1#32
  | [], m, s, _, h => by simp at h
  | c :: r, m, s, hb, h => by
    rw [List.length_cons] at h ⊢
    by_cases h8 : m < 8
    · have e : flip (c :: r) m = Sx.bits .xor .u8 c (Sx.shl .u8 1 (m : Int)) :: r := by
        unfold flip; rw [Nat.div_eq_of_lt h8, Nat.mod_eq_of_lt h8]; rfl
      rw [e]
      show run (T (s ^^^ by_ _)) r = run (T (s ^^^ by_ c)) r ^^^ _
      rw [(flip_by (hb c List.mem_cons_self) m h8).1, ← BitVec.xor_assoc, T_xor, run_xor, T_one m h8, ← steps_add, show 8 * (r.length + 1) - m = 8 - m + 8 * r.length by omega]
    · have e : flip (c :: r) m = c :: flip r (m - 8) := by
        unfold flip
        rw [show m / 8 = (m - 8) / 8 + 1 by omega, show m % 8 = (m - 8) % 8 by omega, List.set_cons_succ]
        have : rd (c :: r) (((m - 8) / 8 + 1 : Nat) : Int) = rd r (((m - 8) / 8 : Nat) : Int) := by simp only [rd, Int.toNat_natCast, List.getD_cons_succ]
        rw [this]
      rw [e]
      show run (T (s ^^^ by_ c)) (flip r (m - 8)) = run (T (s ^^^ by_ c)) r ^^^ _
      rw [run_flip r (m - 8) _ (fun y hy => hb y (List.mem_cons_of_mem _ hy)) (by omega), show 8 * (r.length + 1) - m = 8 * r.length - (m - 8) by omega]
theorem low1 (w : W) : Int.tmod (Sx.shr .u32 (Sx.bits .or .u32 (iv w) 1) ((0 : Nat) : Int)) 2 = 1 := by
  have h1 : Sx.bits .or .u32 (iv w) 1 = iv (w ||| 1#32) := iv_or w 1#32
  rw [h1, iv_shr _ 0 (by decide), BitVec.ushiftRight_zero]
  unfold iv
  have h2 : (w ||| 1#32).toNat % 2 = 1 := by
    rw [BitVec.toNat_or]
    simp
  rw [Int.tmod_eq_emod_of_nonneg (by omega)]; omega
theorem mix (a b c : W) (k : Nat) : a ^^^ steps k b ^^^ steps k c = a ^^^ steps k (b ^^^ c) := by rw [steps_xor, BitVec.xor_assoc]
end Go.Proofs.Ytakolnamobkkkaa
