/- Own text, laid out of another seat. Conditions: as there. -/
import Derived.Test.YtakolnamobkkkaaLiftA
import Derived.Test.YtakolnamobkkkaaSxPure
set_option linter.unusedSimpArgs false
set_option linter.unusedVariables false
set_option maxRecDepth 10000
namespace Go.Proofs.Ytakolnamobkkkaa
open Go Go.Sx


abbrev W := BitVec 32
/-- A 32-bit number as the programs hold it. -/
def iv (x : W) : Int := (x.toNat : Int)
theorem iv_inj {x y : W} : iv x = iv y ↔ x = y := by
  unfold iv; rw [Int.natCast_inj]; exact BitVec.toNat_inj
theorem iv_of {n : Int} (h : 0 ≤ n ∧ n < 4294967296) : ∃ x : W, n = iv x := ⟨BitVec.ofNat 32 n.toNat, by unfold iv; rw [BitVec.toNat_ofNat, Nat.mod_eq_of_lt (by omega)]; omega⟩
theorem iv_lt (x : W) : 0 ≤ iv x ∧ iv x < 4294967296 := ⟨by unfold iv; omega, by have := x.isLt; unfold iv; omega⟩
theorem iv_xor (x y : W) : Sx.bits .xor .u32 (iv x) (iv y) = iv (x ^^^ y) := by
  unfold iv; rw [bits_xor .u32 rfl _ _ x.isLt y.isLt, BitVec.toNat_xor]
theorem iv_and (x y : W) : Sx.bits .and .u32 (iv x) (iv y) = iv (x &&& y) := by
  unfold iv; rw [bits_and .u32 rfl _ _ x.isLt y.isLt, BitVec.toNat_and]
theorem iv_or (x y : W) : Sx.bits .or .u32 (iv x) (iv y) = iv (x ||| y) := by
  unfold iv; rw [bits_or .u32 rfl _ _ x.isLt y.isLt, BitVec.toNat_or]
theorem iv_shr (x : W) (k : Nat) (hk : k ≤ 32) : Sx.shr .u32 (iv x) (k : Int) = iv (x >>> k) := by
  unfold iv; rw [shr_nat .u32 _ _ hk, BitVec.toNat_ushiftRight, Nat.shiftRight_eq_div_pow]
theorem iv_shl (x : W) (k : Nat) (hk : k ≤ 32) : Sx.shl .u32 (iv x) (k : Int) = iv (x <<< k) := by
  unfold iv; rw [shl_nat .u32 rfl _ _ hk, BitVec.toNat_shiftLeft, Nat.shiftLeft_eq]; rfl
theorem iv_wrap (n : Nat) : IntKind.wrap .u32 (n : Int) = iv (BitVec.ofNat 32 n) := by
  unfold iv; rw [wrapU .u32 rfl, BitVec.toNat_ofNat]; show (n : Int) % 4294967296 = _; omega
theorem iv_neg (x : W) : IntKind.wrap .u32 (0 - iv x) = iv (-x) := by
  unfold iv; rw [wrapU .u32 rfl, BitVec.toNat_neg]; have := x.isLt; show (0 - (x.toNat : Int)) % 4294967296 = _; omega
theorem iv_compl (x : W) : Sx.compl .u32 (iv x) = iv (~~~x) := by
  have h : Sx.compl .u32 (iv x) = Sx.bits .xor .u32 (iv (BitVec.allOnes 32)) (iv x) := rfl
  rw [h, iv_xor, BitVec.allOnes_xor]
def poly : W := 2197175160#32
def step (s : W) : W := (s >>> 1) ^^^ (poly &&& -(s &&& 1#32))
theorem iv_step (s : W) : Sx.bits .xor .u32 (Sx.shr .u32 (iv s) 1) (Sx.bits .and .u32 2197175160 (IntKind.wrap .u32 (0 - (Sx.bits .and .u32 (iv s) 1)))) = iv (step s) := by
  have h1 : Sx.shr .u32 (iv s) 1 = iv (s >>> 1) := iv_shr s 1 (by decide)
  have h2 : Sx.bits .and .u32 (iv s) 1 = iv (s &&& 1#32) := iv_and s 1#32
  have h3 : ∀ y : W, Sx.bits .and .u32 2197175160 (iv y) = iv (poly &&& y) := fun y => iv_and poly y
  rw [h1, h2, iv_neg, h3, iv_xor]; rfl
/-- So many steps. -/
def steps : Nat → W → W
  | 0, s => s
  | k + 1, s => steps k (step s)
def T (s : W) : W := steps 8 s
theorem Bitwise.l2_eq : ∀ (m i : Nat) (s : W), i + m = 8 → ∀ k, m < k → Bitwise.l2 k (iv s, (i : Int)) = some (iv (steps m s)) := by
  intro m
  induction m with
  | zero =>
    intro i s h k hk
    obtain ⟨k, rfl⟩ : ∃ m, k = m + 1 := ⟨k - 1, by omega⟩
    rw [Bitwise.l2]; simp only
    rw [if_neg (by omega)]; rfl
  | succ m ih =>
    intro i s h k hk
    obtain ⟨k, rfl⟩ : ∃ m, k = m + 1 := ⟨k - 1, by omega⟩
    rw [Bitwise.l2]; simp only
    rw [if_pos (by omega), iv_step, w64 (by omega) (by omega), show ((i : Int) + 1) = ((i + 1 : Nat) : Int) by omega, ih (i + 1) _ (by omega) k (by omega)]; rfl
/-- A byte, as 32 bits. -/
def by_ (c : Int) : W := BitVec.ofNat 32 c.toNat
theorem iv_by {c : Int} (h : 0 ≤ c ∧ c < 256) : IntKind.wrap .u32 c = iv (by_ c) := by
  obtain ⟨n, rfl⟩ : ∃ n : Nat, c = n := ⟨c.toNat, by omega⟩
  rw [iv_wrap]; rfl
/-- The state behind bytes. -/
def run (s : W) : List Int → W
  | [] => s
  | c :: r => run (T (s ^^^ by_ c)) r
theorem run_app (s : W) (x y : List Int) : run s (x ++ y) = run (run s x) y := by
  induction x generalizing s with
  | nil => rfl
  | cons c x ih => exact ih _
theorem Bitwise.l1_eq (K : Nat) (hK : 9 ≤ K) (l : List Int) (hb : Byt l) (hl : l.length ≤ 140737488355328) : ∀ (n i : Nat) (s : W), i + n = l.length → ∀ k, n < k → Bitwise.l1 K l k (iv s, (i : Int)) = some (iv (run s (l.drop i))) := by
  intro n
  induction n with
  | zero =>
    intro i s h k hk
    obtain ⟨k, rfl⟩ : ∃ m, k = m + 1 := ⟨k - 1, by omega⟩
    rw [Bitwise.l1]; simp only
    rw [if_neg (by omega), List.drop_of_length_le (by omega)]; rfl
  | succ n ih =>
    intro i s h k hk
    obtain ⟨k, rfl⟩ : ∃ m, k = m + 1 := ⟨k - 1, by omega⟩
    rw [Bitwise.l1]; simp only
    have hc := hb _ (rd_mem l i (by omega))
    have h2 := Bitwise.l2_eq 8 0 (s ^^^ by_ (rd l (i : Int))) (by omega) K (by omega)
    rw [if_pos (by omega), gd_pos (by omega), iv_by hc, iv_xor]
    refine bind_of h2 ?_
    rw [w64 (by omega) (by omega), show ((i : Int) + 1) = ((i + 1 : Nat) : Int) by omega, ih (i + 1) _ (by omega) k (by omega), drop_cons l i (by omega)]; rfl
/-- The sum of bytes, from a sum on. -/
def goOn (s : W) (l : List Int) : W := ~~~(run (~~~s) l)
theorem Bitwise.eq (s : W) (l : List Int) (hb : Byt l) (hl : l.length ≤ 140737488355328) (K : Nat) (hK : 9 ≤ K) (hk : l.length < K) : Bitwise.f K (iv s) l = some (iv (goOn s l)) := by
  unfold Bitwise.f
  rw [iv_compl]
  refine bind_of (Bitwise.l1_eq K hK l hb hl l.length 0 _ (by omega) K hk) ?_
  rw [iv_compl]; rfl
theorem goOn_app (s : W) (x y : List Int) : goOn s (x ++ y) = goOn (goOn s x) y := by
  unfold goOn; rw [run_app, BitVec.not_not]
theorem Sum.l1_eq (K : Nat) (hK : 9 ≤ K) (ps : List (List Int)) (hb : ∀ p ∈ ps, Byt p ∧ p.length ≤ 140737488355328 ∧ p.length < K) (hl : ps.length ≤ 1073741824) : ∀ (n i : Nat) (s : W), i + n = ps.length → ∀ k, n < k → Sum.l1 K ps k (iv s, (i : Int)) = some (iv (goOn s (ps.drop i).flatten)) := by
  intro n
  induction n with
  | zero =>
    intro i s h k hk
    obtain ⟨k, rfl⟩ : ∃ m, k = m + 1 := ⟨k - 1, by omega⟩
    rw [Sum.l1]; simp only
    rw [if_neg (by omega), List.drop_of_length_le (by omega)]
    show some (iv s) = some (iv (~~~(~~~s))); rw [BitVec.not_not]
  | succ n ih =>
    intro i s h k hk
    obtain ⟨k, rfl⟩ : ∃ m, k = m + 1 := ⟨k - 1, by omega⟩
    rw [Sum.l1]; simp only
    have hi : i < ps.length := by omega
    have hr : rd ps (i : Int) = ps[i] := by simp [rd, List.getD_eq_getElem?_getD, hi]
    obtain ⟨h1, h2, h3⟩ := hb ps[i] (List.getElem_mem hi)
    rw [if_pos (by omega), gd_pos (by omega), hr, Bitwise.eq s _ h1 h2 K hK h3, Option.bind_some, w64 (by omega) (by omega), show ((i : Int) + 1) = ((i + 1 : Nat) : Int) by omega, ih (i + 1) _ (by omega) k (by omega), List.drop_eq_getElem_cons hi, List.flatten_cons, goOn_app]
theorem Sum.eq (ps : List (List Int)) (K : Nat) (hK : 9 ≤ K) (hb : ∀ p ∈ ps, Byt p ∧ p.length ≤ 140737488355328 ∧ p.length < K) (hl : ps.length ≤ 1073741824) (hk : ps.length < K) : Sum.f K ps = some (iv (goOn 0#32 ps.flatten)) := by
  unfold Sum.f
  have h := Sum.l1_eq K hK ps hb hl ps.length 0 0#32 (by omega) K hk
  exact bind_of h rfl
end Go.Proofs.Ytakolnamobkkkaa
