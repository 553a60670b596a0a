/- Own text. Sums, sizes of many numbers; the plain part of the law TopNumbers. Conditions: numbers below 2^64, at most 1048576 of them. -/
import Derived.Test.YtocfkhpfpepcmaaPureG
set_option linter.unusedSimpArgs false
set_option linter.unusedVariables false
namespace Go.Proofs.Ytocfkhpfpepcmaa
open Go Go.Sx

abbrev W := BitVec 32
/-- A 32-bit number as the programs hold it. -/
def iv (x : W) : Int := (x.toNat : Int)
theorem iv_inj {x y : W} : iv x = iv y ↔ x = y := by
  unfold iv; rw [Int.natCast_inj]; exact BitVec.toNat_inj
theorem iv_of {n : Int} (h : 0 ≤ n ∧ n < 4294967296) : ∃ x : W, n = iv x := ⟨BitVec.ofNat 32 n.toNat, by unfold iv; rw [BitVec.toNat_ofNat, Nat.mod_eq_of_lt (by omega)]; omega⟩
theorem iv_lt (x : W) : 0 ≤ iv x ∧ iv x < 4294967296 := ⟨by unfold iv; omega, by have := x.isLt; unfold iv; omega⟩
theorem iv_xor (x y : W) : Sx.bits .xor .u32 (iv x) (iv y) = iv (x ^^^ y) := by
  unfold iv; rw [bits_xor .u32 rfl _ _ x.isLt y.isLt, BitVec.toNat_xor]
theorem iv_and (x y : W) : Sx.bits .and .u32 (iv x) (iv y) = iv (x &&& y) := by
  unfold iv; rw [bits_and .u32 rfl _ _ x.isLt y.isLt, BitVec.toNat_and]
theorem iv_or (x y : W) : Sx.bits .or .u32 (iv x) (iv y) = iv (x ||| y) := by
  unfold iv; rw [bits_or .u32 rfl _ _ x.isLt y.isLt, BitVec.toNat_or]
theorem iv_shr (x : W) (k : Nat) (hk : k ≤ 32) : Sx.shr .u32 (iv x) (k : Int) = iv (x >>> k) := by
  unfold iv; rw [shr_nat .u32 _ _ hk, BitVec.toNat_ushiftRight, Nat.shiftRight_eq_div_pow]
theorem iv_shl (x : W) (k : Nat) (hk : k ≤ 32) : Sx.shl .u32 (iv x) (k : Int) = iv (x <<< k) := by
  unfold iv; rw [shl_nat .u32 rfl _ _ hk, BitVec.toNat_shiftLeft, Nat.shiftLeft_eq]; rfl
theorem iv_wrap (n : Nat) : IntKind.wrap .u32 (n : Int) = iv (BitVec.ofNat 32 n) := by
  unfold iv; rw [wrapU .u32 rfl, BitVec.toNat_ofNat]; show (n : Int) % 4294967296 = _; omega
theorem iv_neg (x : W) : IntKind.wrap .u32 (0 - iv x) = iv (-x) := by
  unfold iv; rw [wrapU .u32 rfl, BitVec.toNat_neg]; have := x.isLt; show (0 - (x.toNat : Int)) % 4294967296 = _; omega
theorem iv_compl (x : W) : Sx.compl .u32 (iv x) = iv (~~~x) := by
  have h : Sx.compl .u32 (iv x) = Sx.bits .xor .u32 (iv (BitVec.allOnes 32)) (iv x) := rfl
  rw [h, iv_xor, BitVec.allOnes_xor]
def poly : W := 2197175160#32
def step (s : W) : W := (s >>> 1) ^^^ (poly &&& -(s &&& 1#32))
theorem iv_step (s : W) : Sx.bits .xor .u32 (Sx.shr .u32 (iv s) 1) (Sx.bits .and .u32 2197175160 (IntKind.wrap .u32 (0 - (Sx.bits .and .u32 (iv s) 1)))) = iv (step s) := by
  have h1 : Sx.shr .u32 (iv s) 1 = iv (s >>> 1) := iv_shr s 1 (by decide)
  have h2 : Sx.bits .and .u32 (iv s) 1 = iv (s &&& 1#32) := iv_and s 1#32
  have h3 : ∀ y : W, Sx.bits .and .u32 2197175160 (iv y) = iv (poly &&& y) := fun y => iv_and poly y
  rw [h1, h2, iv_neg, h3, iv_xor]; rfl
/-- So many steps. -/
def steps : Nat → W → W
  | 0, s => s
  | k + 1, s => steps k (step s)
def T (s : W) : W := steps 8 s
theorem Bitwise.l2_eq : ∀ (m i : Nat) (s : W), i + m = 8 → ∀ k, m < k → Bitwise.l2 k (iv s, (i : Int)) = some (iv (steps m s)) := by
  intro m
  induction m with
  | zero =>
    intro i s h k hk
    obtain ⟨k, rfl⟩ : ∃ m, k = m + 1 := ⟨k - 1, by omega⟩
    rw [Bitwise.l2]; simp only
    rw [if_neg (by omega)]; rfl
  | succ m ih =>
    intro i s h k hk
    obtain ⟨k, rfl⟩ : ∃ m, k = m + 1 := ⟨k - 1, by omega⟩
    rw [Bitwise.l2]; simp only
    rw [if_pos (by omega), iv_step, w64 (by omega) (by omega), show ((i : Int) + 1) = ((i + 1 : Nat) : Int) by omega, ih (i + 1) _ (by omega) k (by omega)]; rfl
/-- A byte, as 32 bits. -/
def by_ (c : Int) : W := BitVec.ofNat 32 c.toNat
theorem iv_by {c : Int} (h : 0 ≤ c ∧ c < 256) : IntKind.wrap .u32 c = iv (by_ c) := by
  obtain ⟨n, rfl⟩ : ∃ n : Nat, c = n := ⟨c.toNat, by omega⟩
  rw [iv_wrap]; rfl
/-- The state behind bytes. -/
def run (s : W) : List Int → W
  | [] => s
  | c :: r => run (T (s ^^^ by_ c)) r
theorem run_app (s : W) (x y : List Int) : run s (x ++ y) = run (run s x) y := by
  induction x generalizing s with
  | nil => rfl
  | cons c x ih => exact ih _
theorem Bitwise.l1_eq (K : Nat) (hK : 9 ≤ K) (l : List Int) (hb : Byt l) (hl : l.length ≤ 140737488355328) : ∀ (n i : Nat) (s : W), i + n = l.length → ∀ k, n < k → Bitwise.l1 K l k (iv s, (i : Int)) = some (iv (run s (l.drop i))) := by
  intro n
  induction n with
  | zero =>
    intro i s h k hk
    obtain ⟨k, rfl⟩ : ∃ m, k = m + 1 := ⟨k - 1, by omega⟩
    rw [Bitwise.l1]; simp only
    rw [if_neg (by omega), List.drop_of_length_le (by omega)]; rfl
  | succ n ih =>
    intro i s h k hk
    obtain ⟨k, rfl⟩ : ∃ m, k = m + 1 := ⟨k - 1, by omega⟩
    rw [Bitwise.l1]; simp only
    have hc := hb _ (rd_mem l i (by omega))
    have h2 := Bitwise.l2_eq 8 0 (s ^^^ by_ (rd l (i : Int))) (by omega) K (by omega)
    rw [if_pos (by omega), gd_pos (by omega), iv_by hc, iv_xor]
    refine bind_of h2 ?_
    rw [w64 (by omega) (by omega), show ((i : Int) + 1) = ((i + 1 : Nat) : Int) by omega, ih (i + 1) _ (by omega) k (by omega), drop_cons l i (by omega)]; rfl
/-- The sum of bytes, from a sum on. -/
def goOn (s : W) (l : List Int) : W := ~~~(run (~~~s) l)
theorem Bitwise.eq (s : W) (l : List Int) (hb : Byt l) (hl : l.length ≤ 140737488355328) (K : Nat) (hK : 9 ≤ K) (hk : l.length < K) : Bitwise.f K (iv s) l = some (iv (goOn s l)) := by
  unfold Bitwise.f
  rw [iv_compl]
  refine bind_of (Bitwise.l1_eq K hK l hb hl l.length 0 _ (by omega) K hk) ?_
  rw [iv_compl]; rfl
theorem goOn_app (s : W) (x y : List Int) : goOn s (x ++ y) = goOn (goOn s x) y := by
  unfold goOn; rw [run_app, BitVec.not_not]
theorem Sum.l1_eq (K : Nat) (hK : 9 ≤ K) (ps : List (List Int)) (hb : ∀ p ∈ ps, Byt p ∧ p.length ≤ 140737488355328 ∧ p.length < K) (hl : ps.length ≤ 1073741824) : ∀ (n i : Nat) (s : W), i + n = ps.length → ∀ k, n < k → Sum.l1 K ps k (iv s, (i : Int)) = some (iv (goOn s (ps.drop i).flatten)) := by
  intro n
  induction n with
  | zero =>
    intro i s h k hk
    obtain ⟨k, rfl⟩ : ∃ m, k = m + 1 := ⟨k - 1, by omega⟩
    rw [Sum.l1]; simp only
    rw [if_neg (by omega), List.drop_of_length_le (by omega)]
    show some (iv s) = some (iv (~~~(~~~s))); rw [BitVec.not_not]
  | succ n ih =>
    intro i s h k hk
    obtain ⟨k, rfl⟩ : ∃ m, k = m + 1 := ⟨k - 1, by omega⟩
    rw [Sum.l1]; simp only
    have hi : i < ps.length := by omega
    have hr : rd ps (i : Int) = ps[i] := by simp [rd, List.getD_eq_getElem?_getD, hi]
    obtain ⟨h1, h2, h3⟩ := hb ps[i] (List.getElem_mem hi)
    rw [if_pos (by omega), gd_pos (by omega), hr, Bitwise.eq s _ h1 h2 K hK h3, Option.bind_some, w64 (by omega) (by omega), show ((i : Int) + 1) = ((i + 1 : Nat) : Int) by omega, ih (i + 1) _ (by omega) k (by omega), List.drop_eq_getElem_cons hi, List.flatten_cons, goOn_app]
theorem Sum.eq (ps : List (List Int)) (K : Nat) (hK : 9 ≤ K) (hb : ∀ p ∈ ps, Byt p ∧ p.length ≤ 140737488355328 ∧ p.length < K) (hl : ps.length ≤ 1073741824) (hk : ps.length < K) : Sum.f K ps = some (iv (goOn 0#32 ps.flatten)) := by
  unfold Sum.f
  have h := Sum.l1_eq K hK ps hb hl ps.length 0 0#32 (by omega) K hk
  exact bind_of h rfl

theorem encP_get : ∀ (l : List Int) (q n : Nat) (h : n < l.length) (h' : n < (encP l (q : Int)).length), (encP l (q : Int))[n] = (((q + (flat (l.take n)).length : Nat) : Int), l[n])
  | x :: l, q, 0, _, _ => by simp [encP, flat]
  | x :: l, q, n + 1, h, h' => by
    have e : (q : Int) + ((enc1 x.toNat).length : Int) = ((q + (enc1 x.toNat).length : Nat) : Int) := by omega
    have h2 : n < (encP l ((q + (enc1 x.toNat).length : Nat) : Int)).length := by rw [encP_len]; simpa using h
    have ih := encP_get l (q + (enc1 x.toNat).length) n (by simpa using h) h2
    have e3 : (flat ((x :: l).take (n + 1))).length = (enc1 x.toNat).length + (flat (l.take n)).length := by simp [flat]
    rw [e3, ← Nat.add_assoc]
    simp only [encP, e, List.getElem_cons_succ]
    exact ih
theorem Size.l1_eq (l : List Int) (hw : ∀ x ∈ l, 0 ≤ x ∧ x < 18446744073709551616) (hl : l.length ≤ 1073741824) : ∀ (n i s : Nat), i + n = l.length → s ≤ 10 * i → ∀ k, n < k →
    Size.l1 l k ((s : Int), (i : Int)) = some ((s + (flat (l.drop i)).length : Nat) : Int) := by
  intro n
  induction n with
  | zero =>
    intro i s h hs k hk
    obtain ⟨k, rfl⟩ : ∃ m, k = m + 1 := ⟨k - 1, by omega⟩
    rw [Size.l1]; simp only
    rw [if_neg (by omega), List.drop_of_length_le (by omega)]
    simp [flat]
  | succ n ih =>
    intro i s h hs k hk
    obtain ⟨k, rfl⟩ : ∃ m, k = m + 1 := ⟨k - 1, by omega⟩
    obtain ⟨hx0, hx1⟩ := hw _ (rd_mem l i (by omega))
    obtain ⟨x, hx⟩ : ∃ x : Nat, rd l (i : Int) = (x : Int) := ⟨(rd l (i : Int)).toNat, by omega⟩
    have hb := bl_lt x 64 (by omega)
    have hle := enc1_bl x
    have hd : Int.tdiv ((bl x + 6 : Nat) : Int) 7 = (((bl x + 6) / 7 : Nat) : Int) := by
      rw [Int.tdiv_eq_ediv_of_nonneg (by omega)]; omega
    rw [Size.l1]; simp only
    rw [if_pos (by omega), gd_pos (by omega), hx, Len64.eq x (by omega), Option.bind_some, w64 (n := (bl x : Int) + 6) (by omega) (by omega), show (bl x : Int) + 6 = ((bl x + 6 : Nat) : Int) by omega, hd, w64 (n := (((bl x + 6) / 7 : Nat) : Int)) (by omega) (by omega), w64 (by omega) (by omega), w64 (n := (i : Int) + 1) (by omega) (by omega),
      show (s : Int) + max 1 (((bl x + 6) / 7 : Nat) : Int) = ((s + (enc1 x).length : Nat) : Int) by omega, show ((i : Int) + 1) = ((i + 1 : Nat) : Int) by omega,
      ih _ _ (by omega) (by omega) k (by omega), drop_cons l i (by omega), hx]
    congr 2
    simp [flat]; omega
theorem Size.eq (l : List Int) (hw : ∀ x ∈ l, 0 ≤ x ∧ x < 18446744073709551616) (hl : l.length ≤ 1073741824) (K : Nat) (hK : l.length < K) : Size.f K l = some ((flat l).length : Int) := by
  unfold Size.f
  have h := Size.l1_eq l hw hl l.length 0 0 (by omega) (by omega) K hK
  rw [List.drop_zero, Nat.zero_add] at h
  exact bind_of h rfl
theorem e300 : enc1 300 = [172, 2] := by rw [enc1_big 300 (by decide), enc1_small _ (by decide)]; rfl
theorem TopNumbers.l1_eq (t : List Int × Int) (h5 : t.1.length = 5) (hd : ∀ x ∈ t.1, x < 128) : ∀ (n i : Nat), i + n = 5 → ∀ k, n < k → TopNumbers.l1 t k (i : Int) = some (.inr ()) := by
  intro n
  induction n with
  | zero =>
    intro i h k hk
    obtain ⟨k, rfl⟩ : ∃ m, k = m + 1 := ⟨k - 1, by omega⟩
    rw [TopNumbers.l1, if_neg (by omega)]
  | succ n ih =>
    intro i h k hk
    obtain ⟨k, rfl⟩ : ∃ m, k = m + 1 := ⟨k - 1, by omega⟩
    have := hd _ (rd_mem t.1 i (by omega))
    rw [TopNumbers.l1, if_pos (by omega), gd_pos (by omega), if_neg (by omega), w64 (by omega) (by omega), show ((i : Int) + 1) = ((i + 1 : Nat) : Int) by omega]
    exact ih (i + 1) (by omega) k (by omega)
theorem Pure.TopNumbers : ∀ (a0 : List Int), (∀ x ∈ a0, (Lit.int .u64 x).wf = true) → a0.length ≤ 1048576 → ∃ K, TopNumbers.f K a0 = some true := by
  intro l h0 hl
  have hw : ∀ x ∈ l, 0 ≤ x ∧ x < 18446744073709551616 := fun x hx => wfu64 (h0 x hx)
  refine ⟨20000000, ?_⟩
  obtain ⟨K, hK⟩ : ∃ K, K = 20000000 := ⟨_, rfl⟩
  rw [← hK]
  have hfl := flat_len l hw
  have hL : IsNums (encP l 0) (flat l) 0 := by
    have := nums_enc l 0 [] [] hw (by simp [Byt]) (by simp only [List.append_nil]; exact Nat.le_trans hfl (by omega)) (fun t ht h0 => by
      obtain ⟨j, h, _⟩ := DecR.num (by simp [Byt]) ht h0
      simp at h)
    simpa using this
  obtain ⟨a, ha⟩ : ∃ a, a = flat l := ⟨_, rfl⟩
  have hal : a.length ≤ 10 * l.length := by rw [ha]; exact hfl
  have hB : Byt a := ha ▸ flat_byt l
  rw [← ha] at hL
  unfold TopNumbers.f
  refine bind_of (v := [172, 2]) ((Encode.one 300 (by omega) K (by omega)).trans (congrArg some e300)) ?_
  refine bind_of (v := a) ((Encode.eq l hw (by omega) K (by omega) (by omega)).trans (congrArg some ha.symm)) ?_
  rw [if_neg (by decide), Size.eq l hw (by omega) K (by omega), ← ha, Option.bind_some, Option.bind_some, if_neg (by simp)]
  refine bind_of (v := ()) rfl ?_
  rw [AllF.eq _ _ a hB (by omega) (encP l 0) hL K (by omega) (by rw [encP_len]; omega)]
  have l2 := fun (step : Int × Int → Int × Int → Option ((Int × Int) ⊕ (Int × Int))) => foldE_all step (encP l 0) (fun n => (((flat (l.take n)).length : Int), (n : Int)))
  simp only [List.take_zero, encP_len, List.take_length, ← ha] at l2
  refine bind_of (l2 _ fun n h => ?_) ?_
  · have hn : n < l.length := by exact h
    have hg := encP_get l 0 n hn (by rw [encP_len]; exact hn)
    rw [Nat.zero_add] at hg
    have hr : rd l (n : Int) = l[n] := rd_nat l n hn
    obtain ⟨hx0, hx1⟩ := hw _ (List.getElem_mem hn)
    obtain ⟨x, hx⟩ : ∃ x : Nat, l[n] = (x : Int) := ⟨l[n].toNat, by omega⟩
    have hf : (flat (l.take n)).length ≤ 10 * (l.take n).length := flat_len (l.take n) (fun y hy => hw y (List.mem_of_mem_take hy))
    have hle := enc1_len (n := x) (by omega)
    have ht : (flat (l.take (n + 1))).length = (flat (l.take n)).length + (enc1 x).length := by
      rw [← List.take_append_getElem hn, hx]; simp [flat]
    rw [List.length_take] at hf
    change ((encP l 0)[n]'(by rw [encP_len]; exact hn)) = _ at hg
    rw [hg]
    simp only
    rw [if_neg (by omega), if_neg (by simp), gd_pos (by omega), gd_pos (by omega), hr, Option.bind_some, if_neg (by simp), gd_pos (by omega), gd_pos (by omega), hx, Size.one x (by omega) K (by omega), Option.bind_some, w64 (by omega) (by omega), w64 (by omega) (by omega), ht]
    simp
  show Option.bind _ _ = _
  obtain ⟨s, hs, hsum⟩ : ∃ s : Nat, s < 4294967296 ∧ Sum.f K [a] = some (s : Int) := by
    have h := Sum.eq [a] K (by omega) (by intro p hp; rw [List.mem_singleton] at hp; subst hp; exact ⟨hB, by omega, by omega⟩) (by simp) (by simp; omega)
    exact ⟨_, BitVec.isLt _, h⟩
  have hws : IntKind.wrap .u64 (s : Int) = (s : Int) := by rw [wrapU .u64 rfl]; show (s : Int) % 18446744073709551616 = _; omega
  refine bind_of hsum ?_
  simp only
  rw [hws]
  have p5 : (128 : Nat) ^ 5 = 34359738368 := by decide
  obtain ⟨t, ht1, ht2⟩ := Digits.eq s 5 (by omega) K (by omega)
  refine bind_of ht1 ?_
  have ht3 : t.1 = dig 5 s ∧ t.2 = 0 := by
    rcases ht2 with ⟨_, _, h⟩ | ⟨m, hm, _, _, ⟨_, _, h⟩ | ⟨e1, e2, _⟩⟩
    · omega
    · obtain rfl : m = 5 := by omega
      omega
    · obtain rfl : m = 5 := by omega
      exact ⟨e1, e2⟩
  obtain ⟨hd1, hd2⟩ := ht3
  have hd5 : t.1.length = 5 := by rw [hd1, dig_len]
  have hdm : ∀ x ∈ t.1, x < 128 := fun x hx => (dig_mem 5 s x (hd1 ▸ hx)).2
  rw [if_neg (by simp), if_neg (by simp), if_neg (by simp [hd2]), Option.bind_some, if_neg (by simp [hd5])]
  have hj : joined.f t.1 a = some (t.1 ++ a) := by
    unfold joined.f
    rw [gd_pos (by simp; omega), gd_pos (by simp; omega)]; rfl
  refine bind_of hj ?_
  have hB2 : Byt (t.1 ++ a) := Byt.app.2 ⟨by rw [hd1]; exact dig_byt _ _, hB⟩
  obtain ⟨u, hu1, hu2⟩ := Number.eq (t.1 ++ a) 5 hB2 K (by omega)
  refine bind_of hu1 ?_
  have htk : (t.1 ++ a).take 5 = t.1 := by rw [← hd5, List.take_left]
  have hu3 : u.1 = (s : Int) ∧ u.2 = 0 := by
    rcases hu2 with ⟨_, _, h⟩ | ⟨m, hm, _, _, ⟨_, _, h⟩ | ⟨_, _, _, h⟩ | ⟨_, e1, e2, _⟩⟩
    · omega
    · obtain rfl : m = 5 := by omega
      rw [List.length_append] at h; omega
    · obtain rfl : m = 5 := by omega
      rw [htk] at h; exact absurd hdm h
    · obtain rfl : m = 5 := by omega
      rw [htk, hd1, bv_dig, p5, Nat.mod_eq_of_lt (by omega)] at e1
      exact ⟨e1, e2⟩
  refine thn_of (TopNumbers.l1_eq t hd5 hdm 5 0 (by omega) K (by omega)) ?_
  rw [if_pos hu3.2, hu3.1]
  simp
end Go.Proofs.Ytocfkhpfpepcmaa
