/- Own text. Sums of texts put together bit by bit: the plain part of the law CrcPut. Conditions: bytes. -/
import Derived.Test.YtghlmkbchdmnoaaPureF
import Derived.Test.YtghlmkbchdmnoaaLiftP
set_option linter.unusedSimpArgs false
set_option linter.unusedVariables false
set_option maxRecDepth 10000
namespace Go.Proofs.Ytghlmkbchdmnoaa
open Go Go.Sx

/-- Bytes, put together bit by bit. -/
def xl (a b : List Int) : List Int := List.zipWith (fun p q => Sx.bits .xor .u8 p q) a b
theorem by_xor {p q : Int} (hp : 0 ≤ p ∧ p < 256) (hq : 0 ≤ q ∧ q < 256) : by_ (Sx.bits .xor .u8 p q) = by_ p ^^^ by_ q ∧ 0 ≤ Sx.bits .xor .u8 p q ∧ Sx.bits .xor .u8 p q < 256 := by
  obtain ⟨n, rfl⟩ : ∃ n : Nat, p = n := ⟨p.toNat, by omega⟩
  obtain ⟨m, rfl⟩ : ∃ n : Nat, q = n := ⟨q.toNat, by omega⟩
  rw [bits_xor .u8 rfl n m (by show n < 256; omega) (by show m < 256; omega)]
  have hx : n ^^^ m < 2 ^ 8 := Nat.xor_lt_two_pow (by omega) (by omega)
  refine ⟨?_, by omega, by omega⟩
  unfold by_
  rw [Int.toNat_natCast, Int.toNat_natCast, Int.toNat_natCast, BitVec.ofNat_xor]
theorem xl_byt : ∀ (a b : List Int), Byt a → Byt b → Byt (xl a b)
  | [], _, _, _ => by intro y hy; simp [xl] at hy
  | _ :: _, [], _, _ => by intro y hy; simp [xl] at hy
  | p :: a, q :: b, ha, hb => by
    intro y hy
    rcases List.mem_cons.1 hy with rfl | h
    · exact (by_xor (ha p List.mem_cons_self) (hb q List.mem_cons_self)).2
    · exact xl_byt a b (fun z hz => ha z (List.mem_cons_of_mem _ hz)) (fun z hz => hb z (List.mem_cons_of_mem _ hz)) y h
theorem xl_len (a b : List Int) (h : a.length = b.length) : (xl a b).length = a.length := by simp [xl, h]
theorem ac5 (s t u p q : W) : s ^^^ t ^^^ u ^^^ (p ^^^ q) = (s ^^^ p) ^^^ (t ^^^ q) ^^^ u := by ac_rfl
theorem by_zero : by_ 0 = 0#32 := rfl
theorem run_mix : ∀ (a b : List Int) (s t u : W), Byt a → Byt b → a.length = b.length → run (s ^^^ t ^^^ u) (xl a b) = run s a ^^^ run t b ^^^ run u (List.replicate a.length 0)
  | [], [], _, _, _, _, _, _ => rfl
  | [], _ :: _, _, _, _, _, _, h => by simp at h
  | _ :: _, [], _, _, _, _, _, h => by simp at h
  | p :: a, q :: b, s, t, u, ha, hb, h => by
    show run (T (s ^^^ t ^^^ u ^^^ by_ (Sx.bits .xor .u8 p q))) (xl a b) = run (T (s ^^^ by_ p)) a ^^^ run (T (t ^^^ by_ q)) b ^^^ run (T (u ^^^ by_ 0)) (List.replicate a.length 0)
    rw [(by_xor (ha p List.mem_cons_self) (hb q List.mem_cons_self)).1, ac5, T_xor, T_xor, by_zero, BitVec.xor_zero]
    exact run_mix a b _ _ _ (fun z hz => ha z (List.mem_cons_of_mem _ hz)) (fun z hz => hb z (List.mem_cons_of_mem _ hz)) (by simpa using h)
theorem not3 (p q r : W) : ~~~(p ^^^ q ^^^ r) = ~~~p ^^^ ~~~q ^^^ ~~~r := by
  apply BitVec.eq_of_getLsbD_eq
  intro i hi
  simp only [BitVec.getLsbD_not, BitVec.getLsbD_xor, hi, decide_true, Bool.true_and]
  cases p.getLsbD i <;> cases q.getLsbD i <;> cases r.getLsbD i <;> rfl
theorem goOn_mix (a b : List Int) (ha : Byt a) (hb : Byt b) (h : a.length = b.length) : goOn 0#32 (xl a b) = goOn 0#32 a ^^^ goOn 0#32 b ^^^ goOn 0#32 (List.replicate a.length 0) := by
  unfold goOn
  have e : (~~~0#32 : W) = ~~~0#32 ^^^ ~~~0#32 ^^^ ~~~0#32 := by decide
  rw [← not3, ← run_mix a b _ _ _ ha hb h, ← e]
theorem CrcPut.l1_eq (n : Nat) (a b : List Int) (hna : n ≤ a.length) (hnb : n ≤ b.length) (hn : n ≤ 140737488355328) (z : List Int) (hz : z = xl (a.take n) (b.take n)) : ∀ (m i : Nat) (x : List Int), x.length = n → i + m = n → ∀ k, m < k → CrcPut.l1 (n : Int) a b k (x, (i : Int)) = some (x.take i ++ z.drop i) := by
  have hzl : z.length = n := by rw [hz, xl_len _ _ (by simp; omega)]; simp; omega
  intro m
  induction m with
  | zero =>
    intro i x hx h k hk
    obtain ⟨k, rfl⟩ : ∃ m, k = m + 1 := ⟨k - 1, by omega⟩
    rw [CrcPut.l1]; simp only
    rw [if_neg (by omega), List.take_of_length_le (by omega), List.drop_of_length_le (by omega), List.append_nil]
  | succ m ih =>
    intro i x hx h k hk
    obtain ⟨k, rfl⟩ : ∃ m, k = m + 1 := ⟨k - 1, by omega⟩
    have hv : rd z (i : Int) = Sx.bits .xor .u8 (rd a (i : Int)) (rd b (i : Int)) := by
      rw [rd_nat z i (by omega), rd_nat a i (by omega), rd_nat b i (by omega)]
      subst hz
      simp [xl]
    rw [CrcPut.l1]; simp only
    rw [if_pos (by omega), gd_pos (by omega), gd_pos (by omega), gd_pos (by omega), gd_pos (by omega), gd_pos (by omega), gd_pos (by omega), Int.toNat_natCast, ← hv, w64 (by omega) (by omega), show ((i : Int) + 1) = ((i + 1 : Nat) : Int) by omega, ih (i + 1) _ (by simpa using hx) (by omega) k (by omega)]
    congr 1
    obtain ⟨v, hv2⟩ : ∃ v, v = rd z (i : Int) := ⟨_, rfl⟩
    have e1 : (x.set i v).take (i + 1) = x.take i ++ [v] := by
      rw [take_snoc _ _ (by simp; omega), rd_nat (x.set i v) i (by simp; omega), List.take_set, List.set_eq_of_length_le (by simp; omega)]; simp
    rw [drop_cons z i (by omega), ← hv2, e1, List.append_assoc]; rfl
theorem Pure.CrcPut : ∀ (a0 : List Int) (a1 : List Int), (∀ x ∈ a0, (Lit.int .u8 x).wf = true) → a0.length * 1 ≤ 140737488351232 → (∀ x ∈ a1, (Lit.int .u8 x).wf = true) → a1.length * 1 ≤ 140737488351232 → ∃ K, CrcPut.f K a0 a1 = some true := by
  intro a b ha hla hb hlb
  have ha := Byt.of ha
  have hb := Byt.of hb
  obtain ⟨n, hn, hna, hnb⟩ : ∃ n : Nat, (if (b.length : Int) < (a.length : Int) then (some (b.length : Int)) else (some (a.length : Int))) = some (n : Int) ∧ n ≤ a.length ∧ n ≤ b.length := by
    by_cases h : (b.length : Int) < (a.length : Int)
    · exact ⟨b.length, if_pos h, by omega, by omega⟩
    · exact ⟨a.length, if_neg h, by omega, by omega⟩
  refine ⟨n + 400, ?_⟩
  generalize hK : n + 400 = K
  have sum1 : ∀ x : List Int, Byt x → x.length = n → Sum.f K [x] = some (iv (goOn 0#32 x)) := by
    intro x hx hxl
    have := Sum.eq [x] K (by omega) (fun p hp => by simp at hp; subst hp; exact ⟨hx, by omega, by omega⟩) (by simp) (by simp; omega)
    simpa using this
  have hat : (a.take n).length = n := by simp; omega
  have hbt : (b.take n).length = n := by simp; omega
  have hxb := xl_byt _ _ (ha.take n) (hb.take n)
  have hxl := xl_len (a.take n) (b.take n) (by omega)
  have hrb : Byt (List.replicate n (0 : Int)) := by
    intro y hy
    rw [List.mem_replicate] at hy
    omega
  unfold CrcPut.f
  rw [known.eq K (by omega), Option.bind_some]
  refine bind_of hn ?_
  rw [gd_pos (by omega), Int.toNat_natCast]
  refine bind_of (v := xl (a.take n) (b.take n)) ((CrcPut.l1_eq n a b hna hnb (by omega) _ rfl n 0 _ (by simp) (by omega) K (by omega)).trans (by simp)) ?_
  rw [if_pos rfl, gd_pos (by omega), gd_pos (by omega), List.drop_zero, List.drop_zero, sum1 _ hxb (by omega), Option.bind_some, sum1 _ (ha.take n) hat, Option.bind_some, sum1 _ (hb.take n) hbt, Option.bind_some, gd_pos (by omega), sum1 _ hrb (by simp), Option.bind_some, iv_xor, iv_xor, goOn_mix _ _ (ha.take n) (hb.take n) (by omega), hat]
  simp
end Go.Proofs.Ytghlmkbchdmnoaa
