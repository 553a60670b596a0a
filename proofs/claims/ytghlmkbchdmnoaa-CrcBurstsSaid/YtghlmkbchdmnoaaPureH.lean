/- Own text. A burst of at most thirty-two bits is seen: the plain part of the law CrcBursts. Conditions: bytes. -/
import Derived.Test.YtghlmkbchdmnoaaPureF
import Derived.Test.YtghlmkbchdmnoaaLiftB
set_option linter.unusedSimpArgs false
set_option linter.unusedVariables false
set_option maxRecDepth 10000
namespace Go.Proofs.Ytghlmkbchdmnoaa
open Go Go.Sx

theorem step_inj0 (x : W) (h : step x = 0#32) : x = 0#32 := by
  have h31 : x.getLsbD 0 = false := by
    have := congrArg (fun y : W => y.getLsbD 31) h
    simp only [step_eq, BitVec.getLsbD_xor, BitVec.getLsbD_ushiftRight] at this
    cases hx : x.getLsbD 0 with
    | false => rfl
    | true => rw [hx, if_pos rfl, BitVec.getLsbD_of_ge x _ (by omega)] at this; revert this; decide
  rw [step_eq, h31, if_neg (by simp), BitVec.xor_zero] at h
  apply BitVec.eq_of_getLsbD_eq
  intro i hi
  rcases Nat.eq_zero_or_pos i with rfl | hp
  · rw [h31]; simp
  · have := congrArg (fun y : W => y.getLsbD (i - 1)) h
    simp only [BitVec.getLsbD_ushiftRight] at this
    rw [show 1 + (i - 1) = i by omega] at this
    rw [this]; simp
theorem steps_inj0 : ∀ k x, steps k x = 0#32 → x = 0#32
  | 0, x, h => h
  | k + 1, x, h => step_inj0 x (steps_inj0 k _ h)
theorem run_xor : ∀ (l : List Int) (a b : W), run (a ^^^ b) l = run a l ^^^ steps (8 * l.length) b
  | [], a, b => rfl
  | c :: r, a, b => by
    show run (T (a ^^^ b ^^^ by_ c)) r = run (T (a ^^^ by_ c)) r ^^^ _
    have e : a ^^^ b ^^^ by_ c = (a ^^^ by_ c) ^^^ b := by rw [BitVec.xor_assoc, BitVec.xor_comm b, ← BitVec.xor_assoc]
    rw [e, T_xor, run_xor r, show 8 * (c :: r).length = 8 + 8 * r.length by simp; omega, steps_add]
    rfl
theorem T_one (k : Nat) (hk : k < 8) : T (1#32 <<< k) = steps (8 - k) 1#32 := by
  have h : ∀ i : Fin 8, T (1#32 <<< i.val) = steps (8 - i.val) 1#32 := by decide +kernel
  exact h ⟨k, hk⟩
theorem steps_one (k : Nat) (hk : k < 32) : steps k (1#32 <<< k) = 1#32 := by
  have h : ∀ i : Fin 32, steps i.val (1#32 <<< i.val) = 1#32 := by decide +kernel
  exact h ⟨k, hk⟩
theorem flip_by {c : Int} (h : 0 ≤ c ∧ c < 256) (k : Nat) (hk : k < 8) : by_ (Sx.bits .xor .u8 c (Sx.shl .u8 1 (k : Int))) = by_ c ^^^ (1#32 <<< k) ∧ 0 ≤ Sx.bits .xor .u8 c (Sx.shl .u8 1 (k : Int)) ∧ Sx.bits .xor .u8 c (Sx.shl .u8 1 (k : Int)) < 256 := by
  obtain ⟨n, rfl⟩ : ∃ n : Nat, c = n := ⟨c.toNat, by omega⟩
  have hs : Sx.shl .u8 1 (k : Int) = ((2 ^ k : Nat) : Int) := by
    have h : ∀ i : Fin 8, Sx.shl .u8 1 ((i.val : Nat) : Int) = ((2 ^ i.val : Nat) : Int) := by decide +kernel
    exact h ⟨k, hk⟩
  have ho : BitVec.ofNat 32 (2 ^ k) = 1#32 <<< k := by
    have h : ∀ i : Fin 8, BitVec.ofNat 32 (2 ^ i.val) = 1#32 <<< i.val := by decide +kernel
    exact h ⟨k, hk⟩
  have h2 : 2 ^ k < 2 ^ 8 := Nat.pow_lt_pow_right (by decide) hk
  rw [hs, bits_xor .u8 rfl n (2 ^ k) (by show n < 256; omega) (by show 2 ^ k < 256; omega)]
  have hx : n ^^^ 2 ^ k < 2 ^ 8 := Nat.xor_lt_two_pow (by omega) h2
  refine ⟨?_, by omega, by omega⟩
  unfold by_
  rw [Int.toNat_natCast, Int.toNat_natCast, ← ho, BitVec.ofNat_xor]
/-- A bit, turned. -/
def flip (l : List Int) (m : Nat) : List Int := l.set (m / 8) (Sx.bits .xor .u8 (rd l ((m / 8 : Nat) : Int)) (Sx.shl .u8 1 ((m % 8 : Nat) : Int)))
theorem flip_len (l : List Int) (m : Nat) : (flip l m).length = l.length := by unfold flip; rw [List.length_set]
theorem flip_byt (l : List Int) (m : Nat) (hb : Byt l) (h : m < 8 * l.length) : Byt (flip l m) := by
  intro y hy
  unfold flip at hy
  rcases List.mem_or_eq_of_mem_set hy with h1 | h1
  · exact hb y h1
  · rw [h1]; exact (flip_by (hb _ (rd_mem l _ (by omega))) _ (by omega)).2
theorem run_flip : ∀ (l : List Int) (m : Nat) (s : W), Byt l → m < 8 * l.length → run s (flip l m) = run s l ^^^ steps (8 * l.length - m) 1#32
  | [], m, s, _, h => by simp at h
  | c :: r, m, s, hb, h => by
    rw [List.length_cons] at h ⊢
    by_cases h8 : m < 8
    · have e : flip (c :: r) m = Sx.bits .xor .u8 c (Sx.shl .u8 1 (m : Int)) :: r := by
        unfold flip; rw [Nat.div_eq_of_lt h8, Nat.mod_eq_of_lt h8]; rfl
      rw [e]
      show run (T (s ^^^ by_ _)) r = run (T (s ^^^ by_ c)) r ^^^ _
      rw [(flip_by (hb c List.mem_cons_self) m h8).1, ← BitVec.xor_assoc, T_xor, run_xor, T_one m h8, ← steps_add, show 8 * (r.length + 1) - m = 8 - m + 8 * r.length by omega]
    · have e : flip (c :: r) m = c :: flip r (m - 8) := by
        unfold flip
        rw [show m / 8 = (m - 8) / 8 + 1 by omega, show m % 8 = (m - 8) % 8 by omega, List.set_cons_succ]
        have : rd (c :: r) (((m - 8) / 8 + 1 : Nat) : Int) = rd r (((m - 8) / 8 : Nat) : Int) := by simp only [rd, Int.toNat_natCast, List.getD_cons_succ]
        rw [this]
      rw [e]
      show run (T (s ^^^ by_ c)) (flip r (m - 8)) = run (T (s ^^^ by_ c)) r ^^^ _
      rw [run_flip r (m - 8) _ (fun y hy => hb y (List.mem_cons_of_mem _ hy)) (by omega), show 8 * (r.length + 1) - m = 8 * r.length - (m - 8) by omega]
theorem low1 (w : W) : Int.tmod (Sx.shr .u32 (Sx.bits .or .u32 (iv w) 1) ((0 : Nat) : Int)) 2 = 1 := by
  have h1 : Sx.bits .or .u32 (iv w) 1 = iv (w ||| 1#32) := iv_or w 1#32
  rw [h1, iv_shr _ 0 (by decide), BitVec.ushiftRight_zero]
  unfold iv
  have h2 : (w ||| 1#32).toNat % 2 = 1 := by
    rw [BitVec.toNat_or]
    simp
  rw [Int.tmod_eq_emod_of_nonneg (by omega)]; omega
theorem mix (a b c : W) (k : Nat) : a ^^^ steps k b ^^^ steps k c = a ^^^ steps k (b ^^^ c) := by rw [steps_xor, BitVec.xor_assoc]
theorem CrcBursts.l1_eq (a1 a2 : Int) (a0 : List Int) (s : W) (at_ : Nat) (hl : a0.length ≤ 140737488351232) (hat : IntKind.wrap .i64 (0 - (Int.tmod a1 ((8 * a0.length : Nat) : Int))) = (at_ : Int)) (ha : at_ < 8 * a0.length) (hlow : Int.tmod (Sx.shr .u32 (Sx.bits .or .u32 a2 1) ((0 : Nat) : Int)) 2 = 1) :
    ∀ (n i : Nat) (x : List Int) (Q : W), i + n = 32 → Byt x → x.length = a0.length → run s x = run s a0 ^^^ steps (8 * a0.length - at_) Q → (i = 0 → Q = 0#32) → (1 ≤ i → Q.getLsbD 0 = true) → ∀ k, n < k →
    ∃ y, CrcBursts.l1 a1 a0 a2 k (x, (i : Int)) = some y ∧ Byt y ∧ y.length = a0.length ∧ ∃ R : W, run s y = run s a0 ^^^ steps (8 * a0.length - at_) R ∧ R.getLsbD 0 = true := by
  have hN8 : IntKind.wrap .i64 (8 * (a0.length : Int)) = ((8 * a0.length : Nat) : Int) := by rw [w64 (by omega) (by omega)]; omega
  intro n
  induction n with
  | zero =>
    intro i x Q h hx hxl hr h0 h1 k hk
    obtain ⟨k, rfl⟩ : ∃ m, k = m + 1 := ⟨k - 1, by omega⟩
    rw [CrcBursts.l1]; simp only
    rw [if_neg (by omega), Option.bind_some, if_neg (by simp)]
    exact ⟨x, rfl, hx, hxl, Q, hr, h1 (by omega)⟩
  | succ n ih =>
    intro i x Q h hx hxl hr h0 h1 k hk
    obtain ⟨k, rfl⟩ : ∃ m, k = m + 1 := ⟨k - 1, by omega⟩
    have hm : IntKind.wrap .i64 ((at_ : Int) + (i : Int)) = ((at_ + i : Nat) : Int) := by rw [w64 (by omega) (by omega)]; omega
    rw [CrcBursts.l1]; simp only
    rw [hN8, hat, hm, if_pos (by omega), Option.bind_some]
    by_cases hin : at_ + i < 8 * a0.length
    · have hdv : IntKind.wrap .i64 (Int.tdiv ((at_ + i : Nat) : Int) 8) = (((at_ + i) / 8 : Nat) : Int) := by
        rw [Int.tdiv_eq_ediv_of_nonneg (by omega), w64 (by omega) (by omega)]; omega
      have hmd : Int.tmod ((at_ + i : Nat) : Int) 8 = (((at_ + i) % 8 : Nat) : Int) := by
        rw [Int.tmod_eq_emod_of_nonneg (by omega)]; omega
      rw [hdv, hmd, if_pos (by rw [decide_eq_true_eq]; omega), gd_pos (by omega)]
      by_cases hc : Int.tmod (Sx.shr .u32 (Sx.bits .or .u32 a2 1) (i : Int)) 2 = 1
      · rw [if_pos hc, gd_pos (by omega), gd_pos (by omega), gd_pos (by omega), gd_pos (by omega), gd_pos (by omega), Option.bind_some, w64 (n := (i : Int) + 1) (by omega) (by omega), Int.toNat_natCast, show ((i : Int) + 1) = ((i + 1 : Nat) : Int) by omega]
        refine ih (i + 1) (flip x (at_ + i)) (Q ^^^ (1#32 <<< i)) (by omega) (flip_byt x _ hx (by omega)) (by rw [flip_len, hxl]) ?_ (fun e => by omega) (fun _ => ?_) k (by omega)
        · rw [run_flip x _ s hx (by omega), hr, ← mix, hxl]
          congr 1
          rw [show 8 * a0.length - at_ = i + (8 * a0.length - (at_ + i)) by omega, steps_add, steps_one i (by omega)]
        · rw [BitVec.getLsbD_xor]
          rcases Nat.eq_zero_or_pos i with rfl | hp
          · rw [h0 rfl]; decide
          · rw [h1 hp, BitVec.getLsbD_shiftLeft]; simp; omega
      · have hp : 1 ≤ i := by
          rcases Nat.eq_zero_or_pos i with rfl | hp
          · exact absurd hlow hc
          · exact hp
        rw [if_neg hc, Option.bind_some, w64 (n := (i : Int) + 1) (by omega) (by omega), show ((i : Int) + 1) = ((i + 1 : Nat) : Int) by omega]
        exact ih (i + 1) x Q (by omega) hx hxl hr (fun e => by omega) (fun _ => h1 hp) k (by omega)
    · rw [if_neg (by rw [decide_eq_true_eq]; omega)]
      exact ⟨x, rfl, hx, hxl, Q, hr, h1 (by omega)⟩
theorem CrcBursts.l2_eq (a1 a2 : Int) (a0 : List Int) (s : W) (at_ : Nat) (hl : a0.length ≤ 140737488351232) (hat : Int.tmod a1 ((8 * a0.length : Nat) : Int) = (at_ : Int)) (ha : at_ < 8 * a0.length) (hlow : Int.tmod (Sx.shr .u32 (Sx.bits .or .u32 a2 1) ((0 : Nat) : Int)) 2 = 1) :
    ∀ (n i : Nat) (x : List Int) (Q : W), i + n = 32 → Byt x → x.length = a0.length → run s x = run s a0 ^^^ steps (8 * a0.length - at_) Q → (i = 0 → Q = 0#32) → (1 ≤ i → Q.getLsbD 0 = true) → ∀ k, n < k →
    ∃ y, CrcBursts.l2 a1 a0 a2 k (x, (i : Int)) = some y ∧ Byt y ∧ y.length = a0.length ∧ ∃ R : W, run s y = run s a0 ^^^ steps (8 * a0.length - at_) R ∧ R.getLsbD 0 = true := by
  have hN8 : IntKind.wrap .i64 (8 * (a0.length : Int)) = ((8 * a0.length : Nat) : Int) := by rw [w64 (by omega) (by omega)]; omega
  intro n
  induction n with
  | zero =>
    intro i x Q h hx hxl hr h0 h1 k hk
    obtain ⟨k, rfl⟩ : ∃ m, k = m + 1 := ⟨k - 1, by omega⟩
    rw [CrcBursts.l2]; simp only
    rw [if_neg (by omega), Option.bind_some, if_neg (by simp)]
    exact ⟨x, rfl, hx, hxl, Q, hr, h1 (by omega)⟩
  | succ n ih =>
    intro i x Q h hx hxl hr h0 h1 k hk
    obtain ⟨k, rfl⟩ : ∃ m, k = m + 1 := ⟨k - 1, by omega⟩
    have hm : IntKind.wrap .i64 ((at_ : Int) + (i : Int)) = ((at_ + i : Nat) : Int) := by rw [w64 (by omega) (by omega)]; omega
    rw [CrcBursts.l2]; simp only
    rw [hN8, hat, hm, if_pos (by omega), Option.bind_some]
    by_cases hin : at_ + i < 8 * a0.length
    · have hdv : IntKind.wrap .i64 (Int.tdiv ((at_ + i : Nat) : Int) 8) = (((at_ + i) / 8 : Nat) : Int) := by
        rw [Int.tdiv_eq_ediv_of_nonneg (by omega), w64 (by omega) (by omega)]; omega
      have hmd : Int.tmod ((at_ + i : Nat) : Int) 8 = (((at_ + i) % 8 : Nat) : Int) := by
        rw [Int.tmod_eq_emod_of_nonneg (by omega)]; omega
      rw [hdv, hmd, if_pos (by rw [decide_eq_true_eq]; omega), gd_pos (by omega)]
      by_cases hc : Int.tmod (Sx.shr .u32 (Sx.bits .or .u32 a2 1) (i : Int)) 2 = 1
      · rw [if_pos hc, gd_pos (by omega), gd_pos (by omega), gd_pos (by omega), gd_pos (by omega), gd_pos (by omega), Option.bind_some, w64 (n := (i : Int) + 1) (by omega) (by omega), Int.toNat_natCast, show ((i : Int) + 1) = ((i + 1 : Nat) : Int) by omega]
        refine ih (i + 1) (flip x (at_ + i)) (Q ^^^ (1#32 <<< i)) (by omega) (flip_byt x _ hx (by omega)) (by rw [flip_len, hxl]) ?_ (fun e => by omega) (fun _ => ?_) k (by omega)
        · rw [run_flip x _ s hx (by omega), hr, ← mix, hxl]
          congr 1
          rw [show 8 * a0.length - at_ = i + (8 * a0.length - (at_ + i)) by omega, steps_add, steps_one i (by omega)]
        · rw [BitVec.getLsbD_xor]
          rcases Nat.eq_zero_or_pos i with rfl | hp
          · rw [h0 rfl]; decide
          · rw [h1 hp, BitVec.getLsbD_shiftLeft]; simp; omega
      · have hp : 1 ≤ i := by
          rcases Nat.eq_zero_or_pos i with rfl | hp
          · exact absurd hlow hc
          · exact hp
        rw [if_neg hc, Option.bind_some, w64 (n := (i : Int) + 1) (by omega) (by omega), show ((i : Int) + 1) = ((i + 1 : Nat) : Int) by omega]
        exact ih (i + 1) x Q (by omega) hx hxl hr (fun e => by omega) (fun _ => h1 hp) k (by omega)
    · rw [if_neg (by rw [decide_eq_true_eq]; omega)]
      exact ⟨x, rfl, hx, hxl, Q, hr, h1 (by omega)⟩
theorem Pure.CrcBursts : ∀ (a0 : List Int) (a1 : Int) (a2 : Int), (∀ x ∈ a0, (Lit.int .u8 x).wf = true) → a0.length * 1 ≤ 140737488351232 → (Lit.int .i64 a1).wf = true → (Lit.int .u32 a2).wf = true → ∃ K, CrcBursts.f K a0 a1 a2 = some true := by
  intro b a1 a2 hb hl h1 h2
  have hb := Byt.of hb
  obtain ⟨w, rfl⟩ := iv_of (wfu32 h2)
  have hl : b.length ≤ 140737488351232 := by omega
  refine ⟨b.length + 400, ?_⟩
  generalize hK : b.length + 400 = K
  have sum1 : ∀ x : List Int, Byt x → x.length = b.length → Sum.f K [x] = some (iv (goOn 0#32 x)) := by
    intro x hx hxl
    have := Sum.eq [x] K (by omega) (fun p hp => by simp at hp; subst hp; exact ⟨hx, by omega, by omega⟩) (by simp) (by simp; omega)
    simpa using this
  have hN8 : IntKind.wrap .i64 (8 * (b.length : Int)) = ((8 * b.length : Nat) : Int) := by rw [w64 (by omega) (by omega)]; omega
  have hs := sum1 b hb rfl
  have fin : ∀ (y : List Int) (m : Nat) (R : W), run (~~~0#32) y = run (~~~0#32) b ^^^ steps m R → R.getLsbD 0 = true → goOn 0#32 b ≠ goOn 0#32 y := by
    intro y m R h hR he
    unfold goOn at he
    have he := BitVec.not_inj.1 he
    rw [h] at he
    have h0 : steps m R = 0#32 := by
      have := congrArg (fun z => run (~~~0#32) b ^^^ z) he
      simp only [BitVec.xor_self, ← BitVec.xor_assoc, BitVec.zero_xor] at this
      exact this.symm
    rw [steps_inj0 m R h0] at hR
    exact absurd hR (by decide)
  unfold CrcBursts.f
  rw [known.eq K (by omega), Option.bind_some]
  by_cases h0 : b.length = 0
  · rw [if_pos (by omega)]
  · rw [if_neg (by omega), hN8, gd_pos (by omega)]
    have t1 := Int.tmod_lt_of_pos a1 (show (0 : Int) < ((8 * b.length : Nat) : Int) by omega)
    have t2 := Int.lt_tmod_of_pos a1 (show (0 : Int) < ((8 * b.length : Nat) : Int) by omega)
    by_cases hneg : Int.tmod a1 ((8 * b.length : Nat) : Int) < 0
    · rw [if_pos hneg, gd_pos (by simp; omega)]
      obtain ⟨at_, hat⟩ : ∃ n : Nat, - Int.tmod a1 ((8 * b.length : Nat) : Int) = (n : Int) := ⟨(- Int.tmod a1 ((8 * b.length : Nat) : Int)).toNat, by omega⟩
      obtain ⟨y, e1, e2, e3, R, e4, e5⟩ := CrcBursts.l1_eq a1 (iv w) b (~~~0#32) at_ hl (by rw [w64 (by omega) (by omega)]; omega) (by omega) (low1 w) 32 0 b 0#32 rfl hb rfl (by rw [steps_zero, BitVec.xor_zero]) (fun _ => rfl) (fun h => by omega) K (by omega)
      refine bind_of e1 ?_
      rw [if_pos rfl, hs, Option.bind_some, sum1 y e2 e3, Option.bind_some]
      exact congrArg some (decide_eq_true (fun h => fin y _ R e4 e5 (iv_inj.1 h)))
    · rw [if_neg hneg, gd_pos (by simp; omega)]
      obtain ⟨at_, hat⟩ : ∃ n : Nat, Int.tmod a1 ((8 * b.length : Nat) : Int) = (n : Int) := ⟨(Int.tmod a1 ((8 * b.length : Nat) : Int)).toNat, by omega⟩
      obtain ⟨y, e1, e2, e3, R, e4, e5⟩ := CrcBursts.l2_eq a1 (iv w) b (~~~0#32) at_ hl hat (by omega) (low1 w) 32 0 b 0#32 rfl hb rfl (by rw [steps_zero, BitVec.xor_zero]) (fun _ => rfl) (fun h => by omega) K (by omega)
      refine bind_of e1 ?_
      rw [if_pos rfl, hs, Option.bind_some, sum1 y e2 e3, Option.bind_some]
      exact congrArg some (decide_eq_true (fun h => fin y _ R e4 e5 (iv_inj.1 h)))
end Go.Proofs.Ytghlmkbchdmnoaa
