/- Own text. A run of bits turned in a frame's body, or a digit of its sum, is told; the plain part of the law FrameHit. Conditions: whole numbers in their types' bounds. -/
import Derived.Test.YtakolnamobkkkaaPureK
import Derived.Test.YtakolnamobkkkaaLift8
set_option linter.unusedSimpArgs false
set_option linter.unusedVariables false
set_option maxRecDepth 100000
namespace Go.Proofs.Ytakolnamobkkkaa
open Go Go.Sx

theorem wfu8 {x : Int} (h : (Lit.int .u8 x).wf = true) : 0 ≤ x ∧ x < 256 := by
  simp [Lit.wf, IntKind.min, IntKind.max, IntKind.bits, IntKind.signed] at h; omega
theorem FrameHit.l1_eq (at_ : Nat) (E : List Int) (t5 : List Int × Int) (a2 : Int) (hl : t5.1.length = E.length + 9) (hE : E.length ≤ 1099511627776) (ha : at_ < 8 * E.length) (hlow : Int.tmod (Sx.shr .u32 (Sx.bits .or .u32 a2 1) ((0 : Nat) : Int)) 2 = 1) :
    ∀ (n i : Nat) (x : List Int) (Q : W), i + n = 32 → Hit E at_ i x Q → (1 ≤ i → Q.getLsbD 0 = true) → ∀ k, n < k →
    ∃ y R j, FrameHit.l1 (at_ : Int) t5 a2 k (x, (i : Int)) = some y ∧ Hit E at_ j y R ∧ R.getLsbD 0 = true := by
  have hN8 : IntKind.wrap .i64 (8 * IntKind.wrap .i64 ((t5.1.length : Int) - 9)) = ((8 * E.length : Nat) : Int) := by rw [hl, w64 (n := ((E.length + 9 : Nat) : Int) - 9) (by omega) (by omega), w64 (by omega) (by omega)]; omega
  intro n
  induction n with
  | zero =>
    intro i x Q h hx h1 k hk
    obtain ⟨k, rfl⟩ : ∃ m, k = m + 1 := ⟨k - 1, by omega⟩
    rw [FrameHit.l1]; simp only
    rw [if_neg (by omega), Option.bind_some, if_neg (by simp)]
    exact ⟨x, Q, i, rfl, hx, h1 (by omega)⟩
  | succ n ih =>
    intro i x Q h hx h1 k hk
    obtain ⟨k, rfl⟩ : ∃ m, k = m + 1 := ⟨k - 1, by omega⟩
    have hm : IntKind.wrap .i64 ((at_ : Int) + (i : Int)) = ((at_ + i : Nat) : Int) := by rw [w64 (by omega) (by omega)]; omega
    have hxl := hx.len
    rw [FrameHit.l1]; simp only
    rw [hN8, hm, if_pos (by omega), Option.bind_some]
    by_cases hin : at_ + i < 8 * E.length
    · have hdv : IntKind.wrap .i64 (4 + IntKind.wrap .i64 (Int.tdiv ((at_ + i : Nat) : Int) 8)) = ((4 + (at_ + i) / 8 : Nat) : Int) := by
        rw [Int.tdiv_eq_ediv_of_nonneg (by omega), w64 (n := ((at_ + i : Nat) : Int) / 8) (by omega) (by omega), w64 (by omega) (by omega)]; omega
      have hmd : Int.tmod ((at_ + i : Nat) : Int) 8 = (((at_ + i) % 8 : Nat) : Int) := by
        rw [Int.tmod_eq_emod_of_nonneg (by omega)]; omega
      rw [hdv, hmd, if_pos (by rw [decide_eq_true_eq]; omega), gd_pos (by omega)]
      by_cases hc : Int.tmod (Sx.shr .u32 (Sx.bits .or .u32 a2 1) (i : Int)) 2 = 1
      · rw [if_pos hc, gd_pos (by omega), gd_pos (by omega), gd_pos (by omega), gd_pos (by omega), gd_pos (by omega), Option.bind_some, w64 (n := (i : Int) + 1) (by omega) (by omega), Int.toNat_natCast, show ((i : Int) + 1) = ((i + 1 : Nat) : Int) by omega]
        obtain ⟨h2, h3⟩ := hx.turn (by omega) hin
        refine ih (i + 1) _ _ (by omega) h2 (fun _ => ?_) k (by omega)
        rcases Nat.eq_zero_or_pos i with rfl | hp
        · exact h3
        · rw [BitVec.getLsbD_xor, h1 hp, BitVec.getLsbD_shiftLeft]; simp; omega
      · have hp : 1 ≤ i := by
          rcases Nat.eq_zero_or_pos i with rfl | hp
          · exact absurd hlow hc
          · exact hp
        rw [if_neg hc, Option.bind_some, w64 (n := (i : Int) + 1) (by omega) (by omega), show ((i : Int) + 1) = ((i + 1 : Nat) : Int) by omega]
        exact ih (i + 1) x Q (by omega) hx.skip (fun _ => h1 hp) k (by omega)
    · rw [if_neg (by rw [decide_eq_true_eq]; omega)]
      refine ⟨x, Q, i, rfl, hx, h1 ?_⟩
      omega
theorem bit0 {R : W} (h : R.getLsbD 0 = true) : R ≠ 0#32 := by
  intro e; rw [e] at h; exact absurd h (by decide)
theorem xor_ne (d v : Nat) (hd : d < 256) (hv : 1 ≤ v ∧ v < 256) : Sx.bits .xor .u8 (d : Int) (v : Int) ≠ d ∧ 0 ≤ Sx.bits .xor .u8 (d : Int) (v : Int) ∧ Sx.bits .xor .u8 (d : Int) (v : Int) < 256 := by
  rw [bits_xor .u8 rfl d v (by show d < 256; omega) (by show v < 256; omega)]
  have hx : d ^^^ v < 2 ^ 8 := Nat.xor_lt_two_pow (by omega) (by omega)
  refine ⟨fun h => ?_, by omega, by omega⟩
  have h' : d ^^^ v = d := by omega
  have : d ^^^ (d ^^^ v) = d ^^^ d := by rw [h']
  rw [← Nat.xor_assoc, Nat.xor_self, Nat.zero_xor] at this
  omega
theorem no_at {K : Nat} {b : List Int} (hb : Byt b) (hl : b.length ≤ 1099511627776) (hK : b.length + 2097300 < K) (h : ∀ m g, ¬ FrAt b 0 m g) : ∃ e : Int, e ≠ 0 ∧ fDecode.f K b 0 = some (d16 zeroF 0 e) :=
  fDecode.no K b hb (by omega) hK 0 (fun p n f e hf => by
    obtain rfl : p = 0 := by omega
    exact h n f hf)
theorem Pure.FrameHit (a0_0 a0_1 a0_2 : Int) (a0_3 a0_4 : ByteArray) (a0_5 a0_6 a0_7 a0_8 : Int) (a0_9 : ByteArray) (a0_10 a0_11 a0_12 a0_13 : Int) (a1 a2 a3 a4 : Int) (h1 : (Lit.int .u64 a0_1).wf = true) (h5 : (Lit.int .u64 a0_5).wf = true) (h13 : (Lit.int .u32 a0_13).wf = true) (w1 : (Lit.int .i64 a1).wf = true) (w2 : (Lit.int .u32 a2).wf = true) (w3 : (Lit.int .i64 a3).wf = true) (w4 : (Lit.int .u8 a4).wf = true) : ∃ K, FrameHit.f K a0_0 a0_1 a0_2 a0_3 a0_4 a0_5 a0_6 a0_7 a0_8 a0_9 a0_10 a0_11 a0_12 a0_13 a1 a2 a3 a4 = some true := by
  refine ⟨4000000, ?_⟩
  generalize hK : 4000000 = K
  obtain ⟨f, hf⟩ : ∃ f : D14, f = (a0_0, a0_1, a0_2, a0_3, a0_4, a0_5, a0_6, a0_7, a0_8, a0_9, a0_10, a0_11, a0_12, a0_13) := ⟨_, rfl⟩
  have hw : Wf f := by subst hf; exact ⟨wfu64 h1, wfu64 h5, wfu32 h13⟩
  have hEE : ∀ r, encE K f = some r → fEncode.f K a0_0 a0_1 a0_2 a0_3 a0_4 a0_5 a0_6 a0_7 a0_8 a0_9 a0_10 a0_11 a0_12 a0_13 = some r := by subst hf; exact fun r h => h
  have key : Ans (FrameHit.f K a0_0 a0_1 a0_2 a0_3 a0_4 a0_5 a0_6 a0_7 a0_8 a0_9 a0_10 a0_11 a0_12 a0_13 a1 a2 a3 a4) (fun r => r = true) := by
    unfold FrameHit.f
    rw [known.eq K (by omega), Option.bind_some]
    rcases encE.spec K (by omega) f hw with ⟨hv, hE⟩ | ⟨hv, e, he, hE⟩
    · have hle := frm_le hv
      have hby := frm_byt hv
      have hfl := frm_len f
      have heb := esc_byt (bdy_byt hv.2)
      obtain ⟨E, hEd⟩ : ∃ E, E = esc (bdy f) := ⟨_, rfl⟩
      have hfe := frm_eq f
      rw [← hEd] at hfl hle heb hfe
      rw [hEE _ hE, Option.bind_some, if_neg (by simp), Option.bind_some, if_neg (by rw [decide_eq_true_eq]; show ¬ ((frm f).length : Int) < 10; omega)]
      simp only [List.nil_append]
      have hN8 : IntKind.wrap .i64 (8 * IntKind.wrap .i64 (((frm f).length : Int) - 9)) = ((8 * E.length : Nat) : Int) := by rw [hfl, w64 (n := ((E.length + 9 : Nat) : Int) - 9) (by omega) (by omega), w64 (by omega) (by omega)]; omega
      rw [hN8, gd_pos (by omega)]
      have t1 := Int.tmod_lt_of_pos a1 (show (0 : Int) < ((8 * E.length : Nat) : Int) by omega)
      have t2 := Int.lt_tmod_of_pos a1 (show (0 : Int) < ((8 * E.length : Nat) : Int) by omega)
      refine Ans.bind (Q := fun o => ∃ m : Nat, o = (m : Int) ∧ m < 8 * E.length) (Ans.ite (fun h => Ans.some ?_) (fun h => Ans.some ⟨(Int.tmod a1 ((8 * E.length : Nat) : Int)).toNat, by omega, by omega⟩)) (fun o ho => ?_)
      · rw [w64 (by omega) (by omega)]
        exact ⟨(0 - Int.tmod a1 ((8 * E.length : Nat) : Int)).toNat, by omega, by omega⟩
      obtain ⟨at_, rfl, hat⟩ := ho
      have t3 := Int.tmod_lt_of_pos a3 (show (0 : Int) < 5 by omega)
      have t4 := Int.lt_tmod_of_pos a3 (show (0 : Int) < 5 by omega)
      refine Ans.bind (Q := fun o => ∃ m : Nat, o = (m : Int) ∧ m < 5) (Ans.ite (fun h => Ans.some ?_) (fun h => Ans.some ⟨(Int.tmod a3 5).toNat, by omega, by omega⟩)) (fun o ho => ?_)
      · rw [w64 (by omega) (by omega)]
        exact ⟨(0 - Int.tmod a3 5).toNat, by omega, by omega⟩
      obtain ⟨dg, rfl, hdg⟩ := ho
      refine Ans.gd (by simp; omega) ?_
      obtain ⟨w, rfl⟩ := iv_of (wfu32 w2)
      obtain ⟨y, R, j, e1, e2, e3⟩ := FrameHit.l1_eq at_ E (frm f, 0) (iv w) hfl (by omega) hat (low1 w) 32 0 (frm f) 0#32 rfl (by rw [hfe]; exact Hit.start heb at_) (fun h => by omega) K (by omega)
      refine Ans.bind (Q := fun q => q = y) ⟨y, e1, rfl⟩ (fun q hq => ?_)
      subst hq
      have hyl := e2.len
      obtain ⟨er1, he1, hd1⟩ := no_at (K := K) e2.byt (by omega) (by omega) (fun m g => e2.no (by omega) (bit0 e3) m g)
      have hk : IntKind.wrap .i64 (IntKind.wrap .i64 (((frm f).length : Int) - 5) + (dg : Int)) = ((E.length + 4 + dg : Nat) : Int) := by rw [hfl, w64 (n := ((E.length + 9 : Nat) : Int) - 5) (by omega) (by omega), w64 (by omega) (by omega)]; omega
      refine Ans.bind (Q := fun q => q = d16 zeroF 0 er1) ⟨_, hd1, rfl⟩ (fun q hq => ?_)
      subst hq
      rw [hk]
      refine Ans.gd (by simp; omega) (Ans.gd (by omega) (Ans.gd (by omega) (Ans.gd (by omega) ?_)))
      -- the digit
      have w4 := wfu8 w4
      have t5 := Int.tmod_lt_of_pos a4 (show (0 : Int) < 255 by omega)
      have t6 : 0 ≤ Int.tmod a4 255 := Int.tmod_nonneg 255 w4.1
      obtain ⟨v, hv2, hv3⟩ : ∃ v : Nat, IntKind.wrap .u8 (1 + Int.tmod a4 255) = (v : Int) ∧ 1 ≤ v ∧ v < 256 := ⟨(1 + Int.tmod a4 255).toNat, by rw [wu8 _ (by omega)]; omega, by omega, by omega⟩
      have hm := rd_mem (dig 5 (sumOf E)) dg (by rw [dig_len]; exact hdg)
      obtain ⟨dv, hdv⟩ : ∃ dv : Nat, rd (dig 5 (sumOf E)) (dg : Int) = (dv : Int) := ⟨(rd (dig 5 (sumOf E)) (dg : Int)).toNat, by have := dig_mem _ _ _ hm; omega⟩
      have hdv2 := dig_mem _ _ _ hm
      obtain ⟨x1, x2, x3⟩ := xor_ne dv v (by omega) hv3
      have hset : (frm f).set (Int.toNat ((E.length + 4 + dg : Nat) : Int)) (Sx.bits .xor .u8 (rd (frm f) ((E.length + 4 + dg : Nat) : Int)) (IntKind.wrap .u8 (1 + Int.tmod a4 255))) = [167] ++ (dig 3 E.length ++ (E ++ ((dig 5 (sumOf E)).set dg (Sx.bits .xor .u8 (dv : Int) (v : Int)) ++ []))) := by
        rw [Int.toNat_natCast, hfe, hv2]
        have hl : ([167] ++ (dig 3 E.length ++ E)).length = E.length + 4 := by simp [dig_len]; omega
        have e1 := set_mid ([167] ++ (dig 3 E.length ++ E)) (dig 5 (sumOf E)) [] dg (Sx.bits .xor .u8 (dv : Int) (v : Int)) (by rw [dig_len]; exact hdg)
        have e2 := rd_mid ([167] ++ (dig 3 E.length ++ E)) (dig 5 (sumOf E)) [] dg (by rw [dig_len]; exact hdg)
        rw [hl] at e1 e2
        simp only [List.append_assoc] at e1 e2 ⊢
        rw [e2, hdv]
        exact e1
      rw [hset]
      have hset5 : ((dig 5 (sumOf E)).set dg (Sx.bits .xor .u8 (dv : Int) (v : Int))).length = 5 := by rw [List.length_set, dig_len]
      have hbs : Byt ((dig 5 (sumOf E)).set dg (Sx.bits .xor .u8 (dv : Int) (v : Int))) := by
        intro z hz
        rcases List.mem_or_eq_of_mem_set hz with h | h
        · exact dig_byt _ _ z h
        · rw [h]; exact ⟨x2, x3⟩
      have hne : (dig 5 (sumOf E)).set dg (Sx.bits .xor .u8 (dv : Int) (v : Int)) ≠ dig 5 (sumOf E) := by
        intro h
        have h2 : ((dig 5 (sumOf E)).set dg (Sx.bits .xor .u8 (dv : Int) (v : Int)))[dg]? = (dig 5 (sumOf E))[dg]? := congrArg (fun l => l[dg]?) h
        rw [List.getElem?_set_self (by rw [dig_len]; exact hdg)] at h2
        have h3 : (dig 5 (sumOf E))[dg]? = some (dv : Int) := by
          rw [← hdv]
          have hlt : dg < (dig 5 (sumOf E)).length := by rw [dig_len]; exact hdg
          rw [List.getElem?_eq_getElem hlt]
          congr 1
          simp [rd, List.getD, List.getElem?_eq_getElem hlt]
        rw [h3] at h2
        exact x1 (Option.some.inj h2)
      have hb2 : Byt ([167] ++ (dig 3 E.length ++ (E ++ ((dig 5 (sumOf E)).set dg (Sx.bits .xor .u8 (dv : Int) (v : Int)) ++ [])))) := by
        refine Byt.app.2 ⟨?_, Byt.app.2 ⟨dig_byt _ _, Byt.app.2 ⟨heb, Byt.app.2 ⟨hbs, Byt.nil⟩⟩⟩⟩
        intro z hz; rw [List.mem_singleton] at hz; subst hz; decide
      have hl2 : ([167] ++ (dig 3 E.length ++ (E ++ ((dig 5 (sumOf E)).set dg (Sx.bits .xor .u8 (dv : Int) (v : Int)) ++ [])))).length = E.length + 9 := by
        simp only [List.length_append, dig_len, hset5, List.length_nil, List.length_singleton]; omega
      obtain ⟨er2, he2, hd2⟩ := no_at (K := K) hb2 (by omega) (by omega) (hit_digit E _ (by omega) hset5 hne)
      refine Ans.bind (Q := fun q => q = d16 zeroF 0 er2) ⟨_, hd2, rfl⟩ (fun q hq => ?_)
      subst hq
      rw [if_pos (by trivial), if_pos (by exact he1)]
      exact Ans.some (decide_eq_true he2)
    · rw [hEE _ hE, Option.bind_some, if_pos he, Option.bind_some, if_pos rfl, if_pos (by trivial)]
      exact Ans.some (decide_eq_true he)
  obtain ⟨r, h, hr⟩ := key
  rw [h, hr]
end Go.Proofs.Ytakolnamobkkkaa
