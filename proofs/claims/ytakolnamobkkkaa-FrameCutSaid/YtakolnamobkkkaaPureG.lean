/- Own text. A frame that is cut off is too short; the plain part of the law FrameCut. Conditions: whole numbers in their types' bounds. -/
import Derived.Test.YtakolnamobkkkaaPureF
import Derived.Test.YtakolnamobkkkaaLift7
set_option linter.unusedSimpArgs false
set_option linter.unusedVariables false
set_option maxRecDepth 100000
namespace Go.Proofs.Ytakolnamobkkkaa
open Go Go.Sx

theorem fLength.l1_short (c : List Int) (h3 : c.length < 3) (hd : ∀ x ∈ c, x < 128) : ∀ (n i : Nat), i + n = c.length → ∀ k, n < k → fLength.l1 c k (i : Int) = some (.inl (0, 43)) := by
  intro n
  induction n with
  | zero =>
    intro i h k hk
    obtain ⟨k, rfl⟩ : ∃ m, k = m + 1 := ⟨k - 1, by omega⟩
    rw [fLength.l1, if_pos (by omega), if_pos (by omega)]
  | succ n ih =>
    intro i h k hk
    obtain ⟨k, rfl⟩ : ∃ m, k = m + 1 := ⟨k - 1, by omega⟩
    have := hd _ (rd_mem c i (by omega))
    rw [fLength.l1, if_pos (by omega), if_neg (by omega), gd_pos (by omega), if_neg (by omega), w64 (by omega) (by omega), show ((i : Int) + 1) = ((i + 1 : Nat) : Int) by omega]
    exact ih (i + 1) (by omega) k (by omega)
theorem fDecode.cut (K : Nat) (hK : 20 < K) (b : List Int) (hb : Byt b) (hN : (esc b).length < 2097152) (c : Nat) (h1 : 1 ≤ c) (h2 : c < (frameOf b).length) : Ans (fDecode.f K ((frameOf b).take c) 0) (fun t => t = ((0, 0, 0, ByteArray.empty, ByteArray.empty, 0, 0, 0, 0, ByteArray.empty, 0, 0, 0, 0, 0, 43) : D16)) := by
  have hF := frameOf_len b
  have he := esc_byt hb
  have h3l := dig_len 3 (esc b).length
  have hPl : ((frameOf b).take c).length = c := by simp; omega
  have r0 : rd ((frameOf b).take c) 0 = 167 := by
    have := rd_take (frameOf b) c 0 (by omega) (by omega)
    exact this
  have hd1 : ((frameOf b).take c).drop 1 = (dig 3 (esc b).length ++ (esc b ++ dig 5 (sumOf (esc b)))).take (c - 1) := by
    rw [List.drop_take]; rfl
  have w1 : IntKind.wrap .i64 ((0 : Int) + 1) = 1 := by decide
  have w4 : IntKind.wrap .i64 ((0 : Int) + 4) = 4 := by decide
  unfold fDecode.f
  rw [if_neg (by omega), Option.bind_some, if_neg (by rw [decide_eq_true_eq]; omega), gd_pos (by omega), if_neg (by omega)]
  simp only [w1, w4, List.take_length]
  rw [gd_pos (by rw [hPl]; exact ⟨by decide, by show 1 ≤ c; omega, Nat.le_refl _⟩), show Int.toNat 1 = 1 from rfl, hd1]
  by_cases h4 : 4 ≤ c
  · have e : (dig 3 (esc b).length ++ (esc b ++ dig 5 (sumOf (esc b)))).take (c - 1) = dig 3 (esc b).length ++ (esc b ++ dig 5 (sumOf (esc b))).take (c - 1 - 3) := by
      rw [List.take_append, List.take_of_length_le (by omega), h3l]
    have hlen := fLength.ok K (by omega) (esc b).length hN ((esc b ++ dig 5 (sumOf (esc b))).take (c - 1 - 3)) ((Byt.app.2 ⟨he, dig_byt _ _⟩).take _)
    rw [e]
    refine Ans.bind (Q := fun q => q = (((esc b).length : Int), 0)) ⟨_, hlen, rfl⟩ (fun q hq => ?_)
    subst hq
    have wa : IntKind.wrap .i64 ((4 : Int) + ((esc b).length : Int)) = (((esc b).length + 4 : Nat) : Int) := by rw [w64 (by omega) (by omega)]; omega
    have wb : IntKind.wrap .i64 ((((esc b).length + 4 : Nat) : Int) + 5) = (((esc b).length + 9 : Nat) : Int) := by rw [w64 (by omega) (by omega)]; omega
    simp only [wa, wb]
    rw [if_neg (by simp), if_pos (by omega)]
    exact Ans.some rfl
  · have e : (dig 3 (esc b).length ++ (esc b ++ dig 5 (sumOf (esc b)))).take (c - 1) = (dig 3 (esc b).length).take (c - 1) := by
      rw [List.take_append_of_le_length (by omega)]
    have hs : fLength.f K ((dig 3 (esc b).length).take (c - 1)) = some (0, 43) := by
      unfold fLength.f
      exact thn_ofL (fLength.l1_short _ (by simp; omega) (fun x hx => (dig_mem 3 _ x (List.mem_of_mem_take hx)).2) ((dig 3 (esc b).length).take (c - 1)).length 0 (by omega) K (by simp; omega))
    rw [e]
    refine Ans.bind (Q := fun q => q = ((0 : Int), (43 : Int))) ⟨_, hs, rfl⟩ (fun q hq => ?_)
    subst hq
    rw [if_pos (by decide)]
    exact Ans.some rfl
theorem Pure.FrameCut (a0_0 a0_1 a0_2 : Int) (a0_3 a0_4 : ByteArray) (a0_5 a0_6 a0_7 a0_8 : Int) (a0_9 : ByteArray) (a0_10 a0_11 a0_12 a0_13 : Int) (a1 : Int) (h1 : (Lit.int .u64 a0_1).wf = true) (h5 : (Lit.int .u64 a0_5).wf = true) : ∃ K, FrameCut.f K a0_0 a0_1 a0_2 a0_3 a0_4 a0_5 a0_6 a0_7 a0_8 a0_9 a0_10 a0_11 a0_12 a0_13 a1 = some true := by
  refine ⟨2100000, ?_⟩
  generalize hK : 2100000 = K
  have key : Ans (FrameCut.f K a0_0 a0_1 a0_2 a0_3 a0_4 a0_5 a0_6 a0_7 a0_8 a0_9 a0_10 a0_11 a0_12 a0_13 a1) (fun r => r = true) := by
    unfold FrameCut.f
    refine Ans.bind (Q := fun v => v = true) ⟨true, known.eq K (by omega), rfl⟩ (fun t3 ht3 => ?_)
    subst ht3
    refine Ans.bind (fEncode.ans K (by omega) _ _ _ _ _ _ _ _ _ _ _ _ _ _ (wfu64 h1) (wfu64 h5)) (fun t5 h5' => ?_)
    rcases h5' with ⟨hne, _⟩ | ⟨h0, b, _, hb, hl1, hl2, hF⟩
    · rw [if_pos hne, Option.bind_some, if_pos rfl, if_pos rfl]
      exact Ans.some (decide_eq_true hne)
    · have hlen := frameOf_len b
      have hle := (esc_le b).2
      have hle1 := (esc_le b).1
      obtain ⟨F, hFd⟩ : ∃ F, F = frameOf b := ⟨_, rfl⟩
      rw [hF]
      rw [if_neg (by omega), Option.bind_some, if_neg (by rw [decide_eq_true_eq]; omega)]
      have wL : IntKind.wrap .i64 (((frameOf b).length : Int) - 1) = (((esc b).length + 8 : Nat) : Int) := by rw [w64 (by omega) (by omega)]; omega
      rw [wL, gd_pos (by omega)]
      have t1 := Int.tmod_lt_of_pos a1 (show (0 : Int) < (((esc b).length + 8 : Nat) : Int) by omega)
      have t2 := Int.lt_tmod_of_pos a1 (show (0 : Int) < (((esc b).length + 8 : Nat) : Int) by omega)
      refine Ans.bind (Q := fun o => ∃ m : Nat, o = (m : Int) ∧ m < (esc b).length + 8) (Ans.ite (fun h => Ans.some ?_) (fun h => Ans.some ⟨(Int.tmod a1 (((esc b).length + 8 : Nat) : Int)).toNat, by omega, by omega⟩)) (fun o ho => ?_)
      · rw [w64 (by omega) (by omega)]
        exact ⟨(0 - Int.tmod a1 (((esc b).length + 8 : Nat) : Int)).toNat, by omega, by omega⟩
      obtain ⟨m, rfl, hm⟩ := ho
      have wm : IntKind.wrap .i64 ((m : Int) + 1) = ((m + 1 : Nat) : Int) := by rw [w64 (by omega) (by omega)]; omega
      rw [wm, Int.toNat_natCast, List.drop_zero]
      refine Ans.gd (by omega) ?_
      refine Ans.bind (fDecode.cut K (by omega) b hb (by omega) (m + 1) (by omega) (by omega)) (fun t27 h27 => ?_)
      subst h27
      rw [if_pos rfl, if_pos ⟨rfl, ⟨rfl, rfl, rfl, rfl, trivial⟩, ⟨rfl, rfl, rfl, rfl, rfl, trivial⟩, ⟨rfl, ⟨rfl, rfl, rfl, trivial⟩, trivial⟩, trivial⟩, if_pos rfl]
      exact Ans.some (by decide)
  obtain ⟨r, h, hr⟩ := key
  rw [h, hr]
end Go.Proofs.Ytakolnamobkkkaa
