/- Own text. The plain part of the law HintWhole. Conditions: bytes of bounded number. -/
import Derived.Test.YtmbhpcdamfdphaaPureZ
import Derived.Test.YtmbhpcdamfdphaaLift9
set_option linter.unusedSimpArgs false
set_option linter.unusedVariables false
set_option maxRecDepth 100000
namespace Go.Proofs.Ytmbhpcdamfdphaa
open Go Go.Sx

theorem HintWhole.l1_rel {b : List Int} (hb : Byt b) (hl : b.length ≤ 140737488355328) (K : Nat) (hK : b.length + 2097300 < K) (t : List T44_ × Int) (ht : t.1.length ≤ 100000000000000) : ∀ (m i : Nat), i + m = t.1.length → (∀ x ∈ t.1.take i, ∃ y : Fr, FrAt b y.1 y.2.1 y.2.2 ∧ Rec y.2.2 ∧ ptr y = x) → ∀ k, m < k →
    Ans (HintWhole.l1 K t b true k (i : Int)) (fun r => r = .inl true ∨ (r = .inr () ∧ ∀ x ∈ t.1, ∃ y : Fr, FrAt b y.1 y.2.1 y.2.2 ∧ Rec y.2.2 ∧ ptr y = x)) := by
  intro m
  induction m with
  | zero =>
    intro i h1 h2 k hk
    obtain ⟨k, rfl⟩ : ∃ m, k = m + 1 := ⟨k - 1, by omega⟩
    rw [HintWhole.l1, if_neg (by omega)]
    rw [List.take_of_length_le (by omega)] at h2
    exact Ans.some (.inr ⟨rfl, h2⟩)
  | succ m ih =>
    intro i h1 h2 k hk
    obtain ⟨k, rfl⟩ : ∃ m, k = m + 1 := ⟨k - 1, by omega⟩
    rw [HintWhole.l1, if_pos (by omega), gd_pos (by omega), gd_pos (by omega)]
    have hm : t.1.take (i + 1) = t.1.take i ++ [rd t.1 (i : Int)] := by
      rw [List.take_add_one]; simp [rd, List.getD, List.getElem?_eq_getElem (show i < t.1.length by omega)]
    refine Ans.bind (hCheck.rel hb hl K hK (rd t.1 (i : Int))) (fun r hr => Ans.ite (fun h => ?_) (fun _ => Ans.some (.inl rfl)))
    rw [w64 (by omega) (by omega), show ((i : Int) + 1) = ((i + 1 : Nat) : Int) by omega]
    refine ih (i + 1) (by omega) (fun x hx => ?_) k (by omega)
    rw [hm] at hx
    rcases List.mem_append.1 hx with hx | hx
    · exact h2 x hx
    · rw [List.mem_singleton] at hx; subst hx
      exact hr h
theorem Pure.HintWhole : ∀ (a0 : List Int) (a1 : List Int), (∀ x ∈ a0, (Lit.int .u8 x).wf = true) → a0.length * 1 ≤ 140737488351232 → (∀ x ∈ a1, (Lit.int .u8 x).wf = true) → a1.length * 1 ≤ 140737488351232 → ∃ K, HintWhole.f K a0 a1 = some true := by
  intro b d hb hl hd hl'
  have hb := Byt.of hb
  have hd := Byt.of hd
  refine ⟨1000000000000000, ?_⟩
  generalize hK : 1000000000000000 = K
  have key : Ans (HintWhole.f K b d) (fun r => r = true) := by
    obtain ⟨l, h⟩ := Frs.all b 0
    unfold HintWhole.f
    rw [known.eq K (by omega), Option.bind_some, sPrint.eq hb (by omega) K (by omega) h, Option.bind_some]
    refine Ans.bind (hLoad.rel hd (by omega) K (by omega) _ _ _) (fun t ht => ?_)
    rcases ht with ⟨h1, h2⟩ | ⟨h1, h2, h3, h4, h5, h6, h7⟩
    · rw [if_pos h1, if_pos (by trivial), h2]
      exact Ans.some (by simp)
    · rw [if_neg (by omega)]
      have hlen := hs_len t.1 h3
      simp only at h2 h4 h6 h7
      rw [h7] at h2
      have hdl : (hs t.1).length ≤ d.length := by rw [h2, List.length_append]; omega
      refine Ans.thn ((HintWhole.l1_rel hb (by omega) K (by omega) t (by omega) t.1.length 0 (by omega) (by simp) K (by omega)).mono fun o ho => ?_)
      rcases ho with rfl | ⟨rfl, hall⟩
      · rfl
      · obtain ⟨L, e, hL⟩ := frs_of t.1 hall
        have hT : Tl b 0 L := Tl.of L 0 hL (by rw [e]; exact h5) (by rw [e]; exact h6)
        have hll : L.length = t.1.length := by rw [← e, List.length_map]
        show Ans ((hOf.f K b).bind _) _
        have hby := vft h4
        rw [hOf.ok hb (by omega) K (by omega) hT, Option.bind_some, e, hll, ← h2, same.eq d d (by omega) K (by omega), Option.bind_some, if_pos (by trivial), if_pos (by trivial)]
        exact Ans.some (decide_eq_true rfl)
  obtain ⟨r, h, hr⟩ := key
  rw [h, hr]
end Go.Proofs.Ytmbhpcdamfdphaa
