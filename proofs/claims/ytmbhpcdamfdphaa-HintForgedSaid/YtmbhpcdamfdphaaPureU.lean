/- Own text. The plain part of the law HintForged. Conditions: whole numbers in their types' bounds, bounded bulk. -/
import Derived.Test.YtmbhpcdamfdphaaPureZ
import Derived.Test.YtmbhpcdamfdphaaLift6
set_option linter.unusedSimpArgs false
set_option linter.unusedVariables false
set_option maxRecDepth 100000
namespace Go.Proofs.Ytmbhpcdamfdphaa
open Go Go.Sx

def WfP (x : T44_) : Prop := (Lit.int .u64 x.1).wf = true ∧ (Lit.int .i64 x.2.1).wf = true ∧ (Lit.int .i64 x.2.2.1).wf = true ∧ (Lit.int .i64 x.2.2.2.1).wf = true
/-- What was forged so far. -/
def Fg (n : Nat) (o : List Int × List T44_ × Int) : Prop := o.1 = hs o.2.1 ∧ (∀ x ∈ o.2.1, Vp x) ∧ Ch 0 o.2.1 ∧ chE 0 o.2.1 = o.2.2 ∧ o.2.1.length ≤ n ∧ o.2.2 ≤ 4194304 * (n : Int)
theorem HintForged.l1_rel (K : Nat) (hK : 40000000 ≤ K) (L : List T44_) (hw : ∀ x ∈ L, WfP x) : ∀ (m i : Nat) (d : List Int) (W : List T44_) (at_ : Int), 100 - i ≤ m → i ≤ 100 → i ≤ L.length → Fg i (d, W, at_) → ∀ k, m < k →
    Ans (HintForged.l1 K L k (d, W, at_, (i : Int))) (Fg 100) := by
  intro m
  have stop : ∀ (i : Nat) (o : List Int × List T44_ × Int), i ≤ 100 → Fg i o → Fg 100 o := fun i o hi ⟨h1, h2, h3, h4, h5, h6⟩ => ⟨h1, h2, h3, h4, by omega, by omega⟩
  induction m with
  | zero =>
    intro i d W at_ h1 h2 h3 h4 k hk
    obtain ⟨k, rfl⟩ : ∃ q, k = q + 1 := ⟨k - 1, by omega⟩
    rw [HintForged.l1]; simp only
    refine Ans.bind (Q := fun o => o = false) (Ans.ite (fun _ => Ans.some (decide_eq_false (by omega))) (fun _ => Ans.some rfl)) (fun o ho => Ans.ite (fun h => by rw [ho] at h; cases h) (fun _ => Ans.some (stop i _ h2 h4)))
  | succ m ih =>
    intro i d W at_ h1 h2 h3 h4 k hk
    obtain ⟨k, rfl⟩ : ∃ q, k = q + 1 := ⟨k - 1, by omega⟩
    rw [HintForged.l1]; simp only
    refine Ans.bind (Q := fun o => o = true → i < L.length ∧ i < 100) (Ans.ite (fun h => Ans.some (fun h' => ⟨by omega, by have := of_decide_eq_true h'; omega⟩)) (fun _ => Ans.some (fun h => by cases h))) (fun o ho => Ans.ite (fun h => ?_) (fun _ => Ans.some (stop i _ h2 h4)))
    obtain ⟨g1, g2⟩ := ho h
    have wi : IntKind.wrap .i64 ((i : Int) + 1) = ((i + 1 : Nat) : Int) := by rw [w64 (by omega) (by omega)]; omega
    rw [wi]
    refine Ans.bind (Q := Fg (i + 1)) ?_ (fun o ho => ih (i + 1) o.1 o.2.1 o.2.2 (by omega) (by omega) (by omega) ho k (by omega))
    rw [gd_pos (by omega), gd_pos (by omega)]
    have hx := hw _ (rd_memT L i g1)
    obtain ⟨x, e⟩ : ∃ x, x = rd L (i : Int) := ⟨_, rfl⟩
    rw [← e] at hx ⊢
    obtain ⟨l, kd, a, n, ky⟩ := x
    obtain ⟨q1, q2, q3, q4, q5, q6⟩ := h4
    simp only at q1 q2 q3 q4 q5 q6 hx ⊢
    have hlen := hs_len W q2
    have hW : Wf (hp (l, kd, at_, n, ky)) := ⟨⟨Int.le_refl 0, by show (0 : Int) < 18446744073709551616; decide⟩, wfu64 hx.1, ⟨Int.le_refl 0, by show (0 : Int) < 4294967296; decide⟩⟩
    have hd : d.length ≤ 700000 := by rw [q1]; omega
    rcases encE.spec K (by omega) _ hW with ⟨hv, he⟩ | ⟨hv, e1, he0, he⟩
    · have he : fEncode.f K 3 0 0 ByteArray.empty ByteArray.empty l kd at_ n ky 0 0 0 0 = _ := he
      have hvp : Vp (l, kd, at_, n, ky) := hv
      have hof := hvp.of
      simp only at hof
      have hle := frm_le hv
      rw [he, Option.bind_some, if_pos (by trivial), gd_pos (by simp only; omega), gd_pos (by simp; omega), w64 (by omega) (by omega)]
      refine Ans.some ⟨by simp only; rw [hs_app, q1], fun x hx => ?_, ch_app _ _ _ q3 q4.symm, ?_, by simp; omega, by simp only; omega⟩
      · rcases List.mem_append.1 hx with hx | hx
        · exact q2 x hx
        · rw [List.mem_singleton] at hx; subst hx; exact hvp
      · simp only; rw [chE_app, q4]
    · have he : fEncode.f K 3 0 0 ByteArray.empty ByteArray.empty l kd at_ n ky 0 0 0 0 = _ := he
      rw [he, Option.bind_some, if_neg he0]
      exact Ans.some ⟨q1, q2, q3, q4, by simp only; omega, by simp only; omega⟩
theorem Pure.HintForged : ∀ (a0 : List T44_) (a1 : Int), (∀ x ∈ a0, WfP x) → a0.length * 48 ≤ 140737488351232 → (Lit.int .u32 a1).wf = true → ∃ K, HintForged.f K a0 a1 = some true := by
  intro L s hw hl hs_
  refine ⟨40000000, ?_⟩
  generalize hK : 40000000 = K
  have hs' : 0 ≤ s ∧ s < 4294967296 := by
    simp [Lit.wf, IntKind.min, IntKind.max, IntKind.bits, IntKind.signed] at hs_; omega
  have key : Ans (HintForged.f K L s) (fun r => r = true) := by
    unfold HintForged.f
    rw [known.eq K (by omega), Option.bind_some]
    have h1 := HintForged.l1_rel K (by omega) L hw 100 0 [] [] 0 (by omega) (by omega) (by omega) ⟨rfl, by simp, trivial, rfl, by simp, by simp⟩ K (by omega)
    have h1 : Ans (HintForged.l1 K L K ([], [], 0, 0)) _ := h1
    refine Ans.bind h1 (fun o ho => ?_)
    obtain ⟨d, W, at_⟩ := o
    obtain ⟨q1, q2, q3, q4, q5, q6⟩ := ho
    simp only at q1 q2 q3 q4 q5 q6 ⊢
    have h0 := chE_le W 0 q2
    have hlen := hs_len W q2
    have hW : Wf (ft (W.length : Int) at_ (W.length : Int) s) := ⟨⟨Int.le_refl 0, by show (0 : Int) < 18446744073709551616; decide⟩, ⟨Int.le_refl 0, by show (0 : Int) < 18446744073709551616; decide⟩, hs'⟩
    rcases encE.spec K (by omega) _ hW with ⟨hv, he⟩ | ⟨hv, e1, he0, he⟩
    · have he : fEncode.f K 4 0 0 ByteArray.empty ByteArray.empty 0 0 0 0 ByteArray.empty (W.length : Int) at_ (W.length : Int) s = _ := he
      have hle := frm_le hv
      rw [he, Option.bind_some, if_neg (by simp), gd_pos (by simp only; rw [q1]; omega)]
      simp only
      rw [q1, hLoad.ok q2 hv q3 (by omega) K (by omega) rfl q4.symm rfl, Option.bind_some, if_pos ⟨rfl, rfl, rfl⟩, samePointers.self W (by omega) K (by omega), Option.bind_some, if_pos (by trivial), if_pos (by trivial)]
      exact Ans.some rfl
    · have he : fEncode.f K 4 0 0 ByteArray.empty ByteArray.empty 0 0 0 0 ByteArray.empty (W.length : Int) at_ (W.length : Int) s = _ := he
      rw [he, Option.bind_some, if_pos he0, if_pos (by trivial)]
      refine Ans.some (decide_eq_true ?_)
      rcases Int.lt_or_le 4194304 at_ with h2 | h2
      · exact h2
      · exact absurd (val_ft (by omega) (by omega) (by omega) hs') hv
  obtain ⟨r, h, hr⟩ := key
  rw [h, hr]
end Go.Proofs.Ytmbhpcdamfdphaa
