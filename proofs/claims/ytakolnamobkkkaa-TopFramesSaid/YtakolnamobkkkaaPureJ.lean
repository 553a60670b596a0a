/- Own text. What was written is read again; the plain part of the law FrameBack. Conditions: bytes, whole numbers in their types' bounds, bounded bulk. -/
import Derived.Test.YtakolnamobkkkaaPureI
import Derived.Test.YtakolnamobkkkaaLift4
set_option linter.unusedSimpArgs false
set_option linter.unusedVariables false
set_option maxRecDepth 100000
namespace Go.Proofs.Ytakolnamobkkkaa
open Go Go.Sx

theorem rd_cons (c : Int) (r : List Int) (i : Nat) : rd (c :: r) ((i + 1 : Nat) : Int) = rd r (i : Int) := by simp only [rd, Int.toNat_natCast, List.getD_cons_succ]
theorem frm_rd {f : D14} (i : Nat) (h1 : 1 ≤ i) (h2 : i < (frm f).length) : rd (frm f) (i : Int) ≠ 167 := by
  obtain ⟨r, e, hr⟩ := frm_lead f
  rw [e] at h2 ⊢
  obtain ⟨j, rfl⟩ : ∃ j, i = j + 1 := ⟨i - 1, by omega⟩
  rw [rd_cons]
  rw [List.length_cons] at h2
  intro h
  exact hr (h ▸ rd_mem r j (by omega))
theorem FrameBack.l1_eq (t : List Int × Int) (hl : t.1.length ≤ 1099511627776) (h : ∀ i : Nat, 1 ≤ i → i < t.1.length → rd t.1 (i : Int) ≠ 167) : ∀ (n i : Nat), i + n = t.1.length → 1 ≤ i → ∀ k, n < k → FrameBack.l1 t k (i : Int) = some (.inr ()) := by
  intro n
  induction n with
  | zero =>
    intro i hi h1 k hk
    obtain ⟨k, rfl⟩ : ∃ m, k = m + 1 := ⟨k - 1, by omega⟩
    rw [FrameBack.l1, if_neg (by omega)]
  | succ n ih =>
    intro i hi h1 k hk
    obtain ⟨k, rfl⟩ : ∃ m, k = m + 1 := ⟨k - 1, by omega⟩
    rw [FrameBack.l1, if_pos (by omega), gd_pos (by omega), if_neg (h i h1 (by omega)), w64 (by omega) (by omega), show ((i : Int) + 1) = ((i + 1 : Nat) : Int) by omega]
    exact ih (i + 1) (by omega) (by omega) k (by omega)
theorem Pure.FrameBack (a0_0 a0_1 a0_2 : Int) (a0_3 a0_4 : ByteArray) (a0_5 a0_6 a0_7 a0_8 : Int) (a0_9 : ByteArray) (a0_10 a0_11 a0_12 a0_13 : Int) (a1 a2 : List Int) (h1 : (Lit.int .u64 a0_1).wf = true) (h5 : (Lit.int .u64 a0_5).wf = true) (h13 : (Lit.int .u32 a0_13).wf = true) (hb1 : ∀ x ∈ a1, (Lit.int .u8 x).wf = true) (hb2 : ∀ x ∈ a2, (Lit.int .u8 x).wf = true) (hl : a1.length + a2.length ≤ 1048576) : ∃ K, FrameBack.f K a0_0 a0_1 a0_2 a0_3 a0_4 a0_5 a0_6 a0_7 a0_8 a0_9 a0_10 a0_11 a0_12 a0_13 a1 a2 = some true := by
  have hb1 := Byt.of hb1
  have hb2 := Byt.of hb2
  refine ⟨4000000, ?_⟩
  generalize hK : 4000000 = K
  obtain ⟨f, hf⟩ : ∃ f : D14, f = (a0_0, a0_1, a0_2, a0_3, a0_4, a0_5, a0_6, a0_7, a0_8, a0_9, a0_10, a0_11, a0_12, a0_13) := ⟨_, rfl⟩
  have hw : Wf f := by subst hf; exact ⟨wfu64 h1, wfu64 h5, wfu32 h13⟩
  have hEE : ∀ r, encE K f = some r → fEncode.f K a0_0 a0_1 a0_2 a0_3 a0_4 a0_5 a0_6 a0_7 a0_8 a0_9 a0_10 a0_11 a0_12 a0_13 = some r := by subst hf; exact fun r h => h
  unfold FrameBack.f
  rw [known.eq K (by omega), Option.bind_some]
  rcases encE.spec K (by omega) f hw with ⟨hv, hE⟩ | ⟨hv, e, he, hE⟩
  · have hle := frm_le hv
    have hby := frm_byt hv
    obtain ⟨F, hF⟩ : ∃ F, F = frm f := ⟨_, rfl⟩
    rw [hEE _ hE, Option.bind_some, if_neg (by simp)]
    simp only [List.nil_append]
    rw [gd_pos (by simp; omega), gd_pos (by simp; omega), gd_pos (by simp; omega)]
    have hat := FrAt.mid a1 a2 hv
    have hd := fDecode.at K (a1 ++ (frm f ++ a2)) (Byt.app.2 ⟨hb1, Byt.app.2 ⟨hby, hb2⟩⟩) (by simp; omega) (by simp; omega) hat
    rw [List.append_assoc, hd, Option.bind_some, if_neg (by omega), gd_pos (by omega), gd_pos (by omega), Option.bind_some]
    have h0 : rd (frm f) 0 = 167 := rfl
    have hl1 : FrameBack.l1 (frm f, 0) K 1 = some (.inr ()) := FrameBack.l1_eq (frm f, 0) (by simp only; omega) (fun i h1 h2 => frm_rd i h1 h2) ((frm f).length - 1) 1 (by simp only; omega) (Nat.le_refl _) K (by omega)
    rw [if_neg (by simp [h0]), hl1]
    subst hf
    rw [thn_inr, if_pos (by trivial), if_pos ⟨rfl, ⟨rfl, rfl, rfl, rfl, trivial⟩, ⟨rfl, rfl, rfl, rfl, rfl, trivial⟩, ⟨rfl, ⟨rfl, rfl, rfl, trivial⟩, trivial⟩, trivial⟩, if_pos (by exact rfl)]
    rfl
  · rw [hEE _ hE, Option.bind_some, if_pos he, if_pos rfl]
    rfl
end Go.Proofs.Ytakolnamobkkkaa
