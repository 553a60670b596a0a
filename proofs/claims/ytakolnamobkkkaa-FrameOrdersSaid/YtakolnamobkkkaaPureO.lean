/- Own text. Records are in an order; the plain part of the law FrameRanks. Conditions: whole numbers in their types' bounds. -/
import Derived.Test.YtakolnamobkkkaaPureI
import Derived.Test.YtakolnamobkkkaaLift12
set_option linter.unusedSimpArgs false
set_option linter.unusedVariables false
set_option maxRecDepth 100000
namespace Go.Proofs.Ytakolnamobkkkaa
open Go Go.Sx

def rQ (a b : Int) (c d : ByteArray) : D14 := (b, a, b, c, d, 0, 0, 0, 0, E0, 0, 0, 0, 0)
theorem rQ.wf {a b : Int} {c d : ByteArray} (h : (Lit.int .u64 a).wf = true) : Wf (rQ a b c d) := ⟨wfu64 h, ⟨Int.le_refl 0, by show (0 : Int) < 18446744073709551616; decide⟩, ⟨Int.le_refl 0, by show (0 : Int) < 4294967296; decide⟩⟩
def cu (a b : Int) : Int := if a < b then -1 else if b < a then 1 else 0
theorem cu_spec (a b : Int) : (a < b ∧ cu a b = -1) ∨ (a = b ∧ cu a b = 0) ∨ (b < a ∧ cu a b = 1) := by
  unfold cu
  by_cases h : a < b
  · rw [if_pos h]; exact .inl ⟨h, rfl⟩
  · rw [if_neg h]
    by_cases k : b < a
    · rw [if_pos k]; exact .inr (.inr ⟨k, rfl⟩)
    · rw [if_neg k]; exact .inr (.inl ⟨by omega, rfl⟩)
theorem cmpInt.eq (a b : Int) : cmpInt.f a b = some (cu a b) := by
  unfold cmpInt.f isNaNi.f cu
  simp
  split
  · rfl
  · split <;> rfl
theorem cmpU64.eq (a b : Int) : cmpU64.f a b = some (cu a b) := by
  unfold cmpU64.f isNaNu.f cu
  simp
  split
  · rfl
  · split <;> rfl
def lx (x y : List Int) : Int := lexU (Lib.bytesOf x) (Lib.bytesOf y)
def oz (x y : Int) : Int := if x ≠ 0 then x else y
theorem oz_spec (x y : Int) : (x ≠ 0 ∧ oz x y = x) ∨ (x = 0 ∧ oz x y = y) := by
  unfold oz
  by_cases h : x = 0
  · exact .inr ⟨h, by rw [if_neg (by simp [h])]⟩
  · exact .inl ⟨h, by rw [if_pos h]⟩
theorem cmpOr.eq (K : Nat) (hK : 5 ≤ K) (x y : Int) : cmpOr.f K [x, y] = some (oz x y) := by
  obtain ⟨n, rfl⟩ : ∃ n, K = n + 3 := ⟨K - 3, by omega⟩
  unfold cmpOr.f oz
  rw [cmpOr.l1, if_pos (by simp), gd_pos (by simp)]
  show thn (if x ≠ 0 then some (.inl x) else cmpOr.l1 [x, y] (n + 2) 1) _ = _
  by_cases h : x = 0
  · rw [if_neg (by simp [h]), cmpOr.l1, if_pos (by simp), gd_pos (by simp)]
    show thn (if y ≠ 0 then some (.inl y) else cmpOr.l1 [x, y] (n + 1) 2) _ = _
    by_cases k : y = 0
    · rw [if_neg (by simp [k]), cmpOr.l1, if_neg (by simp)]
      simp [k, h]
    · rw [if_pos k, if_neg (by simp [h])]; rfl
  · rw [if_pos h, if_pos h]; rfl
def vq (f : D14) : Bool := decide (chk f = some 0)
theorem vq_iff {f : D14} (h : Wf f) : vq f = true ↔ Val f := by
  unfold vq
  rw [decide_eq_true_iff]
  exact ⟨fun g => Val.of g h, fun g => g.1⟩
/-- How two records compare. -/
def C (f g : D14) : Int := if vq f = true ∧ vq g = true then oz (cu f.2.1 g.2.1) (lx (bdy f) (bdy g)) else cu (if vq f = true then 1 else 0) (if vq g = true then 1 else 0)
theorem body_rQ (K : Nat) (hK : 11 ≤ K) {f : D14} (hw : Wf f) : (vq f = true ∧ fBody.f K f.1 f.2.1 f.2.2.1 f.2.2.2.1 f.2.2.2.2.1 f.2.2.2.2.2.1 f.2.2.2.2.2.2.1 f.2.2.2.2.2.2.2.1 f.2.2.2.2.2.2.2.2.1 f.2.2.2.2.2.2.2.2.2.1 f.2.2.2.2.2.2.2.2.2.2.1 f.2.2.2.2.2.2.2.2.2.2.2.1 f.2.2.2.2.2.2.2.2.2.2.2.2.1 f.2.2.2.2.2.2.2.2.2.2.2.2.2 = some (bdy f, 0)) ∨ (vq f = false ∧ ∃ e : Int, e ≠ 0 ∧ fBody.f K f.1 f.2.1 f.2.2.1 f.2.2.2.1 f.2.2.2.2.1 f.2.2.2.2.2.1 f.2.2.2.2.2.2.1 f.2.2.2.2.2.2.2.1 f.2.2.2.2.2.2.2.2.1 f.2.2.2.2.2.2.2.2.2.1 f.2.2.2.2.2.2.2.2.2.2.1 f.2.2.2.2.2.2.2.2.2.2.2.1 f.2.2.2.2.2.2.2.2.2.2.2.2.1 f.2.2.2.2.2.2.2.2.2.2.2.2.2 = some ([], e)) := by
  rcases bodyE.cases K hK f hw with ⟨hv, he⟩ | ⟨hv, e, he0, he⟩
  · exact .inl ⟨(vq_iff hw).2 hv, he⟩
  · refine .inr ⟨?_, e, he0, he⟩
    cases c : vq f with
    | true => exact absurd ((vq_iff hw).1 c) hv
    | false => rfl
theorem fCompare.eq (K : Nat) (hK : 11 ≤ K) (a b : Int) (c d : ByteArray) (a' b' : Int) (c' d' : ByteArray) (h : (Lit.int .u64 a).wf = true) (h' : (Lit.int .u64 a').wf = true) : fCompare.f K a b c d a' b' c' d' = some (C (rQ a b c d) (rQ a' b' c' d')) := by
  have hw := rQ.wf (b := b) (c := c) (d := d) h
  have hw' := rQ.wf (b := b') (c := c') (d := d') h'
  unfold fCompare.f C
  show ((some (rQ a b c d)).bind _) = _
  rw [Option.bind_some]
  rcases body_rQ K hK hw with ⟨v, e⟩ | ⟨v, x, hx, e⟩
  · rw [e, Option.bind_some]
    show ((some (rQ a' b' c' d')).bind _) = _
    rw [Option.bind_some]
    rcases body_rQ K hK hw' with ⟨v', e'⟩ | ⟨v', x', hx', e'⟩
    · rw [e', Option.bind_some, if_neg (by simp), Option.bind_some, if_neg (by simp), cmpU64.eq, Option.bind_some]
      unfold bCompare.f
      rw [Option.bind_some, cmpOr.eq K (by omega), Option.bind_some, if_pos ⟨v, v'⟩]
      simp only
      unfold cmpB lx
      rw [cmp_lex]
      rfl
    · rw [e', Option.bind_some, if_neg (by simp), Option.bind_some, if_pos (by simpa using hx'), if_neg (by simp [v'])]
      unfold rank.f
      simp only
      rw [if_pos (by trivial), if_neg hx', Option.bind_some, Option.bind_some, cmpInt.eq, Option.bind_some, if_pos v, if_neg (by simp [v'])]
  · rw [e, Option.bind_some]
    show ((some (rQ a' b' c' d')).bind _) = _
    rw [Option.bind_some]
    rcases body_rQ K hK hw' with ⟨v', e'⟩ | ⟨v', x', hx', e'⟩
    · rw [e', Option.bind_some, if_pos hx, Option.bind_some, if_pos (by trivial), if_neg (by simp [v])]
      unfold rank.f
      simp only
      rw [if_neg hx, if_pos (by trivial), Option.bind_some, Option.bind_some, cmpInt.eq, Option.bind_some, if_neg (by simp [v]), if_pos v']
    · rw [e', Option.bind_some, if_pos hx, Option.bind_some, if_pos (by trivial), if_neg (by simp [v])]
      unfold rank.f
      simp only
      rw [if_neg hx, if_neg hx', Option.bind_some, Option.bind_some, cmpInt.eq, Option.bind_some, if_neg (by simp [v]), if_neg (by simp [v'])]
theorem C_neg (f g : D14) : C g f = - C f g := by
  unfold C
  have h1 := cu_spec f.2.1 g.2.1
  have h2 := cu_spec g.2.1 f.2.1
  have h3 := lexU_neg (Lib.bytesOf (bdy f)) (Lib.bytesOf (bdy g))
  have h3 : lx (bdy g) (bdy f) = - lx (bdy f) (bdy g) := h3
  have h4 := oz_spec (cu f.2.1 g.2.1) (lx (bdy f) (bdy g))
  have h5 := oz_spec (cu g.2.1 f.2.1) (lx (bdy g) (bdy f))
  cases hf : vq f <;> cases hg : vq g
  · simp [cu]
  · simp [cu]
  · simp [cu]
  · rw [if_pos ⟨rfl, rfl⟩, if_pos ⟨rfl, rfl⟩]; omega
theorem C_range (f g : D14) : -1 ≤ C f g ∧ C f g ≤ 1 := by
  unfold C
  have h1 := cu_spec f.2.1 g.2.1
  have h3 := lexU_range (Lib.bytesOf (bdy f)) (Lib.bytesOf (bdy g))
  have h3 : lx (bdy f) (bdy g) = -1 ∨ lx (bdy f) (bdy g) = 0 ∨ lx (bdy f) (bdy g) = 1 := h3
  have h4 := oz_spec (cu f.2.1 g.2.1) (lx (bdy f) (bdy g))
  cases hf : vq f <;> cases hg : vq g
  · simp [cu]
  · simp [cu]
  · simp [cu]
  · rw [if_pos ⟨rfl, rfl⟩]; omega
theorem C_trans (f g h : D14) (h1 : C f g ≤ 0) (h2 : C g h ≤ 0) : C f h ≤ 0 ∧ (C f g < 0 ∨ C g h < 0 → C f h < 0) := by
  unfold C at h1 h2 ⊢
  have k1 := cu_spec f.2.1 g.2.1
  have k2 := cu_spec g.2.1 h.2.1
  have k3 := cu_spec f.2.1 h.2.1
  have t : lx (bdy f) (bdy g) ≤ 0 → lx (bdy g) (bdy h) ≤ 0 → lx (bdy f) (bdy h) ≤ 0 ∧ (lx (bdy f) (bdy g) < 0 ∨ lx (bdy g) (bdy h) < 0 → lx (bdy f) (bdy h) < 0) := lexU_trans _ _ _
  have o1 := oz_spec (cu f.2.1 g.2.1) (lx (bdy f) (bdy g))
  have o2 := oz_spec (cu g.2.1 h.2.1) (lx (bdy g) (bdy h))
  have o3 := oz_spec (cu f.2.1 h.2.1) (lx (bdy f) (bdy h))
  cases hf : vq f <;> cases hg : vq g <;> cases hh : vq h <;> simp [hf, hg, hh, cu] at h1 h2 ⊢
  by_cases c1 : lx (bdy f) (bdy g) ≤ 0
  · by_cases c2 : lx (bdy g) (bdy h) ≤ 0
    · have t := t c1 c2
      change oz (cu f.2.1 g.2.1) _ ≤ 0 at h1
      change oz (cu g.2.1 h.2.1) _ ≤ 0 at h2
      change oz (cu f.2.1 h.2.1) _ ≤ 0 ∧ (oz (cu f.2.1 g.2.1) _ < 0 ∨ oz (cu g.2.1 h.2.1) _ < 0 → oz (cu f.2.1 h.2.1) _ < 0)
      omega
    · change oz (cu f.2.1 g.2.1) _ ≤ 0 at h1
      change oz (cu g.2.1 h.2.1) _ ≤ 0 at h2
      change oz (cu f.2.1 h.2.1) _ ≤ 0 ∧ (oz (cu f.2.1 g.2.1) _ < 0 ∨ oz (cu g.2.1 h.2.1) _ < 0 → oz (cu f.2.1 h.2.1) _ < 0)
      omega
  · change oz (cu f.2.1 g.2.1) _ ≤ 0 at h1
    change oz (cu g.2.1 h.2.1) _ ≤ 0 at h2
    change oz (cu f.2.1 h.2.1) _ ≤ 0 ∧ (oz (cu f.2.1 g.2.1) _ < 0 ∨ oz (cu g.2.1 h.2.1) _ < 0 → oz (cu f.2.1 h.2.1) _ < 0)
    omega
theorem bytes_inj : ∀ (x y : List Int), Byt x → Byt y → Lib.bytesOf x = Lib.bytesOf y → x = y
  | [], [], _, _, _ => rfl
  | [], b :: y, _, _, h => by cases h
  | a :: x, [], _, _, h => by cases h
  | a :: x, b :: y, hx, hy, h => by
    obtain ⟨h1, h2⟩ := List.cons.inj h
    have ha := hx a List.mem_cons_self
    have hb := hy b List.mem_cons_self
    have h1 : UInt8.ofNat a.toNat = UInt8.ofNat b.toNat := h1
    have h3 := congrArg UInt8.toNat h1
    rw [UInt8.toNat_ofNat', UInt8.toNat_ofNat'] at h3
    rw [bytes_inj x y (fun z hz => hx z (List.mem_cons_of_mem _ hz)) (fun z hz => hy z (List.mem_cons_of_mem _ hz)) h2]
    congr 1
    omega
theorem C_zero {f g : D14} (hf : Wf f) (hg : Wf g) (h : C f g = 0) (hv : vq f = true ∨ vq g = true) : f = g := by
  unfold C at h
  cases vf : vq f <;> cases vg : vq g <;> simp [vf, vg, cu] at h hv
  have h' : oz (cu f.2.1 g.2.1) (lx (bdy f) (bdy g)) = 0 := h
  have h4 := oz_spec (cu f.2.1 g.2.1) (lx (bdy f) (bdy g))
  have hl : lx (bdy f) (bdy g) = 0 := by omega
  have v1 := (vq_iff hf).1 vf
  have v2 := (vq_iff hg).1 vg
  exact bdy.inj v1 v2 (bytes_inj _ _ (bdy_byt v1.2) (bdy_byt v2.2) (lexU_zero _ _ hl))
theorem C_lsn {f g : D14} (hf : vq f = true) (hg : vq g = true) (hne : f.2.1 ≠ g.2.1) : f.2.1 < g.2.1 ↔ C f g < 0 := by
  unfold C
  rw [if_pos ⟨hf, hg⟩]
  have h1 := cu_spec f.2.1 g.2.1
  have h4 := oz_spec (cu f.2.1 g.2.1) (lx (bdy f) (bdy g))
  omega
theorem enc_rQ (K : Nat) (hK : 2097200 < K) {f : D14} (hw : Wf f) : ∃ t : List Int × Int, fEncode.f K f.1 f.2.1 f.2.2.1 f.2.2.2.1 f.2.2.2.2.1 f.2.2.2.2.2.1 f.2.2.2.2.2.2.1 f.2.2.2.2.2.2.2.1 f.2.2.2.2.2.2.2.2.1 f.2.2.2.2.2.2.2.2.2.1 f.2.2.2.2.2.2.2.2.2.2.1 f.2.2.2.2.2.2.2.2.2.2.2.1 f.2.2.2.2.2.2.2.2.2.2.2.2.1 f.2.2.2.2.2.2.2.2.2.2.2.2.2 = some t ∧ (t.2 = 0 ↔ vq f = true) := by
  rcases encE.spec K hK f hw with ⟨hv, he⟩ | ⟨hv, e, he0, he⟩
  · exact ⟨_, he, by simp [(vq_iff hw).2 hv]⟩
  · refine ⟨_, he, ?_⟩
    have : ¬ vq f = true := fun h => hv ((vq_iff hw).1 h)
    simp [he0, this]
theorem Pure.FrameRanks : ∀ (a0_0 a0_1 : Int) (a0_2 a0_3 : ByteArray) (a1_0 a1_1 : Int) (a1_2 a1_3 : ByteArray) (a2_0 a2_1 : Int) (a2_2 a2_3 : ByteArray), (Lit.int .u64 a0_0).wf = true → (Lit.int .u64 a1_0).wf = true → (Lit.int .u64 a2_0).wf = true → ∃ K, FrameRanks.f K a0_0 a0_1 a0_2 a0_3 a1_0 a1_1 a1_2 a1_3 a2_0 a2_1 a2_2 a2_3 = some true := by
  intro a b c d a' b' c' d' a'' b'' c'' d'' w w' w''
  refine ⟨40000000, ?_⟩
  generalize hK : 40000000 = K
  have key : Ans (FrameRanks.f K a b c d a' b' c' d' a'' b'' c'' d'') (fun r => r = true) := by
    have hw := rQ.wf (b := b) (c := c) (d := d) w
    have hw' := rQ.wf (b := b') (c := c') (d := d') w'
    unfold FrameRanks.f
    rw [known.eq K (by omega), Option.bind_some, fCompare.eq K (by omega) _ _ _ _ _ _ _ _ w w', Option.bind_some, fCompare.eq K (by omega) _ _ _ _ _ _ _ _ w' w'', Option.bind_some, fCompare.eq K (by omega) _ _ _ _ _ _ _ _ w w'', Option.bind_some, fCompare.eq K (by omega) _ _ _ _ _ _ _ _ w' w, Option.bind_some]
    have hn := C_neg (rQ a b c d) (rQ a' b' c' d')
    have hr := C_range (rQ a b c d) (rQ a' b' c' d')
    have ht := C_trans (rQ a b c d) (rQ a' b' c' d') (rQ a'' b'' c'' d'')
    have hz := C_zero hw hw'
    have hl := C_lsn (f := rQ a b c d) (g := rQ a' b' c' d')
    rw [hn]
    revert ht hz hl hr
    generalize C (rQ a b c d) (rQ a' b' c' d') = x
    generalize C (rQ a' b' c' d') (rQ a'' b'' c'' d'') = y
    generalize C (rQ a b c d) (rQ a'' b'' c'' d'') = z
    intro hr ht hz hl
    rw [w64 (by omega) (by omega)]
    refine Ans.bind (Q := fun o => o = false) ?_ (fun o ho => ?_)
    · have h1 : x ≤ 0 → y ≤ 0 → z ≤ 0 := fun p q => (ht p q).1
      have h2 : x < 0 → y ≤ 0 → z < 0 := fun p q => (ht (by omega) q).2 (.inl p)
      have h3 : x ≤ 0 → y < 0 → z < 0 := fun p q => (ht p (by omega)).2 (.inr q)
      clear ht hz hl
      repeat' (first | (refine Ans.ite (fun _ => ?_) (fun _ => ?_)))
      all_goals first | exact Ans.some rfl | (exfalso; omega) | exact Ans.some (decide_eq_false (by omega))
    · subst ho
      rw [if_neg (by simp)]
      show Ans ((some (rQ a b c d)).bind _) _
      rw [Option.bind_some]
      obtain ⟨t, ht1, ht2⟩ := enc_rQ K (by omega) hw
      rw [ht1, Option.bind_some]
      show Ans ((some (rQ a' b' c' d')).bind _) _
      rw [Option.bind_some]
      obtain ⟨t', ht1', ht2'⟩ := enc_rQ K (by omega) hw'
      rw [ht1', Option.bind_some]
      refine Ans.bind (Q := fun o => o = false) (Ans.ite (fun hx => Ans.ite (fun _ => Ans.some rfl) (fun hne => Ans.ite (fun h0 => ?_) (fun h0 => Ans.some (decide_eq_false (fun h0' => ?_))))) (fun _ => Ans.some rfl)) (fun o ho => ?_)
      · exfalso
        have e := hz hx (.inl (ht2.1 h0))
        exact hne ⟨congrArg (·.2.1) e, congrArg (·.1) e, congrArg (·.2.2.2.1) e, congrArg (·.2.2.2.2.1) e, trivial⟩
      · have e := hz hx (.inr (ht2'.1 h0'))
        exact hne ⟨congrArg (·.2.1) e, congrArg (·.1) e, congrArg (·.2.2.2.1) e, congrArg (·.2.2.2.2.1) e, trivial⟩
      · subst ho
        rw [if_neg (by simp), if_pos (by trivial)]
        refine Ans.ite (fun _ => Ans.some rfl) (fun g1 => Ans.ite (fun _ => Ans.some rfl) (fun g2 => Ans.ite (fun _ => Ans.some rfl) (fun g3 => Ans.some (decide_eq_true ?_))))
        have v1 := ht2.1 (by omega)
        have v2 := ht2'.1 (by omega)
        have := hl v1 v2 g3
        exact decide_eq_decide.2 this
  obtain ⟨r, h, hr⟩ := key
  rw [h, hr]
end Go.Proofs.Ytakolnamobkkkaa
