/- Own text. What decoding a frame answers, and that it answers always. Conditions: bytes. -/
import Derived.Test.YtakolnamobkkkaaPureVD
import Derived.Test.YtakolnamobkkkaaPureEB
import Derived.Test.YtakolnamobkkkaaPureCA
import Derived.Test.YtakolnamobkkkaaLiftB
set_option linter.unusedSimpArgs false
set_option linter.unusedVariables false
set_option maxRecDepth 100000
namespace Go.Proofs.Ytakolnamobkkkaa
open Go Go.Sx

theorem known.at (n : Nat) : known.f (n + 30) = some true := by kernel_rfl
theorem known.eq (K : Nat) (hK : 30 ≤ K) : known.f K = some true := by
  obtain ⟨n, rfl⟩ : ∃ n, K = n + 30 := ⟨K - 30, by omega⟩
  exact known.at n

/-! ### Answers that have a property -/
def Ans {α : Type} (x : Option α) (P : α → Prop) : Prop := ∃ r, x = some r ∧ P r
theorem Ans.some {α : Type} {v : α} {P : α → Prop} (h : P v) : Ans (some v) P := ⟨v, rfl, h⟩
theorem Ans.ite {α : Type} {c : Prop} [Decidable c] {x y : Option α} {P : α → Prop} (h : c → Ans x P) (k : ¬ c → Ans y P) : Ans (if c then x else y) P := by
  by_cases hc : c
  · rw [if_pos hc]; exact h hc
  · rw [if_neg hc]; exact k hc
theorem Ans.gd {α : Type} {c : Prop} [Decidable c] {x : Option α} {P : α → Prop} (hc : c) (h : Ans x P) : Ans (gd c x) P := by rw [gd_pos hc]; exact h
theorem Ans.bind {α β : Type} {x : Option α} {f : α → Option β} {Q : α → Prop} {P : β → Prop} (h : Ans x Q) (k : ∀ v, Q v → Ans (f v) P) : Ans (x.bind f) P := by
  obtain ⟨v, rfl, hv⟩ := h; exact k v hv
theorem Ans.thn {R S : Type} {x : Option (R ⊕ S)} {f : S → Option R} {P : R → Prop} (h : Ans x (fun o => match o with | .inl r => P r | .inr s => Ans (f s) P)) : Ans (thn x f) P := by
  obtain ⟨v, rfl, hv⟩ := h
  cases v with
  | inl r => exact ⟨r, rfl, hv⟩
  | inr s => exact hv
theorem Ans.mono {α : Type} {x : Option α} {P Q : α → Prop} (h : Ans x P) (k : ∀ v, P v → Q v) : Ans x Q := by
  obtain ⟨v, e, hv⟩ := h; exact ⟨v, e, k v hv⟩

theorem rd_drop (b : List Int) (k i : Nat) : rd (b.drop k) (i : Int) = rd b ((k + i : Nat) : Int) := by
  simp only [rd, Int.toNat_natCast, List.getD_eq_getElem?_getD, List.getElem?_drop]
theorem size_str (xs : List Int) : (strOfNums xs).size = xs.length := by
  unfold strOfNums; simp [ByteArray.size]
theorem size_ne {a : ByteArray} (h : a ≠ (⟨#[]⟩ : ByteArray)) : 0 < a.size := by
  rcases Nat.eq_zero_or_pos a.size with h0 | h0
  · refine absurd ?_ h
    cases a with
    | mk d => congr 1; exact Array.eq_empty_of_size_eq_zero h0
  · exact h0

/-! ### The reader of a frame's body -/
theorem ttext.ans (b : List Int) (e : Bool) (n : Int) (hb : Byt b) (h0 : 0 ≤ n) : Ans (ttext.f b e n) (fun t => Byt t.2.1 ∧ t.2.1.length ≤ b.length ∧ (t.2.2 = false → t.1.size = n.toNat)) := by
  unfold ttext.f
  refine Ans.ite (fun _ => Ans.some ⟨hb, Nat.le_refl _, fun h => by simp at h⟩) (fun h => ?_)
  refine Ans.gd (by omega) (Ans.gd (by omega) (Ans.some ⟨by rw [List.take_length]; exact hb.drop _, by simp, fun _ => ?_⟩))
  rw [size_str]; simp; omega
theorem tnumber.ans (K : Nat) (hK : 11 ≤ K) (b : List Int) (e : Bool) (hb : Byt b) (hl : b.length ≤ 140737488355328) : Ans (tnumber.f K b e) (fun t => Byt t.2.1 ∧ t.2.1.length ≤ b.length ∧ 0 ≤ t.1) := by
  unfold tnumber.f
  obtain ⟨t, h1, h2⟩ := Decode.eq b hb hl K hK
  refine Ans.bind (Q := fun v => v = t) ⟨t, h1, rfl⟩ (fun v hv => ?_)
  subst hv
  refine Ans.ite (fun _ => Ans.some ⟨hb, Nat.le_refl _, Int.le_refl _⟩) (fun h => ?_)
  obtain ⟨j, k1, k2, k3, k4, _⟩ := DecR.num hb h2 (by omega)
  refine Ans.gd (by omega) (Ans.some ⟨by rw [List.take_length]; exact hb.drop _, by simp, by show 0 ≤ v.1; omega⟩)
theorem tsmall.ans (K : Nat) (hK : 11 ≤ K) (b : List Int) (e : Bool) (hb : Byt b) (hl : b.length ≤ 140737488355328) : Ans (tsmall.f K b e) (fun t => Byt t.2.1 ∧ t.2.1.length ≤ b.length ∧ 0 ≤ t.1) := by
  unfold tsmall.f
  refine Ans.bind (tnumber.ans K hK b e hb hl) (fun v hv => ?_)
  refine Ans.ite (fun _ => Ans.some ⟨hv.1, hv.2.1, Int.le_refl _⟩) (fun h => Ans.some ⟨hv.1, hv.2.1, ?_⟩)
  have := hv.2.2
  show 0 ≤ IntKind.wrap .i64 v.1
  rw [w64 (by omega) (by omega)]; omega
theorem tall.ans (b : List Int) (e : Bool) (hb : Byt b) : Ans (tall.f b e) (fun t => Byt t.2.1 ∧ t.2.1.length ≤ b.length) := by
  unfold tall.f
  exact Ans.bind (ttext.ans b e _ hb (by omega)) (fun v hv => Ans.some ⟨hv.1, hv.2.1⟩)
theorem between.ans (a b c : Int) : Ans (between.f a b c) (fun _ => True) := by
  unfold between.f
  exact Ans.ite (fun _ => Ans.some trivial) (fun _ => Ans.some trivial)
theorem isRecord.ans (a : Int) : Ans (isRecord.f a) (fun _ => True) := by
  unfold isRecord.f
  exact Ans.ite (fun _ => Ans.some trivial) (fun _ => Ans.some trivial)
theorem may.ans (a : Int) (b c : ByteArray) (d : Int) : Ans (may.f a b c d) (fun _ => True) := by
  unfold may.f
  refine Ans.ite (fun _ => Ans.some trivial) (fun _ => Ans.bind (between.ans _ _ _) (fun v _ => Ans.ite (fun _ => ?_) (fun _ => Ans.some trivial)))
  refine Ans.bind (Q := fun _ => True) (Ans.ite (fun _ => Ans.some trivial) (fun _ => Ans.ite (fun _ => Ans.some trivial) (fun _ => Ans.some trivial))) (fun v _ => Ans.ite (fun _ => Ans.some trivial) (fun _ => Ans.some trivial))
theorem check.ans (a0_0 a0_1 a0_2 : Int) (a0_3 a0_4 : ByteArray) (a0_5 a0_6 a0_7 a0_8 : Int) (a0_9 : ByteArray) (a0_10 a0_11 a0_12 a0_13 : Int) : Ans (check.f a0_0 a0_1 a0_2 a0_3 a0_4 a0_5 a0_6 a0_7 a0_8 a0_9 a0_10 a0_11 a0_12 a0_13) (fun _ => True) := by
  unfold check.f
  have fin : ∀ (o : Int × Bool × Int × Int × ByteArray × ByteArray × Int × Int × Int × Int × ByteArray × Int × Int × Int × Int) (c : Bool), Ans ((if o.1 = 0 then (if o.2.1 = true then (Option.some c) else (Option.some true)) else (Option.some false)).bind fun o128 => if o128 = true then (Option.some (40 : Int)) else (Option.some o.1)) (fun _ => True) := by
    intro o c
    refine Ans.bind (Q := fun _ => True) (Ans.ite (fun _ => Ans.ite (fun _ => Ans.some trivial) (fun _ => Ans.some trivial)) (fun _ => Ans.some trivial)) (fun v _ => Ans.ite (fun _ => Ans.some trivial) (fun _ => Ans.some trivial))
  refine Ans.thn (Ans.bind (Q := fun _ => True) (Ans.ite (fun _ => Ans.some trivial) (fun _ => Ans.some trivial)) (fun v _ => ?_))
  refine Ans.ite (fun _ => ?_) (fun _ => Ans.ite (fun _ => ?_) (fun _ => Ans.ite (fun _ => ?_) (fun _ => Ans.some trivial)))
  · refine Ans.ite (fun _ => Ans.some trivial) (fun _ => Ans.bind (may.ans _ _ _ _) (fun u _ => Ans.some (fin _ _)))
  · refine Ans.bind (isRecord.ans _) (fun u _ => Ans.ite (fun _ => ?_) (fun _ => Ans.some trivial))
    refine Ans.bind (may.ans _ _ _ _) (fun u _ => Ans.bind (Q := fun _ => True) (Ans.bind (between.ans _ _ _) (fun x _ => Ans.ite (fun _ => Ans.bind (between.ans _ _ _) (fun _ _ => Ans.some trivial)) (fun _ => Ans.some trivial))) (fun x _ => Ans.some (fin _ _)))
  · refine Ans.bind (Q := fun _ => True) (Ans.bind (between.ans _ _ _) (fun x _ => Ans.ite (fun _ => Ans.bind (between.ans _ _ _) (fun _ _ => Ans.ite (fun _ => Ans.bind (between.ans _ _ _) (fun _ _ => Ans.some trivial)) (fun _ => Ans.some trivial))) (fun _ => Ans.some trivial))) (fun x _ => Ans.some (fin _ _))
theorem parse.ans (K : Nat) (hK : 11 ≤ K) (b : List Int) (hb : Byt b) (hl : b.length ≤ 140737488355328) : Ans (parse.f K b) (fun _ => True) := by
  unfold parse.f
  refine Ans.bind (ttext.ans b false 1 hb (by omega)) (fun t5 h5 => ?_)
  obtain ⟨b5, l5, s5⟩ := h5
  refine Ans.ite (fun _ => Ans.some trivial) (fun hne => ?_)
  have hs5 := s5 (by simpa using hne)
  refine Ans.gd (by rw [hs5]; decide) ?_
  refine Ans.bind (Q := fun _ => True) ?_ (fun o _ => ?_)
  · refine Ans.ite (fun _ => ?_) (fun _ => Ans.ite (fun _ => ?_) (fun _ => Ans.ite (fun _ => ?_) (fun _ => Ans.ite (fun _ => ?_) (fun _ => Ans.some trivial))))
    · refine Ans.bind (tnumber.ans K hK _ _ b5 (by omega)) (fun t1 h1 => Ans.bind (tsmall.ans K hK _ _ h1.1 (by omega)) (fun t2 h2 => Ans.bind (ttext.ans _ _ _ h2.1 h2.2.2) (fun t3 h3 => Ans.bind (tall.ans _ _ h3.1) (fun _ _ => Ans.some trivial))))
    · refine Ans.bind (tnumber.ans K hK _ _ b5 (by omega)) (fun t1 h1 => Ans.bind (tall.ans _ _ h1.1) (fun _ _ => Ans.some trivial))
    · refine Ans.bind (tnumber.ans K hK _ _ b5 (by omega)) (fun t1 h1 => Ans.bind (ttext.ans _ _ 1 h1.1 (by omega)) (fun t2 h2 => ?_))
      refine Ans.bind (Q := fun _ => True) (Ans.ite (fun h => Ans.gd (by have := size_ne h; omega) (Ans.some trivial)) (fun _ => Ans.some trivial)) (fun _ _ => ?_)
      exact Ans.bind (tsmall.ans K hK _ _ h2.1 (by omega)) (fun t3 h3 => Ans.bind (tsmall.ans K hK _ _ h3.1 (by omega)) (fun t4 h4 => Ans.bind (tall.ans _ _ h4.1) (fun _ _ => Ans.some trivial)))
    · exact Ans.bind (tsmall.ans K hK _ _ b5 (by omega)) (fun t1 h1 => Ans.bind (tsmall.ans K hK _ _ h1.1 (by omega)) (fun t2 h2 => Ans.bind (tsmall.ans K hK _ _ h2.1 (by omega)) (fun t3 h3 => Ans.bind (tsmall.ans K hK _ _ h3.1 (by omega)) (fun t4 h4 => Ans.some trivial))))
  · refine Ans.bind (Q := fun _ => True) (Ans.ite (fun _ => Ans.some trivial) (fun _ => Ans.ite (fun _ => Ans.some trivial) (fun _ => Ans.bind (check.ans _ _ _ _ _ _ _ _ _ _ _ _ _ _) (fun _ _ => Ans.some trivial)))) (fun _ _ => Ans.ite (fun _ => Ans.some trivial) (fun _ => Ans.some trivial))
end Go.Proofs.Ytakolnamobkkkaa
