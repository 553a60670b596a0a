/- Own text. A frame that is decoded: its bounds, and no lead byte but its first; the plain part of the law FrameApart. Conditions: bytes. -/
import Derived.Test.YtakolnamobkkkaaPureA
import Derived.Test.YtakolnamobkkkaaLift6
set_option linter.unusedSimpArgs false
set_option linter.unusedVariables false
set_option maxRecDepth 100000
namespace Go.Proofs.Ytakolnamobkkkaa
open Go Go.Sx

theorem fLength.l1_eq (c : List Int) (hl : c.length ≤ 140737488355328) : ∀ (n i : Nat), i + n = 3 → (∀ j : Nat, j < i → j < c.length ∧ rd c (j : Int) < 128) → ∀ k, n < k → Ans (fLength.l1 c k (i : Int)) (fun o => match o with | .inl r => r.2 ≠ 0 | .inr _ => ∀ j : Nat, j < 3 → j < c.length ∧ rd c (j : Int) < 128) := by
  intro n
  induction n with
  | zero =>
    intro i h ha k hk
    obtain ⟨k, rfl⟩ : ∃ m, k = m + 1 := ⟨k - 1, by omega⟩
    rw [fLength.l1, if_neg (by omega)]
    exact Ans.some (fun j hj => ha j (by omega))
  | succ n ih =>
    intro i h ha k hk
    obtain ⟨k, rfl⟩ : ∃ m, k = m + 1 := ⟨k - 1, by omega⟩
    rw [fLength.l1, if_pos (by omega)]
    refine Ans.ite (fun _ => Ans.some (show (43 : Int) ≠ 0 by decide)) (fun h1 => Ans.gd (by omega) (Ans.ite (fun _ => Ans.some (show (42 : Int) ≠ 0 by decide)) (fun h2 => ?_)))
    rw [w64 (by omega) (by omega), show ((i : Int) + 1) = ((i + 1 : Nat) : Int) by omega]
    refine ih (i + 1) (by omega) (fun j hj => ?_) k (by omega)
    by_cases e : j = i
    · subst e; exact ⟨by omega, by omega⟩
    · exact ha j (by omega)
theorem bv3 (c : List Int) (h : c.length = 3) (hb : ∀ x ∈ c, 0 ≤ x ∧ x < 128) : bv c < 2097152 := by
  have := bv_lt c hb
  rw [h] at this
  have e : 128 ^ 3 = 2097152 := by decide
  omega
theorem fLength.ans (c : List Int) (hb : Byt c) (hl : c.length ≤ 140737488355328) (K : Nat) (hK : 9 < K) : Ans (fLength.f K c) (fun t => t.2 ≠ 0 ∨ (t.2 = 0 ∧ ∃ n : Nat, t.1 = (n : Int) ∧ n < 2097152 ∧ n = bv (c.take 3) ∧ ∀ j : Nat, j < 3 → j < c.length ∧ rd c (j : Int) < 128)) := by
  unfold fLength.f
  refine Ans.thn (Ans.mono (fLength.l1_eq c hl 3 0 (by omega) (fun j hj => by omega) K (by omega)) (fun o ho => ?_))
  cases o with
  | inl r => exact .inl ho
  | inr u =>
    have ho : ∀ j : Nat, j < 3 → j < c.length ∧ rd c (j : Int) < 128 := ho
    have h3 := (ho 2 (by omega)).1
    obtain ⟨t, h1, h2⟩ := Number.eq c 3 hb K hK
    refine Ans.bind (Q := fun v => v = t) ⟨t, h1, rfl⟩ (fun v hv => ?_)
    subst hv
    have hall : ∀ x ∈ c.take 3, x < 128 := by
      intro x hx
      obtain ⟨j, hj, rfl⟩ := List.mem_iff_getElem.1 hx
      rw [List.length_take] at hj
      have := (ho j (by omega)).2
      rw [rd_nat c j (by omega)] at this
      rw [List.getElem_take]; exact this
    have hv1 : v.1 = (bv (c.take 3) : Nat) := by
      rcases h2 with ⟨_, _, h⟩ | ⟨m, hm, _, _, ⟨_, _, h⟩ | ⟨_, _, _, h⟩ | ⟨_, e1, e2, _⟩⟩
      · omega
      · omega
      · obtain rfl : m = 3 := by omega
        exact absurd hall h
      · obtain rfl : m = 3 := by omega
        exact e1
    have hbv := bv3 (c.take 3) (by simp; omega) (fun x hx => ⟨(hb.take 3 x hx).1, hall x hx⟩)
    refine Ans.some (.inr ⟨rfl, bv (c.take 3), ?_, hbv, rfl, ho⟩)
    show IntKind.wrap .i64 v.1 = _
    rw [hv1, w64 (by omega) (by omega)]

/-- A frame at a place: where it ends, and that no lead byte stands in it. -/
def Frm (b : List Int) (a len : Int) : Prop := ∃ p n : Nat, a = (p : Int) ∧ n < 2097152 ∧ p + 9 + n ≤ b.length ∧ len = ((n + 9 : Nat) : Int) ∧ rd b (p : Int) = 167 ∧ ∀ i : Nat, p < i → i < p + 9 + n → rd b (i : Int) ≠ 167
theorem fDecode.ans (b : List Int) (hb : Byt b) (hl : b.length ≤ 140737488355328) (a : Int) (K : Nat) (hK : b.length + 2097200 < K) :
    Ans (fDecode.f K b a) (fun t => t.2.2.2.2.2.2.2.2.2.2.2.2.2.2.2 ≠ 0 ∨ (t.2.2.2.2.2.2.2.2.2.2.2.2.2.2.2 = 0 ∧ Frm b a t.2.2.2.2.2.2.2.2.2.2.2.2.2.2.1)) := by
  unfold fDecode.f
  refine Ans.bind (Q := fun v => v = true ∨ (0 ≤ a ∧ a < b.length)) (Ans.ite (fun _ => Ans.some (.inl rfl)) (fun h => Ans.some ?_)) (fun o ho => Ans.ite (fun _ => Ans.some (.inl (by decide))) (fun hf => ?_))
  · by_cases h2 : (b.length : Int) ≤ a
    · exact .inl (decide_eq_true h2)
    · exact .inr ⟨by omega, by omega⟩
  have ho : 0 ≤ a ∧ a < b.length := by
    rcases ho with h | h
    · exact absurd h hf
    · exact h
  obtain ⟨p, rfl⟩ : ∃ p : Nat, a = (p : Int) := ⟨a.toNat, by omega⟩
  have w1 : IntKind.wrap .i64 ((p : Int) + 1) = ((p + 1 : Nat) : Int) := by rw [w64 (by omega) (by omega)]; omega
  have w4 : IntKind.wrap .i64 ((p : Int) + 4) = ((p + 4 : Nat) : Int) := by rw [w64 (by omega) (by omega)]; omega
  refine Ans.gd (by omega) (Ans.ite (fun _ => Ans.some (.inl (by decide))) (fun h167 => ?_))
  simp only [w1, w4, Int.toNat_natCast, List.take_length]
  refine Ans.gd (by omega) (Ans.bind (fLength.ans (b.drop (p + 1)) (hb.drop _) (by simp; omega) K (by omega)) (fun t13 h13 => Ans.ite (fun h => Ans.some (.inl h)) (fun h0 => ?_)))
  obtain ⟨_, n, en, hn, hbv, hdig⟩ : t13.2 = 0 ∧ ∃ n : Nat, t13.1 = (n : Int) ∧ n < 2097152 ∧ n = bv ((b.drop (p + 1)).take 3) ∧ ∀ j : Nat, j < 3 → j < (b.drop (p + 1)).length ∧ rd (b.drop (p + 1)) (j : Int) < 128 := by
    rcases h13 with h | h
    · exact absurd h h0
    · exact h
  have w5 : IntKind.wrap .i64 (((p + 4 : Nat) : Int) + (n : Int)) = ((p + 4 + n : Nat) : Int) := by rw [w64 (by omega) (by omega)]; omega
  have w9 : IntKind.wrap .i64 (((p + 4 + n : Nat) : Int) + 5) = ((p + 9 + n : Nat) : Int) := by rw [w64 (by omega) (by omega)]; omega
  have wl : IntKind.wrap .i64 (IntKind.wrap .i64 (4 + (n : Int)) + 5) = ((n + 9 : Nat) : Int) := by
    rw [w64 (n := 4 + (n : Int)) (by omega) (by omega), w64 (by omega) (by omega)]; omega
  simp only [en, w5, w9, wl, Int.toNat_natCast]
  refine Ans.ite (fun _ => Ans.some (.inl (by decide))) (fun hlen => Ans.gd (by omega) ?_)
  have hsl : ((b.take (p + 4 + n)).drop (p + 4)).length = n := by simp; omega
  have hsb : Byt ((b.take (p + 4 + n)).drop (p + 4)) := (hb.take _).drop _
  obtain ⟨r, hr1, hr2⟩ := Next.eq ((b.take (p + 4 + n)).drop (p + 4)) 0 hsb (by omega)
  refine Ans.bind (Q := fun v => v = r) ⟨r, hr1, rfl⟩ (fun v hv => Ans.ite (fun _ => Ans.some (.inl (by decide))) (fun hnext => ?_))
  subst hv
  have hno : ∀ i : Nat, i < n → rd b ((p + 4 + i : Nat) : Int) ≠ 167 := by
    intro i hi
    have e : rd ((b.take (p + 4 + n)).drop (p + 4)) (i : Int) = rd b ((p + 4 + i : Nat) : Int) := by rw [rd_drop, rd_take b _ _ (by omega) (by omega)]
    rw [← e]
    rcases hr2 with ⟨h1, h2⟩ | ⟨j, h1, h2, _⟩
    · exact h2 i (by omega) (by omega)
    · omega
  refine Ans.gd (by omega) ?_
  obtain ⟨u, hu1, hu2⟩ := Number.eq ((b.take (p + 9 + n)).drop (p + 4 + n)) 5 ((hb.take _).drop _) K (by omega)
  refine Ans.bind (Q := fun v => v = u) ⟨u, hu1, rfl⟩ (fun v hv => ?_)
  subst hv
  have hsum : Ans (Sum.f K [((b.take (p + 4 + n)).drop (p + 1))]) (fun _ => True) := by
    refine ⟨_, Sum.eq _ K (by omega) (fun q hq => ?_) (by simp) (by simp; omega), trivial⟩
    rw [List.mem_singleton] at hq; subst hq
    exact ⟨(hb.take _).drop _, by simp; omega, by simp; omega⟩
  refine Ans.bind (Q := fun o => o.2 = true ∨ (o.1 = (b.take (p + 4 + n)).drop (p + 4) ∧ v.2 = 0)) (Ans.ite (fun _ => Ans.some (.inl rfl)) (fun h5 => Ans.gd (by omega) (Ans.bind hsum (fun _ _ => Ans.some (.inr ⟨rfl, by omega⟩))))) (fun o31 h31 => Ans.ite (fun _ => Ans.some (.inl (by decide))) (fun h44 => ?_))
  obtain ⟨e31, hv2⟩ : o31.1 = (b.take (p + 4 + n)).drop (p + 4) ∧ v.2 = 0 := by
    rcases h31 with h | h
    · exact absurd h h44
    · exact h
  rw [e31]
  have hdig5 : ∀ i : Nat, i < 5 → rd b ((p + 4 + n + i : Nat) : Int) < 128 := by
    intro i hi
    have hq : ((b.take (p + 9 + n)).drop (p + 4 + n)).length = 5 := by simp; omega
    have e : rd ((b.take (p + 9 + n)).drop (p + 4 + n)) (i : Int) = rd b ((p + 4 + n + i : Nat) : Int) := by rw [rd_drop, rd_take b _ _ (by omega) (by omega)]
    rw [← e]
    have hm := rd_mem ((b.take (p + 9 + n)).drop (p + 4 + n)) i (by omega)
    rcases hu2 with ⟨_, h, _⟩ | ⟨m, hm5, _, _, ⟨_, h, _⟩ | ⟨_, _, h, _⟩ | ⟨_, _, _, h⟩⟩
    · omega
    · omega
    · omega
    · obtain rfl : m = 5 := by omega
      rw [List.take_of_length_le (by omega)] at h
      exact h _ hm
  have hopen : Ans (Open.f K ((b.take (p + 4 + n)).drop (p + 4))) (fun t => Byt t.1 ∧ t.1.length ≤ 2097152) := by
    cases ho : opn ((b.take (p + 4 + n)).drop (p + 4)) 0 with
    | inl q =>
      obtain ⟨r, h1, h2, _⟩ := Open.inl hsb (by omega) K (by omega) ho
      exact ⟨r, h1, by rw [h2]; exact opn_byt hsb ho, by rw [h2]; have := (opn_only _ _ _ hsb ho).2; omega⟩
    | inr e =>
      obtain ⟨r, h1, h2, _⟩ := Open.inr hsb (by omega) K (by omega) ho
      exact ⟨r, h1, by rw [h2]; exact Byt.nil, by rw [h2]; simp⟩
  refine Ans.bind hopen (fun t44 h44b => Ans.ite (fun _ => Ans.some (.inl (by decide))) (fun _ => Ans.bind (parse.ans K (by omega) t44.1 h44b.1 (by omega)) (fun t51 _ => Ans.ite (fun _ => Ans.some (.inr ⟨rfl, p, n, rfl, hn, by omega, rfl, by omega, ?_⟩)) (fun _ => Ans.some (.inl (by decide))))))
  intro i hi1 hi2
  by_cases c1 : i < p + 4
  · have := (hdig (i - (p + 1)) (by omega)).2
    rw [rd_drop, show p + 1 + (i - (p + 1)) = i by omega] at this
    omega
  · by_cases c2 : i < p + 4 + n
    · have := hno (i - (p + 4)) (by omega)
      rwa [show p + 4 + (i - (p + 4)) = i by omega] at this
    · have := hdig5 (i - (p + 4 + n)) (by omega)
      rw [show p + 4 + n + (i - (p + 4 + n)) = i by omega] at this
      omega
theorem Pure.FrameApart : ∀ (a0 : List Int) (a1 : Int) (a2 : Int), (∀ x ∈ a0, (Lit.int .u8 x).wf = true) → a0.length * 1 ≤ 140737488351232 → (Lit.int .i64 a1).wf = true → (Lit.int .i64 a2).wf = true → ∃ K, FrameApart.f K a0 a1 a2 = some true := by
  intro b a1 a2 hb hl h1 h2
  have hb := Byt.of hb
  refine ⟨b.length + 2097300, ?_⟩
  generalize hK : b.length + 2097300 = K
  have key : Ans (FrameApart.f K b a1 a2) (fun r => r = true) := by
    unfold FrameApart.f
    refine Ans.bind (Q := fun v => v = true) ⟨true, known.eq K (by omega), rfl⟩ (fun t1 ht1 => ?_)
    subst ht1
    refine Ans.bind (fDecode.ans b hb (by omega) a1 K (by omega)) (fun t3 h3 => Ans.bind (fDecode.ans b hb (by omega) a2 K (by omega)) (fun t7 h7 => ?_))
    refine Ans.bind (Q := fun o => o = true ∨ (Frm b a1 t3.2.2.2.2.2.2.2.2.2.2.2.2.2.2.1 ∧ Frm b a2 t7.2.2.2.2.2.2.2.2.2.2.2.2.2.2.1 ∧ a1 ≠ a2)) (Ans.ite (fun _ => Ans.some (.inl rfl)) (fun e3 => Ans.ite (fun _ => Ans.some (.inl rfl)) (fun e7 => Ans.some ?_))) (fun o ho => Ans.ite (fun _ => Ans.some rfl) (fun hf => ?_))
    · by_cases e : a1 = a2
      · exact .inl (decide_eq_true e)
      · refine .inr ⟨?_, ?_, e⟩
        · rcases h3 with h | h
          · exact absurd h e3
          · exact h.2
        · rcases h7 with h | h
          · exact absurd h e7
          · exact h.2
    rcases ho with h | ⟨⟨p, n, rfl, hn, hp, el, r1, r2⟩, ⟨q, m, rfl, hm, hq, el2, r3, r4⟩, hne⟩
    · exact absurd h hf
    · rw [if_pos rfl, el, el2]
      rw [w64 (n := (p : Int) + ((n + 9 : Nat) : Int)) (by omega) (by omega), w64 (n := (q : Int) + ((m + 9 : Nat) : Int)) (by omega) (by omega)]
      refine Ans.ite (fun _ => Ans.some rfl) (fun hlt => Ans.some (decide_eq_true ?_))
      rcases Nat.lt_trichotomy p q with h | h | h
      · exact absurd r3 (r2 q h (by omega))
      · omega
      · by_cases c : p < q + 9 + m
        · exact absurd r1 (r4 p h c)
        · omega
  obtain ⟨r, h, hr⟩ := key
  rw [h, hr]
end Go.Proofs.Ytakolnamobkkkaa
