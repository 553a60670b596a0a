/- Own text. Where frames stand: what decoding and encoding answer, said by that alone. Conditions: bytes, whole numbers in their types' bounds. -/
import Derived.Test.YtakolnamobkkkaaPureH
import Derived.Test.YtakolnamobkkkaaPureE
set_option linter.unusedSimpArgs false
set_option linter.unusedVariables false
set_option maxRecDepth 100000
namespace Go.Proofs.Ytakolnamobkkkaa
open Go Go.Sx

theorem p15.inj {f g : D14} {x y : Bool} (h : p15 f x = p15 g y) : f = g := by
  obtain ⟨k, l, rk, key, v, pl, pk, pa, pn, pkey, c, b, r, s⟩ := f
  obtain ⟨k', l', rk', key', v', pl', pk', pa', pn', pkey', c', b', r', s'⟩ := g
  simp only [p15, Prod.mk.injEq] at h ⊢
  obtain ⟨h1, h2, h3, h4, h5, h6, h7, h8, h9, h10, h11, h12, h13, h14, _⟩ := h
  exact ⟨h1, h2, h3, h4, h5, h6, h7, h8, h9, h10, h11, h12, h13, h14⟩
/-- A body is of one frame alone. -/
theorem bdy.inj {f g : D14} (hf : Val f) (hg : Val g) (h : bdy f = bdy g) : f = g := by
  have h1 := parse.back 11 (Nat.le_refl _) hf
  rw [h, parse.back 11 (Nat.le_refl _) hg] at h1
  exact (p15.inj (Option.some.inj h1)).symm
theorem bodyE.cases (K : Nat) (hK : 11 ≤ K) (f : D14) (hw : Wf f) : (Val f ∧ bodyE K f = some (bdy f, 0)) ∨ (¬ Val f ∧ ∃ e : Int, e ≠ 0 ∧ bodyE K f = some ([], e)) := by
  obtain ⟨k, h1, _⟩ := check.ans f.1 f.2.1 f.2.2.1 f.2.2.2.1 f.2.2.2.2.1 f.2.2.2.2.2.1 f.2.2.2.2.2.2.1 f.2.2.2.2.2.2.2.1 f.2.2.2.2.2.2.2.2.1 f.2.2.2.2.2.2.2.2.2.1 f.2.2.2.2.2.2.2.2.2.2.1 f.2.2.2.2.2.2.2.2.2.2.2.1 f.2.2.2.2.2.2.2.2.2.2.2.2.1 f.2.2.2.2.2.2.2.2.2.2.2.2.2
  by_cases h0 : k = 0
  · subst h0
    have hv : Val f := Val.of h1 hw
    exact .inl ⟨hv, bodyE.val K hK hv⟩
  · refine .inr ⟨fun hv => ?_, k, h0, ?_⟩
    · have := hv.1
      unfold chk at this
      rw [h1] at this; cases this; exact h0 rfl
    · unfold bodyE fBody.f
      rw [h1, Option.bind_some, if_pos h0]
def encE (K : Nat) (f : D14) : Option (List Int × Int) := fEncode.f K f.1 f.2.1 f.2.2.1 f.2.2.2.1 f.2.2.2.2.1 f.2.2.2.2.2.1 f.2.2.2.2.2.2.1 f.2.2.2.2.2.2.2.1 f.2.2.2.2.2.2.2.2.1 f.2.2.2.2.2.2.2.2.2.1 f.2.2.2.2.2.2.2.2.2.2.1 f.2.2.2.2.2.2.2.2.2.2.2.1 f.2.2.2.2.2.2.2.2.2.2.2.2.1 f.2.2.2.2.2.2.2.2.2.2.2.2.2
/-- A frame as bytes. -/
def frm (f : D14) : List Int := frameOf (bdy f)
theorem frm_len (f : D14) : (frm f).length = (esc (bdy f)).length + 9 := frameOf_len _
theorem frm_le {f : D14} (h : Val f) : 10 ≤ (frm f).length ∧ (frm f).length ≤ 6009 ∧ (esc (bdy f)).length ≤ 6000 ∧ 1 ≤ (esc (bdy f)).length := by
  have h1 := bdy_len h.2
  have h2 := esc_le (bdy f)
  have h3 := frm_len f
  omega
theorem frm_byt {f : D14} (h : Val f) : Byt (frm f) := by
  have hb := bdy_byt h.2
  refine Byt.app.2 ⟨?_, Byt.app.2 ⟨dig_byt _ _, Byt.app.2 ⟨esc_byt hb, dig_byt _ _⟩⟩⟩
  intro x hx; rw [List.mem_singleton] at hx; subst hx; decide
theorem encE.spec (K : Nat) (hK : 2097200 < K) (f : D14) (hw : Wf f) : (Val f ∧ encE K f = some (frm f, 0)) ∨ (¬ Val f ∧ ∃ e : Int, e ≠ 0 ∧ encE K f = some ([], e)) := by
  obtain ⟨t, h1, h2⟩ := fEncode.ans K hK f.1 f.2.1 f.2.2.1 f.2.2.2.1 f.2.2.2.2.1 f.2.2.2.2.2.1 f.2.2.2.2.2.2.1 f.2.2.2.2.2.2.2.1 f.2.2.2.2.2.2.2.2.1 f.2.2.2.2.2.2.2.2.2.1 f.2.2.2.2.2.2.2.2.2.2.1 f.2.2.2.2.2.2.2.2.2.2.2.1 f.2.2.2.2.2.2.2.2.2.2.2.2.1 f.2.2.2.2.2.2.2.2.2.2.2.2.2 hw.1 hw.2.1
  have h1' : encE K f = some t := h1
  rcases bodyE.cases K (by omega) f hw with ⟨hv, hb⟩ | ⟨hv, e, he, hb⟩
  · refine .inl ⟨hv, ?_⟩
    rcases h2 with ⟨hne, hnil⟩ | ⟨h0, b, hb', _, _, _, hF⟩
    · exfalso
      -- the body is there, and short: encoding does not fail
      have hb2 := bdy_byt hv.2
      have hl := frm_le hv
      have hlen := bdy_len hv.2
      unfold bodyE at hb
      unfold fEncode.f at h1
      have p3 : (128 : Nat) ^ 3 = 2097152 := by decide
      obtain ⟨u, hu1, hu2⟩ := Digits.eq (esc (bdy f)).length 3 (by omega) K (by omega)
      have hu : u.2 = 0 := by
        rcases hu2 with ⟨_, _, h⟩ | ⟨m', hm, _, _, ⟨_, _, h⟩ | ⟨_, e2, _⟩⟩
        · omega
        · obtain rfl : 3 = m' := by omega
          omega
        · exact e2
      rw [hb, Option.bind_some, if_neg (by simp), Wrap.eq _ hb2 (by omega) K (by omega), Option.bind_some, wu64 _ (by omega), hu1, Option.bind_some, if_neg (by omega)] at h1
      revert h1
      generalize (Sum.f K [u.1, esc (bdy f)]) = S
      intro h1
      cases S with
      | none => simp at h1
      | some S =>
        rw [Option.bind_some] at h1
        generalize (Digits.f K (IntKind.wrap .u64 S) 5) = D at h1
        cases D with
        | none => simp at h1
        | some D =>
          rw [Option.bind_some] at h1
          have g := fun {p : Prop} [Decidable p] {x : Option (List Int × Int)} (h : gd p x = some t) => (gd_some h)
          obtain ⟨_, h1⟩ := g h1
          obtain ⟨_, h1⟩ := g h1
          obtain ⟨_, h1⟩ := g h1
          cases h1
          exact hne rfl
    · unfold bodyE at hb
      rw [hb] at hb'; cases hb'
      rw [h1']
      exact congrArg some (Prod.ext hF h0)
  · refine .inr ⟨hv, ?_⟩
    rcases h2 with ⟨hne, hnil⟩ | ⟨h0, b, hb', _⟩
    · exact ⟨t.2, hne, by rw [h1']; exact congrArg some (Prod.ext hnil rfl)⟩
    · unfold bodyE at hb
      rw [hb] at hb'; cases hb'; exact absurd rfl he

/-- A frame stands at a place. -/
def FrAt (b : List Int) (p n : Nat) (f : D14) : Prop := Val f ∧ n = (frm f).length ∧ p + n ≤ b.length ∧ (b.take (p + n)).drop p = frm f
def d16 (f : D14) (n e : Int) : D16 := (f.1, f.2.1, f.2.2.1, f.2.2.2.1, f.2.2.2.2.1, f.2.2.2.2.2.1, f.2.2.2.2.2.2.1, f.2.2.2.2.2.2.2.1, f.2.2.2.2.2.2.2.2.1, f.2.2.2.2.2.2.2.2.2.1, f.2.2.2.2.2.2.2.2.2.2.1, f.2.2.2.2.2.2.2.2.2.2.2.1, f.2.2.2.2.2.2.2.2.2.2.2.2.1, f.2.2.2.2.2.2.2.2.2.2.2.2.2, n, e)
theorem FrAt.split {b : List Int} {p n : Nat} {f : D14} (h : FrAt b p n f) : b = b.take p ++ (frm f ++ b.drop (p + n)) ∧ (b.take p).length = p := by
  obtain ⟨_, hn, hp, he⟩ := h
  refine ⟨?_, by simp; omega⟩
  rw [← he]
  have h2 := (List.take_append_drop p (b.take (p + n))).symm
  rw [List.take_take, Nat.min_eq_left (by omega)] at h2
  have h3 := (List.take_append_drop (p + n) b).symm
  rw [h2, List.append_assoc] at h3
  exact h3
theorem fDecode.at (K : Nat) (b : List Int) (hb : Byt b) (hl : b.length ≤ 140737488355328) (hK : b.length + 2097300 < K) {p n : Nat} {f : D14} (h : FrAt b p n f) : fDecode.f K b (p : Int) = some (d16 f n 0) := by
  obtain ⟨hs, hpl⟩ := h.split
  obtain ⟨hv, hn, hp, _⟩ := h
  have hle := frm_le hv
  have hx : Byt (b.take p) := hb.take _
  have hy : Byt (b.drop (p + n)) := hb.drop _
  have hxy : (b.take p).length + n + (b.drop (p + n)).length = b.length := by simp; omega
  have hn' : n = (esc (bdy f)).length + 9 := by rw [hn, frm_len]
  obtain ⟨t, h1, q, h2, h3⟩ := fDecode.madeG K (b.take p) (bdy f) (b.drop (p + n)) hx (bdy_byt hv.2) hy (by omega) (by omega) (by omega)
  rw [parse.back K (by omega) hv] at h2
  cases h2
  have e : (b.take p ++ (frameOf (bdy f) ++ b.drop (p + n))) = b := hs.symm
  rw [e, hpl] at h1
  rw [h1, h3]
  rw [← hn']
  rfl
theorem fDecode.no (K : Nat) (b : List Int) (hb : Byt b) (hl : b.length ≤ 140737488355328) (hK : b.length + 2097300 < K) (a : Int) (h : ∀ (p n : Nat) (f : D14), a = p → ¬ FrAt b p n f) : ∃ e : Int, e ≠ 0 ∧ fDecode.f K b a = some (d16 zeroF 0 e) := by
  obtain ⟨t, h1, h2⟩ := fDecode.rel b hb (by omega) a K (by omega)
  rcases h2 with ⟨e, he, rfl⟩ | ⟨h0, p, n, rfl, hn1, hn, hp, el, henc, w1, w2, w3⟩
  · exact ⟨e, he, h1⟩
  · exfalso
    obtain ⟨k, l, rk, key, v, pl, pk, pa, pn, pkey, c, by_, r, s, len, e⟩ := t
    have hw : Wf (k, l, rk, key, v, pl, pk, pa, pn, pkey, c, by_, r, s) := ⟨w1, w2, w3⟩
    rcases encE.spec K (by omega) (k, l, rk, key, v, pl, pk, pa, pn, pkey, c, by_, r, s) hw with ⟨hv, hE⟩ | ⟨hv, e', he', hE⟩
    · have henc' : encE K (k, l, rk, key, v, pl, pk, pa, pn, pkey, c, by_, r, s) = _ := henc
      rw [hE] at henc'
      have hfr := congrArg Prod.fst (Option.some.inj henc')
      simp only at hfr
      refine h p (n + 9) _ rfl ⟨hv, ?_, by omega, by rw [hfr, show p + (n + 9) = p + 9 + n by omega]⟩
      rw [hfr]; simp; omega
    · have henc' : encE K (k, l, rk, key, v, pl, pk, pa, pn, pkey, c, by_, r, s) = _ := henc
      rw [hE] at henc'
      exact he' (congrArg Prod.snd (Option.some.inj henc'))
/-- What decoding answers. -/
theorem fDecode.spec (K : Nat) (b : List Int) (hb : Byt b) (hl : b.length ≤ 140737488355328) (hK : b.length + 2097300 < K) (a : Int) : Ans (fDecode.f K b a) (fun t => (∃ (p n : Nat) (f : D14), a = p ∧ FrAt b p n f ∧ t = d16 f n 0) ∨ (∃ e : Int, e ≠ 0 ∧ t = d16 zeroF 0 e ∧ ∀ (p n : Nat) (f : D14), a = p → ¬ FrAt b p n f)) := by
  by_cases h : ∃ (p n : Nat) (f : D14), a = p ∧ FrAt b p n f
  · obtain ⟨p, n, f, rfl, hf⟩ := h
    exact ⟨_, fDecode.at K b hb hl hK hf, .inl ⟨p, n, f, rfl, hf, rfl⟩⟩
  · have hno : ∀ (p n : Nat) (f : D14), a = p → ¬ FrAt b p n f := fun p n f e hf => h ⟨p, n, f, e, hf⟩
    obtain ⟨e, he, hd⟩ := fDecode.no K b hb hl hK a hno
    exact ⟨_, hd, .inr ⟨e, he, rfl, hno⟩⟩
/-- What stands at a place is one frame alone. -/
theorem FrAt.uniq {b : List Int} (hb : Byt b) (hl : b.length ≤ 140737488355328) {p n m : Nat} {f g : D14} (h : FrAt b p n f) (k : FrAt b p m g) : f = g ∧ n = m := by
  have h1 := fDecode.at (b.length + 2097301) b hb hl (by omega) h
  rw [fDecode.at (b.length + 2097301) b hb hl (by omega) k] at h1
  have h2 := Option.some.inj h1
  have hfg : f = g := by
    obtain ⟨k, l, rk, key, v, pl, pk, pa, pn, pkey, c, b, r, s⟩ := f
    obtain ⟨k', l', rk', key', v', pl', pk', pa', pn', pkey', c', b', r', s'⟩ := g
    simp only [d16, Prod.mk.injEq] at h2 ⊢
    obtain ⟨h1, h2, h3, h4, h5, h6, h7, h8, h9, h10, h11, h12, h13, h14, _⟩ := h2
    exact ⟨h1.symm, h2.symm, h3.symm, h4.symm, h5.symm, h6.symm, h7.symm, h8.symm, h9.symm, h10.symm, h11.symm, h12.symm, h13.symm, h14.symm⟩
  refine ⟨hfg, ?_⟩
  rw [h.2.1, k.2.1, hfg]
theorem FrAt.mid (x y : List Int) {f : D14} (h : Val f) : FrAt (x ++ (frm f ++ y)) x.length (frm f).length f := by
  have hl : (x ++ (frm f ++ y)).length = x.length + ((frm f).length + y.length) := by simp
  refine ⟨h, rfl, by omega, ?_⟩
  rw [← take_drop3 _ _ _ (by omega), List.drop_left, List.take_left]
theorem frm_lead (f : D14) : ∃ r, frm f = 167 :: r ∧ (167 : Int) ∉ r := by
  refine ⟨dig 3 (esc (bdy f)).length ++ (esc (bdy f) ++ dig 5 (sumOf (esc (bdy f)))), rfl, ?_⟩
  intro h
  simp only [List.mem_append] at h
  rcases h with h | h | h
  · exact absurd (dig_mem 3 _ _ h).2 (by decide)
  · exact esc_lead _ h
  · exact absurd (dig_mem 5 _ _ h).2 (by decide)
end Go.Proofs.Ytakolnamobkkkaa
