/- Own text. The frames among bytes, in their order: what the scanner goes over. Conditions: bytes of bounded number. -/
import Derived.Test.YtkblnahoidbfkaaPureI
import Derived.Test.YtkblnahoidbfkaaLiftF
import Derived.Test.YtkblnahoidbfkaaSxFold
set_option linter.unusedSimpArgs false
set_option linter.unusedVariables false
set_option maxRecDepth 100000
namespace Go.Proofs.Ytkblnahoidbfkaa
open Go Go.Sx

/-! ### Where frames stand, in parts and in what was put together -/
theorem FrAt.le {b : List Int} {p n : Nat} {f : D14} (h : FrAt b p n f) : 10 ≤ n ∧ n ≤ 6009 ∧ p + n ≤ b.length := by
  obtain ⟨hv, hn, hp, _⟩ := h
  have := frm_le hv
  omega
theorem FrAt.seg {b c : List Int} {p q n : Nat} {f : D14} (h : FrAt b p n f) (hq : q + n ≤ c.length) (e : (c.take (q + n)).drop q = (b.take (p + n)).drop p) : FrAt c q n f := ⟨h.1, h.2.1, hq, by rw [e, h.2.2.2]⟩
theorem seg_take (b : List Int) (p n e : Nat) (h : p + n ≤ e) : ((b.take e).take (p + n)).drop p = (b.take (p + n)).drop p := by rw [List.take_take, Nat.min_eq_left h]
theorem seg_drop (b : List Int) (k p n : Nat) : ((b.drop k).take (p + n)).drop p = (b.take (k + p + n)).drop (k + p) := by
  rw [List.take_drop, List.drop_drop]
  rw [show k + (p + n) = k + p + n by omega]
theorem seg_left (x y : List Int) (p n : Nat) (h : p + n ≤ x.length) : ((x ++ y).take (p + n)).drop p = (x.take (p + n)).drop p := by rw [List.take_append_of_le_length h]
theorem FrAt.take {b : List Int} {p n e : Nat} {f : D14} (h : FrAt b p n f) (he : p + n ≤ e) : FrAt (b.take e) p n f := h.seg (by rw [List.length_take]; have := h.le; omega) (seg_take b p n e he)
theorem FrAt.of_take {b : List Int} {p n e : Nat} {f : D14} (h : FrAt (b.take e) p n f) : FrAt b p n f ∧ p + n ≤ e := by
  have hl := h.le
  rw [List.length_take] at hl
  exact ⟨h.seg (by omega) (seg_take b p n e (by omega)).symm, by omega⟩
theorem FrAt.drop {b : List Int} {k p n : Nat} {f : D14} (h : FrAt b (k + p) n f) : FrAt (b.drop k) p n f := h.seg (by rw [List.length_drop]; have := h.le; omega) (seg_drop b k p n)
theorem FrAt.of_drop {b : List Int} {k p n : Nat} {f : D14} (h : FrAt (b.drop k) p n f) : FrAt b (k + p) n f := h.seg (by have := h.le; rw [List.length_drop] at this; omega) (seg_drop b k p n).symm
theorem FrAt.left {x y : List Int} {p n : Nat} {f : D14} (h : FrAt x p n f) : FrAt (x ++ y) p n f := h.seg (by rw [List.length_append]; have := h.le; omega) (seg_left x y p n (by have := h.le; omega))
theorem FrAt.of_left {x y : List Int} {p n : Nat} {f : D14} (h : FrAt (x ++ y) p n f) (hp : p + n ≤ x.length) : FrAt x p n f := h.seg hp (seg_left x y p n hp).symm
theorem FrAt.right {x y : List Int} {p n : Nat} {f : D14} (h : FrAt y p n f) : FrAt (x ++ y) (x.length + p) n f := by
  have h' : FrAt ((x ++ y).drop x.length) p n f := by rw [List.drop_left]; exact h
  exact h'.of_drop
theorem FrAt.of_right {x y : List Int} {p n : Nat} {f : D14} (h : FrAt (x ++ y) (x.length + p) n f) : FrAt y p n f := by
  have := h.drop
  rwa [List.drop_left] at this
theorem FrAt.mid' (x y : List Int) {f : D14} (h : Val f) : FrAt (x ++ (frm f ++ y)) x.length (frm f).length f := FrAt.mid x y h
theorem rd_seg (b : List Int) (p n i : Nat) (h1 : p + n ≤ b.length) (hi : i < n) : rd b ((p + i : Nat) : Int) = rd ((b.take (p + n)).drop p) (i : Int) := by
  rw [rd_drop, rd_take b _ _ (by omega) (by omega)]
/-- A frame begins with the lead byte, and has none besides. -/
theorem FrAt.lead {b : List Int} {p n : Nat} {f : D14} (h : FrAt b p n f) : rd b (p : Int) = 167 ∧ ∀ q : Nat, p < q → q < p + n → rd b (q : Int) ≠ 167 := by
  have hl := h.le
  obtain ⟨hv, hn, hp, he⟩ := h
  obtain ⟨r, er, hr⟩ := frm_lead f
  constructor
  · have := rd_seg b p n 0 hp (by omega)
    rw [Nat.add_zero] at this
    rw [this, he, er]; rfl
  · intro q h1 h2
    have := rd_seg b p n (q - p) hp (by omega)
    rw [show p + (q - p) = q by omega] at this
    rw [this, he, er]
    have hlen : (frm f).length = r.length + 1 := by rw [er]; rfl
    obtain ⟨j, hj⟩ : ∃ j, q - p = j + 1 := ⟨q - p - 1, by omega⟩
    rw [hj]
    have e2 : rd (167 :: r) ((j + 1 : Nat) : Int) = rd r (j : Int) := by simp only [rd, Int.toNat_natCast, List.getD_cons_succ]
    rw [e2]
    intro h
    exact hr (h ▸ rd_mem r j (by omega))
/-- Within a frame none begins. -/
theorem FrAt.apart {b : List Int} {p n q m : Nat} {f g : D14} (h : FrAt b p n f) (k : FrAt b q m g) (hq : p < q) : p + n ≤ q := by
  rcases Nat.lt_or_ge q (p + n) with h1 | h1
  · exact absurd k.lead.1 (h.lead.2 q hq h1)
  · exact h1

abbrev Fr := Nat × Nat × D14
/-- All frames from a place on, in their order. -/
inductive Frs (b : List Int) : Nat → List Fr → Prop
  | nil {a : Nat} : (∀ p n f, a ≤ p → ¬ FrAt b p n f) → Frs b a []
  | cons {a p n : Nat} {f : D14} {l : List Fr} : a ≤ p → FrAt b p n f → (∀ q m g, a ≤ q → q < p → ¬ FrAt b q m g) → Frs b (p + n) l → Frs b a ((p, n, f) :: l)
theorem Frs.exists (b : List Int) : ∀ (k a : Nat), b.length - a ≤ k → ∃ l, Frs b a l := by
  intro k
  induction k with
  | zero => intro a h; exact ⟨[], .nil fun p n f hp hf => by have := hf.le; omega⟩
  | succ k ih =>
    intro a h
    by_cases ha : ∃ n f, FrAt b a n f
    · obtain ⟨n, f, hf⟩ := ha
      have hl := hf.le
      obtain ⟨l, hL⟩ := ih (a + n) (by omega)
      exact ⟨_, .cons (Nat.le_refl _) hf (fun q m g h1 h2 => by omega) hL⟩
    · by_cases hb : b.length ≤ a
      · exact ⟨[], .nil fun p n f hp hf => by have := hf.le; omega⟩
      · obtain ⟨l, hL⟩ := ih (a + 1) (by omega)
        cases hL with
        | nil h1 => exact ⟨[], .nil fun p n f hp hf => by
            rcases Nat.eq_or_lt_of_le hp with e | e
            · subst e; exact ha ⟨n, f, hf⟩
            · exact h1 p n f e hf⟩
        | cons h1 h2 h3 h4 => exact ⟨_, .cons (by omega) h2 (fun q m g hq hlt hg => by
            rcases Nat.eq_or_lt_of_le hq with e | e
            · subst e; exact ha ⟨m, g, hg⟩
            · exact h3 q m g e hlt hg) h4⟩
theorem Frs.all (b : List Int) (a : Nat) : ∃ l, Frs b a l := Frs.exists b _ a (Nat.le_refl _)
theorem Frs.mem {b : List Int} {a : Nat} {l : List Fr} (h : Frs b a l) : ∀ x ∈ l, a ≤ x.1 ∧ FrAt b x.1 x.2.1 x.2.2 := by
  induction h with
  | nil _ => intro x hx; cases hx
  | cons h1 h2 h3 h4 ih =>
    intro x hx
    rcases List.mem_cons.1 hx with rfl | hx
    · exact ⟨h1, h2⟩
    · have := ih x hx; exact ⟨by omega, this.2⟩
theorem Frs.has {b : List Int} {a : Nat} {l : List Fr} (h : Frs b a l) (hb : Byt b) (hl : b.length ≤ 140737488355328) : ∀ p n f, a ≤ p → FrAt b p n f → (p, n, f) ∈ l := by
  induction h with
  | nil h1 => intro p n f hp hf; exact absurd hf (h1 p n f hp)
  | cons h1 h2 h3 h4 ih =>
    rename_i a p n f l
    intro q m g hq hg
    rcases Nat.lt_trichotomy q p with h | h | h
    · exact absurd hg (h3 q m g hq h)
    · subst h
      obtain ⟨rfl, rfl⟩ := h2.uniq hb hl hg
      exact List.mem_cons_self
    · exact List.mem_cons_of_mem _ (ih q m g (h2.apart hg h) hg)
theorem Frs.len {b : List Int} {a : Nat} {l : List Fr} (h : Frs b a l) : a ≤ b.length → a + 10 * l.length ≤ b.length := by
  induction h with
  | nil _ => intro h; simpa using h
  | cons h1 h2 h3 h4 ih =>
    intro ha
    have := h2.le
    have := ih (by omega)
    rw [List.length_cons]; omega
/-- A list in its order, of just the frames. -/
theorem Frs.of {b : List Int} : ∀ (l : List Fr) (a : Nat), l.Pairwise (fun x y => x.1 < y.1) → (∀ x ∈ l, a ≤ x.1 ∧ FrAt b x.1 x.2.1 x.2.2) → (∀ p n f, a ≤ p → FrAt b p n f → (p, n, f) ∈ l) → Frs b a l
  | [], a, _, _, h => .nil fun p n f hp hf => by cases h p n f hp hf
  | (p, n, f) :: l, a, hs, hm, h => by
    obtain ⟨hs1, hs2⟩ := List.pairwise_cons.1 hs
    have hf := hm _ List.mem_cons_self
    refine .cons hf.1 hf.2 (fun q m g hq hlt hg => ?_) (Frs.of l (p + n) hs2 (fun x hx => ?_) (fun q m g hq hg => ?_))
    · rcases List.mem_cons.1 (h q m g hq hg) with e | e
      · cases e; omega
      · have := hs1 _ e; simp only at this; omega
    · have h1 := hs1 x hx
      have h2 := hm x (List.mem_cons_of_mem _ hx)
      exact ⟨hf.2.apart h2.2 h1, h2.2⟩
    · have hl := hf.2.le
      rcases List.mem_cons.1 (h q m g (by have := hf.1; omega) hg) with e | e
      · cases e; simp only at hl; omega
      · exact e
theorem Frs.sorted {b : List Int} {a : Nat} {l : List Fr} (h : Frs b a l) : l.Pairwise (fun x y => x.1 < y.1) := by
  induction h with
  | nil _ => exact .nil
  | cons h1 h2 h3 h4 ih =>
    refine List.pairwise_cons.2 ⟨fun y hy => ?_, ih⟩
    have := (h4.mem y hy).1
    have := h2.le
    simp only; omega
def shf (k : Nat) (l : List Fr) : List Fr := l.map fun x => (k + x.1, x.2.1, x.2.2)
theorem Frs.shift {x b : List Int} {a : Nat} {l : List Fr} (h : Frs b a l) : Frs (x ++ b) (x.length + a) (shf x.length l) := by
  induction h with
  | nil h1 =>
    refine .nil fun p n f hp hf => ?_
    obtain ⟨q, rfl⟩ : ∃ q, p = x.length + q := ⟨p - x.length, by omega⟩
    exact h1 q n f (by omega) hf.of_right
  | cons h1 h2 h3 h4 ih =>
    refine .cons (by omega) h2.right (fun q m g hq hlt hg => ?_) (by rw [Nat.add_assoc]; exact ih)
    obtain ⟨q', rfl⟩ : ∃ q', q = x.length + q' := ⟨q - x.length, by omega⟩
    exact h3 q' m g (by omega) (by omega) hg.of_right
theorem Frs.front {f : D14} (hv : Val f) {b : List Int} {l : List Fr} (h : Frs b 0 l) : Frs (frm f ++ b) 0 ((0, (frm f).length, f) :: shf (frm f).length l) := by
  refine .cons (Nat.le_refl _) (FrAt.mid [] b hv) (fun q m g h1 h2 => by omega) ?_
  have := h.shift (x := frm f)
  rw [Nat.add_zero] at this
  rw [Nat.zero_add]; exact this

/-! ### The next frame -/
abbrev T16 := Int × Int × Int × ByteArray × ByteArray × Int × Int × Int × Int × ByteArray × Int × Int × Int × Int × Int × Int
def n16 (p : Int) (f : D14) (n : Int) : Int × Int × Int × Int × ByteArray × ByteArray × Int × Int × Int × Int × ByteArray × Int × Int × Int × Int × Int := (p, f.1, f.2.1, f.2.2.1, f.2.2.2.1, f.2.2.2.2.1, f.2.2.2.2.2.1, f.2.2.2.2.2.2.1, f.2.2.2.2.2.2.2.1, f.2.2.2.2.2.2.2.2.1, f.2.2.2.2.2.2.2.2.2.1, f.2.2.2.2.2.2.2.2.2.2.1, f.2.2.2.2.2.2.2.2.2.2.2.1, f.2.2.2.2.2.2.2.2.2.2.2.2.1, f.2.2.2.2.2.2.2.2.2.2.2.2.2, n)
theorem idx_cases (s : List Int) (hb : Byt s) : (idxB s 167 = -1 ∧ ∀ i : Nat, i < s.length → rd s (i : Int) ≠ 167) ∨ (∃ j : Nat, idxB s 167 = (j : Int) ∧ j < s.length ∧ rd s (j : Int) = 167 ∧ ∀ i : Nat, i < j → rd s (i : Int) ≠ 167) := by
  rw [idxB_eq hb (by omega)]
  rcases fidx_spec 167 s with ⟨h1, h2⟩ | ⟨j, h1, h2, h3, h4⟩
  · exact .inl ⟨h1, fun i hi he => h2 (he ▸ rd_mem s i hi)⟩
  · exact .inr ⟨j, h1, h2, h3, fun i hi => h4 i hi⟩
/-- What decoding answers, of bytes that end ahead of the next lead byte. -/
theorem snext.l1_eq (b : List Int) (hb : Byt b) (hl : b.length ≤ 16777216) (K : Nat) (hK : b.length + 2097400 < K) : ∀ (n i : Nat), b.length - i ≤ n → ∀ k, n < k →
    (snext.l1 K b k (i : Int) = some (.inr ()) ∧ ∀ p m f, i ≤ p → ¬ FrAt b p m f) ∨ (∃ p m f, i ≤ p ∧ FrAt b p m f ∧ (∀ q r g, i ≤ q → q < p → ¬ FrAt b q r g) ∧ snext.l1 K b k (i : Int) = some (.inl (n16 p f m))) := by
  intro n
  induction n with
  | zero =>
    intro i h k hk
    obtain ⟨k, rfl⟩ : ∃ m, k = m + 1 := ⟨k - 1, by omega⟩
    rw [snext.l1, if_neg (by omega)]
    exact .inl ⟨rfl, fun p m f hp hf => by have := hf.le; omega⟩
  | succ n ih =>
    intro i h k hk
    obtain ⟨k, rfl⟩ : ∃ m, k = m + 1 := ⟨k - 1, by omega⟩
    rw [snext.l1]
    by_cases hi : i < b.length
    · rw [if_pos (by omega), gd_pos (by omega), List.take_length, Int.toNat_natCast]
      unfold IndexByte.f
      rw [Option.bind_some]
      rcases idx_cases (b.drop i) (hb.drop _) with ⟨h1, h2⟩ | ⟨j, h1, h2, h3, h4⟩
      · rw [h1, if_pos (by decide), Option.bind_some, thn_inl]
        refine .inl ⟨rfl, fun p m f hp hf => ?_⟩
        have hfl := hf.le
        have := h2 (p - i) (by rw [List.length_drop]; omega)
        rw [rd_drop, show i + (p - i) = p by omega] at this
        exact this hf.lead.1
      · rw [List.length_drop] at h2
        rw [rd_drop] at h3
        have hno : ∀ q r g, i ≤ q → q < i + j → ¬ FrAt b q r g := by
          intro q r g hq hlt hg
          have := h4 (q - i) (by omega)
          rw [rd_drop, show i + (q - i) = q by omega] at this
          exact this hg.lead.1
        have w1 : IntKind.wrap .i64 ((i : Int) + (j : Int)) = ((i + j : Nat) : Int) := by rw [w64 (by omega) (by omega)]; omega
        have w2 : IntKind.wrap .i64 (((i + j : Nat) : Int) + 1) = ((i + j + 1 : Nat) : Int) := by rw [w64 (by omega) (by omega)]; omega
        rw [h1, if_neg (by omega), w1, w2, gd_pos (by omega), Int.toNat_natCast]
        rw [Option.bind_some]
        obtain ⟨e, he1, he2, he3, he4⟩ : ∃ e : Nat, (if (0 : Int) ≤ idxB (b.drop (i + j + 1)) 167 then (some (IntKind.wrap .i64 (((i + j + 1 : Nat) : Int) + idxB (b.drop (i + j + 1)) 167))) else (some (b.length : Int))) = some (e : Int) ∧ i + j + 1 ≤ e ∧ e ≤ b.length ∧ (e = b.length ∨ rd b (e : Int) = 167) := by
          rcases idx_cases (b.drop (i + j + 1)) (hb.drop _) with ⟨g1, g2⟩ | ⟨j2, g1, g2, g3, g4⟩
          · rw [g1, if_neg (by decide)]
            exact ⟨b.length, rfl, by omega, Nat.le_refl _, .inl rfl⟩
          · rw [List.length_drop] at g2
            rw [rd_drop] at g3
            rw [g1, if_pos (by omega), w64 (by omega) (by omega), show (((i + j + 1 : Nat) : Int) + (j2 : Int)) = ((i + j + 1 + j2 : Nat) : Int) by omega]
            exact ⟨i + j + 1 + j2, rfl, by omega, by omega, .inr g3⟩
        rw [he1, Option.bind_some, gd_pos (by omega), Int.toNat_natCast, List.drop_zero]
        obtain ⟨t, ht, hc⟩ := fDecode.spec K (b.take e) (hb.take _) (by simp; omega) (by simp; omega) ((i + j : Nat) : Int)
        rw [ht, Option.bind_some]
        rcases hc with ⟨p, m, f, ep, hf, rfl⟩ | ⟨er, her, rfl, hnf⟩
        · obtain rfl : i + j = p := by omega
          rw [if_pos (by exact rfl), thn_inl]
          exact .inr ⟨i + j, m, f, by omega, hf.of_take.1, hno, rfl⟩
        · rw [if_neg (by exact her), thn_inr]
          have hnf' : ∀ r g, ¬ FrAt b (i + j) r g := by
            intro r g hg
            refine hnf (i + j) r g rfl (hg.take ?_)
            rcases he4 with e1 | e1
            · rw [e1]; exact hg.le.2.2
            · rcases Nat.lt_or_ge e (i + j + r) with h5 | h5
              · exact absurd e1 (hg.lead.2 e (by omega) h5)
              · exact h5
          rw [w2]
          rcases ih (i + j + 1) (by omega) k (by omega) with ⟨r1, r2⟩ | ⟨p, m, f, r1, r2, r3, r4⟩
          · refine .inl ⟨r1, fun p m f hp hf => ?_⟩
            rcases Nat.lt_trichotomy p (i + j) with h5 | h5 | h5
            · exact hno p m f hp h5 hf
            · subst h5; exact hnf' m f hf
            · exact r2 p m f (by omega) hf
          · refine .inr ⟨p, m, f, by omega, r2, fun q r g hq hlt hg => ?_, r4⟩
            rcases Nat.lt_trichotomy q (i + j) with h5 | h5 | h5
            · exact hno q r g hq h5 hg
            · subst h5; exact hnf' r g hg
            · exact r3 q r g (by omega) hlt hg
    · rw [if_neg (by omega)]
      exact .inl ⟨rfl, fun p m f hp hf => by have := hf.le; omega⟩
theorem snext.eq {b : List Int} (hb : Byt b) (hl : b.length ≤ 16777216) (K : Nat) (hK : b.length + 2097400 < K) (a : Nat) {l : List Fr} (h : Frs b a l) :
    snext.f K b (a : Int) = some (match l with | [] => n16 (-1) zeroF 0 | (p, n, f) :: _ => n16 p f n) := by
  unfold snext.f
  rcases snext.l1_eq b hb hl K hK (b.length) a (by omega) K (by omega) with ⟨h1, h2⟩ | ⟨p, m, f, h1, h2, h3, h4⟩
  · rw [h1, thn_inr]
    cases h with
    | nil _ => rfl
    | cons g1 g2 g3 g4 => exact absurd g2 (h2 _ _ _ g1)
  · rw [h4, thn_inl]
    cases h with
    | nil g => exact absurd h2 (g _ _ _ h1)
    | cons g1 g2 g3 g4 =>
      rename_i p' n' f' l'
      have e : p = p' := by
        rcases Nat.lt_trichotomy p p' with c | c | c
        · exact absurd h2 (g3 _ _ _ h1 c)
        · exact c
        · exact absurd g2 (h3 _ _ _ g1 c)
      subst e
      obtain ⟨rfl, rfl⟩ := h2.uniq hb (by omega) g2
      rfl
/-- What is told of a frame. -/
def x16 (x : Fr) : T16 := (x.2.2.1, x.2.2.2.1, x.2.2.2.2.1, x.2.2.2.2.2.1, x.2.2.2.2.2.2.1, x.2.2.2.2.2.2.2.1, x.2.2.2.2.2.2.2.2.1, x.2.2.2.2.2.2.2.2.2.1, x.2.2.2.2.2.2.2.2.2.2.1, x.2.2.2.2.2.2.2.2.2.2.2.1, x.2.2.2.2.2.2.2.2.2.2.2.2.1, x.2.2.2.2.2.2.2.2.2.2.2.2.2.1, x.2.2.2.2.2.2.2.2.2.2.2.2.2.2.1, x.2.2.2.2.2.2.2.2.2.2.2.2.2.2.2, (x.1 : Int), (x.2.1 : Int))
theorem sallF.l1_eq {S E : Type} (step : S → T16 → Option (S ⊕ E)) {b : List Int} (hb : Byt b) (hl : b.length ≤ 16777216) (K : Nat) (hK : b.length + 2097400 < K) {a : Nat} {l : List Fr} (h : Frs b a l) : ∀ (σ : S) (k : Nat), l.length < k → sallF.l1 K b step k ((a : Int), σ) = foldE step σ (l.map x16) := by
  induction h with
  | nil h1 =>
    intro σ k hk
    obtain ⟨k, rfl⟩ : ∃ m, k = m + 1 := ⟨k - 1, by omega⟩
    rw [sallF.l1, snext.eq hb hl K hK _ (.nil h1), Option.bind_some, if_pos (by show (-1 : Int) < 0; decide)]
    rfl
  | cons h1 h2 h3 h4 ih =>
    rename_i a p n f l
    intro σ k hk
    obtain ⟨k, rfl⟩ : ∃ m, k = m + 1 := ⟨k - 1, by omega⟩
    have hfl := h2.le
    rw [sallF.l1, snext.eq hb hl K hK _ (.cons h1 h2 h3 h4), Option.bind_some, if_neg (by show ¬ (p : Int) < 0; omega)]
    have w : IntKind.wrap .i64 ((n16 (p : Int) f (n : Int)).1 + max (n16 (p : Int) f (n : Int)).2.2.2.2.2.2.2.2.2.2.2.2.2.2.2 1) = ((p + n : Nat) : Int) := by
      show IntKind.wrap .i64 ((p : Int) + max (n : Int) 1) = _
      rw [show max (n : Int) 1 = n by omega, w64 (by omega) (by omega)]; omega
    rw [w]
    show (step σ (x16 (p, n, f))).bind _ = (step σ (x16 (p, n, f))).bind _
    congr 1
    funext o
    cases o with
    | inl s => exact ih s k (by rw [List.length_cons] at hk; omega)
    | inr e => rfl
theorem sallF.eq {S E : Type} (step : S → T16 → Option (S ⊕ E)) {b : List Int} (hb : Byt b) (hl : b.length ≤ 16777216) (K : Nat) (hK : b.length + 2097400 < K) {l : List Fr} (h : Frs b 0 l) (σ : S) : sallF.f K step σ b = foldE step σ (l.map x16) := by
  have := h.len (Nat.zero_le _)
  exact sallF.l1_eq step hb hl K hK h σ K (by omega)
/-- A fold that never is given up. -/
theorem foldE_all {S E X : Type} (step : S → X → Option (S ⊕ E)) (g : S → X → S) (I : S → List X → Prop) (hI : ∀ s x r, I s (x :: r) → step s x = some (.inl (g s x)) ∧ I (g s x) r) : ∀ (l : List X) (s : S), I s l → foldE step s l = some (.inl (l.foldl g s))
  | [], s, _ => rfl
  | x :: r, s, h => by
    obtain ⟨h1, h2⟩ := hI s x r h
    rw [foldE_cons h1, foldE_all step g I hI r _ h2]; rfl

/-! ### Extents, Clean -/
/-- Bytes cut into frames and junk. -/
def exts (len : Nat) : Nat → List Fr → List T40_
  | at_, [] => if at_ < len then [(true, (at_ : Int), ((len - at_ : Nat) : Int))] else []
  | at_, (p, n, _) :: l => (if at_ < p then [(true, (at_ : Int), ((p - at_ : Nat) : Int))] else []) ++ ((false, (p : Int), (n : Int)) :: exts len (p + n) l)
theorem exts_len (len : Nat) : ∀ (l : List Fr) (a : Nat), (exts len a l).length ≤ 2 * l.length + 1
  | [], a => by rw [exts]; split <;> simp
  | (p, n, f) :: l, a => by
    have := exts_len len l (p + n)
    rw [exts]
    split <;> simp <;> omega
theorem junk.eq (to a : Nat) (out : List T40_) (ht : to ≤ 16777216) (ho : out.length ≤ 100000000) : junk.f (to : Int) (a : Int) out = some ((a : Int), out ++ (if a < to then [(true, (a : Int), ((to - a : Nat) : Int))] else [])) := by
  unfold junk.f
  by_cases h : a < to
  · rw [if_pos (by omega), gd_pos (by simp; omega), if_pos h, w64 (by omega) (by omega), show ((to : Int) - (a : Int)) = ((to - a : Nat) : Int) by omega]
  · rw [if_neg (by omega), if_neg h, List.append_nil]
theorem sExtents.eq {b : List Int} (hb : Byt b) (hl : b.length ≤ 16777216) (K : Nat) (hK : b.length + 2097400 < K) {l : List Fr} (h : Frs b 0 l) : sExtents.f K b = some (exts b.length 0 l) := by
  have hlen := h.len (Nat.zero_le _)
  unfold sExtents.f
  show (some ()).bind _ = _
  rw [Option.bind_some, sallF.eq _ hb hl K hK h]
  have key : ∀ (l : List Fr) (a : Nat) (out : List T40_), Frs b a l → out.length + 2 * l.length ≤ 50000000 → ∀ (g : Int × List T40_ → Option (List T40_)), (∀ (i : Int × List T40_), g i = (junk.f (b.length : Int) i.1 i.2).bind fun t => some t.2) → ∀ st : (Int × List T40_) → T16 → Option ((Int × List T40_) ⊕ Empty), (∀ i x, st i x = (junk.f x.2.2.2.2.2.2.2.2.2.2.2.2.2.2.1 i.1 i.2).bind fun t61 => gd ((t61.2.length + [(false, x.2.2.2.2.2.2.2.2.2.2.2.2.2.2.1, x.2.2.2.2.2.2.2.2.2.2.2.2.2.2.2)].length) * 24 ≤ 140737488355328) (some (.inl (IntKind.wrap .i64 (x.2.2.2.2.2.2.2.2.2.2.2.2.2.2.1 + x.2.2.2.2.2.2.2.2.2.2.2.2.2.2.2), (t61.2 ++ [(false, x.2.2.2.2.2.2.2.2.2.2.2.2.2.2.1, x.2.2.2.2.2.2.2.2.2.2.2.2.2.2.2)]))))) →
      ((foldE st ((a : Int), out) (l.map x16)).bind fun t => ysel t g (fun e => none)) = some (out ++ exts b.length a l) := by
    intro l
    induction l with
    | nil =>
      intro a out h ho g hg st hst
      show g ((a : Int), out) = _
      rw [hg, junk.eq b.length a out hl (by simp at ho; omega), Option.bind_some]
      rfl
    | cons x l ih =>
      obtain ⟨p, n, f⟩ := x
      intro a out h ho g hg st hst
      rw [List.length_cons] at ho
      cases h with
      | cons h1 h2 h3 h4 =>
        have hfl := h2.le
        have e1 : st ((a : Int), out) (x16 (p, n, f)) = some (.inl (((p + n : Nat) : Int), (out ++ (if a < p then [(true, (a : Int), ((p - a : Nat) : Int))] else [])) ++ [(false, (p : Int), (n : Int))])) := by
          rw [hst]
          show ((junk.f (p : Int) (a : Int) out).bind _) = _
          rw [junk.eq p a out (by omega) (by omega), Option.bind_some, gd_pos (by split <;> simp <;> omega)]
          show some (Sum.inl (IntKind.wrap .i64 ((p : Int) + (n : Int)), _)) = _
          rw [w64 (by omega) (by omega), show ((p : Int) + (n : Int)) = ((p + n : Nat) : Int) by omega]
          rfl
        rw [List.map_cons, foldE_cons e1, ih (p + n) _ h4 (by split <;> simp <;> omega) g hg st hst, exts]
        simp
  exact key l 0 [] h (by simp; omega) _ (fun _ => rfl) _ (fun _ _ => rfl)
/-- The frames alone. -/
def cln (l : List Fr) : List Int := l.flatMap fun x => frm x.2.2
theorem cln_len {b : List Int} {a : Nat} {l : List Fr} (h : Frs b a l) : a ≤ b.length → a + (cln l).length ≤ b.length := by
  induction h with
  | nil _ => intro h; simpa [cln] using h
  | cons h1 h2 h3 h4 ih =>
    intro ha
    have := h2.le
    have := ih (by omega)
    have e := h2.2.1
    simp only [cln, List.flatMap_cons, List.length_append] at this ⊢
    omega
theorem cln_byt {b : List Int} {a : Nat} {l : List Fr} (h : Frs b a l) : Byt (cln l) := by
  intro x hx
  obtain ⟨y, hy, hxy⟩ := List.mem_flatMap.1 hx
  exact frm_byt (h.mem y hy).2.1 x hxy
theorem sClean.eq {b : List Int} (hb : Byt b) (hl : b.length ≤ 16777216) (K : Nat) (hK : b.length + 2097400 < K) {l : List Fr} (h : Frs b 0 l) : sClean.f K b = some (cln l) := by
  have hlen := cln_len h (Nat.zero_le _)
  unfold sClean.f
  show (some ()).bind _ = _
  rw [Option.bind_some, sallF.eq _ hb hl K hK h]
  have key : ∀ (l : List Fr) (a : Nat) (out : List Int), Frs b a l → a ≤ b.length → out.length ≤ a → ∀ (g : List Int → Option (List Int)), (∀ i, g i = some i) → ∀ st : List Int → T16 → Option (List Int ⊕ Empty), (∀ i (p n : Nat) f, FrAt b p n f → i.length ≤ 16777216 → st i (x16 (p, n, f)) = some (.inl (i ++ frm f))) →
      ((foldE st out (l.map x16)).bind fun t => ysel t g (fun e => none)) = some (out ++ cln l) := by
    intro l
    induction l with
    | nil => intro a out h ha ho g hg st hst; show g out = _; rw [hg]; simp [cln]
    | cons x l ih =>
      obtain ⟨p, n, f⟩ := x
      intro a out h ha ho g hg st hst
      cases h with
      | cons h1 h2 h3 h4 =>
        have hfl := h2.le
        have e := h2.2.1
        rw [List.map_cons, foldE_cons (hst out p n f h2 (by omega)), ih (p + n) _ h4 (by omega) (by rw [List.length_append]; omega) g hg st hst]
        simp [cln]
  refine (key l 0 [] h (Nat.zero_le _) (Nat.le_refl _) _ (fun _ => rfl) _ (fun i p n f hf hi => ?_)).trans (by simp)
  have hfl := hf.le
  have w : IntKind.wrap .i64 ((p : Int) + (n : Int)) = ((p + n : Nat) : Int) := by rw [w64 (by omega) (by omega)]; omega
  show gd ((0 : Int) ≤ (p : Int) ∧ (0 : Int) ≤ (IntKind.wrap .i64 ((p : Int) + (n : Int))) ∧ ((Int.toNat (p : Int)) ≤ (Int.toNat (IntKind.wrap .i64 ((p : Int) + (n : Int)))) ∧ (Int.toNat (IntKind.wrap .i64 ((p : Int) + (n : Int)))) ≤ b.length)) (gd ((i.length + ((b.take (Int.toNat (IntKind.wrap .i64 ((p : Int) + (n : Int))))).drop (Int.toNat (p : Int))).length) * 1 ≤ 140737488355328) (some (Sum.inl (i ++ ((b.take (Int.toNat (IntKind.wrap .i64 ((p : Int) + (n : Int))))).drop (Int.toNat (p : Int))))))) = _
  rw [w, Int.toNat_natCast, Int.toNat_natCast, hf.2.2.2, gd_pos (by omega), gd_pos (by have := hf.2.1; omega)]
theorem works.at (n : Nat) : works.f (n + 200) = some true := by kernel_rfl
theorem works.eq (K : Nat) (hK : 200 ≤ K) : works.f K = some true := by
  obtain ⟨n, rfl⟩ : ∃ n, K = n + 200 := ⟨K - 200, by omega⟩
  exact works.at n
end Go.Proofs.Ytkblnahoidbfkaa
