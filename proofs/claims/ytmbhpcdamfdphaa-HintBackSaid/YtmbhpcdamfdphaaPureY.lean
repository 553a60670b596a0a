/- Own text. Hint files: what is read of one. Conditions: bytes of bounded number. -/
import Derived.Test.YtmbhpcdamfdphaaPureX
set_option linter.unusedSimpArgs false
set_option linter.unusedVariables false
set_option maxRecDepth 100000
namespace Go.Proofs.Ytmbhpcdamfdphaa
open Go Go.Sx

/-- Pointers that lie one behind the other; where the last one ends. -/
def Ch : Int → List T44_ → Prop
  | _, [] => True
  | a, x :: r => x.2.2.1 = a ∧ Ch (a + x.2.2.2.1) r
def chE : Int → List T44_ → Int
  | a, [] => a
  | a, x :: r => chE (a + x.2.2.2.1) r
def Vp (x : T44_) : Prop := Val (hp x)
theorem Vp.of {x : T44_} (h : Vp x) : (0 ≤ x.2.2.1 ∧ x.2.2.1 ≤ 4194304) ∧ (1 ≤ x.2.2.2.1 ∧ x.2.2.2.1 ≤ 4194304) := by
  have hc : 1 ≤ x.2.2.2.1 := by
    rcases chk.cse h.1 with ⟨h1, _⟩ | ⟨_, _, _, _, _, _, _, h3, _⟩ | ⟨h1, _⟩
    · rcases h1 with h1 | h1 <;> cases h1
    · exact h3.1
    · cases h1
  rcases h.2 with ⟨l, k, v, e, _⟩ | ⟨l, k, e, _⟩ | ⟨l, d, a, n, k, e, _, _, h1, h2, _⟩ | ⟨c, b, r, s, e, _⟩
  · cases e
  · cases e
  · have e1 : x.2.2.1 = (a : Int) := congrArg (fun f : D14 => f.2.2.2.2.2.2.2.1) e
    have e2 : x.2.2.2.1 = (n : Int) := congrArg (fun f : D14 => f.2.2.2.2.2.2.2.2.1) e
    omega
  · cases e
theorem FrAt.of_drop_eq {d : List Int} {a : Nat} {f : D14} {r : List Int} (h : d.drop a = frm f ++ r) (hv : Val f) : FrAt d a (frm f).length f := by
  have hl : (d.drop a).length = (frm f).length + r.length := by rw [h, List.length_append]
  rw [List.length_drop] at hl
  have := (frm_le hv).1
  refine ⟨hv, rfl, by omega, ?_⟩
  rw [List.drop_take, h, show a + (frm f).length - a = (frm f).length by omega, List.take_left]
theorem FrAt.drop_eq {d : List Int} {a n : Nat} {f : D14} (h : FrAt d a n f) : d.drop a = frm f ++ d.drop (a + n) := by
  have h1 := h.2.2.2
  rw [List.drop_take, show a + n - a = n by omega] at h1
  rw [← h1, ← List.drop_drop, List.take_append_drop]
theorem lEach.hp_ok {x : T44_} (hv : Vp x) (p n : Int) (nx : Int) (hx : x.2.2.1 = nx) (l : List T44_) (hl : l.length ≤ 1000000000) (e0 e1 e2 e3 : Int) :
    lEach.f p n (hp x).1 (hp x).2.1 (hp x).2.2.1 (hp x).2.2.2.1 (hp x).2.2.2.2.1 (hp x).2.2.2.2.2.1 (hp x).2.2.2.2.2.2.1 (hp x).2.2.2.2.2.2.2.1 (hp x).2.2.2.2.2.2.2.2.1 (hp x).2.2.2.2.2.2.2.2.2.1 (hp x).2.2.2.2.2.2.2.2.2.2.1 (hp x).2.2.2.2.2.2.2.2.2.2.2.1 (hp x).2.2.2.2.2.2.2.2.2.2.2.2.1 (hp x).2.2.2.2.2.2.2.2.2.2.2.2.2 false nx l e0 e1 e2 e3 = some (true, false, nx + x.2.2.2.1, l ++ [x], e0, e1, e2, e3) := by
  have := hv.of
  show lEach.f p n 3 0 0 E0 E0 x.1 x.2.1 x.2.2.1 x.2.2.2.1 x.2.2.2.2 0 0 0 0 false nx l e0 e1 e2 e3 = _
  unfold lEach.f
  rw [if_neg (by simp), if_pos (by trivial), Option.bind_some, if_pos (decide_eq_true hx), gd_pos (by simp; omega), w64 (by omega) (by omega)]
theorem lEach.ft_ok (c b r s p n nx : Int) (l : List T44_) (e0 e1 e2 e3 : Int) :
    lEach.f p n (ft c b r s).1 (ft c b r s).2.1 (ft c b r s).2.2.1 (ft c b r s).2.2.2.1 (ft c b r s).2.2.2.2.1 (ft c b r s).2.2.2.2.2.1 (ft c b r s).2.2.2.2.2.2.1 (ft c b r s).2.2.2.2.2.2.2.1 (ft c b r s).2.2.2.2.2.2.2.2.1 (ft c b r s).2.2.2.2.2.2.2.2.2.1 (ft c b r s).2.2.2.2.2.2.2.2.2.2.1 (ft c b r s).2.2.2.2.2.2.2.2.2.2.2.1 (ft c b r s).2.2.2.2.2.2.2.2.2.2.2.2.1 (ft c b r s).2.2.2.2.2.2.2.2.2.2.2.2.2 false nx l e0 e1 e2 e3 = some (true, true, nx, l, c, b, r, s) := by
  show lEach.f p n 4 0 0 E0 E0 0 0 0 0 E0 c b r s false nx l e0 e1 e2 e3 = _
  unfold lEach.f
  rw [if_neg (by simp), if_neg (by decide), Option.bind_some, if_neg (by simp), if_pos (by trivial)]
theorem lEach.rel {f : D14} (hv : Val f) (p n nx : Int) (l : List T44_) (hl : l.length ≤ 1000000000) (e0 e1 e2 e3 : Int) :
    Ans (lEach.f p n f.1 f.2.1 f.2.2.1 f.2.2.2.1 f.2.2.2.2.1 f.2.2.2.2.2.1 f.2.2.2.2.2.2.1 f.2.2.2.2.2.2.2.1 f.2.2.2.2.2.2.2.2.1 f.2.2.2.2.2.2.2.2.2.1 f.2.2.2.2.2.2.2.2.2.2.1 f.2.2.2.2.2.2.2.2.2.2.2.1 f.2.2.2.2.2.2.2.2.2.2.2.2.1 f.2.2.2.2.2.2.2.2.2.2.2.2.2 false nx l e0 e1 e2 e3) (fun r => (∃ q, r = (false, q)) ∨ (∃ x, f = hp x ∧ x.2.2.1 = nx ∧ r = (true, false, nx + x.2.2.2.1, l ++ [x], e0, e1, e2, e3)) ∨ (∃ c b q s, f = ft c b q s ∧ r = (true, true, nx, l, c, b, q, s))) := by
  rcases val_rec hv with h | h | h
  · unfold lEach.f
    have h3 : ¬ f.1 = 3 := by rcases h with h | h <;> omega
    have h4 : ¬ f.1 = 4 := by rcases h with h | h <;> omega
    rw [if_neg (by simp), if_neg h3, Option.bind_some, if_neg (by simp), if_neg h4]
    exact Ans.some (.inl ⟨_, rfl⟩)
  · obtain ⟨x, e⟩ : ∃ x, f = hp x := ⟨_, h⟩
    subst e
    by_cases hx : x.2.2.1 = nx
    · rw [lEach.hp_ok hv p n nx hx l hl]
      exact Ans.some (.inr (.inl ⟨x, rfl, hx, rfl⟩))
    · show Ans (lEach.f p n 3 0 0 E0 E0 x.1 x.2.1 x.2.2.1 x.2.2.2.1 x.2.2.2.2 0 0 0 0 false nx l e0 e1 e2 e3) _
      unfold lEach.f
      rw [if_neg (by simp), if_pos (by trivial), Option.bind_some, if_neg (by simpa using hx), if_neg (by decide)]
      exact Ans.some (.inl ⟨_, rfl⟩)
  · obtain ⟨c, b, q, s, e⟩ : ∃ c b q s, f = ft c b q s := ⟨_, _, _, _, h⟩
    subst e
    rw [lEach.ft_ok]
    exact Ans.some (.inr (.inr ⟨c, b, q, s, rfl, rfl⟩))
theorem wholeL.l1_ok {d : List Int} (hb : Byt d) (hl : d.length ≤ 100000000000000) (K : Nat) (hK : d.length + 2097300 < K) {c b r s : Int} (hF : Val (ft c b r s)) : ∀ (ps : List T44_) (a : Nat) (nx : Int) (l : List T44_), d.drop a = hs ps ++ frm (ft c b r s) → (∀ x ∈ ps, Vp x) → Ch nx ps → l.length + ps.length ≤ 1000000000 → ∀ k, ps.length + 1 < k →
    wholeL.l1 K d k ((a : Int), false, nx, l, 0, 0, 0, 0) = some (.inr (true, chE nx ps, l ++ ps, c, b, r, s)) := by
  intro ps
  induction ps with
  | nil =>
    intro a nx l h hv hc hll k hk
    obtain ⟨k, rfl⟩ : ∃ m, k = m + 1 := ⟨k - 1, by omega⟩
    obtain ⟨k, rfl⟩ : ∃ m, k = m + 1 := ⟨k - 1, by simp at hk; omega⟩
    have h' : d.drop a = frm (ft c b r s) ++ [] := by rw [h]; simp [hs]
    have hA := FrAt.of_drop_eq h' hF
    have hle := hA.le
    have hlen : d.length - a = (frm (ft c b r s)).length := by rw [← List.length_drop, h', List.append_nil]
    rw [wholeL.l1]; simp only
    rw [if_pos (by omega), fDecode.at K d hb (by omega) hK hA, Option.bind_some, if_neg (by rw [d16_e]; simp)]
    have e := lEach.ft_ok c b r s (a : Int) ((frm (ft c b r s)).length : Int) nx l 0 0 0 0
    simp only [d16]
    rw [e, Option.bind_some, Option.bind_some]
    simp only
    rw [if_neg (by simp), w64 (by omega) (by omega), wholeL.l1]; simp only
    rw [if_neg (by omega)]
    simp [chE]
  | cons x ps ih =>
    intro a nx l h hv hc hll k hk
    obtain ⟨k, rfl⟩ : ∃ m, k = m + 1 := ⟨k - 1, by omega⟩
    rw [List.length_cons] at hll hk
    have hx := hv x List.mem_cons_self
    rw [hs_cons, List.append_assoc] at h
    have hA := FrAt.of_drop_eq h hx
    have hle := hA.le
    rw [wholeL.l1]; simp only
    rw [if_pos (by omega), fDecode.at K d hb (by omega) hK hA, Option.bind_some, if_neg (by rw [d16_e]; simp)]
    have e := lEach.hp_ok hx (a : Int) ((frm (hp x)).length : Int) nx hc.1 l (by omega) 0 0 0 0
    simp only [d16]
    rw [e, Option.bind_some, Option.bind_some]
    simp only
    rw [if_neg (by simp), show max ((frm (hp x)).length : Int) 1 = ((frm (hp x)).length : Int) by omega, w64 (by omega) (by omega), show (a : Int) + ((frm (hp x)).length : Int) = ((a + (frm (hp x)).length : Nat) : Int) by omega]
    have hd : d.drop (a + (frm (hp x)).length) = hs ps ++ frm (ft c b r s) := by
      rw [← List.drop_drop, h, List.drop_left]
    rw [ih (a + (frm (hp x)).length) (nx + x.2.2.2.1) (l ++ [x]) hd (fun y hy => hv y (List.mem_cons_of_mem _ hy)) hc.2 (by simp; omega) k (by omega), List.append_assoc]
    rfl
theorem wholeL.l1_over {d : List Int} (hb : Byt d) (hl : d.length ≤ 140737488355328) (K : Nat) (hK : d.length + 2097300 < K) (a : Nat) (nx : Int) (l : List T44_) (c b r s : Int) (k : Nat) :
    Ans (wholeL.l1 K d (k + 1) ((a : Int), true, nx, l, c, b, r, s)) (fun o => (o = .inr (true, nx, l, c, b, r, s) ∧ d.length ≤ a) ∨ ∃ q, o = .inl (false, q)) := by
  rw [wholeL.l1]; simp only
  refine Ans.ite (fun h => ?_) (fun h => Ans.some (.inl ⟨rfl, by omega⟩))
  refine Ans.bind (fDecode.spec K d hb (by omega) hK (a : Int)) (fun t ht => ?_)
  refine Ans.bind (Q := fun o => o.1 = true) (Ans.ite (fun _ => Ans.some rfl) (fun _ => ?_)) (fun o ho => ?_)
  · unfold lEach.f
    rw [if_pos (by trivial), Option.bind_some]
    exact Ans.some rfl
  · rw [if_pos ho]
    exact Ans.some (.inr ⟨_, rfl⟩)
theorem wholeL.l1_rel {d : List Int} (hb : Byt d) (hl : d.length ≤ 140737488355328) (K : Nat) (hK : d.length + 2097300 < K) : ∀ (m a : Nat) (nx : Int) (l : List T44_), d.length - a ≤ m → ((l.length : Int) ≤ nx ∧ nx ≤ 8388608) → ∀ k, m + 1 < k →
    Ans (wholeL.l1 K d k ((a : Int), false, nx, l, 0, 0, 0, 0)) (fun o => (∃ q, o = .inl (false, q)) ∨ (∃ q, o = .inr (false, q)) ∨ (∃ ps c b r s, d.drop a = hs ps ++ frm (ft c b r s) ∧ (∀ x ∈ ps, Vp x) ∧ Val (ft c b r s) ∧ Ch nx ps ∧ o = .inr (true, chE nx ps, l ++ ps, c, b, r, s))) := by
  intro m
  induction m with
  | zero =>
    intro a nx l h1 h2 k hk
    obtain ⟨k, rfl⟩ : ∃ m, k = m + 1 := ⟨k - 1, by omega⟩
    rw [wholeL.l1]; simp only
    rw [if_neg (by omega)]
    exact Ans.some (.inr (.inl ⟨_, rfl⟩))
  | succ m ih =>
    intro a nx l h1 h2 k hk
    obtain ⟨k, rfl⟩ : ∃ m, k = m + 1 := ⟨k - 1, by omega⟩
    rw [wholeL.l1]; simp only
    refine Ans.ite (fun h => ?_) (fun h => Ans.some (.inr (.inl ⟨_, rfl⟩)))
    by_cases hA : ∃ n f, FrAt d a n f
    · obtain ⟨n, f, hA⟩ := hA
      have hle := hA.le
      have hde := hA.drop_eq
      rw [fDecode.at K d hb (by omega) hK hA, Option.bind_some, if_neg (by rw [d16_e]; simp)]
      simp only [d16]
      refine Ans.bind (Q := fun o => (∃ q, o = (true, q)) ∨ (∃ x, f = hp x ∧ x.2.2.1 = nx ∧ o = (false, false, nx + x.2.2.2.1, l ++ [x], 0, 0, 0, 0)) ∨ (∃ c b q s, f = ft c b q s ∧ o = (false, true, nx, l, c, b, q, s))) (Ans.bind (lEach.rel hA.1 (a : Int) (n : Int) nx l (by omega) 0 0 0 0) (fun t ht => Ans.some ?_)) (fun o ho => ?_)
      · rcases ht with ⟨q, rfl⟩ | ⟨x, e, hx, rfl⟩ | ⟨c, b, q, s, e, rfl⟩
        · exact .inl ⟨_, rfl⟩
        · exact .inr (.inl ⟨x, e, hx, rfl⟩)
        · exact .inr (.inr ⟨c, b, q, s, e, rfl⟩)
      · have wn : IntKind.wrap .i64 ((a : Int) + max (n : Int) 1) = ((a + n : Nat) : Int) := by rw [w64 (by omega) (by omega)]; omega
        rcases ho with ⟨q, rfl⟩ | ⟨x, rfl, hx, rfl⟩ | ⟨c, b, q, s, rfl, rfl⟩
        · rw [if_pos (by trivial)]
          exact Ans.some (.inl ⟨_, rfl⟩)
        · rw [if_neg (by simp), wn]
          have hof := Vp.of (x := x) hA.1
          refine (ih (a + n) _ _ (by omega) (by rw [List.length_append]; simp; omega) k (by omega)).mono fun o ho => ?_
          rcases ho with h | h | ⟨ps, c, b, r, s, g1, g2, g3, g4, rfl⟩
          · exact .inl h
          · exact .inr (.inl h)
          · refine .inr (.inr ⟨x :: ps, c, b, r, s, by rw [hde, g1, hs_cons, List.append_assoc], fun y hy => ?_, g3, ⟨hx, g4⟩, by rw [List.append_assoc]; rfl⟩)
            rcases List.mem_cons.1 hy with rfl | hy
            · exact hA.1
            · exact g2 y hy
        · rw [if_neg (by simp), wn]
          obtain ⟨k, rfl⟩ : ∃ m, k = m + 1 := ⟨k - 1, by omega⟩
          refine (wholeL.l1_over hb (by omega) K hK (a + n) nx l c b q s k).mono fun o ho => ?_
          rcases ho with ⟨rfl, h3⟩ | h
          · refine .inr (.inr ⟨[], c, b, q, s, ?_, by simp, hA.1, trivial, by simp [chE]⟩)
            rw [hde, List.drop_of_length_le h3]; simp [hs]
          · exact .inl h
    · obtain ⟨e, he, h⟩ := fDecode.no K d hb (by omega) hK (a : Int) (fun p n f hq hf => hA ⟨n, f, (show a = p by omega) ▸ hf⟩)
      rw [h, Option.bind_some, if_pos (by rw [d16_e]; exact he), Option.bind_some]
      simp only
      rw [if_pos (by trivial)]
      exact Ans.some (.inl ⟨_, rfl⟩)
theorem hs_len : ∀ (ps : List T44_), (∀ x ∈ ps, Vp x) → 10 * ps.length ≤ (hs ps).length ∧ (hs ps).length ≤ 6009 * ps.length
  | [], _ => by simp [hs]
  | x :: ps, h => by
    have h1 := frm_le (h x List.mem_cons_self)
    have h2 := hs_len ps fun y hy => h y (List.mem_cons_of_mem _ hy)
    rw [hs_cons, List.length_append, List.length_cons]; omega
theorem hs_byt (ps : List T44_) (h : ∀ x ∈ ps, Vp x) : Byt (hs ps) := by
  intro y hy
  obtain ⟨x, hx, hxy⟩ := List.mem_flatMap.1 hy
  exact frm_byt (h x hx) y hxy
/-- What a hint file tells, by a fingerprint. -/
theorem hLoad.ok {ps : List T44_} {c b r s : Int} (hv : ∀ x ∈ ps, Vp x) (hF : Val (ft c b r s)) (hc : Ch 0 ps) (hl : ps.length ≤ 1000000000) (K : Nat) (hK : 6009 * ps.length + 3000000 < K) (h1 : c = ps.length) (h2 : b = chE 0 ps) (h3 : r = ps.length) (pb pr pu : Int) :
    hLoad.f K (hs ps ++ frm (ft c b r s)) pb pr pu = some (if b = pb ∧ r = pr ∧ s = pu then (ps, 1) else ([], 3)) := by
  have hlen := hs_len ps hv
  have hfl := frm_le hF
  have hb : Byt (hs ps ++ frm (ft c b r s)) := Byt.app.2 ⟨hs_byt ps hv, frm_byt hF⟩
  have h := wholeL.l1_ok hb (by rw [List.length_append]; omega) K (by rw [List.length_append]; omega) hF ps 0 0 [] rfl hv hc (by simp; omega) K (by omega)
  have h : wholeL.l1 K (hs ps ++ frm (ft c b r s)) K (0, false, 0, [], 0, 0, 0, 0) = _ := h
  unfold hLoad.f wholeL.f
  rw [h, thn_inr, Option.bind_some]
  simp only [List.nil_append]
  rw [if_pos (by trivial), if_pos (by trivial), if_neg (by simp [h1]), if_neg (by simp [h3]), Option.bind_some, if_neg (by simp [h2])]
  by_cases e : b = pb ∧ r = pr ∧ s = pu
  · rw [if_pos e, if_pos ⟨e.1, e.2.1, e.2.2, trivial⟩]
  · rw [if_neg e, if_neg (fun g => e ⟨g.1, g.2.1, g.2.2.1⟩)]
theorem vft {c b r s : Int} (h : Val (ft c b r s)) : 0 ≤ b ∧ b ≤ 4194304 := by
  rcases h.2 with ⟨l, k, v, e, _⟩ | ⟨l, k, e, _⟩ | ⟨l, d, a, n, k, e, _⟩ | ⟨c', b', r', s', e, h1, h2, _⟩
  · cases e
  · cases e
  · cases e
  · have e1 : b = (b' : Int) := congrArg (fun f : D14 => f.2.2.2.2.2.2.2.2.2.2.2.1) e
    omega
theorem hLoad.rel {d : List Int} (hb : Byt d) (hl : d.length ≤ 140737488355328) (K : Nat) (hK : d.length + 2097300 < K) (pb pr pu : Int) :
    Ans (hLoad.f K d pb pr pu) (fun o => (o.2 ≠ 1 ∧ o.1 = []) ∨ (o.2 = 1 ∧ d = hs o.1 ++ frm (ft (o.1.length : Int) pb pr pu) ∧ (∀ x ∈ o.1, Vp x) ∧ Val (ft (o.1.length : Int) pb pr pu) ∧ Ch 0 o.1 ∧ chE 0 o.1 = pb ∧ pr = (o.1.length : Int))) := by
  unfold hLoad.f wholeL.f
  have h := wholeL.l1_rel hb hl K hK d.length 0 0 [] (by omega) (by simp) K (by omega)
  have h : Ans (wholeL.l1 K d K (0, false, 0, [], 0, 0, 0, 0)) _ := h
  refine Ans.bind (Q := fun t => (∃ q, t = (false, q)) ∨ (∃ q, t = (true, false, q)) ∨ (∃ ps c b r s, d = hs ps ++ frm (ft c b r s) ∧ (∀ x ∈ ps, Vp x) ∧ Val (ft c b r s) ∧ Ch 0 ps ∧ t = (true, true, chE 0 ps, ps, c, b, r, s))) (Ans.thn (h.mono fun o ho => ?_)) (fun t ht => ?_)
  · rcases ho with ⟨q, rfl⟩ | ⟨q, rfl⟩ | ⟨ps, c, b, r, s, g1, g2, g3, g4, rfl⟩
    · exact .inl ⟨_, rfl⟩
    · exact Ans.some (.inr (.inl ⟨_, rfl⟩))
    · exact Ans.some (.inr (.inr ⟨ps, c, b, r, s, g1, g2, g3, g4, rfl⟩))
  · rcases ht with ⟨q, rfl⟩ | ⟨q, rfl⟩ | ⟨ps, c, b, r, s, g1, g2, g3, g4, rfl⟩
    · simp only
      rw [if_neg (by simp), Option.bind_some, if_pos (by trivial)]
      exact Ans.some (.inl ⟨by decide, rfl⟩)
    · simp only
      rw [if_pos (by trivial), if_neg (by simp), Option.bind_some, if_pos (by trivial)]
      exact Ans.some (.inl ⟨by decide, rfl⟩)
    · simp only
      rw [if_pos (by trivial), if_pos (by trivial)]
      refine Ans.bind (Q := fun o => o = false → c = ps.length ∧ r = ps.length ∧ b = chE 0 ps) (Ans.ite (fun _ => Ans.some (fun h => by cases h)) (fun e1 => Ans.ite (fun _ => Ans.some (fun h => by cases h)) (fun e2 => Ans.some (fun h => ⟨by omega, by omega, by simpa using h⟩)))) (fun o ho => Ans.ite (fun _ => Ans.some (.inl ⟨by decide, rfl⟩)) (fun hn => ?_))
      obtain ⟨e1, e2, e3⟩ := ho (by simpa using hn)
      refine Ans.ite (fun hp => Ans.some (.inr ?_)) (fun _ => Ans.some (.inl ⟨by decide, rfl⟩))
      obtain ⟨rfl, rfl, rfl, _⟩ := hp
      subst e1
      exact ⟨rfl, g1, g2, g3, g4, e3.symm, e2⟩
end Go.Proofs.Ytmbhpcdamfdphaa
