/- Own text, laid out of another seat. Conditions: as there. -/
import Derived.Test.YtakolnamobkkkaaPureEA
set_option linter.unusedSimpArgs false
set_option linter.unusedVariables false
set_option maxRecDepth 10000
namespace Go.Proofs.Ytakolnamobkkkaa
open Go Go.Sx


def esc1 (c : Int) : List Int := if c = 167 then [166, 1] else if c = 166 then [166, 0] else [c]
def esc (s : List Int) : List Int := s.flatMap esc1
theorem esc_nil : esc [] = [] := rfl
theorem esc_cons (c : Int) (s : List Int) : esc (c :: s) = esc1 c ++ esc s := rfl
theorem esc_app (s t : List Int) : esc (s ++ t) = esc s ++ esc t := by simp [esc]
theorem esc_len (s : List Int) : (esc s).length = s.length + s.count 167 + s.count 166 := by
  induction s with
  | nil => rfl
  | cons c s ih =>
    rw [esc_cons, List.length_append, ih, List.count_cons, List.count_cons, List.length_cons]
    unfold esc1
    by_cases h1 : c = 167
    · subst h1; simp; omega
    · by_cases h2 : c = 166
      · subst h2; simp; omega
      · simp [h1, h2]; omega
theorem count2 (s : List Int) : s.count 167 + s.count 166 ≤ s.length := by
  induction s with
  | nil => simp
  | cons c s ih =>
    rw [List.count_cons, List.count_cons, List.length_cons]
    by_cases h1 : c = 167
    · subst h1; simp; omega
    · by_cases h2 : c = 166
      · subst h2; simp; omega
      · simp [h1, h2]; omega
theorem esc_le (s : List Int) : s.length ≤ (esc s).length ∧ (esc s).length ≤ 2 * s.length := by
  have := esc_len s; have := count2 s; omega
theorem esc_byt {s : List Int} (h : Byt s) : Byt (esc s) := by
  intro x hx
  obtain ⟨c, hc, hx⟩ := List.mem_flatMap.1 hx
  have := h c hc
  unfold esc1 at hx
  split at hx
  · simp at hx; omega
  · split at hx
    · simp at hx; omega
    · simp at hx; omega
theorem esc_lead (s : List Int) : (167 : Int) ∉ esc s := by
  intro hx
  obtain ⟨c, hc, hx⟩ := List.mem_flatMap.1 hx
  unfold esc1 at hx
  split at hx
  · simp at hx
  · split at hx
    · simp at hx
    · simp at hx; rename_i h _; exact h hx.symm

theorem Count.eq (K : Nat) (s : List Int) (c : Int) (hb : Byt s) (hc : 0 ≤ c ∧ c < 256) : Count.f K s [c] = some ((s.count c : Nat) : Int) := by
  unfold Count.f
  rw [if_neg (by simp), if_pos (by simp), gd_pos (by simp), show rd [c] 0 = c from rfl, cntB_eq hb hc]
theorem Size.eq (K : Nat) (s : List Int) (hb : Byt s) (hs : s.length ≤ 1099511627776) : Size.f K s = some (((esc s).length : Nat) : Int) := by
  unfold Size.f
  have h1 := esc_len s; have h2 := count2 s
  rw [Count.eq K s 167 hb (by omega), Option.bind_some, Count.eq K s 166 hb (by omega), Option.bind_some, w64 (by rw [w64 (by omega) (by omega)]; omega) (by rw [w64 (by omega) (by omega)]; omega), w64 (by omega) (by omega)]
  congr 1; omega
theorem Wrap.l1_eq (s : List Int) (hs : s.length ≤ 1099511627776) : ∀ (n : Nat) (out : List Int) (i : Nat), i + n = s.length → out.length ≤ 2 * i → ∀ k, n < k → Wrap.l1 s k (out, (i : Int)) = some (out ++ esc (s.drop i)) := by
  intro n
  induction n with
  | zero =>
    intro out i h ho k hk
    obtain ⟨k, rfl⟩ : ∃ m, k = m + 1 := ⟨k - 1, by omega⟩
    rw [Wrap.l1]; simp only
    rw [if_neg (by omega), List.drop_of_length_le (by omega), esc_nil, List.append_nil]
  | succ n ih =>
    intro out i h ho k hk
    obtain ⟨k, rfl⟩ : ∃ m, k = m + 1 := ⟨k - 1, by omega⟩
    rw [Wrap.l1]; simp only
    rw [if_pos (by omega), gd_pos (by omega)]
    have step : ∀ z : List Int, z = esc1 (rd s (i : Int)) → z.length ≤ 2 → Wrap.l1 s k (out ++ z, IntKind.wrap .i64 ((i : Int) + 1)) = some (out ++ esc (s.drop i)) := by
      intro z hz hl
      rw [w64 (by omega) (by omega), show ((i : Int) + 1) = ((i + 1 : Nat) : Int) by omega, ih _ _ (by omega) (by simp; omega) k (by omega), drop_cons s i (by omega), esc_cons, ← hz, List.append_assoc]
    by_cases h1 : rd s (i : Int) = 167
    · rw [if_pos h1, gd_pos (by simp; omega), Option.bind_some]
      exact step [166, 1] (by simp [esc1, h1]) (by simp)
    · rw [if_neg h1]
      by_cases h2 : rd s (i : Int) = 166
      · rw [if_pos h2, gd_pos (by simp; omega), Option.bind_some]
        exact step [166, 0] (by simp [esc1, h2]) (by simp)
      · rw [if_neg h2, gd_pos (by simp; omega), Option.bind_some]
        exact step [rd s (i : Int)] (by simp [esc1, h1, h2]) (by simp)
theorem Wrap.eq (s : List Int) (hb : Byt s) (hs : s.length ≤ 1099511627776) (K : Nat) (hK : s.length < K) : Wrap.f K s = some (esc s) := by
  unfold Wrap.f
  have := esc_le s
  rw [Size.eq K s hb hs, Option.bind_some, gd_pos (by omega)]
  refine bind_of (Wrap.l1_eq s hs s.length [] 0 (by omega) (by simp) K hK) ?_
  simp
def pre (c : Int) : List Int ⊕ (Int × Int) → List Int ⊕ (Int × Int)
  | .inl p => .inl (c :: p)
  | .inr e => .inr e
def opn : List Int → Int → List Int ⊕ (Int × Int)
  | [], _ => .inl []
  | c :: r, q => if c = 167 then .inr (31, q) else if c = 166 then (match r with
      | [] => .inr (32, q)
      | b :: r' => if 1 < b then .inr (32, q) else pre (166 + b) (opn r' (q + 2))) else pre c (opn r (q + 1))
theorem opn_lead (r : List Int) (q : Int) : opn (167 :: r) q = .inr (31, q) := by rw [opn.eq_def]; simp
theorem opn_end (q : Int) : opn [166] q = .inr (32, q) := by rw [opn.eq_def]; simp
theorem opn_bad (b : Int) (r : List Int) (q : Int) (h : 1 < b) : opn (166 :: b :: r) q = .inr (32, q) := by rw [opn.eq_def]; simp [h]
theorem opn_pair (b : Int) (r : List Int) (q : Int) (h : ¬ 1 < b) : opn (166 :: b :: r) q = pre (166 + b) (opn r (q + 2)) := by rw [opn.eq_def]; simp [h]
theorem opn_plain (c : Int) (r : List Int) (q : Int) (h1 : c ≠ 167) (h2 : c ≠ 166) : opn (c :: r) q = pre c (opn r (q + 1)) := by rw [opn.eq_def]; simp [h1, h2]
/-- The cases of what bytes are opened. -/
theorem opn_ind {P : List Int → Prop} (h0 : P []) (h1 : ∀ r, P (167 :: r)) (h2 : P [166]) (h3 : ∀ b r, 1 < b → P (166 :: b :: r)) (h4 : ∀ b r, ¬ 1 < b → P r → P (166 :: b :: r)) (h5 : ∀ c r, c ≠ 167 → c ≠ 166 → P r → P (c :: r)) : ∀ s, P s := by
  intro s
  generalize hn : s.length = n
  induction n using Nat.strongRecOn generalizing s with
  | _ n ih =>
    cases s with
    | nil => exact h0
    | cons c r =>
      by_cases e1 : c = 167
      · subst e1; exact h1 r
      · by_cases e2 : c = 166
        · subst e2
          cases r with
          | nil => exact h2
          | cons b r =>
            by_cases hb : 1 < b
            · exact h3 b r hb
            · exact h4 b r hb (ih r.length (by subst hn; simp; omega) r rfl)
        · exact h5 c r e1 e2 (ih r.length (by subst hn; simp) r rfl)
theorem opn_esc (s : List Int) : ∀ q, opn (esc s) q = .inl s := by
  induction s with
  | nil => intro q; rfl
  | cons c s ih =>
    intro q
    rw [esc_cons]
    unfold esc1
    by_cases h1 : c = 167
    · subst h1; rw [if_pos rfl]; show opn (166 :: 1 :: esc s) q = _; rw [opn_pair _ _ _ (by omega), ih]; rfl
    · rw [if_neg h1]
      by_cases h2 : c = 166
      · subst h2; rw [if_pos rfl]; show opn (166 :: 0 :: esc s) q = _; rw [opn_pair _ _ _ (by omega), ih]; rfl
      · rw [if_neg h2]; show opn (c :: esc s) q = _; rw [opn_plain _ _ _ h1 h2, ih]; rfl
theorem pre_inl {c : Int} {x : List Int ⊕ (Int × Int)} {p : List Int} (h : pre c x = .inl p) : ∃ p', x = .inl p' ∧ p = c :: p' := by
  cases x with
  | inl p' => exact ⟨p', rfl, (Sum.inl.inj h).symm⟩
  | inr e => cases h
theorem pre_inr {c : Int} {x : List Int ⊕ (Int × Int)} {e : Int × Int} (h : pre c x = .inr e) : x = .inr e := by
  cases x with
  | inl p' => cases h
  | inr e' => exact congrArg Sum.inr (Sum.inr.inj h)
theorem opn_only : ∀ (b : List Int), ∀ q p, Byt b → opn b q = .inl p → esc p = b ∧ p.length ≤ b.length := by
  refine opn_ind ?_ ?_ ?_ ?_ ?_ ?_
  · intro q p _ h; cases h; exact ⟨rfl, Nat.le_refl _⟩
  · intro r q p _ h; rw [opn_lead] at h; cases h
  · intro q p _ h; rw [opn_end] at h; cases h
  · intro b r hb q p _ h; rw [opn_bad _ _ _ hb] at h; cases h
  · intro b r hb ih q p hB h
    rw [opn_pair _ _ _ hb] at h
    obtain ⟨p', h1, rfl⟩ := pre_inl h
    obtain ⟨_, hB⟩ := Byt.cons.1 hB
    obtain ⟨hb0, hB⟩ := Byt.cons.1 hB
    obtain ⟨h2, h3⟩ := ih _ _ hB h1
    refine ⟨?_, by simp; omega⟩
    rw [esc_cons, h2]
    unfold esc1
    by_cases e : b = 1
    · subst e; rfl
    · have : b = 0 := by omega
      subst this; rfl
  · intro c r c1 c2 ih q p hB h
    rw [opn_plain _ _ _ c1 c2] at h
    obtain ⟨p', h1, rfl⟩ := pre_inl h
    obtain ⟨_, hB⟩ := Byt.cons.1 hB
    obtain ⟨h2, h3⟩ := ih _ _ hB h1
    exact ⟨by rw [esc_cons, h2]; simp [esc1, c1, c2], by simp; omega⟩
theorem opn_app : ∀ (s : List Int), ∀ t q p, opn s q = .inl p → opn (s ++ t) q = (match opn t (q + s.length) with | .inl r => .inl (p ++ r) | .inr e => .inr e) := by
  refine opn_ind ?_ ?_ ?_ ?_ ?_ ?_
  · intro t q p h; cases h; simp; cases opn t q <;> rfl
  · intro r t q p h; rw [opn_lead] at h; cases h
  · intro t q p h; rw [opn_end] at h; cases h
  · intro b r hb t q p h; rw [opn_bad _ _ _ hb] at h; cases h
  · intro b r hb ih t q p h
    rw [opn_pair _ _ _ hb] at h
    obtain ⟨p', h1, rfl⟩ := pre_inl h
    show opn (166 :: b :: (r ++ t)) q = _
    rw [opn_pair _ _ _ hb, ih t _ _ h1]
    have e : q + 2 + (r.length : Int) = q + ((166 :: b :: r).length : Int) := by simp; omega
    rw [e]
    cases opn t (q + ((166 :: b :: r).length : Int)) <;> rfl
  · intro c r c1 c2 ih t q p h
    rw [opn_plain _ _ _ c1 c2] at h
    obtain ⟨p', h1, rfl⟩ := pre_inl h
    show opn (c :: (r ++ t)) q = _
    rw [opn_plain _ _ _ c1 c2, ih t _ _ h1]
    have e : q + 1 + (r.length : Int) = q + ((c :: r).length : Int) := by simp; omega
    rw [e]
    cases opn t (q + ((c :: r).length : Int)) <;> rfl
/-- What is ahead of an error, and what stands there. -/
theorem opn_err : ∀ (b : List Int), ∀ q e, opn b q = .inr e → ∃ x r p, b = x ++ r ∧ opn x q = .inl p ∧ e.2 = q + x.length ∧
    ((e.1 = 31 ∧ ∃ y, r = 167 :: y) ∨ (e.1 = 32 ∧ (r = [166] ∨ ∃ b' y, r = 166 :: b' :: y ∧ 1 < b'))) := by
  refine opn_ind ?_ ?_ ?_ ?_ ?_ ?_
  · intro q e h; cases h
  · intro r q e h; rw [opn_lead] at h; cases h; exact ⟨[], _, [], rfl, rfl, by simp, .inl ⟨rfl, _, rfl⟩⟩
  · intro q e h; rw [opn_end] at h; cases h; exact ⟨[], _, [], rfl, rfl, by simp, .inr ⟨rfl, .inl rfl⟩⟩
  · intro b r hb q e h; rw [opn_bad _ _ _ hb] at h; cases h; exact ⟨[], _, [], rfl, rfl, by simp, .inr ⟨rfl, .inr ⟨_, _, rfl, hb⟩⟩⟩
  · intro b r hb ih q e h
    rw [opn_pair _ _ _ hb] at h
    obtain ⟨x, r', p, rfl, h2, h3, h4⟩ := ih _ _ (pre_inr h)
    exact ⟨166 :: b :: x, r', _ :: p, rfl, by rw [opn_pair _ _ _ hb, h2]; rfl, by simp; omega, h4⟩
  · intro c r c1 c2 ih q e h
    rw [opn_plain _ _ _ c1 c2] at h
    obtain ⟨x, r', p, rfl, h2, h3, h4⟩ := ih _ _ (pre_inr h)
    exact ⟨c :: x, r', _ :: p, rfl, by rw [opn_plain _ _ _ c1 c2, h2]; rfl, by simp; omega, h4⟩

def opnR : List Int ⊕ (Int × Int) → List Int × Int × Int
  | .inl p => (p, 0, 0)
  | .inr e => ([], e.1, e.2)
theorem Open.l1_eq (s : List Int) (hB : Byt s) (hs : s.length ≤ 1099511627776) : ∀ (n : Nat) (out : List Int) (i : Nat), s.length - i = n → i ≤ s.length → out.length ≤ i → ∀ k, n < k →
    Open.l1 s k (out, (i : Int)) = some (match opn (s.drop i) i with | .inl p => .inr (out ++ p) | .inr e => .inl ([], e.1, e.2)) := by
  intro n
  induction n using Nat.strongRecOn with
  | _ n ih =>
    intro out i h hi ho k hk
    obtain ⟨k, rfl⟩ : ∃ m, k = m + 1 := ⟨k - 1, by omega⟩
    rw [Open.l1]; simp only
    by_cases hlt : i < s.length
    · rw [if_pos (by omega)]
      unfold one.f
      rw [gd_pos (by omega)]
      have hd := drop_cons s i hlt
      have hc := hB _ (rd_mem s i hlt)
      by_cases h1 : rd s (i : Int) = 167
      · rw [if_pos h1, Option.bind_some]; simp only
        rw [if_pos (by omega), hd, h1, opn_lead]
      · rw [if_neg h1]
        by_cases h2 : rd s (i : Int) = 166
        · have e1 : IntKind.wrap .i64 ((i : Int) + 1) = ((i + 1 : Nat) : Int) := by rw [w64 (by omega) (by omega)]; omega
          rw [if_pos h2, e1]
          by_cases h3 : i + 1 = s.length
          · rw [if_pos (by omega), Option.bind_some, if_pos rfl, Option.bind_some]; simp only
            rw [if_pos (by omega), hd, h2, List.drop_of_length_le (by omega), opn_end]
          · have hd2 := drop_cons s (i + 1) (by omega)
            have hb := hB _ (rd_mem s (i + 1) (by omega))
            rw [if_neg (by omega), gd_pos (by omega), gd_pos (by omega), Option.bind_some]
            by_cases h4 : 1 < rd s ((i + 1 : Nat) : Int)
            · rw [if_pos (by simpa using h4), Option.bind_some]; simp only
              rw [if_pos (by omega), hd, h2, hd2, opn_bad _ _ _ h4]
            · rw [if_neg (by simpa using h4), gd_pos (by omega), Option.bind_some]; simp only
              rw [if_neg (by omega), gd_pos (by simp; omega), w8 (by omega) (by omega), w64 (by omega) (by omega), show ((i : Int) + 2) = ((i + 2 : Nat) : Int) by omega]
              rw [ih (s.length - (i + 2)) (by omega) _ (i + 2) rfl (by omega) (by simp; omega) k (by omega), hd, h2, hd2, opn_pair _ _ _ h4, show ((i + 2 : Nat) : Int) = (i : Int) + 2 by omega]
              cases opn (s.drop (i + 1 + 1)) ((i : Int) + 2) <;> simp [pre]
        · rw [if_neg h2, Option.bind_some]; simp only
          rw [if_neg (by omega), gd_pos (by simp; omega), w64 (by omega) (by omega), show ((i : Int) + 1) = ((i + 1 : Nat) : Int) by omega]
          rw [ih (s.length - (i + 1)) (by omega) _ (i + 1) rfl (by omega) (by simp; omega) k (by omega), hd, opn_plain _ _ _ h1 h2, show ((i + 1 : Nat) : Int) = (i : Int) + 1 by omega]
          cases opn (s.drop (i + 1)) ((i : Int) + 1) <;> simp [pre]
    · rw [if_neg (by omega), List.drop_of_length_le (by omega)]
      simp [opn]
theorem Open.eq (s : List Int) (hB : Byt s) (hs : s.length ≤ 1099511627776) (K : Nat) (hK : s.length < K) : Open.f K s = some (opnR (opn s 0)) := by
  unfold Open.f
  have h := Open.l1_eq s hB hs s.length [] 0 (by omega) (by omega) (by simp) K hK
  rw [gd_pos (by omega)]
  rw [show ((0 : Nat) : Int) = 0 from rfl, List.drop_zero] at h
  rw [h]
  cases opn s 0 <;> rfl
/-- What Open answers, its parts by name. -/
theorem Open.inl {s p : List Int} (hB : Byt s) (hs : s.length ≤ 1099511627776) (K : Nat) (hK : s.length < K) (h : opn s 0 = .inl p) : ∃ r, Open.f K s = some r ∧ r.1 = p ∧ r.2.1 = 0 ∧ r.2.2 = 0 := ⟨_, by rw [Open.eq s hB hs K hK, h, opnR], rfl, rfl, rfl⟩
theorem Open.inr {s : List Int} {e : Int × Int} (hB : Byt s) (hs : s.length ≤ 1099511627776) (K : Nat) (hK : s.length < K) (h : opn s 0 = .inr e) : ∃ r, Open.f K s = some r ∧ r.1 = [] ∧ r.2.1 = e.1 ∧ r.2.2 = e.2 := ⟨_, by rw [Open.eq s hB hs K hK, h, opnR], rfl, rfl, rfl⟩
/-- What bytes are opened to are bytes. -/
theorem opn_byt {b p : List Int} {q : Int} (hb : Byt b) (h : opn b q = .inl p) : Byt p := by
  have h1 := (opn_only b q p hb h).1
  intro x hx
  have : ∀ y ∈ esc1 x, y ∈ b := fun y hy => by rw [← h1]; exact List.mem_flatMap.2 ⟨x, hx, hy⟩
  unfold esc1 at this
  by_cases e1 : x = 167
  · omega
  · by_cases e2 : x = 166
    · omega
    · rw [if_neg e1, if_neg e2] at this; exact hb x (this x (by simp))
end Go.Proofs.Ytakolnamobkkkaa
