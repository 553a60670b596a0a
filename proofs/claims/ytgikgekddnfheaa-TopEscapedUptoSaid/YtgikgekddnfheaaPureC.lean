/- Own text. The plain parts of the laws EscapeBack, EscapeOnly, EscapeJoined, EscapeHeads. Conditions: bytes, at most 1048576 of them. -/
import Derived.Test.YtgikgekddnfheaaPureB
set_option linter.unusedSimpArgs false
set_option linter.unusedVariables false
namespace Go.Proofs.Ytgikgekddnfheaa
open Go Go.Sx

theorem EscapeBack.l1_eq (t : List Int) (hs : t.length < 4611686018427387904) (ht : (167 : Int) ∉ t) : ∀ (n i : Nat) (ok : Bool), i + n = t.length → ∀ k, n < k → EscapeBack.l1 t k (ok, (i : Int)) = some ok := by
  intro n
  induction n with
  | zero =>
    intro i ok h k hk
    obtain ⟨k, rfl⟩ : ∃ m, k = m + 1 := ⟨k - 1, by omega⟩
    rw [EscapeBack.l1]; simp only
    rw [if_neg (by omega)]
  | succ n ih =>
    intro i ok h k hk
    obtain ⟨k, rfl⟩ : ∃ m, k = m + 1 := ⟨k - 1, by omega⟩
    rw [EscapeBack.l1]; simp only
    have hm : rd t (i : Int) ≠ 167 := fun e => ht (e ▸ rd_mem t i (by omega))
    rw [if_pos (by omega), w64 (by omega) (by omega), show ((i : Int) + 1) = ((i + 1 : Nat) : Int) by omega]
    cases ok with
    | true => rw [if_pos rfl, gd_pos (by omega), gd_pos (by omega), ih _ _ (by omega) k (by omega)]; simp [hm]
    | false => rw [if_neg (by simp)]; exact ih _ _ (by omega) k (by omega)
theorem Next.none (t : List Int) (hb : Byt t) (hs : t.length < 4611686018427387904) (ht : (167 : Int) ∉ t) : Next.f t 0 = some (t.length : Int) := by
  obtain ⟨r, h, h'⟩ := Next.eq t 0 hb hs
  rw [h, h'.uniq (.inl ⟨rfl, fun i hi _ e => ht (e ▸ rd_mem t i hi)⟩)]

/-- What Open answers, its parts by name. -/
theorem Open.inl {s p : List Int} (hB : Byt s) (hs : s.length ≤ 1099511627776) (K : Nat) (hK : s.length < K) (h : opn s 0 = .inl p) : ∃ r, Open.f K s = some r ∧ r.1 = p ∧ r.2.1 = 0 ∧ r.2.2 = 0 := ⟨_, by rw [Open.eq s hB hs K hK, h, opnR], rfl, rfl, rfl⟩
theorem Open.inr {s : List Int} {e : Int × Int} (hB : Byt s) (hs : s.length ≤ 1099511627776) (K : Nat) (hK : s.length < K) (h : opn s 0 = .inr e) : ∃ r, Open.f K s = some r ∧ r.1 = [] ∧ r.2.1 = e.1 ∧ r.2.2 = e.2 := ⟨_, by rw [Open.eq s hB hs K hK, h, opnR], rfl, rfl, rfl⟩
/-- What bytes are opened to are bytes. -/
theorem opn_byt {b p : List Int} {q : Int} (hb : Byt b) (h : opn b q = .inl p) : Byt p := by
  have h1 := (opn_only b q p hb h).1
  intro x hx
  have : ∀ y ∈ esc1 x, y ∈ b := fun y hy => by rw [← h1]; exact List.mem_flatMap.2 ⟨x, hx, hy⟩
  unfold esc1 at this
  by_cases e1 : x = 167
  · omega
  · by_cases e2 : x = 166
    · omega
    · rw [if_neg e1, if_neg e2] at this; exact hb x (this x (by simp))

namespace Pure
theorem EscapeBack : ∀ (a0 : List Int), (∀ x ∈ a0, (Lit.int .u8 x).wf = true) → a0.length ≤ 1048576 → ∃ K, EscapeBack.f K a0 = some true := by
  intro s hb hs
  have hb := Byt.of hb
  have hl := esc_le s
  refine ⟨2 * s.length + 9, ?_⟩
  unfold EscapeBack.f
  obtain ⟨r, h1, h2, h3, h4⟩ := Open.inl (esc_byt hb) (by omega) (2 * s.length + 9) (by omega) (opn_esc s 0)
  rw [awake.eq _ (by omega), Option.bind_some, Wrap.eq s hb (by omega) _ (by omega), Option.bind_some, Size.eq _ s hb (by omega), Option.bind_some,
    Next.none _ (esc_byt hb) (by omega) (esc_lead s), Option.bind_some, h1, Option.bind_some, h2, same.eq _ _ hb hb, Option.bind_some]
  refine bind_of (EscapeBack.l1_eq (esc s) (by omega) (esc_lead s) (esc s).length 0 _ (by omega) _ (by omega)) ?_
  rw [if_pos rfl, if_pos (by simp), if_pos h3, if_pos h4, if_pos rfl, if_pos rfl, if_pos (by omega), w64 (by omega) (by omega)]
  simp; omega
theorem EscapeOnly : ∀ (a0 : List Int), (∀ x ∈ a0, (Lit.int .u8 x).wf = true) → a0.length ≤ 1048576 → ∃ K, EscapeOnly.f K a0 = some true := by
  intro b hb hs
  have hb := Byt.of hb
  refine ⟨2 * b.length + 9, ?_⟩
  unfold EscapeOnly.f
  cases h : opn b 0 with
  | inl p =>
    obtain ⟨r, h1, h2, h3, h4⟩ := Open.inl hb (by omega) (2 * b.length + 9) (by omega) h
    obtain ⟨o1, o2⟩ := opn_only b 0 p hb h
    rw [awake.eq _ (by omega), Option.bind_some, h1, Option.bind_some, if_pos rfl, if_neg (by omega), Option.bind_some, if_neg (by simp; omega), if_neg (by omega), h2, Wrap.eq p (opn_byt hb h) (by omega) _ (by omega), Option.bind_some, o1, same.eq _ _ hb hb]
    simp
  | inr e =>
    obtain ⟨x, r', p, h5, h6, h7, h8⟩ := opn_err b 0 e h
    obtain ⟨r, h1, h2, h3, h4⟩ := Open.inr hb (by omega) (2 * b.length + 9) (by omega) h
    have hlen : b.length = x.length + r'.length := by rw [h5, List.length_append]
    have hr : 0 < r'.length := by rcases h8 with ⟨_, y, rfl⟩ | ⟨_, rfl | ⟨b', y, rfl, _⟩⟩ <;> simp
    have hat : rd b r.2.2 = rd r' 0 := by
      rw [h4, h7, Int.zero_add, h5, rd_app_right _ _ _ (Nat.le_refl _) (by omega), Nat.sub_self]; rfl
    have hne : r.2.1 ≠ 0 := by omega
    rw [awake.eq _ (by omega), Option.bind_some, h1, Option.bind_some, if_pos rfl, if_neg (by omega), Option.bind_some, if_neg (by simp; omega), hat, if_pos hne, if_pos (by rw [h2]; rfl), if_pos (by omega)]
    rcases h8 with ⟨h9, y, rfl⟩ | ⟨h9, hr⟩
    · rw [if_pos (by omega), gd_pos (by omega), gd_pos (by omega), if_pos (show rd (167 :: y) 0 = 167 from rfl)]
    · have h6 : rd r' 0 = 166 := by rcases hr with rfl | ⟨b', y, rfl, _⟩ <;> rfl
      rw [h6, if_neg (by omega), if_pos (by omega), gd_pos (by omega), gd_pos (by omega)]
      simp
theorem EscapeJoined : ∀ (a0 : List Int) (a1 : List Int), (∀ x ∈ a0, (Lit.int .u8 x).wf = true) → (∀ x ∈ a1, (Lit.int .u8 x).wf = true) → a0.length + a1.length ≤ 1048576 → ∃ K, EscapeJoined.f K a0 a1 = some true := by
  intro s t hs ht hl
  have hs := Byt.of hs
  have ht := Byt.of ht
  have l1 := esc_le s
  have l2 := esc_le t
  refine ⟨2 * (s.length + t.length) + 9, ?_⟩
  unfold EscapeJoined.f
  have hst := Byt.app.2 ⟨hs, ht⟩
  have oS : ∃ r, Open.f (2 * (s.length + t.length) + 9) s = some r ∧ r = opnR (opn s 0) := ⟨_, Open.eq s hs (by omega) _ (by omega), rfl⟩
  have oT : ∃ r, Open.f (2 * (s.length + t.length) + 9) t = some r ∧ r = opnR (opn t 0) := ⟨_, Open.eq t ht (by omega) _ (by omega), rfl⟩
  have oU : ∃ r, Open.f (2 * (s.length + t.length) + 9) (s ++ t) = some r ∧ r = opnR (opn (s ++ t) 0) := ⟨_, Open.eq _ hst (by simp; omega) _ (by simp; omega), rfl⟩
  obtain ⟨rS, hS, eS⟩ := oS
  obtain ⟨rT, hT, eT⟩ := oT
  obtain ⟨rU, hU, eU⟩ := oU
  rw [awake.eq _ (by omega), Option.bind_some, gd_pos (by simp; omega), gd_pos (by simp; omega), List.nil_append, Wrap.eq s hs (by omega) _ (by omega), Option.bind_some, Wrap.eq t ht (by omega) _ (by omega), Option.bind_some,
    Wrap.eq _ hst (by simp; omega) _ (by simp; omega), Option.bind_some, gd_pos (by omega), esc_app, same.eq _ _ (Byt.app.2 ⟨esc_byt hs, esc_byt ht⟩) (Byt.app.2 ⟨esc_byt hs, esc_byt ht⟩), Option.bind_some,
    hS, Option.bind_some, hT, Option.bind_some, hU, Option.bind_some]
  cases h1 : opn s 0 with
  | inr e =>
    have : rS.2.1 ≠ 0 := by
      obtain ⟨_, _, _, _, _, _, h⟩ := opn_err s 0 e h1
      have : rS.2.1 = e.1 := by rw [eS, h1]; rfl
      omega
    rw [if_neg this]; simp
  | inl p =>
    have hp := opn_only s 0 p hs h1
    have s1 : rS.1 = p := by rw [eS, h1]; rfl
    have s2 : rS.2.1 = 0 := by rw [eS, h1]; rfl
    rw [if_pos s2]
    cases h2 : opn t 0 with
    | inr e =>
      have : rT.2.1 ≠ 0 := by
        obtain ⟨_, _, _, _, _, _, h⟩ := opn_err t 0 e h2
        have : rT.2.1 = e.1 := by rw [eT, h2]; rfl
        omega
      simp [this]
    | inl q =>
      have hq := opn_only t 0 q ht h2
      have t1 : rT.1 = q := by rw [eT, h2]; rfl
      have t2 : rT.2.1 = 0 := by rw [eT, h2]; rfl
      have hsh : ∀ z : Int, opn t z = .inl q := by
        have e1 : esc q = t := hq.1
        intro z; rw [← e1]; exact opn_esc q z
      have h3 : opn (s ++ t) 0 = .inl (p ++ q) := by rw [opn_app s t 0 p h1, hsh]
      have hB : Byt (p ++ q) := opn_byt hst h3
      have u1 : rU.1 = p ++ q := by rw [eU, h3]; rfl
      have u2 : rU.2.1 = 0 := by rw [eU, h3]; rfl
      rw [Option.bind_some, if_pos (by simp [t2]), if_pos (by simp), if_pos u2, s1, t1, u1, gd_pos (by omega), same.eq _ _ hB hB]
      simp
theorem EscapeHeads : ∀ (a0 : List Int) (a1 : List Int), (∀ x ∈ a0, (Lit.int .u8 x).wf = true) → (∀ x ∈ a1, (Lit.int .u8 x).wf = true) → a0.length + a1.length ≤ 1048576 → ∃ K, EscapeHeads.f K a0 a1 = some true := by
  intro b tl hb ht hl
  have hb := Byt.of hb
  have ht := Byt.of ht
  refine ⟨2 * (b.length + tl.length) + 9, ?_⟩
  unfold EscapeHeads.f
  generalize hK : 2 * (b.length + tl.length) + 9 = K
  cases h : opn b 0 with
  | inl p =>
    obtain ⟨r, h1, h2, h3, h4⟩ := Open.inl hb (by omega) K (by omega) h
    rw [awake.eq _ (by omega), Option.bind_some, h1, Option.bind_some, if_pos rfl, if_pos h3]
  | inr e =>
    obtain ⟨x, z, p, h5, h6, h7, h8⟩ := opn_err b 0 e h
    obtain ⟨r, h1, h2, h3, h4⟩ := Open.inr hb (by omega) K (by omega) h
    have hlen : b.length = x.length + z.length := by rw [h5, List.length_append]
    have hz : 0 < z.length := by rcases h8 with ⟨_, y, rfl⟩ | ⟨_, rfl | ⟨b', y, rfl, _⟩⟩ <;> simp
    have hx : Byt x := (Byt.app.1 (h5 ▸ hb)).1
    have hat : r.2.2 = x.length := by rw [h4, h7, Int.zero_add]
    have hne : r.2.1 ≠ 0 := by omega
    have hw1 : IntKind.wrap .i64 (r.2.2 + 1) = ((x.length + 1 : Nat) : Int) := by rw [hat, w64 (by omega) (by omega)]; omega
    have hw2 : IntKind.wrap .i64 (r.2.2 + 2) = ((x.length + 2 : Nat) : Int) := by rw [hat, w64 (by omega) (by omega)]; omega
    have hw3 : IntKind.wrap .i64 (((x.length + 1 : Nat) : Int) + 1) = ((x.length + 2 : Nat) : Int) := by rw [w64 (by omega) (by omega)]; omega
    have htake : b.take x.length = x := by rw [h5, List.take_left']; rfl
    obtain ⟨rx, k1, k2, k3, k4⟩ := Open.inl hx (by omega) K (by omega) h6
    -- whatever stands behind, it is told again
    have told : ∀ w : List Int, Byt w → x.length + w.length ≤ b.length + tl.length + 2 → opn w (0 + (x.length : Int)) = .inr e → ∃ rc, Open.f K (x ++ w) = some rc ∧ rc.2.1 = r.2.1 ∧ rc.2.2 = r.2.2 := by
      intro w hw hwl ho
      have h9 : opn (x ++ w) 0 = .inr e := by rw [opn_app x w 0 p h6, ho]
      obtain ⟨rc, q1, q2, q3, q4⟩ := Open.inr (Byt.app.2 ⟨hx, hw⟩) (by simp; omega) K (by simp; omega) h9
      exact ⟨rc, q1, by rw [q3, h3], by rw [q4, h4]⟩
    have hee : e = (e.1, 0 + (x.length : Int)) := by rw [← h7]
    rw [awake.eq _ (by omega), Option.bind_some, h1, Option.bind_some, if_pos rfl, if_neg hne, if_neg (by omega), Option.bind_some, if_neg (by simp; omega), gd_pos (by omega), show Int.toNat r.2.2 = x.length by omega, List.drop_zero, htake, k1, Option.bind_some, hw1, hw3, hw2]
    simp only [Int.toNat_natCast, List.nil_append, List.drop_zero]
    rcases h8 with ⟨h9, y, rfl⟩ | ⟨h9, rfl | ⟨b', y, rfl, hb'⟩⟩
    · have ht1 : b.take (x.length + 1) = x ++ [167] := by rw [h5, List.take_append, List.take_of_length_le (by omega)]; simp
      obtain ⟨rc, q1, q2, q3⟩ := told (167 :: tl) (Byt.cons.2 ⟨by omega, ht⟩) (by simp at hlen ⊢; omega) (by rw [opn_lead, hee, h9])
      rw [if_neg (by omega), Option.bind_some, if_neg (by simp), gd_pos (by omega), ht1, gd_pos (by simp; omega), if_pos (by omega), Option.bind_some, if_pos rfl, gd_pos (by simp; omega), List.append_assoc, List.singleton_append, q1, Option.bind_some, if_pos k3, if_pos q2]
      simp [q3]
    · have ht1 : b.take (x.length + 1) = x ++ [166] := by rw [h5, List.take_append, List.take_of_length_le (by omega)]; simp
      obtain ⟨rc, q1, q2, q3⟩ := told [166] (by simp [Byt]) (by simp at hlen ⊢; omega) (by rw [opn_end, hee, h9])
      have hl1 : b.length = x.length + 1 := by simpa using hlen
      rw [if_pos (by omega), Option.bind_some, if_neg (by simp; omega), gd_pos (by omega), ht1, gd_pos (by simp; omega), if_neg (by omega), Option.bind_some, if_neg (by simp <;> omega), q1, Option.bind_some, if_pos k3, if_pos q2]
      simp [q3]
    · have ht1 : b.take (x.length + 2) = x ++ [166, b'] := by rw [h5, List.take_append, List.take_of_length_le (by omega)]; simp
      have hbb : 0 ≤ b' ∧ b' < 256 := hb b' (by rw [h5]; simp)
      obtain ⟨rc, q1, q2, q3⟩ := told (166 :: b' :: tl) (Byt.cons.2 ⟨by omega, Byt.cons.2 ⟨hbb, ht⟩⟩) (by simp at hlen ⊢; omega) (by rw [opn_bad _ _ _ hb', hee, h9])
      have hl1 : b.length = x.length + (y.length + 2) := by simpa using hlen
      rw [if_pos (by omega), Option.bind_some, if_pos (by simp; omega), gd_pos (by omega), ht1, gd_pos (by simp; omega), if_neg (by omega), Option.bind_some, if_pos (by simp), gd_pos (by simp; omega), List.append_assoc]
      show (Open.f K (x ++ (166 :: b' :: tl))).bind _ = _
      rw [q1, Option.bind_some, if_pos k3, if_pos q2]
      simp [q3]
end Pure
end Go.Proofs.Ytgikgekddnfheaa
