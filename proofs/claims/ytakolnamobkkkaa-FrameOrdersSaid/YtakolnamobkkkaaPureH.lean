/- Own text. What a frame's body is, said once: what may be is written so, and is read out of it again, and nothing else is. Conditions: bytes, whole numbers in their types' bounds. -/
import Derived.Test.YtakolnamobkkkaaPureF
set_option linter.unusedSimpArgs false
set_option linter.unusedVariables false
set_option maxRecDepth 100000
namespace Go.Proofs.Ytakolnamobkkkaa
open Go Go.Sx

abbrev D14 := Int × Int × Int × ByteArray × ByteArray × Int × Int × Int × Int × ByteArray × Int × Int × Int × Int
abbrev E0 : ByteArray := ByteArray.empty
def zeroF : D14 := (0, 0, 0, E0, E0, 0, 0, 0, 0, E0, 0, 0, 0, 0)
def chk (f : D14) : Option Int := check.f f.1 f.2.1 f.2.2.1 f.2.2.2.1 f.2.2.2.2.1 f.2.2.2.2.2.1 f.2.2.2.2.2.2.1 f.2.2.2.2.2.2.2.1 f.2.2.2.2.2.2.2.2.1 f.2.2.2.2.2.2.2.2.2.1 f.2.2.2.2.2.2.2.2.2.2.1 f.2.2.2.2.2.2.2.2.2.2.2.1 f.2.2.2.2.2.2.2.2.2.2.2.2.1 f.2.2.2.2.2.2.2.2.2.2.2.2.2
def bodyE (K : Nat) (f : D14) : Option (List Int × Int) := fBody.f K f.1 f.2.1 f.2.2.1 f.2.2.2.1 f.2.2.2.2.1 f.2.2.2.2.2.1 f.2.2.2.2.2.2.1 f.2.2.2.2.2.2.2.1 f.2.2.2.2.2.2.2.2.1 f.2.2.2.2.2.2.2.2.2.1 f.2.2.2.2.2.2.2.2.2.2.1 f.2.2.2.2.2.2.2.2.2.2.2.1 f.2.2.2.2.2.2.2.2.2.2.2.2.1 f.2.2.2.2.2.2.2.2.2.2.2.2.2
def okF (f : D14) : D14 × Bool → Prop := fun r => r = (f, true)
/-- The four kinds of frames. -/
def Shp (f : D14) : Prop :=
  (∃ (l : Nat) (k v : ByteArray), f = (1, (l : Int), 1, k, v, 0, 0, 0, 0, E0, 0, 0, 0, 0) ∧ l < 18446744073709551616 ∧ ks k ∧ v.size ≤ 2048) ∨
  (∃ (l : Nat) (k : ByteArray), f = (2, (l : Int), 2, k, E0, 0, 0, 0, 0, E0, 0, 0, 0, 0) ∧ l < 18446744073709551616 ∧ ks k) ∨
  (∃ (l d a n : Nat) (k : ByteArray), f = (3, 0, 0, E0, E0, (l : Int), (d : Int), (a : Int), (n : Int), k, 0, 0, 0, 0) ∧ l < 18446744073709551616 ∧ (d = 1 ∨ d = 2) ∧ a ≤ 4194304 ∧ n ≤ 4194304 ∧ ks k) ∨
  (∃ (c b r s : Nat), f = (4, 0, 0, E0, E0, 0, 0, 0, 0, E0, (c : Int), (b : Int), (r : Int), (s : Int)) ∧ c ≤ 4194304 ∧ b ≤ 4194304 ∧ r ≤ 4194304 ∧ s < 4294967296)
/-- A frame that may be. -/
def Val (f : D14) : Prop := chk f = some 0 ∧ Shp f
def bdy (f : D14) : List Int :=
  f.1 :: (if f.1 = 1 then enc1 f.2.1.toNat ++ (enc1 f.2.2.2.1.size ++ (bytesOf f.2.2.2.1 ++ bytesOf f.2.2.2.2.1))
    else if f.1 = 2 then enc1 f.2.1.toNat ++ bytesOf f.2.2.2.1
    else if f.1 = 3 then enc1 f.2.2.2.2.2.1.toNat ++ (f.2.2.2.2.2.2.1 :: (enc1 f.2.2.2.2.2.2.2.1.toNat ++ (enc1 f.2.2.2.2.2.2.2.2.1.toNat ++ bytesOf f.2.2.2.2.2.2.2.2.2.1)))
    else enc1 f.2.2.2.2.2.2.2.2.2.2.1.toNat ++ (enc1 f.2.2.2.2.2.2.2.2.2.2.2.1.toNat ++ (enc1 f.2.2.2.2.2.2.2.2.2.2.2.2.1.toNat ++ enc1 f.2.2.2.2.2.2.2.2.2.2.2.2.2.toNat)))

theorem may.rel2 (a : Int) (b c : ByteArray) (d : Int) : Ans (may.f a b c d) (fun r => r = 0 → ks b ∧ c.size ≤ 2048 ∧ (d = 2 → c = E0)) := by
  unfold may.f
  refine Ans.ite (fun _ => Ans.some (fun h => by simp at h)) (fun _ => Ans.bind (between.rel _ _ _) (fun v hv => Ans.ite (fun ht => ?_) (fun _ => Ans.some (fun h => by simp at h))))
  obtain ⟨h1, h2⟩ := hv ht
  refine Ans.bind (Q := fun o => o = true ∨ (c.size ≤ 2048 ∧ (d = 2 → c = E0))) (Ans.ite (fun _ => Ans.some (.inl rfl)) (fun h => Ans.ite (fun hd => Ans.some ?_) (fun hd => Ans.some (.inr ⟨by omega, fun h => absurd h hd⟩)))) (fun o ho => Ans.ite (fun _ => Ans.some (fun h => by simp at h)) (fun hf => Ans.some (fun _ => ⟨⟨by omega, by omega⟩, ?_⟩)))
  · by_cases hc : c = E0
    · exact .inr ⟨by omega, fun _ => hc⟩
    · exact .inl (decide_eq_true hc)
  · rcases ho with h | h
    · exact absurd h hf
    · exact h
def Cse (f : D14) : Prop :=
  ((f.1 = 1 ∨ f.1 = 2) ∧ f.2.2.1 = f.1 ∧ ks f.2.2.2.1 ∧ f.2.2.2.2.1.size ≤ 2048 ∧ (f.2.2.1 = 2 → f.2.2.2.2.1 = E0) ∧ f.2.2.2.2.2 = (0, 0, 0, 0, E0, 0, 0, 0, 0)) ∨
  (f.1 = 3 ∧ f.2.1 = 0 ∧ f.2.2.1 = 0 ∧ f.2.2.2.1 = E0 ∧ f.2.2.2.2.1 = E0 ∧ (f.2.2.2.2.2.2.1 = 1 ∨ f.2.2.2.2.2.2.1 = 2) ∧ (0 ≤ f.2.2.2.2.2.2.2.1 ∧ f.2.2.2.2.2.2.2.1 ≤ 4194304) ∧ (1 ≤ f.2.2.2.2.2.2.2.2.1 ∧ f.2.2.2.2.2.2.2.2.1 ≤ 4194304) ∧ ks f.2.2.2.2.2.2.2.2.2.1 ∧ f.2.2.2.2.2.2.2.2.2.2 = (0, 0, 0, 0)) ∨
  (f.1 = 4 ∧ f.2.1 = 0 ∧ f.2.2.1 = 0 ∧ f.2.2.2.1 = E0 ∧ f.2.2.2.2.1 = E0 ∧ f.2.2.2.2.2.1 = 0 ∧ f.2.2.2.2.2.2.1 = 0 ∧ f.2.2.2.2.2.2.2.1 = 0 ∧ f.2.2.2.2.2.2.2.2.1 = 0 ∧ f.2.2.2.2.2.2.2.2.2.1 = E0 ∧
    (0 ≤ f.2.2.2.2.2.2.2.2.2.2.1 ∧ f.2.2.2.2.2.2.2.2.2.2.1 ≤ 4194304) ∧ (0 ≤ f.2.2.2.2.2.2.2.2.2.2.2.1 ∧ f.2.2.2.2.2.2.2.2.2.2.2.1 ≤ 4194304) ∧ (0 ≤ f.2.2.2.2.2.2.2.2.2.2.2.2.1 ∧ f.2.2.2.2.2.2.2.2.2.2.2.2.1 ≤ 4194304))
theorem isRecord.rel (a : Int) : Ans (isRecord.f a) (fun r => r = true → a = 1 ∨ a = 2) := by
  unfold isRecord.f
  exact Ans.ite (fun h => Ans.some (fun _ => .inl h)) (fun _ => Ans.some (fun h => .inr (of_decide_eq_true h)))
theorem check.rel2 (a0_0 a0_1 a0_2 : Int) (a0_3 a0_4 : ByteArray) (a0_5 a0_6 a0_7 a0_8 : Int) (a0_9 : ByteArray) (a0_10 a0_11 a0_12 a0_13 : Int) : Ans (check.f a0_0 a0_1 a0_2 a0_3 a0_4 a0_5 a0_6 a0_7 a0_8 a0_9 a0_10 a0_11 a0_12 a0_13) (fun r => r = 0 → Cse (a0_0, a0_1, a0_2, a0_3, a0_4, a0_5, a0_6, a0_7, a0_8, a0_9, a0_10, a0_11, a0_12, a0_13)) := by
  unfold check.f
  have fin : ∀ (o : Int × Bool × Int × Int × ByteArray × ByteArray × Int × Int × Int × Int × ByteArray × Int × Int × Int × Int) (C : Prop) [Decidable C], Ans ((if o.1 = 0 then (if o.2.1 = true then (Option.some (!(decide C))) else (Option.some true)) else (Option.some false)).bind fun o128 => if o128 = true then (Option.some (40 : Int)) else (Option.some o.1)) (fun r => r = 0 → o.1 = 0 ∧ o.2.1 = true ∧ C) := by
    intro o C _
    refine Ans.bind (Q := fun v => v = true ∨ (o.1 = 0 → o.2.1 = true ∧ C)) (Ans.ite (fun _ => Ans.ite (fun h2 => Ans.some ?_) (fun _ => Ans.some (.inl rfl))) (fun h => Ans.some (.inr (fun h0 => absurd h0 h)))) (fun v hv => Ans.ite (fun _ => Ans.some (fun h => by simp at h)) (fun hf => Ans.some (fun h => ⟨h, ?_⟩)))
    · by_cases hC : C
      · exact .inr (fun _ => ⟨h2, hC⟩)
      · exact .inl (by simp [hC])
    · rcases hv with hv | hv
      · exact absurd hv hf
      · exact hv h
  refine Ans.thn (Ans.bind (Q := fun v => v = true → a0_0 = 1 ∨ a0_0 = 2) (Ans.ite (fun h => Ans.some (fun _ => .inl h)) (fun _ => Ans.some (fun h => .inr (of_decide_eq_true h)))) (fun v hv => ?_))
  refine Ans.ite (fun ht => ?_) (fun hnt => Ans.ite (fun h3 => ?_) (fun n3 => Ans.ite (fun h4 => ?_) (fun _ => Ans.some (fun h => by simp at h))))
  · refine Ans.ite (fun _ => Ans.some (fun h => by simp at h)) (fun hk => Ans.bind (may.rel2 _ _ _ _) (fun u hu => Ans.some ?_))
    refine Ans.mono (fin _ _) (fun r hr h0 => ?_)
    obtain ⟨g1, _, _, ⟨_⟩, ⟨e1, e2, e3, e4, e5, _⟩, ⟨e6, ⟨e7, e8, e9, _⟩, _⟩, _⟩ := hr h0
    obtain ⟨m1, m2, m3⟩ := hu g1
    refine .inl ⟨hv ht, by simpa using hk, m1, m2, m3, ?_⟩
    simp only at e1 e2 e3 e4 e5 e6 e7 e8 e9 ⊢
    rw [← e1, ← e2, ← e3, ← e4, ← e5, ← e6, ← e7, ← e8, ← e9]
  · refine Ans.bind (isRecord.rel _) (fun u hu0 => Ans.ite (fun hrec => ?_) (fun _ => Ans.some (fun h => by simp at h)))
    refine Ans.bind (may.rel2 _ _ _ _) (fun u2 hu => Ans.bind (Q := fun o => o = true → (0 ≤ a0_7 ∧ a0_7 ≤ 4194304) ∧ (1 ≤ a0_8 ∧ a0_8 ≤ 4194304)) (Ans.bind (between.rel _ _ _) (fun x hx => Ans.ite (fun hxt => Ans.bind (between.rel _ _ _) (fun y hy => Ans.some (fun hyt => ⟨hx hxt, hy hyt⟩))) (fun _ => Ans.some (fun h => by simp at h)))) (fun x hx => Ans.some ?_))
    refine Ans.mono (fin _ _) (fun r hr h0 => ?_)
    obtain ⟨g1, g2, _, ⟨e1, e2, e3, e4, _⟩, _, ⟨e6, ⟨e7, e8, e9, _⟩, _⟩, _⟩ := hr h0
    simp only at g1 g2 e1 e2 e3 e4 e6 e7 e8 e9
    obtain ⟨x1, x2⟩ := hx g2
    refine .inr (.inl ⟨h3, e1.symm, e2.symm, e3.symm, e4.symm, hu0 hrec, x1, x2, (hu g1).1, ?_⟩)
    simp only
    rw [← e6, ← e7, ← e8, ← e9]
  · refine Ans.bind (Q := fun o => o = true → (0 ≤ a0_10 ∧ a0_10 ≤ 4194304) ∧ (0 ≤ a0_11 ∧ a0_11 ≤ 4194304) ∧ (0 ≤ a0_12 ∧ a0_12 ≤ 4194304)) (Ans.bind (between.rel _ _ _) (fun x hx => Ans.ite (fun hxt => Ans.bind (between.rel _ _ _) (fun y hy => Ans.ite (fun hyt => Ans.bind (between.rel _ _ _) (fun z hz => Ans.some (fun hzt => ⟨hx hxt, hy hyt, hz hzt⟩))) (fun _ => Ans.some (fun h => by simp at h)))) (fun _ => Ans.some (fun h => by simp at h)))) (fun x hx => Ans.some ?_)
    refine Ans.mono (fin _ _) (fun r hr h0 => ?_)
    obtain ⟨g1, g2, _, ⟨e1, e2, e3, e4, _⟩, ⟨p1, p2, p3, p4, p5, _⟩, _⟩ := hr h0
    simp only at g1 g2 e1 e2 e3 e4 p1 p2 p3 p4 p5
    obtain ⟨x1, x2, x3⟩ := hx g2
    exact .inr (.inr ⟨h4, e1.symm, e2.symm, e3.symm, e4.symm, p1.symm, p2.symm, p3.symm, p4.symm, p5.symm, x1, x2, x3⟩)
theorem chk.cse {f : D14} (h : chk f = some 0) : Cse f := by
  obtain ⟨r, h1, h2⟩ := check.rel2 f.1 f.2.1 f.2.2.1 f.2.2.2.1 f.2.2.2.2.1 f.2.2.2.2.2.1 f.2.2.2.2.2.2.1 f.2.2.2.2.2.2.2.1 f.2.2.2.2.2.2.2.2.1 f.2.2.2.2.2.2.2.2.2.1 f.2.2.2.2.2.2.2.2.2.2.1 f.2.2.2.2.2.2.2.2.2.2.2.1 f.2.2.2.2.2.2.2.2.2.2.2.2.1 f.2.2.2.2.2.2.2.2.2.2.2.2.2
  unfold chk at h
  rw [h1] at h; cases h
  exact h2 rfl
/-- Numbers in their types' bounds. -/
def Wf (f : D14) : Prop := (0 ≤ f.2.1 ∧ f.2.1 < 18446744073709551616) ∧ (0 ≤ f.2.2.2.2.2.1 ∧ f.2.2.2.2.2.1 < 18446744073709551616) ∧ (0 ≤ f.2.2.2.2.2.2.2.2.2.2.2.2.2 ∧ f.2.2.2.2.2.2.2.2.2.2.2.2.2 < 4294967296)
theorem Val.of {f : D14} (h : chk f = some 0) (hw : Wf f) : Val f := by
  refine ⟨h, ?_⟩
  obtain ⟨k, l, rk, key, v, pl, pk, pa, pn, pkey, c, b, r, s⟩ := f
  obtain ⟨⟨w1, w2⟩, ⟨w3, w4⟩, ⟨w5, w6⟩⟩ := hw
  simp only at w1 w2 w3 w4 w5 w6
  rcases chk.cse h with ⟨h1, h2, h3, h4, h5, h6⟩ | ⟨h1, h2, h3, h4, h5, h6, h7, h8, h9, h10⟩ | ⟨h1, h2, h3, h4, h5, h6, h7, h8, h9, h10, h11, h12, h13⟩
  · simp only at h1 h2 h3 h4 h5 h6
    cases h6
    rcases h1 with rfl | rfl
    · subst h2
      exact .inl ⟨l.toNat, key, v, by rw [Int.toNat_of_nonneg w1], by omega, h3, h4⟩
    · subst h2
      cases h5 rfl
      exact .inr (.inl ⟨l.toNat, key, by rw [Int.toNat_of_nonneg w1], by omega, h3⟩)
  · simp only at h1 h2 h3 h4 h5 h6 h7 h8 h9 h10
    cases h10; subst h1 h2 h3 h4 h5
    refine .inr (.inr (.inl ⟨pl.toNat, pk.toNat, pa.toNat, pn.toNat, pkey, ?_, by omega, by omega, by omega, by omega, h9⟩))
    rw [Int.toNat_of_nonneg w3, Int.toNat_of_nonneg (show 0 ≤ pk by omega), Int.toNat_of_nonneg h7.1, Int.toNat_of_nonneg (show 0 ≤ pn by omega)]
  · simp only at h1 h2 h3 h4 h5 h6 h7 h8 h9 h10 h11 h12 h13
    subst h1 h2 h3 h4 h5 h6 h7 h8 h9 h10
    refine .inr (.inr (.inr ⟨c.toNat, b.toNat, r.toNat, s.toNat, ?_, by omega, by omega, by omega, by omega⟩))
    rw [Int.toNat_of_nonneg h11.1, Int.toNat_of_nonneg h12.1, Int.toNat_of_nonneg h13.1, Int.toNat_of_nonneg w5]

theorem str_bytes (s : ByteArray) : strOfNums (bytesOf s) = s := by
  apply ByteArray.ext; apply Array.ext'
  rw [strOfNums_data]; unfold bytesOf
  rw [List.map_map]
  refine (List.map_congr_left fun x _ => ?_).trans (List.map_id _)
  simp
theorem tnumber.back (K : Nat) (hK : 11 ≤ K) (v : Nat) (r : List Int) (e : Bool) (hr : Byt r) (hv : v < 18446744073709551616) (hl : (enc1 v ++ r).length ≤ 140737488355328) : tnumber.f K (enc1 v ++ r) e = some ((v : Int), r, e) := by
  obtain ⟨t, h1, h2⟩ := Decode.eq (enc1 v ++ r) (Byt.app.2 ⟨enc_byt v, hr⟩) hl K hK
  obtain ⟨e1, e2, e3⟩ := h2.can (can_enc v) (by rw [val_enc]; exact hv)
  rw [val_enc] at e1
  unfold tnumber.f
  rw [h1, Option.bind_some, if_neg (by omega), gd_pos (by rw [e2]; simp), e1, e2, Int.toNat_natCast, List.take_length, List.drop_left]
theorem tsmall.back (K : Nat) (hK : 11 ≤ K) (v : Nat) (r : List Int) (e : Bool) (hr : Byt r) (hv : v < 4294967296) (hl : (enc1 v ++ r).length ≤ 140737488355328) : tsmall.f K (enc1 v ++ r) e = some ((v : Int), r, e) := by
  unfold tsmall.f
  rw [tnumber.back K hK v r e hr (by omega) hl, Option.bind_some, if_neg (by simp only; omega), w64 (by omega) (by omega)]
theorem ttext.back (x r : List Int) (e : Bool) (n : Int) (h : n = x.length) : ttext.f (x ++ r) e n = some (strOfNums x, r, e) := by
  subst h
  unfold ttext.f
  have hl : (x ++ r).length = x.length + r.length := by simp
  rw [if_neg (by omega), gd_pos (by omega), gd_pos (by omega), Int.toNat_natCast, List.drop_zero, List.take_left, List.take_length, List.drop_left]
theorem tall.back (x : List Int) (e : Bool) : tall.f x e = some (strOfNums x, [], e) := by
  have := ttext.back x [] e x.length rfl
  rw [List.append_nil] at this
  unfold tall.f
  rw [this, Option.bind_some]
theorem bdy_len {f : D14} (h : Shp f) : 1 ≤ (bdy f).length ∧ (bdy f).length ≤ 3000 := by
  rcases h with ⟨l, k, v, rfl, h1, h2, h3⟩ | ⟨l, k, rfl, h1, h2⟩ | ⟨l, d, a, n, k, rfl, h1, hd, ha, hn, h2⟩ | ⟨c, b, r, s, rfl, hc, hb, hr, hs⟩
  · have q1 := el l h1; have q2 := el k.size (by have := h2.2; omega); have := h2.2
    simp [bdy, bytesOf_length]; omega
  · have q1 := el l h1; have := h2.2
    simp [bdy, bytesOf_length]; omega
  · have q1 := el l h1; have q2 := el a (by omega); have q3 := el n (by omega); have := h2.2
    simp [bdy, bytesOf_length]; omega
  · have q1 := el c (by omega); have q2 := el b (by omega); have q3 := el r (by omega); have q4 := el s (by omega)
    simp [bdy]; omega
theorem bdy_byt {f : D14} (h : Shp f) : Byt (bdy f) := by
  have c1 : ∀ (x : Int) (l : List Int), 0 ≤ x ∧ x < 256 → Byt l → Byt (x :: l) := fun x l hx hl y hy => by
    rcases List.mem_cons.1 hy with rfl | hy
    · exact hx
    · exact hl y hy
  rcases h with ⟨l, k, v, rfl, h1, h2, h3⟩ | ⟨l, k, rfl, h1, h2⟩ | ⟨l, d, a, n, k, rfl, h1, hd, ha, hn, h2⟩ | ⟨c, b, r, s, rfl, hc, hb, hr, hs⟩
  · exact c1 _ _ (by simp only; omega) (Byt.app.2 ⟨enc_byt _, Byt.app.2 ⟨enc_byt _, Byt.app.2 ⟨bytes_byt _, bytes_byt _⟩⟩⟩)
  · exact c1 _ _ (by simp only; omega) (Byt.app.2 ⟨enc_byt _, bytes_byt _⟩)
  · exact c1 _ _ (by simp only; omega) (Byt.app.2 ⟨enc_byt _, c1 _ _ (by simp only; omega) (Byt.app.2 ⟨enc_byt _, Byt.app.2 ⟨enc_byt _, bytes_byt _⟩⟩)⟩)
  · exact c1 _ _ (by simp only; omega) (Byt.app.2 ⟨enc_byt _, Byt.app.2 ⟨enc_byt _, Byt.app.2 ⟨enc_byt _, enc_byt _⟩⟩⟩)
/-- What may be is written as its body. -/
theorem bodyE.val (K : Nat) (hK : 11 ≤ K) {f : D14} (h : Val f) : bodyE K f = some (bdy f, 0) := by
  obtain ⟨hc, h⟩ := h
  unfold bodyE fBody.f
  unfold chk at hc
  rw [hc, Option.bind_some, if_neg (by decide)]
  rcases h with ⟨l, k, v, rfl, h1, h2, h3⟩ | ⟨l, k, rfl, h1, h2⟩ | ⟨l, d, a, n, k, rfl, h1, hd, ha, hn, h2⟩ | ⟨c, b, r, s, rfl, hc', hb, hr, hs⟩
  · have h2' := h2.2
    have q1 := el l h1; have q2 := el k.size (by omega)
    have e4 : (bytesOf (k ++ v)).length = k.size + v.size := by rw [bytes_app, List.length_append, bytesOf_length, bytesOf_length]
    have e5 : (k ++ v).size = k.size + v.size := by rw [← bytesOf_length, e4]
    have e8 : IntKind.wrap .u8 1 = 1 := by decide
    simp only [if_pos]
    rw [wu64 k.size (by omega), enc_two K hK l k.size h1 (by omega), Option.bind_some, gd_pos (by simp; omega), gd_pos (by omega), gd_pos (by rw [e5]; simp; omega), Option.bind_some, e8, bytes_app]
    simp [bdy]
  · have h2' := h2.2
    have q1 := el l h1
    have e8 : IntKind.wrap .u8 2 = 2 := by decide
    simp only
    rw [if_neg (by decide), if_pos (by decide), enc_one K hK l h1, Option.bind_some, gd_pos (by simp; omega), gd_pos (by simp; omega), Option.bind_some, e8]
    simp [bdy]
  · have h2' := h2.2
    have q1 := el l h1; have q2 := el a (by omega); have q3 := el n (by omega)
    have e8 : IntKind.wrap .u8 3 = 3 := by decide
    simp only
    rw [if_neg (by decide), if_neg (by decide), if_pos (by decide), enc_one K hK l h1, Option.bind_some, gd_pos (by simp; omega), gd_pos (by simp; omega), wu64 a (by omega), wu64 n (by omega), enc_two K hK a n (by omega) (by omega), Option.bind_some, gd_pos (by simp; omega), gd_pos (by simp; omega), Option.bind_some, e8, wu8 _ (by omega)]
    simp [bdy]
  · have q1 := el c (by omega); have q2 := el b (by omega); have q3 := el r (by omega); have q4 := el s (by omega)
    have e8 : IntKind.wrap .u8 4 = 4 := by decide
    simp only
    rw [if_neg (by decide), if_neg (by decide), if_neg (by decide), if_pos (by decide), wu64 c (by omega), wu64 b (by omega), wu64 r (by omega), wu64 s (by omega), enc_four K hK c b r s (by omega) (by omega) (by omega) (by omega), Option.bind_some, gd_pos (by simp; omega), Option.bind_some, e8]
    simp [bdy]
abbrev P15 := Int × Int × Int × ByteArray × ByteArray × Int × Int × Int × Int × ByteArray × Int × Int × Int × Int × Bool
def p15 (f : D14) (b : Bool) : P15 := (f.1, f.2.1, f.2.2.1, f.2.2.2.1, f.2.2.2.2.1, f.2.2.2.2.2.1, f.2.2.2.2.2.2.1, f.2.2.2.2.2.2.2.1, f.2.2.2.2.2.2.2.2.1, f.2.2.2.2.2.2.2.2.2.1, f.2.2.2.2.2.2.2.2.2.2.1, f.2.2.2.2.2.2.2.2.2.2.2.1, f.2.2.2.2.2.2.2.2.2.2.2.2.1, f.2.2.2.2.2.2.2.2.2.2.2.2.2, b)
/-- And read again. -/
theorem parse.back (K : Nat) (hK : 11 ≤ K) {f : D14} (h : Val f) : parse.f K (bdy f) = some (p15 f true) := by
  obtain ⟨hc, h⟩ := h
  have hb := bdy_byt h
  have hl := (bdy_len h).2
  have c0 : ∀ (x : Int) (l : List Int), ttext.f (x :: l) false 1 = some (strOfNums [x], l, false) := fun x l => ttext.back [x] l false 1 rfl
  have hF : ¬ (false = true) := by decide
  have h00 : ¬ (0 : Int) < (([] : List Int).length : Int) := by decide
  have hz0 : ∀ x : Int, (0 : Int) ≤ 0 ∧ (0 : Int) < ((strOfNums [x]).size : Int) := fun x => by rw [size_str]; exact ⟨Int.le_refl _, by simp⟩
  unfold parse.f
  unfold chk at hc
  rcases h with ⟨l, k, v, rfl, h1, h2, h3⟩ | ⟨l, k, rfl, h1, h2⟩ | ⟨l, d, a, n, k, rfl, h1, hd, ha, hn, h2⟩ | ⟨c, b, r, s, rfl, hc', hb', hr, hs⟩
  · have h2' := h2.2
    simp only [bdy, if_pos, Int.toNat_natCast] at hl ⊢ hc
    rw [List.length_cons] at hl
    have e8 : IntKind.wrap .i64 (bt (strOfNums [1]) 0) = 1 := by decide
    rw [c0, Option.bind_some, if_neg (by exact hF), gd_pos (by exact hz0 _)]
    simp only [e8, if_pos]
    rw [tnumber.back K hK l _ _ (Byt.app.2 ⟨enc_byt _, Byt.app.2 ⟨bytes_byt _, bytes_byt _⟩⟩) h1 (by omega), Option.bind_some]
    simp only
    rw [tsmall.back K hK k.size _ _ (Byt.app.2 ⟨bytes_byt _, bytes_byt _⟩) (by omega) (by simp only [List.length_append] at hl ⊢; omega), Option.bind_some]
    simp only
    rw [ttext.back (bytesOf k) (bytesOf v) false _ (by rw [bytesOf_length]), Option.bind_some]
    simp only
    rw [tall.back, Option.bind_some]
    simp only [str_bytes]
    rw [Option.bind_some, if_neg (by exact hF), if_neg (by exact h00), hc]
    rfl
  · have h2' := h2.2
    simp only [bdy, if_pos, Int.toNat_natCast] at hl ⊢ hc
    rw [if_neg (by decide)] at hl ⊢
    rw [List.length_cons] at hl
    have e8 : IntKind.wrap .i64 (bt (strOfNums [2]) 0) = 2 := by decide
    rw [c0, Option.bind_some, if_neg (by exact hF), gd_pos (by exact hz0 _)]
    simp only [e8, if_pos]
    rw [if_neg (by decide), tnumber.back K hK l _ _ (bytes_byt _) h1 (by omega), Option.bind_some]
    simp only
    rw [tall.back, Option.bind_some]
    simp only [str_bytes]
    rw [Option.bind_some, if_neg (by exact hF), if_neg (by exact h00), hc]
    rfl
  · have h2' := h2.2
    simp only [bdy, if_pos, Int.toNat_natCast] at hl ⊢ hc
    rw [if_neg (by decide), if_neg (by decide)] at hl ⊢
    rw [List.length_cons] at hl
    have e8 : IntKind.wrap .i64 (bt (strOfNums [3]) 0) = 3 := by decide
    have b1 : Byt (enc1 n ++ bytesOf k) := Byt.app.2 ⟨enc_byt _, bytes_byt _⟩
    have b2 : Byt (enc1 a ++ (enc1 n ++ bytesOf k)) := Byt.app.2 ⟨enc_byt _, b1⟩
    have b3 : Byt ((d : Int) :: (enc1 a ++ (enc1 n ++ bytesOf k))) := fun y hy => by
      rcases List.mem_cons.1 hy with rfl | hy
      · omega
      · exact b2 y hy
    rw [c0, Option.bind_some, if_neg (by exact hF), gd_pos (by exact hz0 _)]
    simp only [e8, if_pos]
    rw [if_neg (by decide), if_neg (by decide), tnumber.back K hK l _ _ b3 h1 (by omega), Option.bind_some]
    simp only
    rw [c0, Option.bind_some]
    have ed : bt (strOfNums [(d : Int)]) 0 = d := bt_str d (by omega)
    have ene : strOfNums [(d : Int)] ≠ (⟨#[]⟩ : ByteArray) := by intro h; have := congrArg ByteArray.size h; rw [size_str] at this; simp [ByteArray.size] at this
    simp only
    rw [if_pos ene, gd_pos (by exact hz0 _), Option.bind_some, ed, w64 (by omega) (by omega), tsmall.back K hK a _ _ b1 (by omega) (by simp only [List.length_append, List.length_cons] at hl ⊢; omega), Option.bind_some]
    simp only
    rw [tsmall.back K hK n _ _ (bytes_byt _) (by omega) (by simp only [List.length_append, List.length_cons] at hl ⊢; omega), Option.bind_some]
    simp only
    rw [tall.back, Option.bind_some]
    simp only [str_bytes]
    rw [Option.bind_some, if_neg (by exact hF), if_neg (by exact h00), hc]
    rfl
  · simp only [bdy, if_pos, Int.toNat_natCast] at hl ⊢ hc
    rw [if_neg (by decide), if_neg (by decide), if_neg (by decide)] at hl ⊢
    rw [List.length_cons] at hl
    have e8 : IntKind.wrap .i64 (bt (strOfNums [4]) 0) = 4 := by decide
    have b0 : Byt (enc1 s) := enc_byt _
    have b1 : Byt (enc1 r ++ enc1 s) := Byt.app.2 ⟨enc_byt _, b0⟩
    have b2 : Byt (enc1 b ++ (enc1 r ++ enc1 s)) := Byt.app.2 ⟨enc_byt _, b1⟩
    have hz := tsmall.back K hK s [] false Byt.nil (by omega) (by simp only [List.length_append, List.length_nil] at hl ⊢; omega)
    rw [List.append_nil] at hz
    rw [c0, Option.bind_some, if_neg (by exact hF), gd_pos (by exact hz0 _)]
    simp only [e8, if_pos]
    rw [if_neg (by decide), if_neg (by decide), if_neg (by decide), tsmall.back K hK c _ _ b2 (by omega) (by omega), Option.bind_some]
    simp only
    rw [tsmall.back K hK b _ _ b1 (by omega) (by simp only [List.length_append] at hl ⊢; omega), Option.bind_some]
    simp only
    rw [tsmall.back K hK r _ _ b0 (by omega) (by simp only [List.length_append] at hl ⊢; omega), Option.bind_some]
    simp only
    rw [hz, Option.bind_some]
    simp only [wu32 s hs]
    rw [Option.bind_some, if_neg (by exact hF), if_neg (by exact h00), hc]
    rfl
end Go.Proofs.Ytakolnamobkkkaa
