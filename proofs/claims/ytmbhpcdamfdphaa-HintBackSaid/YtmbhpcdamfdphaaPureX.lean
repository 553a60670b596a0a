/- Own text. Hint files: what is made of a segment. Conditions: bytes of bounded number. -/
import Derived.Test.YtmbhpcdamfdphaaPureT0
import Derived.Test.YtmbhpcdamfdphaaLiftM
set_option linter.unusedSimpArgs false
set_option linter.unusedVariables false
set_option maxRecDepth 100000
namespace Go.Proofs.Ytmbhpcdamfdphaa
open Go Go.Sx

/-! ### A pointer's frame, an ending's -/
def hp (x : T44_) : D14 := (3, 0, 0, E0, E0, x.1, x.2.1, x.2.2.1, x.2.2.2.1, x.2.2.2.2, 0, 0, 0, 0)
def ft (c b r s : Int) : D14 := (4, 0, 0, E0, E0, 0, 0, 0, 0, E0, c, b, r, s)
def ptr (x : Fr) : T44_ := (x.2.2.2.1, x.2.2.2.2.1, (x.1 : Int), (x.2.1 : Int), x.2.2.2.2.2.1)
def Rec (f : D14) : Prop := f.1 = 1 ∨ f.1 = 2
theorem may.tot (l : Int) (k v : ByteArray) (d : Int) : ∃ m, may.f l k v d = some m := by
  unfold may.f between.f
  split
  · exact ⟨_, rfl⟩
  · split
    · rw [Option.bind_some]
      split
      · split
        · exact ⟨_, rfl⟩
        · split
          · rw [Option.bind_some]; split <;> exact ⟨_, rfl⟩
          · exact ⟨_, rfl⟩
      · exact ⟨_, rfl⟩
    · exact ⟨_, rfl⟩
theorem may.e0 {l : Int} {k v : ByteArray} {d : Int} (h : may.f l k v d = some 0) : may.f l k E0 d = some 0 := by
  unfold may.f between.f at h ⊢
  by_cases c1 : l = 0
  · rw [if_pos c1] at h; cases h
  · rw [if_neg c1] at h ⊢
    by_cases c2 : (1 : Int) ≤ (k.size : Int)
    · rw [if_pos c2, Option.bind_some] at h ⊢
      by_cases c3 : (k.size : Int) ≤ 64
      · rw [if_pos (decide_eq_true c3)] at h ⊢
        have e : (E0.size : Int) = 0 := rfl
        rw [e, if_neg (by decide)]
        by_cases c4 : d = 2
        · rw [if_pos c4, Option.bind_some, if_neg (by simp [E0]; rfl)]
        · rw [if_neg c4, Option.bind_some, if_neg (by decide)]
      · rw [if_neg (by simp [c3])] at h; cases h
    · rw [if_neg c2, Option.bind_some, if_neg (by decide)] at h; cases h
theorem chk.may {f : D14} (h : Val f) (hr : Rec f) : may.f f.2.1 f.2.2.2.1 f.2.2.2.2.1 f.2.2.1 = some 0 ∧ (f.2.2.1 = 1 ∨ f.2.2.1 = 2) := by
  obtain ⟨h1, h2⟩ := h
  rcases h2 with ⟨l, k, v, rfl, _⟩ | ⟨l, k, rfl, _⟩ | ⟨l, d, a, n, k, rfl, _⟩ | ⟨c, b, r, s, rfl, _⟩
  · obtain ⟨m, hm⟩ := may.tot (l : Int) k v 1
    refine ⟨?_, .inl rfl⟩
    show may.f (l : Int) k v 1 = some 0
    rw [hm]
    by_cases c : m = 0
    · rw [c]
    · simp [chk, check.f, hm, c] at h1
  · obtain ⟨m, hm⟩ := may.tot (l : Int) k E0 2
    refine ⟨?_, .inr rfl⟩
    show may.f (l : Int) k E0 2 = some 0
    rw [hm]
    by_cases c : m = 0
    · rw [c]
    · simp [chk, check.f, hm, c] at h1
  · rcases hr with h | h <;> cases h
  · rcases hr with h | h <;> cases h
theorem val_hp {x : T44_} (h : may.f x.1 x.2.2.2.2 E0 x.2.1 = some 0) (hd : x.2.1 = 1 ∨ x.2.1 = 2) (h0 : 0 ≤ x.1 ∧ x.1 < 18446744073709551616) (ha : 0 ≤ x.2.2.1 ∧ x.2.2.1 ≤ 4194304) (hn : 1 ≤ x.2.2.2.1 ∧ x.2.2.2.1 ≤ 4194304) : Val (hp x) := by
  refine Val.of ?_ ⟨⟨Int.le_refl 0, by show (0 : Int) < 18446744073709551616; decide⟩, h0, ⟨Int.le_refl 0, by show (0 : Int) < 4294967296; decide⟩⟩
  obtain ⟨l, d, a, n, k⟩ := x
  simp only at h hd h0 ha hn
  have e : (⟨#[]⟩ : ByteArray) = E0 := rfl
  have hi : isRecord.f d = some true := by unfold isRecord.f; rcases hd with rfl | rfl <;> rfl
  simp [chk, hp, check.f, hi, e, h, between.f, ha.1, ha.2, hn.1, hn.2]
theorem val_hint {f : D14} (h : Val f) (hr : Rec f) (p n : Nat) (h1 : p ≤ 4194304) (h2 : 1 ≤ n) (h3 : n ≤ 4194304) : Val (hp (ptr (p, n, f))) := by
  obtain ⟨g1, g2⟩ := chk.may h hr
  refine val_hp (x := ptr (p, n, f)) (may.e0 g1) g2 ?_ ⟨by show (0 : Int) ≤ (p : Int); omega, by show (p : Int) ≤ 4194304; omega⟩ ⟨by show (1 : Int) ≤ (n : Int); omega, by show (n : Int) ≤ 4194304; omega⟩
  rcases h.2 with ⟨l, k, v, rfl, h, _⟩ | ⟨l, k, rfl, h, _⟩ | ⟨l, d, a, n, k, rfl, _⟩ | ⟨c, b, r, s, rfl, _⟩
  · exact ⟨by show (0 : Int) ≤ (l : Int); omega, by show (l : Int) < _; omega⟩
  · exact ⟨by show (0 : Int) ≤ (l : Int); omega, by show (l : Int) < _; omega⟩
  · rcases hr with h | h <;> cases h
  · rcases hr with h | h <;> cases h
theorem val_ft {c b r s : Int} (h1 : 0 ≤ c ∧ c ≤ 4194304) (h2 : 0 ≤ b ∧ b ≤ 4194304) (h3 : 0 ≤ r ∧ r ≤ 4194304) (h4 : 0 ≤ s ∧ s < 4294967296) : Val (ft c b r s) := by
  refine Val.of ?_ ⟨⟨Int.le_refl 0, by show (0 : Int) < 18446744073709551616; decide⟩, ⟨Int.le_refl 0, by show (0 : Int) < 18446744073709551616; decide⟩, h4⟩
  simp [chk, ft, check.f, between.f, h1.1, h1.2, h2.1, h2.2, h3.1, h3.2]
theorem val_rec {f : D14} (h : Val f) : Rec f ∨ (f = hp (f.2.2.2.2.2.1, f.2.2.2.2.2.2.1, f.2.2.2.2.2.2.2.1, f.2.2.2.2.2.2.2.2.1, f.2.2.2.2.2.2.2.2.2.1)) ∨ (f = ft f.2.2.2.2.2.2.2.2.2.2.1 f.2.2.2.2.2.2.2.2.2.2.2.1 f.2.2.2.2.2.2.2.2.2.2.2.2.1 f.2.2.2.2.2.2.2.2.2.2.2.2.2) := by
  rcases h.2 with ⟨l, k, v, rfl, _⟩ | ⟨l, k, rfl, _⟩ | ⟨l, d, a, n, k, rfl, _⟩ | ⟨c, b, r, s, rfl, _⟩
  · exact .inl (.inl rfl)
  · exact .inl (.inr rfl)
  · exact .inr (.inl rfl)
  · exact .inr (.inr rfl)

/-! ### The frames that bytes are from end to end -/
def Tl (b : List Int) : Nat → List Fr → Prop
  | a, [] => a = b.length
  | a, x :: l => x.1 = a ∧ FrAt b a x.2.1 x.2.2 ∧ Rec x.2.2 ∧ Tl b (a + x.2.1) l
def hs (ps : List T44_) : List Int := ps.flatMap fun x => frm (hp x)
theorem hs_cons (x : T44_) (ps : List T44_) : hs (x :: ps) = frm (hp x) ++ hs ps := rfl
theorem Tl.len {b : List Int} : ∀ (l : List Fr) (a : Nat), Tl b a l → a + 10 * l.length ≤ b.length
  | [], a, h => by have : a = b.length := h; simp; omega
  | x :: l, a, h => by
    have h1 := h.2.1.le
    have h2 := Tl.len l _ h.2.2.2
    rw [List.length_cons]; omega
theorem d16_e (f : D14) (n e : Int) : (d16 f n e).2.2.2.2.2.2.2.2.2.2.2.2.2.2.2 = e := rfl
theorem isRecordH.eq (k : Int) : isRecordH.f k = some (decide (k = 1 ∨ k = 2)) := by
  unfold isRecordH.f
  split
  · next h => simp [h]
  · next h => simp [h]
theorem hEach.ok (K : Nat) (hK : 2097200 < K) {f : D14} (hv : Val f) (hr : Rec f) (p n : Nat) (h1 : p ≤ 4194304) (h2 : 1 ≤ n) (h3 : n ≤ 4194304) (c : Nat) (hc : c ≤ 4194304) (out : List Int) (ho : out.length ≤ 100000000000000) :
    hEach.f K (p : Int) (n : Int) f.1 f.2.1 f.2.2.1 f.2.2.2.1 f.2.2.2.2.1 f.2.2.2.2.2.1 f.2.2.2.2.2.2.1 f.2.2.2.2.2.2.2.1 f.2.2.2.2.2.2.2.2.1 f.2.2.2.2.2.2.2.2.2.1 f.2.2.2.2.2.2.2.2.2.2.1 f.2.2.2.2.2.2.2.2.2.2.2.1 f.2.2.2.2.2.2.2.2.2.2.2.2.1 f.2.2.2.2.2.2.2.2.2.2.2.2.2 (c : Int) out = some (true, ((c + 1 : Nat) : Int), out ++ frm (hp (ptr (p, n, f)))) := by
  have hh := val_hint hv hr p n h1 h2 h3
  have hle := frm_le hh
  have w : Wf (hp (ptr (p, n, f))) := by
    rcases hv.2 with ⟨l, k, v, rfl, h, _⟩ | ⟨l, k, rfl, h, _⟩ | ⟨l, d, a, n, k, rfl, _⟩ | ⟨c, b, r, s, rfl, _⟩
    · exact ⟨⟨Int.le_refl 0, by show (0 : Int) < 18446744073709551616; decide⟩, ⟨by show (0 : Int) ≤ (l : Int); omega, by show (l : Int) < _; omega⟩, ⟨Int.le_refl 0, by show (0 : Int) < 4294967296; decide⟩⟩
    · exact ⟨⟨Int.le_refl 0, by show (0 : Int) < 18446744073709551616; decide⟩, ⟨by show (0 : Int) ≤ (l : Int); omega, by show (l : Int) < _; omega⟩, ⟨Int.le_refl 0, by show (0 : Int) < 4294967296; decide⟩⟩
    · rcases hr with h | h <;> cases h
    · rcases hr with h | h <;> cases h
  have he : encE K (hp (ptr (p, n, f))) = some (frm (hp (ptr (p, n, f))), 0) := by
    rcases encE.spec K hK _ w with ⟨_, h⟩ | ⟨h, _⟩
    · exact h
    · exact absurd hh h
  have he : fEncode.f K 3 0 0 ByteArray.empty ByteArray.empty f.2.1 f.2.2.1 (p : Int) (n : Int) f.2.2.2.1 0 0 0 0 = _ := he
  unfold hEach.f hPut.f
  rw [isRecordH.eq, Option.bind_some, if_pos (decide_eq_true (show f.1 = 1 ∨ f.1 = 2 from hr)), he, Option.bind_some, gd_pos (by simp only; omega), Option.bind_some, w64 (by omega) (by omega)]
  simp
theorem wholeO.l1_ok {b : List Int} (hb : Byt b) (hl : b.length ≤ 4194304) (K : Nat) (hK : b.length + 2097300 < K) : ∀ (l : List Fr) (a c : Nat) (out : List Int), Tl b a l → c + l.length ≤ 4194304 → out.length + 6009 * l.length ≤ 100000000000000 → ∀ k, l.length < k →
    wholeO.l1 K b k ((a : Int), (c : Int), out) = some (.inr (((c + l.length : Nat) : Int), out ++ hs (l.map ptr))) := by
  intro l
  induction l with
  | nil =>
    intro a c out h h1 h2 k hk
    obtain ⟨k, rfl⟩ : ∃ m, k = m + 1 := ⟨k - 1, by omega⟩
    have h : a = b.length := h
    rw [wholeO.l1]; simp only
    rw [if_neg (by omega)]
    simp [hs]
  | cons x l ih =>
    intro a c out h h1 h2 k hk
    obtain ⟨k, rfl⟩ : ∃ m, k = m + 1 := ⟨k - 1, by omega⟩
    obtain ⟨p, n, f⟩ := x
    obtain ⟨rfl, hF, hr, ht⟩ := h
    simp only at hF hr ht
    have hle := hF.le
    rw [List.length_cons] at h1 h2 hk
    have hh := frm_le (val_hint hF.1 hr p n (by omega) (by omega) (by omega))
    rw [wholeO.l1]; simp only
    rw [if_pos (by omega), fDecode.at K b hb (by omega) hK hF, Option.bind_some, if_neg (by rw [d16_e]; simp)]
    simp only [d16]
    rw [hEach.ok K (by omega) hF.1 hr p n (by omega) (by omega) (by omega) c (by omega) out (by omega), Option.bind_some, Option.bind_some]
    simp only
    rw [if_neg (by simp), show max (n : Int) 1 = (n : Int) by omega, w64 (by omega) (by omega), show (p : Int) + (n : Int) = ((p + n : Nat) : Int) by omega, ih (p + n) (c + 1) _ ht (by omega) (by rw [List.length_append]; omega) k (by omega), List.map_cons, hs_cons, List.append_assoc, List.length_cons, show c + 1 + l.length = c + (l.length + 1) by omega]
theorem wholeO.l1_rel {b : List Int} (hb : Byt b) (hl : b.length ≤ 4194304) (K : Nat) (hK : b.length + 2097300 < K) {a : Nat} {l : List Fr} (h : Frs b a l) : a ≤ b.length → ∀ (c : Nat) (out : List Int), c + l.length ≤ 4194304 → out.length + 6009 * l.length ≤ 100000000000000 → ∀ k, l.length < k →
    Ans (wholeO.l1 K b k ((a : Int), (c : Int), out)) (fun r => (Tl b a l ∧ r = .inr (((c + l.length : Nat) : Int), out ++ hs (l.map ptr))) ∨ (¬ Tl b a l ∧ ∃ q, r = .inl (false, q))) := by
  have none_ : ∀ (a : Nat) (c : Nat) (out : List Int) (k : Nat), a < b.length → (∀ n f, ¬ FrAt b a n f) → Ans (wholeO.l1 K b (k + 1) ((a : Int), (c : Int), out)) (fun r => ∃ q, r = .inl (false, q)) := by
    intro a c out k ha hn
    obtain ⟨e, he, h⟩ := fDecode.no K b hb (by omega) hK (a : Int) (fun p n f hq => (show a = p by omega) ▸ hn n f)
    rw [wholeO.l1]; simp only
    rw [if_pos (by omega), h, Option.bind_some, if_pos (by rw [d16_e]; exact he), Option.bind_some]
    simp only
    rw [if_pos (by trivial)]
    exact Ans.some ⟨_, rfl⟩
  induction h with
  | @nil a h1 =>
    intro ha c out h2 h3 k hk
    obtain ⟨k, rfl⟩ : ∃ m, k = m + 1 := ⟨k - 1, by omega⟩
    by_cases hlt : a < b.length
    · exact (none_ a c out k hlt (fun n f => h1 a n f (Nat.le_refl _))).mono fun r hr => .inr ⟨fun h => by have : a = b.length := h; omega, hr⟩
    · have e : a = b.length := by omega
      exact ⟨_, wholeO.l1_ok hb hl K hK [] a c out e h2 h3 (k + 1) (by simp), .inl ⟨e, rfl⟩⟩
  | @cons a p n f l h1 h2 h3 h4 ih =>
    intro ha c out h5 h6 k hk
    obtain ⟨k, rfl⟩ : ∃ m, k = m + 1 := ⟨k - 1, by omega⟩
    have hle := h2.le
    rw [List.length_cons] at h5 h6 hk
    by_cases e : a = p
    · subst e
      by_cases hr : Rec f
      · have hh := frm_le (val_hint h2.1 hr a n (by omega) (by omega) (by omega))
        rw [wholeO.l1]; simp only
        rw [if_pos (by omega), fDecode.at K b hb (by omega) hK h2, Option.bind_some, if_neg (by rw [d16_e]; simp)]
        simp only [d16]
        rw [hEach.ok K (by omega) h2.1 hr a n (by omega) (by omega) (by omega) c (by omega) out (by omega), Option.bind_some, Option.bind_some]
        simp only
        rw [if_neg (by simp), show max (n : Int) 1 = (n : Int) by omega, w64 (by omega) (by omega), show (a : Int) + (n : Int) = ((a + n : Nat) : Int) by omega]
        refine (ih (by omega) (c + 1) _ (by omega) (by rw [List.length_append]; omega) k (by omega)).mono fun r hr2 => ?_
        rcases hr2 with ⟨g1, rfl⟩ | ⟨g1, g2⟩
        · exact .inl ⟨⟨rfl, h2, hr, g1⟩, by rw [List.map_cons, hs_cons, List.append_assoc, List.length_cons, show c + 1 + l.length = c + (l.length + 1) by omega]⟩
        · exact .inr ⟨fun h => g1 h.2.2.2, g2⟩
      · rw [wholeO.l1]; simp only
        rw [if_pos (by omega), fDecode.at K b hb (by omega) hK h2, Option.bind_some, if_neg (by rw [d16_e]; simp)]
        simp only [d16]
        unfold hEach.f
        rw [isRecordH.eq, Option.bind_some, if_neg (by simpa [Rec] using hr), Option.bind_some, Option.bind_some]
        simp only
        rw [if_pos (by simp)]
        exact Ans.some (.inr ⟨fun h => hr h.2.2.1, _, rfl⟩)
    · exact (none_ a c out k (by omega) (fun m g => h3 a m g (Nat.le_refl _) (by omega))).mono fun r hr => .inr ⟨fun h => e h.1.symm, hr⟩
/-- What a segment's fingerprint sums. -/
def crcV (b : List Int) : Int := iv (goOn 0#32 b)
theorem Sum.one {b : List Int} (hb : Byt b) (hl : b.length ≤ 140737488355328) (K : Nat) (hK : b.length + 20 < K) : Sum.f K [b] = some (crcV b) := by
  have := Sum.eq [b] K (by omega) (fun p hp => by rw [List.mem_singleton] at hp; subst hp; exact ⟨hb, hl, by omega⟩) (by simp) (by simp; omega)
  rw [this]; simp [crcV]
theorem crcV_lt (b : List Int) : 0 ≤ crcV b ∧ crcV b < 4294967296 := by
  unfold crcV iv
  have := (goOn 0#32 b).isLt
  simp; omega
theorem hPut_ft (K : Nat) (hK : 2097200 < K) {c b r s : Int} (hv : Val (ft c b r s)) (hw : Wf (ft c b r s)) (out : List Int) (ho : out.length ≤ 100000000000000) : hPut.f K 4 0 0 ByteArray.empty ByteArray.empty 0 0 0 0 ByteArray.empty c b r s out = some (true, out ++ frm (ft c b r s)) := by
  have hle := frm_le hv
  have he : encE K (ft c b r s) = some (frm (ft c b r s), 0) := by
    rcases encE.spec K hK _ hw with ⟨_, h⟩ | ⟨h, _⟩
    · exact h
    · exact absurd hv h
  have he : fEncode.f K 4 0 0 ByteArray.empty ByteArray.empty 0 0 0 0 ByteArray.empty c b r s = _ := he
  unfold hPut.f
  rw [he, Option.bind_some, gd_pos (by simp only; omega)]
  simp
theorem hOf.ok {b : List Int} (hb : Byt b) (hl : b.length ≤ 4194304) (K : Nat) (hK : b.length + 2097300 < K) {l : List Fr} (h : Tl b 0 l) : hOf.f K b = some (hs (l.map ptr) ++ frm (ft (l.length : Int) (b.length : Int) (l.length : Int) (crcV b)), 0) := by
  have hlen := Tl.len l 0 h
  have hc := crcV_lt b
  have hlo : (hs (l.map ptr)).length ≤ 6009 * l.length := by
    have : ∀ (l : List Fr) (a : Nat), Tl b a l → (hs (l.map ptr)).length ≤ 6009 * l.length := by
      intro l
      induction l with
      | nil => intro a _; simp [hs]
      | cons x l ih =>
        intro a h
        have h1 := h.2.1.le
        have h2 := frm_le (val_hint h.2.1.1 h.2.2.1 x.1 x.2.1 (by have := h.1; omega) (by omega) (by omega))
        have h3 := ih _ h.2.2.2
        have e : ptr x = ptr (x.1, x.2.1, x.2.2) := rfl
        rw [List.map_cons, hs_cons, List.length_append, List.length_cons, e]; omega
    exact this l 0 h
  have h1 := wholeO.l1_ok hb hl K hK l 0 0 [] h (by omega) (by simp; omega) K (by omega)
  have h1 : wholeO.l1 K b K (0, 0, []) = _ := h1
  have hV : Val (ft (l.length : Int) (b.length : Int) (l.length : Int) (crcV b)) := val_ft (by omega) (by omega) (by omega) hc
  unfold hOf.f wholeO.f
  rw [if_neg (by omega), h1, thn_inr, Option.bind_some, Sum.one hb (by omega) K (by omega), Option.bind_some]
  simp only [Nat.zero_add, List.nil_append]
  rw [if_pos (by trivial), hPut_ft K (by omega) hV ⟨⟨Int.le_refl 0, by show (0 : Int) < 18446744073709551616; decide⟩, ⟨Int.le_refl 0, by show (0 : Int) < 18446744073709551616; decide⟩, hc⟩ _ (by omega), Option.bind_some, Option.bind_some]
  simp
theorem hOf.no {b : List Int} (hb : Byt b) (hl : b.length ≤ 4194304) (K : Nat) (hK : b.length + 2097300 < K) {l : List Fr} (h : Frs b 0 l) (hn : ¬ Tl b 0 l) : hOf.f K b = some ([], 100) := by
  have hlen := h.len (Nat.zero_le _)
  obtain ⟨r, h1, h2⟩ := wholeO.l1_rel hb hl K hK h (Nat.zero_le _) 0 [] (by omega) (by simp; omega) K (by omega)
  have h1 : wholeO.l1 K b K (0, 0, []) = _ := h1
  rcases h2 with ⟨h2, _⟩ | ⟨_, q, rfl⟩
  · exact absurd h2 hn
  · unfold hOf.f wholeO.f
    rw [if_neg (by omega), thn_ofL h1, Option.bind_some, Sum.one hb (by omega) K (by omega), Option.bind_some]
    simp
end Go.Proofs.Ytmbhpcdamfdphaa
