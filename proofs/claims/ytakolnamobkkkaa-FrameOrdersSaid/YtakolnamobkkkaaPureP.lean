/- Own text. The document's order of records is the program's; the plain part of the law FrameOrders. Conditions: whole numbers in their types' bounds. -/
import Derived.Test.YtakolnamobkkkaaPureO
import Derived.Test.YtakolnamobkkkaaLift11
set_option linter.unusedSimpArgs false
set_option linter.unusedVariables false
set_option maxRecDepth 100000
namespace Go.Proofs.Ytakolnamobkkkaa
open Go Go.Sx

theorem put_val (l : Nat) (k v : ByteArray) (h0 : l ≠ 0) (hl : l < 18446744073709551616) (hk : ks k) (hv : v.size ≤ 2048) : Val (1, (l : Int), 1, k, v, 0, 0, 0, 0, E0, 0, 0, 0, 0) := by
  refine ⟨?_, .inl ⟨l, k, v, rfl, hl, hk, hv⟩⟩
  unfold chk check.f may.f between.f
  have := hk.1; have := hk.2
  have e1 : ¬ ((l : Int) = 0) := by omega
  have e2 : (1 : Int) ≤ (k.size : Int) := by omega
  have e3 : (k.size : Int) ≤ 64 := by omega
  have e4 : ¬ ((2048 : Int) < (v.size : Int)) := by omega
  simp [h0, e1, e2, e3, e4, E0]
theorem del_val (l : Nat) (k : ByteArray) (h0 : l ≠ 0) (hl : l < 18446744073709551616) (hk : ks k) : Val (2, (l : Int), 2, k, E0, 0, 0, 0, 0, E0, 0, 0, 0, 0) := by
  refine ⟨?_, .inr (.inl ⟨l, k, rfl, hl, hk⟩)⟩
  unfold chk check.f may.f between.f
  have := hk.1; have := hk.2
  have e1 : ¬ ((l : Int) = 0) := by omega
  have e2 : (1 : Int) ≤ (k.size : Int) := by omega
  have e3 : (k.size : Int) ≤ 64 := by omega
  have e5 : (E0 : ByteArray) = (⟨#[]⟩ : ByteArray) := rfl
  have e4 : ¬ ((2048 : Int) < ((⟨#[]⟩ : ByteArray).size : Int)) := by decide
  simp [h0, e1, e2, e3, e4, e5]
/-- When a record may be. -/
def Ok (a b : Int) (c d : ByteArray) : Prop := (b = 1 ∨ b = 2) ∧ a ≠ 0 ∧ ks c ∧ d.size ≤ 2048 ∧ (b = 2 → d = E0)
theorem may.tot (l : Int) (k v : ByteArray) (d : Int) : ∃ m, may.f l k v d = some m ∧ (l = 0 → m ≠ 0) := by
  unfold may.f between.f
  split
  · exact ⟨_, rfl, fun _ => by decide⟩
  · next h0 =>
    split
    · rw [Option.bind_some]
      split
      · split
        · exact ⟨_, rfl, fun h => absurd h h0⟩
        · split
          · rw [Option.bind_some]; split <;> exact ⟨_, rfl, fun h => absurd h h0⟩
          · exact ⟨_, rfl, fun h => absurd h h0⟩
      · exact ⟨_, rfl, fun h => absurd h h0⟩
    · exact ⟨_, rfl, fun h => absurd h h0⟩
theorem vq_rQ {a b : Int} {c d : ByteArray} (ha : 0 ≤ a ∧ a < 18446744073709551616) : vq (rQ a b c d) = true ↔ Ok a b c d := by
  unfold vq
  rw [decide_eq_true_iff]
  constructor
  · intro h
    have h2 : (b = 1 ∨ b = 2) ∧ ks c ∧ d.size ≤ 2048 ∧ (b = 2 → d = E0) := by
      rcases chk.cse h with ⟨h1, _, h3, h4, h5, _⟩ | ⟨h1, _, h2, _⟩ | ⟨h1, _, h2, _⟩
      · exact ⟨h1, h3, h4, h5⟩
      · have h1 : b = 3 := h1
        have h2 : b = 0 := h2
        omega
      · have h1 : b = 4 := h1
        have h2 : b = 0 := h2
        omega
    refine ⟨h2.1, fun h0 => ?_, h2.2⟩
    obtain ⟨m, hm, hm0⟩ := may.tot a c d b
    have hm0 := hm0 h0
    rcases h2.1 with rfl | rfl <;> simp [chk, rQ, check.f, hm, hm0] at h
  · rintro ⟨hb, h0, hk, hd, he⟩
    obtain ⟨l, rfl⟩ : ∃ l : Nat, a = (l : Int) := ⟨a.toNat, by omega⟩
    rcases hb with rfl | rfl
    · exact (put_val l c d (by omega) (by omega) hk hd).1
    · rw [he rfl]
      exact (del_val l c (by omega) (by omega) hk).1
theorem May.put (a : Int) (c d : ByteArray) : May.f 1 a 1 c d 0 0 0 0 E0 0 0 0 0 = (if a = 0 then (some 47) else ((if (c.size : Int) = 0 then (some true) else (some (decide (64 < (c.size : Int))))).bind fun o98 => if o98 = true then (some 48) else (if 2048 < (d.size : Int) then (some 49) else (some 0)))) := by kernel_rfl
theorem May.del (a : Int) (c d : ByteArray) : May.f 2 a 2 c d 0 0 0 0 E0 0 0 0 0 = ((if decide (0 < (d.size : Int)) = true then (some 2049) else (some (d.size : Int))).bind fun o64 => (if a = 0 then (some 47) else ((if (c.size : Int) = 0 then (some true) else (some (decide (64 < (c.size : Int))))).bind fun o98 => if o98 = true then (some 48) else (if 2048 < o64 then (some 49) else (some 0))))) := by
  unfold May.f
  generalize decide (0 < (d.size : Int)) = q
  cases q <;> kernel_rfl
theorem size_zero {d : ByteArray} (h : d.size = 0) : d = E0 := by
  apply ByteArray.ext
  apply Array.ext'
  have h : d.data.size = 0 := h
  have : d.data = #[] := Array.eq_empty_of_size_eq_zero h
  rw [this]; rfl
theorem May.tail (a : Int) (c : ByteArray) (n : Int) : Ans (if a = 0 then (some 47) else ((if (c.size : Int) = 0 then (some true) else (some (decide (64 < (c.size : Int))))).bind fun o98 => if o98 = true then (some 48) else (if 2048 < n then (some 49) else (some 0)))) (fun m => m = (0 : Int) ↔ (a ≠ 0 ∧ ks c ∧ n ≤ 2048)) := by
  refine Ans.ite (fun h => Ans.some ⟨fun g => absurd g (by decide), fun g => absurd h g.1⟩) (fun h => Ans.bind (Q := fun o => o = true ↔ ¬ ks c) (Ans.ite (fun h1 => Ans.some ⟨fun _ g => by have := g.1; omega, fun _ => rfl⟩) (fun h1 => Ans.some ?_)) (fun o ho => Ans.ite (fun g => Ans.some ⟨fun e => absurd e (by decide), fun e => absurd e.2.1 (ho.1 g)⟩) (fun g => Ans.ite (fun g2 => Ans.some ⟨fun e => absurd e (by decide), fun e => by have := e.2.2; omega⟩) (fun g2 => Ans.some ⟨fun _ => ⟨h, Classical.byContradiction fun k => g (ho.2 k), by omega⟩, fun _ => rfl⟩))))
  rw [decide_eq_true_iff]
  unfold ks
  omega
theorem May.rel {a b : Int} {c d : ByteArray} : Ans (May.f b a b c d 0 0 0 0 E0 0 0 0 0) (fun m => m = 0 ↔ Ok a b c d) := by
  by_cases h1 : b = 1
  · subst h1
    rw [May.put]
    exact (May.tail a c _).mono fun m hm => hm.trans ⟨fun g => ⟨.inl rfl, g.1, g.2.1, by omega, fun e => by omega⟩, fun g => ⟨g.2.1, g.2.2.1, by have := g.2.2.2.1; omega⟩⟩
  · by_cases h2 : b = 2
    · subst h2
      rw [May.del]
      refine Ans.bind (Q := fun n => n ≤ 2048 ↔ d = E0) (Ans.ite (fun g => Ans.some ?_) (fun g => Ans.some ?_)) (fun n hn => (May.tail a c n).mono fun m hm => hm.trans ⟨fun g => ⟨.inr rfl, g.1, g.2.1, by rw [hn.1 g.2.2]; decide, fun _ => hn.1 g.2.2⟩, fun g => ⟨g.2.1, g.2.2.1, hn.2 (g.2.2.2.2 rfl)⟩⟩)
      · have g := of_decide_eq_true g
        exact ⟨fun e => by omega, fun e => by rw [e] at g; revert g; decide⟩
      · have g' : ¬ 0 < (d.size : Int) := fun e => g (decide_eq_true e)
        exact ⟨fun _ => size_zero (by omega), fun _ => by omega⟩
    · have hno : ¬ Ok a b c d := fun g => by rcases g.1 with g | g <;> omega
      have done : ∀ m : Int, m ≠ 0 → (m = 0 ↔ Ok a b c d) := fun m hm => ⟨fun e => absurd e hm, fun e => absurd e hno⟩
      by_cases h3 : b = 3
      · subst h3
        exact ⟨46, by kernel_rfl, done _ (by decide)⟩
      · by_cases h4 : b = 4
        · subst h4
          refine ⟨40, ?_, done _ (by decide)⟩
          by_cases ha : a = 0
          · subst ha; rfl
          · unfold May.f in_.f
            simp [thn, ha]
            try rfl
        · refine ⟨46, ?_, done _ (by decide)⟩
          unfold May.f
          simp [thn, h1, h2, h3, h4]
theorem rNumber.l1_eq : ∀ (m k n : Nat) (out : List Int), n < 128 ^ m → m < k → n < 18446744073709551616 → out.length + m ≤ 1000 → rNumber.l1 k ((n : Int), out) = some ((encL n : Int), out ++ encH n) := by
  intro m
  induction m with
  | zero =>
    intro k n out h hk hn ho
    obtain ⟨k, rfl⟩ : ∃ q, k = q + 1 := ⟨k - 1, by omega⟩
    obtain rfl : n = 0 := by simpa using h
    rw [rNumber.l1, encL, encH]; simp
  | succ m ih =>
    intro k n out h hk hn ho
    obtain ⟨k, rfl⟩ : ∃ q, k = q + 1 := ⟨k - 1, by omega⟩
    rw [rNumber.l1]; simp only
    rw [encL, encH]
    by_cases c : n < 128
    · rw [if_neg (by omega), if_pos c, if_pos c, List.append_nil]
    · have hd : n / 128 < 128 ^ m := by
        rw [Nat.pow_succ] at h
        exact Nat.div_lt_of_lt_mul (by rw [Nat.mul_comm]; exact h)
      have e1 : Int.tmod (n : Int) 128 = ((n % 128 : Nat) : Int) := by rw [Int.tmod_eq_emod_of_nonneg (by omega)]; omega
      have e2 : Int.tdiv (n : Int) 128 = ((n / 128 : Nat) : Int) := by rw [Int.tdiv_eq_ediv_of_nonneg (by omega)]; omega
      rw [if_pos (by omega), gd_pos (by simp; omega), if_neg c, if_neg c, e1, e2, wu64 _ (by omega), show ((n % 128 : Nat) : Int) + 128 = ((n % 128 + 128 : Nat) : Int) by omega, wu64 _ (by omega), w8 (by omega) (by omega), ih k (n / 128) _ hd (by omega) (by omega) (by simp; omega), List.append_assoc]
      rfl
theorem rNumber.eq (K : Nat) (hK : 20 ≤ K) (n : Nat) (hn : n < 18446744073709551616) : rNumber.f K (n : Int) = some (enc1 n) := by
  have hp : n < 128 ^ 10 := by have : (128 : Nat) ^ 10 = 1180591620717411303424 := by decide
                               omega
  have hl := encL_lt n
  have he := enc1_len hn
  unfold enc1 at he
  rw [List.length_append] at he
  unfold rNumber.f
  rw [rNumber.l1_eq 10 K n [] hp (by omega) hn (by simp), Option.bind_some]
  simp only [List.nil_append]
  rw [gd_pos (by simp at he ⊢; omega), w8 (by omega) (by omega)]
  rfl
theorem rBody_rQ (K : Nat) (hK : 20 ≤ K) {a b : Int} {c d : ByteArray} (ha : 0 ≤ a ∧ a < 18446744073709551616) : (vq (rQ a b c d) = true ∧ rBody.f K b a b c d 0 0 0 0 E0 0 0 0 0 = some (bdy (rQ a b c d), 0)) ∨ (vq (rQ a b c d) = false ∧ ∃ e : Int, e ≠ 0 ∧ rBody.f K b a b c d 0 0 0 0 E0 0 0 0 0 = some ([], e)) := by
  obtain ⟨m, hm, hq⟩ := May.rel (a := a) (b := b) (c := c) (d := d)
  have hv := vq_rQ (b := b) (c := c) (d := d) ha
  unfold rBody.f
  rw [hm, Option.bind_some]
  by_cases h : m = 0
  · have hok := hq.1 h
    refine .inl ⟨hv.2 hok, ?_⟩
    obtain ⟨hb, h0, hk, hd, he⟩ := hok
    obtain ⟨l, rfl⟩ : ∃ l : Nat, a = (l : Int) := ⟨a.toNat, by omega⟩
    have hks := hk.2
    rw [if_neg (by simp [h])]
    have q1 := enc1_len (n := l) (by omega)
    have q2 := enc1_len (n := c.size) (by omega)
    have b1 := bytesOf_length c
    have b2 := bytesOf_length d
    rcases hb with rfl | rfl
    · rw [if_pos rfl, rNumber.eq K hK l (by omega), Option.bind_some, gd_pos (by simp; omega), wu64 _ (by omega), rNumber.eq K hK c.size (by omega), Option.bind_some, gd_pos (by simp; omega), gd_pos (by simp [b1]; omega), gd_pos (by simp [b1]; omega), Option.bind_some, w8 (by decide) (by decide)]
      simp [bdy, rQ]
    · rw [if_neg (by decide), if_pos rfl, rNumber.eq K hK l (by omega), Option.bind_some, gd_pos (by simp; omega), gd_pos (by simp; omega), Option.bind_some, w8 (by decide) (by decide)]
      simp [bdy, rQ]
  · refine .inr ⟨?_, m, h, by rw [if_pos h]⟩
    cases c' : vq (rQ a b c d) with
    | true => exact absurd (hq.2 (hv.1 c')) h
    | false => rfl
theorem u8lt {a b : Int} (ha : 0 ≤ a ∧ a < 256) (hb : 0 ≤ b ∧ b < 256) : (UInt8.ofNat a.toNat = UInt8.ofNat b.toNat ↔ a = b) ∧ (UInt8.ofNat a.toNat < UInt8.ofNat b.toNat ↔ a < b) := by
  rw [← UInt8.toNat_inj, UInt8.lt_iff_toNat_lt, UInt8.toNat_ofNat', UInt8.toNat_ofNat']
  omega
theorem rCompare.l1_eq (t t' : List Int × Int) (hx : Byt t.1) (hy : Byt t'.1) (hl : t.1.length ≤ 100000) : ∀ (m i : Nat), i + m = t.1.length → i ≤ t'.1.length → ∀ k, m < k → thn (rCompare.l1 t t' k (i : Int)) (fun o80 => if (t.1.length : Int) < (t'.1.length : Int) then (some (-1)) else (if (t'.1.length : Int) < (t.1.length : Int) then (some 1) else (some 0))) = some (lx (t.1.drop i) (t'.1.drop i)) := by
  intro m
  have stop : ∀ (i : Nat) (k : Nat), i ≤ t.1.length → i ≤ t'.1.length → (i = t.1.length ∨ i = t'.1.length) → thn (rCompare.l1 t t' (k + 1) (i : Int)) (fun o80 => if (t.1.length : Int) < (t'.1.length : Int) then (some (-1)) else (if (t'.1.length : Int) < (t.1.length : Int) then (some 1) else (some 0))) = some (lx (t.1.drop i) (t'.1.drop i)) := by
    intro i k h1 h2 h3
    rw [rCompare.l1]
    have e : (if (i : Int) < (t.1.length : Int) then (some (decide ((i : Int) < (t'.1.length : Int)))) else (some false)) = some false := by
      by_cases c : (i : Int) < (t.1.length : Int)
      · rw [if_pos c, decide_eq_false (by omega)]
      · rw [if_neg c]
    rw [e, Option.bind_some, if_neg (by simp), thn_inr]
    rcases Nat.lt_trichotomy t.1.length t'.1.length with c | c | c
    · rw [if_pos (by omega)]
      have d1 : t.1.drop i = [] := List.drop_of_length_le (by omega)
      have d2 : t'.1.drop i ≠ [] := fun e => by have := congrArg List.length e; rw [List.length_drop] at this; simp at this; omega
      obtain ⟨y, r, e'⟩ := List.exists_cons_of_ne_nil d2
      rw [d1, e']; rfl
    · rw [if_neg (by omega), if_neg (by omega)]
      have d1 : t.1.drop i = [] := List.drop_of_length_le (by omega)
      have d2 : t'.1.drop i = [] := List.drop_of_length_le (by omega)
      rw [d1, d2]; rfl
    · rw [if_neg (by omega), if_pos (by omega)]
      have d1 : t'.1.drop i = [] := List.drop_of_length_le (by omega)
      have d2 : t.1.drop i ≠ [] := fun e => by have := congrArg List.length e; rw [List.length_drop] at this; simp at this; omega
      obtain ⟨y, r, e'⟩ := List.exists_cons_of_ne_nil d2
      rw [d1, e']; rfl
  induction m with
  | zero =>
    intro i h1 h2 k hk
    obtain ⟨k, rfl⟩ : ∃ q, k = q + 1 := ⟨k - 1, by omega⟩
    exact stop i k (by omega) h2 (.inl (by omega))
  | succ m ih =>
    intro i h1 h2 k hk
    obtain ⟨k, rfl⟩ : ∃ q, k = q + 1 := ⟨k - 1, by omega⟩
    by_cases c : i = t'.1.length
    · exact stop i k (by omega) h2 (.inr c)
    · have hi : i < t.1.length := by omega
      have hj : i < t'.1.length := by omega
      have d1 : t.1.drop i = rd t.1 (i : Int) :: t.1.drop (i + 1) := by
        rw [List.drop_eq_getElem_cons hi]; congr 1; simp [rd, List.getD, List.getElem?_eq_getElem hi]
      have d2 : t'.1.drop i = rd t'.1 (i : Int) :: t'.1.drop (i + 1) := by
        rw [List.drop_eq_getElem_cons hj]; congr 1; simp [rd, List.getD, List.getElem?_eq_getElem hj]
      have hA := hx _ (rd_mem t.1 i hi)
      have hB := hy _ (rd_mem t'.1 i hj)
      obtain ⟨u1, u2⟩ := u8lt hA hB
      have e : lx (t.1.drop i) (t'.1.drop i) = if UInt8.ofNat (rd t.1 (i : Int)).toNat = UInt8.ofNat (rd t'.1 (i : Int)).toNat then lx (t.1.drop (i + 1)) (t'.1.drop (i + 1)) else if UInt8.ofNat (rd t.1 (i : Int)).toNat < UInt8.ofNat (rd t'.1 (i : Int)).toNat then -1 else 1 := by rw [d1, d2]; rfl
      rw [e, rCompare.l1, if_pos (by omega), Option.bind_some, if_pos (decide_eq_true (by omega)), gd_pos (by omega), gd_pos (by omega), gd_pos (by omega), gd_pos (by omega)]
      by_cases c1 : rd t.1 (i : Int) < rd t'.1 (i : Int)
      · rw [if_pos c1, thn_inl, if_neg (fun e => by have := u1.1 e; omega), if_pos (u2.2 c1)]
      · rw [if_neg c1, gd_pos (by omega), gd_pos (by omega), gd_pos (by omega), gd_pos (by omega)]
        by_cases c2 : rd t'.1 (i : Int) < rd t.1 (i : Int)
        · rw [if_pos c2, thn_inl, if_neg (fun e => by have := u1.1 e; omega), if_neg (fun e => c1 (u2.1 e))]
        · rw [if_neg c2, if_pos (u1.2 (by omega)), w64 (by omega) (by omega), show (i : Int) + 1 = ((i + 1 : Nat) : Int) by omega]
          exact ih (i + 1) (by omega) (by omega) k (by omega)
theorem rCompare.eq (K : Nat) (hK : 100000 ≤ K) (a b : Int) (c d : ByteArray) (a' b' : Int) (c' d' : ByteArray) (h : (Lit.int .u64 a).wf = true) (h' : (Lit.int .u64 a').wf = true) : rCompare.f K a b c d a' b' c' d' = some (C (rQ a b c d) (rQ a' b' c' d')) := by
  have hw := wfu64 h
  have hw' := wfu64 h'
  unfold rCompare.f rOf.f
  rw [Option.bind_some]
  show ((rBody.f K b a b c d 0 0 0 0 E0 0 0 0 0).bind _) = _
  rcases rBody_rQ K (by omega) (b := b) (c := c) (d := d) hw with ⟨v, e⟩ | ⟨v, x, hx, e⟩
  · rw [e, Option.bind_some, Option.bind_some]
    show ((rBody.f K b' a' b' c' d' 0 0 0 0 E0 0 0 0 0).bind _) = _
    rcases rBody_rQ K (by omega) (b := b') (c := c') (d := d') hw' with ⟨v', e'⟩ | ⟨v', x', hx', e'⟩
    · have V := (vq_iff (rQ.wf h)).1 v
      have V' := (vq_iff (rQ.wf h')).1 v'
      have hlen := bdy_len V.2
      have hC : C (rQ a b c d) (rQ a' b' c' d') = oz (cu a a') (lx (bdy (rQ a b c d)) (bdy (rQ a' b' c' d'))) := by unfold C; rw [if_pos ⟨v, v'⟩]; rfl
      rw [hC, e', Option.bind_some, if_neg (by simp), Option.bind_some, if_neg (by simp), if_neg (by simp), if_neg (by simp)]
      have hl := rCompare.l1_eq (bdy (rQ a b c d), 0) (bdy (rQ a' b' c' d'), 0) (bdy_byt V.2) (bdy_byt V'.2) (by show (bdy (rQ a b c d)).length ≤ _; omega) (bdy (rQ a b c d)).length 0 (by simp) (Nat.zero_le _) K (by omega)
      have hl : thn (rCompare.l1 (bdy (rQ a b c d), 0) (bdy (rQ a' b' c' d'), 0) K 0) _ = some (lx (bdy (rQ a b c d)) (bdy (rQ a' b' c' d'))) := hl
      show (if a < a' then some (-1) else if a' < a then some 1 else _) = some (oz (cu a a') _)
      unfold cu oz
      by_cases c1 : a < a'
      · rw [if_pos c1, if_pos c1]; rfl
      · rw [if_neg c1, if_neg c1]
        by_cases c2 : a' < a
        · rw [if_pos c2, if_pos c2]; rfl
        · rw [if_neg c2, if_neg c2]
          have e0 : (if (0 : Int) ≠ 0 then (0 : Int) else lx (bdy (rQ a b c d)) (bdy (rQ a' b' c' d'))) = lx (bdy (rQ a b c d)) (bdy (rQ a' b' c' d')) := if_neg (by simp)
          rw [e0]
          exact hl
    · have hC : C (rQ a b c d) (rQ a' b' c' d') = 1 := by unfold C; rw [if_neg (by simp [v']), if_pos v, if_neg (by simp [v'])]; rfl
      rw [hC, e', Option.bind_some, if_neg (by simp), Option.bind_some, if_neg (by simp), if_neg (by simp), if_pos hx']
  · rw [e, Option.bind_some, Option.bind_some]
    show ((rBody.f K b' a' b' c' d' 0 0 0 0 E0 0 0 0 0).bind _) = _
    rcases rBody_rQ K (by omega) (b := b') (c := c') (d := d') hw' with ⟨v', e'⟩ | ⟨v', x', hx', e'⟩
    · have hC : C (rQ a b c d) (rQ a' b' c' d') = -1 := by unfold C; rw [if_neg (by simp [v]), if_neg (by simp [v]), if_pos v']; rfl
      rw [hC, e', Option.bind_some, if_pos hx, Option.bind_some, if_neg (by simp), if_pos hx]
    · have hC : C (rQ a b c d) (rQ a' b' c' d') = 0 := by unfold C; rw [if_neg (by simp [v]), if_neg (by simp [v]), if_neg (by simp [v'])]; rfl
      rw [hC, e', Option.bind_some, if_pos hx, Option.bind_some, if_pos (decide_eq_true hx')]
theorem Pure.FrameOrders : ∀ (a0_0 a0_1 : Int) (a0_2 a0_3 : ByteArray) (a1_0 a1_1 : Int) (a1_2 a1_3 : ByteArray), (Lit.int .u64 a0_0).wf = true → (Lit.int .u64 a1_0).wf = true → ∃ K, FrameOrders.f K a0_0 a0_1 a0_2 a0_3 a1_0 a1_1 a1_2 a1_3 = some true := by
  intro a b c d a' b' c' d' w w'
  refine ⟨40000000, ?_⟩
  generalize hK : 40000000 = K
  have hn := C_neg (rQ a b c d) (rQ a b c d)
  unfold FrameOrders.f
  rw [known.eq K (by omega), Option.bind_some, if_pos rfl, fCompare.eq K (by omega) _ _ _ _ _ _ _ _ w w', Option.bind_some, rCompare.eq K (by omega) _ _ _ _ _ _ _ _ w w', Option.bind_some, if_pos rfl, fCompare.eq K (by omega) _ _ _ _ _ _ _ _ w' w, Option.bind_some, rCompare.eq K (by omega) _ _ _ _ _ _ _ _ w' w, Option.bind_some, if_pos rfl, fCompare.eq K (by omega) _ _ _ _ _ _ _ _ w w, Option.bind_some, decide_eq_true (by omega)]
end Go.Proofs.Ytakolnamobkkkaa
