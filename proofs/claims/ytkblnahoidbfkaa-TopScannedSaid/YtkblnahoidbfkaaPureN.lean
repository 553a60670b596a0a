/- Own text, laid out of another seat. Conditions: as there. -/
import Derived.Test.YtkblnahoidbfkaaPureI
import Derived.Test.YtkblnahoidbfkaaLiftC
set_option linter.unusedSimpArgs false
set_option linter.unusedVariables false
set_option maxRecDepth 10000
namespace Go.Proofs.Ytkblnahoidbfkaa
open Go Go.Sx
theorem val_put (l : Nat) (k v : ByteArray) (h0 : l ≠ 0) (hl : l < 18446744073709551616) (hk : ks k) (hv : v.size ≤ 2048) : Val (1, (l : Int), 1, k, v, 0, 0, 0, 0, E0, 0, 0, 0, 0) := by
  refine ⟨?_, .inl ⟨l, k, v, rfl, hl, hk, hv⟩⟩
  unfold chk check.f may.f between.f
  have := hk.1; have := hk.2
  have e1 : ¬ ((l : Int) = 0) := by omega
  have e2 : (1 : Int) ≤ (k.size : Int) := by omega
  have e3 : (k.size : Int) ≤ 64 := by omega
  have e4 : ¬ ((2048 : Int) < (v.size : Int)) := by omega
  simp [h0, e1, e2, e3, e4, E0]
theorem val_del (l : Nat) (k : ByteArray) (h0 : l ≠ 0) (hl : l < 18446744073709551616) (hk : ks k) : Val (2, (l : Int), 2, k, E0, 0, 0, 0, 0, E0, 0, 0, 0, 0) := by
  refine ⟨?_, .inr (.inl ⟨l, k, rfl, hl, hk⟩)⟩
  unfold chk check.f may.f between.f
  have := hk.1; have := hk.2
  have e1 : ¬ ((l : Int) = 0) := by omega
  have e2 : (1 : Int) ≤ (k.size : Int) := by omega
  have e3 : (k.size : Int) ≤ 64 := by omega
  have e5 : (E0 : ByteArray) = (⟨#[]⟩ : ByteArray) := rfl
  have e4 : ¬ ((2048 : Int) < ((⟨#[]⟩ : ByteArray).size : Int)) := by decide
  simp [h0, e1, e2, e3, e4, e5]
theorem wfi64 {x : Int} (h : (Lit.int .i64 x).wf = true) : -9223372036854775808 ≤ x ∧ x < 9223372036854775808 := by
  simp [Lit.wf, IntKind.min, IntKind.max, IntKind.bits, IntKind.signed] at h; omega
theorem rng64 (x : Int) : -9223372036854775808 ≤ IntKind.wrap .i64 x ∧ IntKind.wrap .i64 x < 9223372036854775808 := by
  simp [IntKind.wrap, IntKind.bits, IntKind.signed]; omega
theorem pick.rel (c n : Int) (hc : -9223372036854775808 ≤ c ∧ c < 9223372036854775808) (hn : 0 < n) : Ans (pick.f c n) (fun r => ∃ m : Nat, r = (m : Int) ∧ (m : Int) < n) := by
  unfold pick.f
  refine Ans.bind (Q := fun o => 0 ≤ o) (Ans.ite (fun h => Ans.some ?_) (fun h => Ans.some (by omega))) (fun o ho => Ans.gd (by omega) (Ans.some ?_))
  · rw [w64 (n := c + 1) (by omega) (by omega), w64 (by omega) (by omega)]; omega
  · have h1 := Int.tmod_lt_of_pos o hn
    have h2 := Int.tmod_nonneg n ho
    exact ⟨(Int.tmod o n).toNat, by omega, by omega⟩
theorem size_app (a b : ByteArray) : (a ++ b).size = a.size + b.size := by
  rw [← bytesOf_length, bytes_app, List.length_append, bytesOf_length, bytesOf_length]
theorem keyOf.l1_rel (t : Int) : ∀ (n : Nat) (x : ByteArray), ks x → 64 - x.size ≤ n → ∀ k, n < k → Ans (keyOf.l1 t k x) ks := by
  intro n
  induction n with
  | zero =>
    intro x hx hn k hk
    obtain ⟨k, rfl⟩ : ∃ m, k = m + 1 := ⟨k - 1, by omega⟩
    have := hx.2
    rw [keyOf.l1]
    refine Ans.bind (Q := fun o => o = false) (Ans.ite (fun _ => Ans.some (decide_eq_false (by omega))) (fun _ => Ans.some rfl)) (fun o ho => Ans.ite (fun h => by rw [ho] at h; cases h) (fun _ => Ans.some hx))
  | succ n ih =>
    intro x hx hn k hk
    obtain ⟨k, rfl⟩ : ∃ m, k = m + 1 := ⟨k - 1, by omega⟩
    have h1 := hx.1
    have h2 := hx.2
    rw [keyOf.l1]
    refine Ans.bind (Q := fun o => o = true → x.size < 64) (Ans.ite (fun _ => Ans.some (fun h => by have := of_decide_eq_true h; omega)) (fun _ => Ans.some (fun h => by cases h))) (fun o ho => Ans.ite (fun h => ?_) (fun _ => Ans.some hx))
    have := ho h
    have e1 : (⟨#[166]⟩ : ByteArray).size = 1 := rfl
    refine Ans.gd (by rw [e1]; omega) (ih _ ⟨by rw [size_app, e1]; omega, by rw [size_app, e1]; omega⟩ (by rw [size_app, e1]; omega) k (by omega))
theorem size_ext (a : ByteArray) (i j : Nat) : (a.extract i j).size = min j a.size - i := by simp
theorem keyOf.rel (K : Nat) (hK : 70 ≤ K) (c : Int) (hc : -9223372036854775808 ≤ c ∧ c < 9223372036854775808) : Ans (keyOf.f K c) ks := by
  unfold keyOf.f
  refine Ans.bind (pick.rel c 6 hc (by decide)) (fun t ht => ?_)
  obtain ⟨m, rfl, hm⟩ := ht
  have e6 : (⟨#[97, 98, 99, 100, 101, 102]⟩ : ByteArray).size = 6 := rfl
  have e4 : (⟨#[167, 0, 166, 167]⟩ : ByteArray).size = 4 := rfl
  rw [w64 (by omega) (by omega), show ((m : Int) + 1) = ((m + 1 : Nat) : Int) by omega, Int.toNat_natCast, Int.toNat_natCast]
  have es : ((⟨#[97, 98, 99, 100, 101, 102]⟩ : ByteArray).extract m (m + 1)).size = 1 := by rw [size_ext, e6]; omega
  refine Ans.gd (by rw [e6]; omega) (Ans.bind (Q := ks) (Ans.ite (fun _ => Ans.gd (by rw [es, e4]; omega) (Ans.some ⟨by rw [size_app, es, e4]; omega, by rw [size_app, es, e4]; omega⟩)) (fun _ => Ans.some ⟨by rw [es]; omega, by rw [es]; omega⟩)) (fun o ho => ?_))
  exact Ans.bind (keyOf.l1_rel _ 64 o ho (by omega) K (by omega)) (fun r hr => Ans.some hr)
theorem valueOf.l1_rel (N : Nat) (hN : N ≤ 400) (a : Int) : ∀ (n i : Nat) (x : ByteArray), i + n = N → x.size = i → ∀ k, n < k → Ans (valueOf.l1 (N : Int) a k (x, (i : Int))) (fun r => r.size = N) := by
  intro n
  induction n with
  | zero =>
    intro i x h hx k hk
    obtain ⟨k, rfl⟩ : ∃ m, k = m + 1 := ⟨k - 1, by omega⟩
    rw [valueOf.l1]; simp only
    rw [if_neg (by omega)]
    exact Ans.some (by omega)
  | succ n ih =>
    intro i x h hx k hk
    obtain ⟨k, rfl⟩ : ∃ m, k = m + 1 := ⟨k - 1, by omega⟩
    rw [valueOf.l1]; simp only
    rw [if_pos (by omega)]
    have h5 : Int.tmod (i : Int) 5 = ((i % 5 : Nat) : Int) := by rw [Int.tmod_eq_emod_of_nonneg (by omega)]; omega
    refine Ans.gd (by rw [h5, w64 (by omega) (by omega)]; omega) (Ans.bind (pick.rel _ 256 (rng64 _) (by decide)) (fun t ht => ?_))
    have e1 : (strOfNums [IntKind.wrap .u8 t]).size = 1 := by rw [size_str]; rfl
    refine Ans.gd (by rw [e1]; omega) ?_
    rw [w64 (n := (i : Int) + 1) (by omega) (by omega), show ((i : Int) + 1) = ((i + 1 : Nat) : Int) by omega]
    exact ih (i + 1) _ (by omega) (by rw [size_app, e1]; omega) k (by omega)
theorem forged.at (n : Nat) : (fEncode.f (n + 30) 1 999999 1 (⟨#[97]⟩ : ByteArray) (⟨#[102, 111, 114, 103, 101, 100]⟩ : ByteArray) 0 0 0 0 ByteArray.empty 0 0 0 0).map (fun t => (t.1.length, t.2)) = some (21, 0) := by kernel_rfl
theorem valueOf.rel (K : Nat) (hK : 500 ≤ K) (c : Int) (hc : -9223372036854775808 ≤ c ∧ c < 9223372036854775808) : Ans (valueOf.f K c) (fun v => v.size ≤ 2048) := by
  unfold valueOf.f
  refine Ans.bind (pick.rel c 9 hc (by decide)) (fun t ht => Ans.bind (pick.rel _ 40 (rng64 _) (by decide)) (fun u hu => ?_))
  obtain ⟨m, rfl, hm⟩ := hu
  refine Ans.bind (Q := fun o => ∃ N : Nat, o = (N : Int) ∧ N ≤ 400) (Ans.ite (fun _ => Ans.some ⟨m * 9, by rw [w64 (by omega) (by omega)]; omega, by omega⟩) (fun _ => Ans.some ⟨m, rfl, by omega⟩)) (fun o ho => ?_)
  obtain ⟨N, rfl, hN⟩ := ho
  have e0 : (⟨#[]⟩ : ByteArray).size = 0 := rfl
  refine Ans.bind (valueOf.l1_rel N hN c N 0 _ (by omega) e0 K (by omega)) (fun r hr => ?_)
  refine Ans.bind (Q := fun v => v.size ≤ 2048) (Ans.ite (fun _ => ?_) (fun _ => Ans.ite (fun _ => ?_) (fun _ => Ans.some (by omega)))) (fun v hv => Ans.some hv)
  · have hf := forged.at (K - 30)
    rw [show K - 30 + 30 = K by omega] at hf
    obtain ⟨w, hw, he⟩ := Option.map_eq_some_iff.1 hf
    refine Ans.bind (Q := fun q => q = w) ⟨w, hw, rfl⟩ (fun q hq => ?_)
    subst hq
    have hq1 : q.1.length = 21 := congrArg Prod.fst he
    refine Ans.ite (fun _ => Ans.gd (by rw [size_str]; omega) (Ans.some ?_)) (fun _ => Ans.some (by omega))
    show (r ++ strOfNums q.1).size ≤ 2048
    rw [size_app, size_str]; omega
  · have e4 : (⟨#[167, 167, 0, 0]⟩ : ByteArray).size = 4 := rfl
    refine Ans.gd (by rw [e4]; omega) (Ans.some ?_)
    show (r ++ (⟨#[167, 167, 0, 0]⟩ : ByteArray)).size ≤ 2048
    rw [size_app, e4]; omega
/-- The frame of a record. -/
def recF (t : Int × Int × ByteArray × ByteArray) : D14 := (t.2.1, t.1, t.2.1, t.2.2.1, t.2.2.2, 0, 0, 0, 0, E0, 0, 0, 0, 0)
theorem recordOf.rel (K : Nat) (hK : 500 ≤ K) (a b c d : Int) (l : Nat) (h0 : l ≠ 0) (hl : l < 18446744073709551616) (ha : -9223372036854775808 ≤ a ∧ a < 9223372036854775808) (hb : -9223372036854775808 ≤ b ∧ b < 9223372036854775808) (hc : -9223372036854775808 ≤ c ∧ c < 9223372036854775808) : Ans (recordOf.f K a b c d (l : Int)) (fun t => t.1 = l ∧ (t.2.1 = 1 ∨ t.2.1 = 2) ∧ Val (recF t)) := by
  unfold recordOf.f
  refine Ans.bind (pick.rel a 4 ha (by decide)) (fun t ht => Ans.ite (fun _ => ?_) (fun _ => ?_))
  · exact Ans.bind (keyOf.rel K (by omega) b hb) (fun k hk => Ans.some ⟨rfl, .inr rfl, val_del l k h0 hl hk⟩)
  · exact Ans.bind (keyOf.rel K (by omega) b hb) (fun k hk => Ans.bind (valueOf.rel K hK c hc) (fun v hv => Ans.some ⟨rfl, .inl rfl, val_put l k v h0 hl hk hv⟩))
theorem wf_val {f : D14} (h : Shp f) : Wf f := by
  rcases h with ⟨l, k, v, rfl, h1, h2, h3⟩ | ⟨l, k, rfl, h1, h2⟩ | ⟨l, d, a, n, k, rfl, h1, hd, ha, hn, h2⟩ | ⟨c, b, r, s, rfl, hc, hb, hr, hs⟩ <;> exact ⟨by simp only; omega, by simp only; omega, by simp only; omega⟩
theorem framed.eq (K : Nat) (hK : 2097200 < K) (t : Int × Int × ByteArray × ByteArray) (hv : Val (recF t)) : framed.f K t.1 t.2.1 t.2.2.1 t.2.2.2 = some (frm (recF t)) := by
  rcases encE.spec K hK (recF t) (wf_val hv.2) with ⟨_, hE⟩ | ⟨hn, _⟩
  · unfold framed.f
    have hE' : fEncode.f K t.2.1 t.1 t.2.1 t.2.2.1 t.2.2.2 0 0 0 0 ByteArray.empty 0 0 0 0 = some (frm (recF t), 0) := hE
    rw [hE', Option.bind_some, if_neg (by simp)]
  · exact absurd hv hn
theorem rec_len {t : Int × Int × ByteArray × ByteArray} (hk : t.2.1 = 1 ∨ t.2.1 = 2) (hv : Val (recF t)) : 12 ≤ (frm (recF t)).length := by
  have h1 := frm_len (recF t)
  have h2 := (esc_le (bdy (recF t))).1
  have h3 : 3 ≤ (bdy (recF t)).length := by
    obtain ⟨a, b, c, d⟩ := t
    rcases hv.2 with ⟨l, k, v, e, h1, h2, h3⟩ | ⟨l, k, e, h1, h2⟩ | ⟨l, d', a', n, k, e, h1, hd, ha, hn, h2⟩ | ⟨c', b', r, s, e, hc, hb, hr, hs⟩
    · have q1 := (enc1_len h1).2; have q2 := (enc1_len (n := k.size) (by have := h2.2; omega)).2; have := h2.1
      rw [e]; simp [bdy, bytesOf_length]; omega
    · have q1 := (enc1_len h1).2; have := h2.1
      rw [e]; simp [bdy, bytesOf_length]; omega
    · have := congrArg Prod.fst e
      simp only [recF] at this hk; omega
    · have := congrArg Prod.fst e
      simp only [recF] at this hk; omega
  omega
end Go.Proofs.Ytkblnahoidbfkaa
