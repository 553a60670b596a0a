/- Own text. Records by raw numbers; the plain part of the law TopFrames. Conditions: bytes, whole numbers in their types' bounds, bounded bulk. -/
import Derived.Test.YtakolnamobkkkaaPureM
import Derived.Test.YtakolnamobkkkaaPureJ
import Derived.Test.YtakolnamobkkkaaLift13
set_option linter.unusedSimpArgs false
set_option linter.unusedVariables false
set_option maxRecDepth 100000
namespace Go.Proofs.Ytakolnamobkkkaa
open Go Go.Sx

theorem val_put (l : Nat) (k v : ByteArray) (h0 : l ≠ 0) (hl : l < 18446744073709551616) (hk : ks k) (hv : v.size ≤ 2048) : Val (1, (l : Int), 1, k, v, 0, 0, 0, 0, E0, 0, 0, 0, 0) := by
  refine ⟨?_, .inl ⟨l, k, v, rfl, hl, hk, hv⟩⟩
  unfold chk check.f may.f between.f
  have := hk.1; have := hk.2
  have e1 : ¬ ((l : Int) = 0) := by omega
  have e2 : (1 : Int) ≤ (k.size : Int) := by omega
  have e3 : (k.size : Int) ≤ 64 := by omega
  have e4 : ¬ ((2048 : Int) < (v.size : Int)) := by omega
  simp [h0, e1, e2, e3, e4, E0]
theorem val_del (l : Nat) (k : ByteArray) (h0 : l ≠ 0) (hl : l < 18446744073709551616) (hk : ks k) : Val (2, (l : Int), 2, k, E0, 0, 0, 0, 0, E0, 0, 0, 0, 0) := by
  refine ⟨?_, .inr (.inl ⟨l, k, rfl, hl, hk⟩)⟩
  unfold chk check.f may.f between.f
  have := hk.1; have := hk.2
  have e1 : ¬ ((l : Int) = 0) := by omega
  have e2 : (1 : Int) ≤ (k.size : Int) := by omega
  have e3 : (k.size : Int) ≤ 64 := by omega
  have e5 : (E0 : ByteArray) = (⟨#[]⟩ : ByteArray) := rfl
  have e4 : ¬ ((2048 : Int) < ((⟨#[]⟩ : ByteArray).size : Int)) := by decide
  simp [h0, e1, e2, e3, e4, e5]
theorem wfi64 {x : Int} (h : (Lit.int .i64 x).wf = true) : -9223372036854775808 ≤ x ∧ x < 9223372036854775808 := by
  simp [Lit.wf, IntKind.min, IntKind.max, IntKind.bits, IntKind.signed] at h; omega
theorem rng64 (x : Int) : -9223372036854775808 ≤ IntKind.wrap .i64 x ∧ IntKind.wrap .i64 x < 9223372036854775808 := by
  simp [IntKind.wrap, IntKind.bits, IntKind.signed]; omega
theorem pick.rel (c n : Int) (hc : -9223372036854775808 ≤ c ∧ c < 9223372036854775808) (hn : 0 < n) : Ans (pick.f c n) (fun r => ∃ m : Nat, r = (m : Int) ∧ (m : Int) < n) := by
  unfold pick.f
  refine Ans.bind (Q := fun o => 0 ≤ o) (Ans.ite (fun h => Ans.some ?_) (fun h => Ans.some (by omega))) (fun o ho => Ans.gd (by omega) (Ans.some ?_))
  · rw [w64 (n := c + 1) (by omega) (by omega), w64 (by omega) (by omega)]; omega
  · have h1 := Int.tmod_lt_of_pos o hn
    have h2 := Int.tmod_nonneg n ho
    exact ⟨(Int.tmod o n).toNat, by omega, by omega⟩
theorem size_app (a b : ByteArray) : (a ++ b).size = a.size + b.size := by
  rw [← bytesOf_length, bytes_app, List.length_append, bytesOf_length, bytesOf_length]
theorem keyOf.l1_rel (t : Int) : ∀ (n : Nat) (x : ByteArray), ks x → 64 - x.size ≤ n → ∀ k, n < k → Ans (keyOf.l1 t k x) ks := by
  intro n
  induction n with
  | zero =>
    intro x hx hn k hk
    obtain ⟨k, rfl⟩ : ∃ m, k = m + 1 := ⟨k - 1, by omega⟩
    have := hx.2
    rw [keyOf.l1]
    refine Ans.bind (Q := fun o => o = false) (Ans.ite (fun _ => Ans.some (decide_eq_false (by omega))) (fun _ => Ans.some rfl)) (fun o ho => Ans.ite (fun h => by rw [ho] at h; cases h) (fun _ => Ans.some hx))
  | succ n ih =>
    intro x hx hn k hk
    obtain ⟨k, rfl⟩ : ∃ m, k = m + 1 := ⟨k - 1, by omega⟩
    have h1 := hx.1
    have h2 := hx.2
    rw [keyOf.l1]
    refine Ans.bind (Q := fun o => o = true → x.size < 64) (Ans.ite (fun _ => Ans.some (fun h => by have := of_decide_eq_true h; omega)) (fun _ => Ans.some (fun h => by cases h))) (fun o ho => Ans.ite (fun h => ?_) (fun _ => Ans.some hx))
    have := ho h
    have e1 : (⟨#[166]⟩ : ByteArray).size = 1 := rfl
    refine Ans.gd (by rw [e1]; omega) (ih _ ⟨by rw [size_app, e1]; omega, by rw [size_app, e1]; omega⟩ (by rw [size_app, e1]; omega) k (by omega))
theorem size_ext (a : ByteArray) (i j : Nat) : (a.extract i j).size = min j a.size - i := by simp
theorem keyOf.rel (K : Nat) (hK : 70 ≤ K) (c : Int) (hc : -9223372036854775808 ≤ c ∧ c < 9223372036854775808) : Ans (keyOf.f K c) ks := by
  unfold keyOf.f
  refine Ans.bind (pick.rel c 6 hc (by decide)) (fun t ht => ?_)
  obtain ⟨m, rfl, hm⟩ := ht
  have e6 : (⟨#[97, 98, 99, 100, 101, 102]⟩ : ByteArray).size = 6 := rfl
  have e4 : (⟨#[167, 0, 166, 167]⟩ : ByteArray).size = 4 := rfl
  rw [w64 (by omega) (by omega), show ((m : Int) + 1) = ((m + 1 : Nat) : Int) by omega, Int.toNat_natCast, Int.toNat_natCast]
  have es : ((⟨#[97, 98, 99, 100, 101, 102]⟩ : ByteArray).extract m (m + 1)).size = 1 := by rw [size_ext, e6]; omega
  refine Ans.gd (by rw [e6]; omega) (Ans.bind (Q := ks) (Ans.ite (fun _ => Ans.gd (by rw [es, e4]; omega) (Ans.some ⟨by rw [size_app, es, e4]; omega, by rw [size_app, es, e4]; omega⟩)) (fun _ => Ans.some ⟨by rw [es]; omega, by rw [es]; omega⟩)) (fun o ho => ?_))
  exact Ans.bind (keyOf.l1_rel _ 64 o ho (by omega) K (by omega)) (fun r hr => Ans.some hr)
theorem valueOf.l1_rel (N : Nat) (hN : N ≤ 400) (a : Int) : ∀ (n i : Nat) (x : ByteArray), i + n = N → x.size = i → ∀ k, n < k → Ans (valueOf.l1 (N : Int) a k (x, (i : Int))) (fun r => r.size = N) := by
  intro n
  induction n with
  | zero =>
    intro i x h hx k hk
    obtain ⟨k, rfl⟩ : ∃ m, k = m + 1 := ⟨k - 1, by omega⟩
    rw [valueOf.l1]; simp only
    rw [if_neg (by omega)]
    exact Ans.some (by omega)
  | succ n ih =>
    intro i x h hx k hk
    obtain ⟨k, rfl⟩ : ∃ m, k = m + 1 := ⟨k - 1, by omega⟩
    rw [valueOf.l1]; simp only
    rw [if_pos (by omega)]
    have h5 : Int.tmod (i : Int) 5 = ((i % 5 : Nat) : Int) := by rw [Int.tmod_eq_emod_of_nonneg (by omega)]; omega
    refine Ans.gd (by rw [h5, w64 (by omega) (by omega)]; omega) (Ans.bind (pick.rel _ 256 (rng64 _) (by decide)) (fun t ht => ?_))
    have e1 : (strOfNums [IntKind.wrap .u8 t]).size = 1 := by rw [size_str]; rfl
    refine Ans.gd (by rw [e1]; omega) ?_
    rw [w64 (n := (i : Int) + 1) (by omega) (by omega), show ((i : Int) + 1) = ((i + 1 : Nat) : Int) by omega]
    exact ih (i + 1) _ (by omega) (by rw [size_app, e1]; omega) k (by omega)
theorem forged.at (n : Nat) : (fEncode.f (n + 30) 1 999999 1 (⟨#[97]⟩ : ByteArray) (⟨#[102, 111, 114, 103, 101, 100]⟩ : ByteArray) 0 0 0 0 ByteArray.empty 0 0 0 0).map (fun t => (t.1.length, t.2)) = some (21, 0) := by kernel_rfl
theorem valueOf.rel (K : Nat) (hK : 500 ≤ K) (c : Int) (hc : -9223372036854775808 ≤ c ∧ c < 9223372036854775808) : Ans (valueOf.f K c) (fun v => v.size ≤ 600) := by
  unfold valueOf.f
  refine Ans.bind (pick.rel c 9 hc (by decide)) (fun t ht => Ans.bind (pick.rel _ 40 (rng64 _) (by decide)) (fun u hu => ?_))
  obtain ⟨m, rfl, hm⟩ := hu
  refine Ans.bind (Q := fun o => ∃ N : Nat, o = (N : Int) ∧ N ≤ 400) (Ans.ite (fun _ => Ans.some ⟨m * 9, by rw [w64 (by omega) (by omega)]; omega, by omega⟩) (fun _ => Ans.some ⟨m, rfl, by omega⟩)) (fun o ho => ?_)
  obtain ⟨N, rfl, hN⟩ := ho
  have e0 : (⟨#[]⟩ : ByteArray).size = 0 := rfl
  refine Ans.bind (valueOf.l1_rel N hN c N 0 _ (by omega) e0 K (by omega)) (fun r hr => ?_)
  refine Ans.bind (Q := fun v => v.size ≤ 600) (Ans.ite (fun _ => ?_) (fun _ => Ans.ite (fun _ => ?_) (fun _ => Ans.some (by omega)))) (fun v hv => Ans.some hv)
  · have hf := forged.at (K - 30)
    rw [show K - 30 + 30 = K by omega] at hf
    obtain ⟨w, hw, he⟩ := Option.map_eq_some_iff.1 hf
    refine Ans.bind (Q := fun q => q = w) ⟨w, hw, rfl⟩ (fun q hq => ?_)
    subst hq
    have hq1 : q.1.length = 21 := congrArg Prod.fst he
    refine Ans.ite (fun _ => Ans.gd (by rw [size_str]; omega) (Ans.some ?_)) (fun _ => Ans.some (by omega))
    show (r ++ strOfNums q.1).size ≤ 600
    rw [size_app, size_str]; omega
  · have e4 : (⟨#[167, 167, 0, 0]⟩ : ByteArray).size = 4 := rfl
    refine Ans.gd (by rw [e4]; omega) (Ans.some ?_)
    show (r ++ (⟨#[167, 167, 0, 0]⟩ : ByteArray)).size ≤ 600
    rw [size_app, e4]; omega
/-- The frame of a record. -/
def recF (t : Int × Int × ByteArray × ByteArray) : D14 := (t.2.1, t.1, t.2.1, t.2.2.1, t.2.2.2, 0, 0, 0, 0, E0, 0, 0, 0, 0)
theorem recordOf.rel (K : Nat) (hK : 500 ≤ K) (a b c d : Int) (l : Nat) (h0 : l ≠ 0) (hl : l < 18446744073709551616) (ha : -9223372036854775808 ≤ a ∧ a < 9223372036854775808) (hb : -9223372036854775808 ≤ b ∧ b < 9223372036854775808) (hc : -9223372036854775808 ≤ c ∧ c < 9223372036854775808) : Ans (recordOf.f K a b c d (l : Int)) (fun t => t.1 = l ∧ (t.2.1 = 1 ∨ t.2.1 = 2) ∧ Val (recF t)) := by
  unfold recordOf.f
  refine Ans.bind (pick.rel a 4 ha (by decide)) (fun t ht => Ans.ite (fun _ => ?_) (fun _ => ?_))
  · exact Ans.bind (keyOf.rel K (by omega) b hb) (fun k hk => Ans.some ⟨rfl, .inr rfl, val_del l k h0 hl hk⟩)
  · exact Ans.bind (keyOf.rel K (by omega) b hb) (fun k hk => Ans.bind (valueOf.rel K hK c hc) (fun v hv => Ans.some ⟨rfl, .inl rfl, val_put l k v h0 hl hk (by omega)⟩))
theorem recordOf.size (K : Nat) (hK : 500 ≤ K) (a b c d : Int) (l : Nat) (h0 : l ≠ 0) (hl : l < 18446744073709551616) (ha : -9223372036854775808 ≤ a ∧ a < 9223372036854775808) (hb : -9223372036854775808 ≤ b ∧ b < 9223372036854775808) (hc : -9223372036854775808 ≤ c ∧ c < 9223372036854775808) : Ans (recordOf.f K a b c d (l : Int)) (fun t => t.2.2.2.size ≤ 600) := by
  unfold recordOf.f
  refine Ans.bind (pick.rel a 4 ha (by decide)) (fun t ht => Ans.ite (fun _ => ?_) (fun _ => ?_))
  · exact Ans.bind (keyOf.rel K (by omega) b hb) (fun k hk => Ans.some (by show (0 : Nat) ≤ 600; omega))
  · exact Ans.bind (keyOf.rel K (by omega) b hb) (fun k hk => Ans.bind (valueOf.rel K hK c hc) (fun v hv => Ans.some hv))
theorem wf_val {f : D14} (h : Shp f) : Wf f := by
  rcases h with ⟨l, k, v, rfl, h1, h2, h3⟩ | ⟨l, k, rfl, h1, h2⟩ | ⟨l, d, a, n, k, rfl, h1, hd, ha, hn, h2⟩ | ⟨c, b, r, s, rfl, hc, hb, hr, hs⟩ <;> exact ⟨by simp only; omega, by simp only; omega, by simp only; omega⟩
theorem framed.eq (K : Nat) (hK : 2097200 < K) (t : Int × Int × ByteArray × ByteArray) (hv : Val (recF t)) : framed.f K t.1 t.2.1 t.2.2.1 t.2.2.2 = some (frm (recF t)) := by
  rcases encE.spec K hK (recF t) (wf_val hv.2) with ⟨_, hE⟩ | ⟨hn, _⟩
  · unfold framed.f
    have hE' : fEncode.f K t.2.1 t.1 t.2.1 t.2.2.1 t.2.2.2 0 0 0 0 ByteArray.empty 0 0 0 0 = some (frm (recF t), 0) := hE
    rw [hE', Option.bind_some, if_neg (by simp)]
  · exact absurd hv hn
theorem joined.eq (a b : List Int) (h : a.length + b.length ≤ 140737488355328) : joined.f a b = some (a ++ b) := by
  unfold joined.f
  rw [gd_pos (by simp; omega), gd_pos (by simp; omega), List.nil_append]
theorem rec_len {t : Int × Int × ByteArray × ByteArray} (hk : t.2.1 = 1 ∨ t.2.1 = 2) (hv : Val (recF t)) : 12 ≤ (frm (recF t)).length := by
  have h1 := frm_len (recF t)
  have h2 := (esc_le (bdy (recF t))).1
  have h3 : 3 ≤ (bdy (recF t)).length := by
    obtain ⟨a, b, c, d⟩ := t
    rcases hv.2 with ⟨l, k, v, e, h1, h2, h3⟩ | ⟨l, k, e, h1, h2⟩ | ⟨l, d', a', n, k, e, h1, hd, ha, hn, h2⟩ | ⟨c', b', r, s, e, hc, hb, hr, hs⟩
    · have q1 := (enc1_len h1).2; have q2 := (enc1_len (n := k.size) (by have := h2.2; omega)).2; have := h2.1
      rw [e]; simp [bdy, bytesOf_length]; omega
    · have q1 := (enc1_len h1).2; have := h2.1
      rw [e]; simp [bdy, bytesOf_length]; omega
    · have := congrArg Prod.fst e
      simp only [recF] at this hk; omega
    · have := congrArg Prod.fst e
      simp only [recF] at this hk; omega
  omega
theorem or_false_ (o : Option Bool) (h : o = some false) : o = some false := h
theorem TopFrames.l1_eq (w : W) (at_ : Nat) (E t13 : List Int) (hl : t13.length = E.length + 9) (hE : E.length ≤ 1099511627776) (ha : at_ < 8 * E.length) :
    ∀ (n i : Nat) (x : List Int) (c : Bool) (Q : W), i + n = 32 → Hit E at_ i x Q → (c = true ↔ Q ≠ 0#32) → ∀ k, n < k →
    ∃ y c' R, TopFrames.l1 (iv w) (at_ : Int) t13 k (x, c, (i : Int)) = some (y, c') ∧ Hit E at_ 32 y R ∧ (c' = true ↔ R ≠ 0#32) := by
  have hN8 : IntKind.wrap .i64 (8 * IntKind.wrap .i64 ((t13.length : Int) - 9)) = ((8 * E.length : Nat) : Int) := by rw [hl, w64 (n := ((E.length + 9 : Nat) : Int) - 9) (by omega) (by omega), w64 (by omega) (by omega)]; omega
  intro n
  induction n with
  | zero =>
    intro i x c Q h hx hc k hk
    obtain ⟨k, rfl⟩ : ∃ m, k = m + 1 := ⟨k - 1, by omega⟩
    rw [TopFrames.l1]; simp only
    rw [if_neg (by omega)]
    obtain rfl : i = 32 := by omega
    exact ⟨x, c, Q, rfl, hx, hc⟩
  | succ n ih =>
    intro i x c Q h hx hc k hk
    obtain ⟨k, rfl⟩ : ∃ m, k = m + 1 := ⟨k - 1, by omega⟩
    have hm : IntKind.wrap .i64 ((at_ : Int) + (i : Int)) = ((at_ + i : Nat) : Int) := by rw [w64 (by omega) (by omega)]; omega
    have hxl := hx.len
    rw [TopFrames.l1]; simp only
    rw [if_pos (by omega), hN8, hm, wu64 i (by omega), gd_pos (by omega)]
    have next : ∀ (y : List Int) (c' : Bool) (R : W), Hit E at_ (i + 1) y R → (c' = true ↔ R ≠ 0#32) → ∃ y' c'' R', TopFrames.l1 (iv w) (at_ : Int) t13 k (y, c', IntKind.wrap .i64 ((i : Int) + 1)) = some (y', c'') ∧ Hit E at_ 32 y' R' ∧ (c'' = true ↔ R' ≠ 0#32) := by
      intro y c' R h1 h2
      rw [w64 (n := (i : Int) + 1) (by omega) (by omega), show ((i : Int) + 1) = ((i + 1 : Nat) : Int) by omega]
      exact ih (i + 1) y c' R (by omega) h1 h2 k (by omega)
    by_cases hc1 : Sx.bits .and .u32 (Sx.shr .u32 (iv w) (i : Int)) 1 = 1
    · rw [if_pos hc1, Option.bind_some]
      by_cases hin : at_ + i < 8 * E.length
      · have hdv : IntKind.wrap .i64 (4 + IntKind.wrap .i64 (Int.tdiv ((at_ + i : Nat) : Int) 8)) = ((4 + (at_ + i) / 8 : Nat) : Int) := by
          rw [Int.tdiv_eq_ediv_of_nonneg (by omega), w64 (n := ((at_ + i : Nat) : Int) / 8) (by omega) (by omega), w64 (by omega) (by omega)]; omega
        have hmd : IntKind.wrap .u64 (Int.tmod ((at_ + i : Nat) : Int) 8) = (((at_ + i) % 8 : Nat) : Int) := by
          rw [Int.tmod_eq_emod_of_nonneg (by omega), show ((at_ + i : Nat) : Int) % 8 = (((at_ + i) % 8 : Nat) : Int) by omega, wu64 _ (by omega)]
        rw [if_pos (by rw [decide_eq_true_eq]; omega), hdv, hmd, gd_pos (by omega), gd_pos (by omega), gd_pos (by omega), gd_pos (by omega), Option.bind_some, Int.toNat_natCast]
        obtain ⟨h2, h3⟩ := hx.turn (by omega) hin
        refine next _ true _ h2 ⟨fun _ h0 => ?_, fun _ => rfl⟩
        rw [h0] at h3; simp at h3
      · rw [if_neg (by rw [decide_eq_true_eq]; omega), Option.bind_some]
        exact next x c Q hx.skip hc
    · rw [if_neg hc1, Option.bind_some, if_neg (by simp), Option.bind_some]
      exact next x c Q hx.skip hc
theorem rec_len2 {t : Int × Int × ByteArray × ByteArray} (hk : t.2.1 = 1 ∨ t.2.1 = 2) (hv : Val (recF t)) (hs : t.2.2.2.size ≤ 600) : (frm (recF t)).length ≤ 4000 := by
  have h1 := frm_len (recF t)
  have h2 := (esc_le (bdy (recF t))).2
  have h3 : (bdy (recF t)).length ≤ 1000 := by
    obtain ⟨a, b, c, d⟩ := t
    rcases hv.2 with ⟨l, k, v, e, h1, h2, h3⟩ | ⟨l, k, e, h1, h2⟩ | ⟨l, d', a', n, k, e, h1, hd, ha, hn, h2⟩ | ⟨c', b', r, s, e, hc, hb, hr, hs⟩
    · have hvs : v.size ≤ 600 := by
        have : d = v := congrArg (fun f : D14 => f.2.2.2.2.1) e
        rw [← this]; exact hs
      have q1 := (enc1_len h1).1; have q2 := (enc1_len (n := k.size) (by have := h2.2; omega)).1; have := h2.2
      rw [e]; simp [bdy, bytesOf_length]; omega
    · have q1 := (enc1_len h1).1; have := h2.2
      rw [e]; simp [bdy, bytesOf_length]; omega
    · have := congrArg Prod.fst e
      simp only [recF] at this hk; omega
    · have := congrArg Prod.fst e
      simp only [recF] at this hk; omega
  omega
theorem Pure.TopFrames (a0_0 a0_1 a0_2 a0_3 a1 : Int) (a2 : List Int) (a3 a4 : Int) (w0 : (Lit.int .i64 a0_0).wf = true) (w1 : (Lit.int .i64 a0_1).wf = true) (w2 : (Lit.int .i64 a0_2).wf = true) (w4 : (Lit.int .u64 a1).wf = true) (hb : ∀ x ∈ a2, (Lit.int .u8 x).wf = true) (hl : a2.length * 1 ≤ 140737488351232) (w5 : (Lit.int .i64 a3).wf = true) (w6 : (Lit.int .u32 a4).wf = true) : ∃ K, TopFrames.f K a0_0 a0_1 a0_2 a0_3 a1 a2 a3 a4 = some true := by
  have hb := Byt.of hb
  refine ⟨1000000000000000, ?_⟩
  generalize hK : 1000000000000000 = K
  have key : Ans (TopFrames.f K a0_0 a0_1 a0_2 a0_3 a1 a2 a3 a4) (fun r => r = true) := by
    unfold TopFrames.f
    have w4 := wfu64 w4
    refine Ans.bind (Q := fun o => ∃ l : Nat, o = (l : Int) ∧ l ≠ 0 ∧ l < 18446744073709551616) (Ans.ite (fun _ => Ans.some ⟨1, rfl, by decide, by decide⟩) (fun h => Ans.some ⟨a1.toNat, by omega, by omega, by omega⟩)) (fun o ho => ?_)
    obtain ⟨l, rfl, hl0, hl1⟩ := ho
    refine Ans.bind (Ans.and (recordOf.rel K (by omega) a0_0 a0_1 a0_2 a0_3 l hl0 hl1 (wfi64 w0) (wfi64 w1) (wfi64 w2)) (recordOf.size K (by omega) a0_0 a0_1 a0_2 a0_3 l hl0 hl1 (wfi64 w0) (wfi64 w1) (wfi64 w2))) (fun t ht => ?_)
    obtain ⟨⟨ht1, ht2, hv⟩, hsz⟩ := ht
    have hl40 := rec_len2 ht2 hv hsz
    obtain ⟨f, hf⟩ : ∃ f, f = recF t := ⟨_, rfl⟩
    have hfr := framed.eq K (by omega) t hv
    have hl12 := rec_len ht2 hv
    rw [← hf] at hfr hl12 hv hl40
    have hle := frm_le hv
    have hby := frm_byt hv
    have hfl := frm_len f
    have heb := esc_byt (bdy_byt hv.2)
    have hfe := frm_eq f
    refine Ans.bind (Q := fun q => q = frm f) ⟨_, hfr, rfl⟩ (fun q hq => ?_)
    subst hq
    have h0 : rd (frm f) 0 = 167 := rfl
    refine Ans.bind (Q := fun o => o = false) (Ans.ite (fun h => by omega) (fun _ => Ans.gd (by omega) (Ans.gd (by omega) (Ans.some (by simp [h0]))))) (fun o ho => Ans.ite (fun h => by rw [ho] at h; cases h) (fun _ => ?_))
    have hat1 := FrAt.mid [] a2 hv
    have hat2 := FrAt.mid a2 [] hv
    have hd1 := fDecode.at K ([] ++ (frm f ++ a2)) (Byt.app.2 ⟨Byt.nil, Byt.app.2 ⟨hby, hb⟩⟩) (by simp; omega) (by simp; omega) hat1
    have hd2 := fDecode.at K (a2 ++ (frm f ++ [])) (Byt.app.2 ⟨hb, Byt.app.2 ⟨hby, Byt.nil⟩⟩) (by simp; omega) (by simp; omega) hat2
    rw [List.nil_append] at hd1
    rw [List.append_nil] at hd2
    refine Ans.bind (Q := fun q => q = frm f ++ a2) ⟨_, joined.eq _ _ (by omega), rfl⟩ (fun q hq => ?_)
    subst hq
    refine Ans.bind (Q := fun q => q = d16 f ((frm f).length : Int) 0) ⟨_, hd1, rfl⟩ (fun q hq => ?_)
    subst hq
    refine Ans.bind (Q := fun q => q = a2 ++ frm f) ⟨_, joined.eq _ _ (by omega), rfl⟩ (fun q hq => ?_)
    subst hq
    refine Ans.bind (Q := fun q => q = d16 f ((frm f).length : Int) 0) ⟨_, hd2, rfl⟩ (fun q hq => ?_)
    subst hq
    have e4 : (frm f).take (Int.toNat 4) = 167 :: dig 3 (esc (bdy f)).length := by
      rw [hfe]
      have h3l := dig_len 3 (esc (bdy f)).length
      show (167 :: (dig 3 (esc (bdy f)).length ++ _)).take 4 = _
      rw [List.take_succ_cons, List.take_left' h3l]
    have p3 : (128 : Nat) ^ 3 = 2097152 := by decide
    have hnum := num_dig K (by omega) 3 (esc (bdy f)).length [] Byt.nil (by omega) (by omega)
    rw [List.append_nil] at hnum
    obtain ⟨r, hr1, hr2⟩ := Next.eq (frm f) 1 hby (by omega)
    have hr3 : r = ((frm f).length : Int) := by
      rcases hr2 with ⟨h1, h2⟩ | ⟨j, h1, h2, h3, h4, h5⟩
      · exact h1
      · exfalso
        exact frm_rd j (by omega) (by omega) (by assumption)
    refine Ans.bind (Q := fun o => o = false) ?_ (fun o ho => Ans.ite (fun h => by rw [ho] at h; cases h) (fun _ => ?_))
    · rw [hf]
      refine Ans.ite (fun h => absurd rfl h) (fun _ => Ans.ite (fun h => absurd rfl h) (fun _ => Ans.ite (fun h => absurd rfl h) (fun _ => Ans.ite (fun h => absurd rfl h) (fun _ => Ans.ite (fun _ => Ans.some ?_) (fun h => absurd ⟨rfl, ⟨rfl, rfl, rfl, rfl, trivial⟩, ⟨rfl, rfl, rfl, rfl, rfl, trivial⟩, ⟨rfl, ⟨rfl, rfl, rfl, trivial⟩, trivial⟩, trivial⟩ h)))))
      rw [Bool.not_eq_false']
      exact decide_eq_true ⟨rfl, ⟨rfl, rfl, rfl, rfl, trivial⟩, ⟨rfl, rfl, rfl, rfl, rfl, trivial⟩, ⟨rfl, ⟨rfl, rfl, rfl, trivial⟩, trivial⟩, trivial⟩
    refine Ans.gd (by refine ⟨by decide, by decide, by decide, ?_⟩; show 4 ≤ _; omega) ?_
    rw [e4, show Int.toNat 1 = 1 from rfl, List.drop_succ_cons, List.drop_zero]
    refine Ans.bind (Q := fun q => q = (((esc (bdy f)).length : Int), 0)) ⟨_, hnum, rfl⟩ (fun q hq => ?_)
    subst hq
    refine Ans.bind (Q := fun o => o = false) (Ans.ite (fun h => absurd rfl h) (fun _ => Ans.ite (fun h => ?_) (fun _ => Ans.bind (Q := fun v => v = r) ⟨r, hr1, rfl⟩ (fun v hv' => Ans.some ?_)))) (fun o ho => Ans.ite (fun h => by rw [ho] at h; cases h) (fun _ => ?_))
    · exfalso; apply h
      rw [w64 (by omega) (by omega), w64 (by omega) (by omega)]; omega
    · subst hv'
      rw [hr3]
      exact decide_eq_false (fun h => h rfl)
    have hN8 : IntKind.wrap .i64 (8 * IntKind.wrap .i64 (((frm f).length : Int) - 9)) = ((8 * (esc (bdy f)).length : Nat) : Int) := by rw [hfl, w64 (n := (((esc (bdy f)).length + 9 : Nat) : Int) - 9) (by omega) (by omega), w64 (by omega) (by omega)]; omega
    refine Ans.bind (Q := fun o => ∃ w : W, o = iv w) (Ans.ite (fun _ => Ans.some ⟨1#32, rfl⟩) (fun _ => Ans.some (iv_of (wfu32 w6)))) (fun o ho => ?_)
    obtain ⟨w, rfl⟩ := ho
    rw [hN8]
    refine Ans.bind (pick.rel a3 _ (wfi64 w5) (by omega)) (fun u hu => ?_)
    obtain ⟨at_, rfl, hat⟩ := hu
    obtain ⟨y, c, R, e1, e2, e3⟩ := TopFrames.l1_eq w at_ (esc (bdy f)) (frm f) hfl (by omega) (by omega) 32 0 (frm f) false 0#32 rfl (by rw [hfe]; exact Hit.start heb at_) ⟨fun h => by simp at h, fun h => absurd rfl h⟩ K (by omega)
    refine Ans.bind (Q := fun q => q = (y, c)) ⟨_, e1, rfl⟩ (fun q hq => ?_)
    subst hq
    have hyl := e2.len
    by_cases hR : R = 0#32
    · subst hR
      have hy := e2.same
      rw [← hfe] at hy
      have hd3 := fDecode.at K ([] ++ (frm f ++ [])) (by rw [List.nil_append, List.append_nil]; exact hby) (by simp; omega) (by simp; omega) (FrAt.mid [] [] hv)
      rw [List.nil_append, List.append_nil] at hd3
      have hc : c = false := by
        cases hcc : c with
        | false => rfl
        | true => exact absurd rfl (e3.1 hcc)
      refine Ans.bind (Q := fun q => q = d16 f ((frm f).length : Int) 0) ⟨_, by show fDecode.f K y 0 = _; rw [hy]; exact hd3, rfl⟩ (fun q hq => Ans.some ?_)
      subst hq
      show decide (decide ((0 : Int) ≠ 0) = c) = true
      rw [hc]; rfl
    · obtain ⟨er, he, hd⟩ := no_at (K := K) e2.byt (by omega) (by omega) (fun m g => e2.no (by omega) hR m g)
      have hc := e3.2 hR
      refine Ans.bind (Q := fun q => q = d16 zeroF 0 er) ⟨_, hd, rfl⟩ (fun q hq => Ans.some ?_)
      subst hq
      show decide (decide (er ≠ 0) = c) = true
      rw [hc, decide_eq_true he]; rfl
  obtain ⟨r, h, hr⟩ := key
  rw [h, hr]
end Go.Proofs.Ytakolnamobkkkaa
