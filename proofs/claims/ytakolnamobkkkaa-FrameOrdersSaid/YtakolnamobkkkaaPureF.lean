/- Own text. What encoding a frame answers: an error, or a frame around a body of bounded length. Conditions: whole numbers in their types' bounds. -/
import Derived.Test.YtakolnamobkkkaaPureE
set_option linter.unusedSimpArgs false
set_option linter.unusedVariables false
set_option maxRecDepth 100000
namespace Go.Proofs.Ytakolnamobkkkaa
open Go Go.Sx

theorem between.rel (a b c : Int) : Ans (between.f a b c) (fun r => r = true → b ≤ a ∧ a ≤ c) := by
  unfold between.f
  refine Ans.ite (fun h => Ans.some (fun h2 => ⟨h, of_decide_eq_true h2⟩)) (fun _ => Ans.some (fun h => by cases h))
def ks (s : ByteArray) : Prop := 1 ≤ s.size ∧ s.size ≤ 64
theorem may.rel (a : Int) (b c : ByteArray) (d : Int) : Ans (may.f a b c d) (fun r => r = 0 → ks b ∧ c.size ≤ 2048) := by
  unfold may.f
  refine Ans.ite (fun _ => Ans.some (fun h => by simp at h)) (fun _ => Ans.bind (between.rel _ _ _) (fun v hv => Ans.ite (fun ht => ?_) (fun _ => Ans.some (fun h => by simp at h))))
  obtain ⟨h1, h2⟩ := hv ht
  refine Ans.bind (Q := fun o => o = true ∨ c.size ≤ 2048) (Ans.ite (fun _ => Ans.some (.inl rfl)) (fun h => Ans.ite (fun _ => Ans.some (.inr (by omega))) (fun _ => Ans.some (.inr (by omega))))) (fun o ho => Ans.ite (fun _ => Ans.some (fun h => by simp at h)) (fun hf => Ans.some (fun _ => ⟨⟨by omega, by omega⟩, ?_⟩)))
  rcases ho with h | h
  · exact absurd h hf
  · exact h
theorem check.rel (a0_0 a0_1 a0_2 : Int) (a0_3 a0_4 : ByteArray) (a0_5 a0_6 a0_7 a0_8 : Int) (a0_9 : ByteArray) (a0_10 a0_11 a0_12 a0_13 : Int) : Ans (check.f a0_0 a0_1 a0_2 a0_3 a0_4 a0_5 a0_6 a0_7 a0_8 a0_9 a0_10 a0_11 a0_12 a0_13) (fun r => r = 0 → (a0_0 = 1 ∨ a0_0 = 2 → ks a0_3 ∧ a0_4.size ≤ 2048) ∧ (a0_0 = 3 → ks a0_9)) := by
  unfold check.f
  have fin : ∀ (o : Int × Bool × Int × Int × ByteArray × ByteArray × Int × Int × Int × Int × ByteArray × Int × Int × Int × Int) (c : Bool), Ans ((if o.1 = 0 then (if o.2.1 = true then (Option.some c) else (Option.some true)) else (Option.some false)).bind fun o128 => if o128 = true then (Option.some (40 : Int)) else (Option.some o.1)) (fun r => r = 0 → o.1 = 0) := by
    intro o c
    refine Ans.bind (Q := fun _ => True) (Ans.ite (fun _ => Ans.ite (fun _ => Ans.some trivial) (fun _ => Ans.some trivial)) (fun _ => Ans.some trivial)) (fun v _ => Ans.ite (fun _ => Ans.some (fun h => by simp at h)) (fun _ => Ans.some (fun h => h)))
  refine Ans.thn (Ans.bind (Q := fun v => v = true → a0_0 = 1 ∨ a0_0 = 2) (Ans.ite (fun h => Ans.some (fun _ => .inl h)) (fun _ => Ans.some (fun h => .inr (of_decide_eq_true h)))) (fun v hv => ?_))
  refine Ans.ite (fun ht => ?_) (fun hnt => Ans.ite (fun h3 => ?_) (fun n3 => Ans.ite (fun h4 => ?_) (fun _ => Ans.some (fun h => by simp at h))))
  · refine Ans.ite (fun _ => Ans.some (fun h => by simp at h)) (fun _ => Ans.bind (may.rel _ _ _ _) (fun u hu => Ans.some ?_))
    refine Ans.mono (fin _ _) (fun r hr h0 => ⟨fun _ => hu (hr h0), fun h => ?_⟩)
    have := hv ht; omega
  · refine Ans.bind (isRecord.ans _) (fun u _ => Ans.ite (fun _ => ?_) (fun _ => Ans.some (fun h => by simp at h)))
    refine Ans.bind (may.rel _ _ _ _) (fun u hu => Ans.bind (Q := fun _ => True) (Ans.bind (between.ans _ _ _) (fun x _ => Ans.ite (fun _ => Ans.bind (between.ans _ _ _) (fun _ _ => Ans.some trivial)) (fun _ => Ans.some trivial))) (fun x _ => Ans.some ?_))
    refine Ans.mono (fin _ _) (fun r hr h0 => ⟨fun h => by omega, fun _ => (hu (hr h0)).1⟩)
  · refine Ans.bind (Q := fun _ => True) (Ans.bind (between.ans _ _ _) (fun x _ => Ans.ite (fun _ => Ans.bind (between.ans _ _ _) (fun _ _ => Ans.ite (fun _ => Ans.bind (between.ans _ _ _) (fun _ _ => Ans.some trivial)) (fun _ => Ans.some trivial))) (fun _ => Ans.some trivial))) (fun x _ => Ans.some ?_)
    refine Ans.mono (fin _ _) (fun r hr h0 => ⟨fun h => by omega, fun h => by omega⟩)
theorem wr8 (n : Int) : 0 ≤ IntKind.wrap .u8 n ∧ IntKind.wrap .u8 n < 256 := by rw [wrapU .u8 rfl]; show 0 ≤ n % 256 ∧ n % 256 < 256; omega
theorem wr64 (n : Int) : ∃ m : Nat, IntKind.wrap .u64 n = m ∧ m < 18446744073709551616 := by
  refine ⟨(n % 18446744073709551616).toNat, ?_, by omega⟩
  rw [wrapU .u64 rfl]; show n % 18446744073709551616 = _; omega
theorem bytes_byt (s : ByteArray) : Byt (bytesOf s) := by
  intro y hy
  unfold bytesOf at hy
  obtain ⟨u, _, rfl⟩ := List.mem_map.1 hy
  have := u.toNat_lt
  omega
theorem one_byt (n : Int) : Byt [IntKind.wrap .u8 n] := by
  intro y hy; rw [List.mem_singleton] at hy; subst hy; exact wr8 n
theorem enc_byt (v : Nat) : Byt (enc1 v) := can_byt _ (can_enc v)
theorem fBody.ans (K : Nat) (hK : 11 ≤ K) (a0_0 a0_1 a0_2 : Int) (a0_3 a0_4 : ByteArray) (a0_5 a0_6 a0_7 a0_8 : Int) (a0_9 : ByteArray) (a0_10 a0_11 a0_12 a0_13 : Int) (h1 : 0 ≤ a0_1 ∧ a0_1 < 18446744073709551616) (h5 : 0 ≤ a0_5 ∧ a0_5 < 18446744073709551616) : Ans (fBody.f K a0_0 a0_1 a0_2 a0_3 a0_4 a0_5 a0_6 a0_7 a0_8 a0_9 a0_10 a0_11 a0_12 a0_13) (fun t => t.2 ≠ 0 ∨ (t.2 = 0 ∧ Byt t.1 ∧ 1 ≤ t.1.length ∧ t.1.length ≤ 3000)) := by
  unfold fBody.f
  refine Ans.bind (check.rel _ _ _ _ _ _ _ _ _ _ _ _ _ _) (fun k hk => Ans.ite (fun h => Ans.some (.inl h)) (fun h0 => ?_))
  obtain ⟨k1, k3⟩ := hk (by omega)
  obtain ⟨v, ev⟩ : ∃ v : Nat, a0_1 = v := ⟨a0_1.toNat, by omega⟩
  obtain ⟨u, eu⟩ : ∃ u : Nat, a0_5 = u := ⟨a0_5.toNat, by omega⟩
  obtain ⟨x, ex, hx⟩ := wr64 a0_7
  obtain ⟨y, ey, hy⟩ := wr64 a0_8
  obtain ⟨p, ep, hp⟩ := wr64 a0_10
  obtain ⟨q, eq, hq⟩ := wr64 a0_11
  obtain ⟨r, er, hr⟩ := wr64 a0_12
  obtain ⟨s, es, hs⟩ := wr64 a0_13
  obtain ⟨z, ez, hz⟩ := wr64 (a0_3.size : Int)
  have hv : v < 18446744073709551616 := by omega
  have hu : u < 18446744073709551616 := by omega
  have lv := el v hv; have lu := el u hu; have lx := el x hx; have ly := el y hy; have lp := el p hp; have lq := el q hq; have lr := el r hr; have ls := el s hs; have lz := el z hz
  have b8 := one_byt a0_0
  rw [ev, eu, ex, ey, ep, eq, er, es, ez]
  refine Ans.bind (Q := fun l => Byt l ∧ 1 ≤ l.length ∧ l.length ≤ 3000) (Ans.ite (fun c1 => ?_) (fun n1 => Ans.ite (fun c2 => ?_) (fun n2 => Ans.ite (fun c3 => ?_) (fun n3 => Ans.ite (fun c4 => ?_) (fun n4 => Ans.some ⟨b8, by simp, by simp⟩))))) (fun l hl => Ans.some (.inr ⟨rfl, hl⟩))
  · obtain ⟨⟨_, z1⟩, z2⟩ := k1 (.inl c1)
    have e4 : (bytesOf (a0_3 ++ a0_4)).length = a0_3.size + a0_4.size := by rw [bytes_app, List.length_append, bytesOf_length, bytesOf_length]
    have e5 : (a0_3 ++ a0_4).size = a0_3.size + a0_4.size := by rw [← bytesOf_length, e4]
    rw [enc_two K hK v z hv hz, Option.bind_some]
    refine Ans.gd (by simp; omega) (Ans.gd (by omega) (Ans.gd (by rw [e5]; simp; omega) (Ans.some ⟨Byt.app.2 ⟨Byt.app.2 ⟨b8, Byt.app.2 ⟨enc_byt v, enc_byt z⟩⟩, bytes_byt _⟩, (by simp <;> omega), by rw [List.length_append, e4]; simp; omega⟩)))
  · obtain ⟨⟨_, z1⟩, z2⟩ := k1 (.inr c2)
    rw [enc_one K hK v hv, Option.bind_some]
    refine Ans.gd (by simp; omega) (Ans.gd (by simp; omega) (Ans.some ⟨Byt.app.2 ⟨Byt.app.2 ⟨b8, enc_byt v⟩, bytes_byt _⟩, (by simp <;> omega), by rw [List.length_append, bytesOf_length]; simp; omega⟩))
  · obtain ⟨_, z1⟩ := k3 c3
    rw [enc_one K hK u hu, Option.bind_some, enc_two K hK x y hx hy, Option.bind_some]
    refine Ans.gd (by simp; omega) (Ans.gd (by simp; omega) (Ans.gd (by simp; omega) (Ans.gd (by simp; omega) (Ans.some ⟨Byt.app.2 ⟨Byt.app.2 ⟨Byt.app.2 ⟨Byt.app.2 ⟨b8, enc_byt u⟩, one_byt _⟩, Byt.app.2 ⟨enc_byt x, enc_byt y⟩⟩, bytes_byt _⟩, (by simp <;> omega), by rw [List.length_append, bytesOf_length]; simp; omega⟩))))
  · rw [enc_four K hK p q r s hp hq hr hs, Option.bind_some]
    refine Ans.gd (by simp; omega) (Ans.some ⟨Byt.app.2 ⟨b8, Byt.app.2 ⟨enc_byt p, Byt.app.2 ⟨enc_byt q, Byt.app.2 ⟨enc_byt r, enc_byt s⟩⟩⟩⟩, (by simp <;> omega), by simp; omega⟩)
theorem fEncode.ans (K : Nat) (hK : 2097200 < K) (a0_0 a0_1 a0_2 : Int) (a0_3 a0_4 : ByteArray) (a0_5 a0_6 a0_7 a0_8 : Int) (a0_9 : ByteArray) (a0_10 a0_11 a0_12 a0_13 : Int) (h1 : 0 ≤ a0_1 ∧ a0_1 < 18446744073709551616) (h5 : 0 ≤ a0_5 ∧ a0_5 < 18446744073709551616) : Ans (fEncode.f K a0_0 a0_1 a0_2 a0_3 a0_4 a0_5 a0_6 a0_7 a0_8 a0_9 a0_10 a0_11 a0_12 a0_13) (fun t => (t.2 ≠ 0 ∧ t.1 = []) ∨ (t.2 = 0 ∧ ∃ b, fBody.f K a0_0 a0_1 a0_2 a0_3 a0_4 a0_5 a0_6 a0_7 a0_8 a0_9 a0_10 a0_11 a0_12 a0_13 = some (b, 0) ∧ Byt b ∧ 1 ≤ b.length ∧ b.length ≤ 3000 ∧ t.1 = frameOf b)) := by
  unfold fEncode.f
  obtain ⟨w, hw, hw2⟩ := fBody.ans K (by omega) a0_0 a0_1 a0_2 a0_3 a0_4 a0_5 a0_6 a0_7 a0_8 a0_9 a0_10 a0_11 a0_12 a0_13 h1 h5
  refine Ans.bind (Q := fun v => v = w) ⟨w, hw, rfl⟩ (fun v hv => ?_)
  subst hv
  refine Ans.ite (fun h => Ans.some (.inl ⟨h, rfl⟩)) (fun h0 => ?_)
  obtain ⟨e0, hb, hl1, hl2⟩ : v.2 = 0 ∧ Byt v.1 ∧ 1 ≤ v.1.length ∧ v.1.length ≤ 3000 := by
    rcases hw2 with h | h
    · exact absurd h h0
    · exact h
  have hle := (esc_le v.1).2
  have he := esc_byt hb
  have h3l := dig_len 3 (esc v.1).length
  have h5l := dig_len 5 (sumOf (esc v.1))
  have hlt : sumOf (esc v.1) < 4294967296 := (goOn 0#32 (dig 3 (esc v.1).length ++ esc v.1)).isLt
  have p3 : (128 : Nat) ^ 3 = 2097152 := by decide
  have p5 : (128 : Nat) ^ 5 = 34359738368 := by decide
  have dg : ∀ (m n : Nat), 1 ≤ m → m ≤ 9 → n < 128 ^ m → n < 18446744073709551616 → Digits.f K (n : Int) (m : Int) = some (dig m n, 0) := by
    intro m n hm1 hm9 hn hn2
    obtain ⟨u, hu1, hu2⟩ := Digits.eq n (m : Int) hn2 K (by omega)
    rw [hu1]
    rcases hu2 with ⟨_, _, h⟩ | ⟨m', hm, _, _, ⟨_, _, h⟩ | ⟨e1, e2, _⟩⟩
    · omega
    · obtain rfl : m = m' := by omega
      omega
    · obtain rfl : m = m' := by omega
      exact congrArg some (Prod.ext e1 e2)
  have d3 := dg 3 (esc v.1).length (by omega) (by omega) (by omega) (by omega)
  have d5 := dg 5 (sumOf (esc v.1)) (by omega) (by omega) (by omega) (by omega)
  have hsum : Sum.f K [dig 3 (esc v.1).length, esc v.1] = some ((sumOf (esc v.1) : Nat) : Int) := by
    have := Sum.eq [dig 3 (esc v.1).length, esc v.1] K (by omega) (fun q hq => by
      simp only [List.mem_cons, List.not_mem_nil, or_false] at hq
      rcases hq with rfl | rfl
      · exact ⟨dig_byt _ _, by omega, by omega⟩
      · exact ⟨he, by omega, by omega⟩) (by simp) (by simp; omega)
    rw [this]; simp [iv]
  rw [Wrap.eq v.1 hb (by omega) K (by omega), Option.bind_some, wu64 _ (by omega)]
  refine Ans.bind (Q := fun q => q = (dig 3 (esc v.1).length, 0)) ⟨_, d3, rfl⟩ (fun q hq => ?_)
  subst hq
  refine Ans.ite (fun h => absurd rfl h) (fun _ => ?_)
  rw [hsum, Option.bind_some, wu64 _ (by omega)]
  refine Ans.bind (Q := fun q => q = (dig 5 (sumOf (esc v.1)), 0)) ⟨_, d5, rfl⟩ (fun q hq => ?_)
  subst hq
  refine Ans.gd (by simp; omega) (Ans.gd (by simp; omega) (Ans.gd (by simp; omega) (Ans.some (.inr ⟨rfl, v.1, ?_, hb, hl1, hl2, ?_⟩))))
  · rw [hw, ← e0]
  · unfold frameOf; simp
end Go.Proofs.Ytakolnamobkkkaa
