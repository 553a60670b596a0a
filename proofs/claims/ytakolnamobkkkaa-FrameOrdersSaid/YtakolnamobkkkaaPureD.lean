/- Own text. A frame that is decoded is encoded again to the bytes it stood in; the plain part of the law FrameOnce. Conditions: bytes. -/
import Derived.Test.YtakolnamobkkkaaPureB
import Derived.Test.YtakolnamobkkkaaPureC
import Derived.Test.YtakolnamobkkkaaLift5
set_option linter.unusedSimpArgs false
set_option linter.unusedVariables false
set_option maxRecDepth 100000
namespace Go.Proofs.Ytakolnamobkkkaa
open Go Go.Sx

abbrev D16 := Int × Int × Int × ByteArray × ByteArray × Int × Int × Int × Int × ByteArray × Int × Int × Int × Int × Int × Int
def encF (K : Nat) (t : D16) : Option (List Int × Int) := fEncode.f K t.1 t.2.1 t.2.2.1 t.2.2.2.1 t.2.2.2.2.1 t.2.2.2.2.2.1 t.2.2.2.2.2.2.1 t.2.2.2.2.2.2.2.1 t.2.2.2.2.2.2.2.2.1 t.2.2.2.2.2.2.2.2.2.1 t.2.2.2.2.2.2.2.2.2.2.1 t.2.2.2.2.2.2.2.2.2.2.2.1 t.2.2.2.2.2.2.2.2.2.2.2.2.1 t.2.2.2.2.2.2.2.2.2.2.2.2.2.1
/-- An answer without a record. -/
def Nil (t : D16) : Prop := ∃ e : Int, e ≠ 0 ∧ t = (0, 0, 0, ByteArray.empty, ByteArray.empty, 0, 0, 0, 0, ByteArray.empty, 0, 0, 0, 0, 0, e)
def Got (K : Nat) (b : List Int) (a : Int) (t : D16) : Prop := t.2.2.2.2.2.2.2.2.2.2.2.2.2.2.2 = 0 ∧ ∃ p n : Nat, a = (p : Int) ∧ 1 ≤ n ∧ n < 2097152 ∧ p + 9 + n ≤ b.length ∧ t.2.2.2.2.2.2.2.2.2.2.2.2.2.2.1 = ((n + 9 : Nat) : Int) ∧ encF K t = some ((b.take (p + 9 + n)).drop p, 0) ∧ B64 t.2.1 ∧ B64 t.2.2.2.2.2.1 ∧ B32 t.2.2.2.2.2.2.2.2.2.2.2.2.2.1
theorem Nil.of (e : Int) (h : e ≠ 0) : Nil (0, 0, 0, ByteArray.empty, ByteArray.empty, 0, 0, 0, 0, ByteArray.empty, 0, 0, 0, 0, 0, e) := ⟨e, h, rfl⟩
theorem cut3 (b : List Int) (p x y : Nat) (h : p ≤ x) (h2 : x ≤ y) : (b.take y).drop p = (b.take x).drop p ++ (b.take y).drop x := by
  have e : b.take x = (b.take y).take x := by rw [List.take_take, Nat.min_eq_left h2]
  rw [e]
  obtain ⟨c, hc⟩ : ∃ c, c = b.take y := ⟨_, rfl⟩
  rw [← hc]
  have h3 := (List.take_append_drop (x - p) (c.drop p)).symm
  rw [List.drop_drop, show p + (x - p) = x by omega, List.take_drop, show p + (x - p) = x by omega] at h3
  exact h3
theorem take_drop3 (b : List Int) (p n : Nat) (h : p + n ≤ b.length) : (b.drop p).take n = (b.take (p + n)).drop p := by rw [List.take_drop]
/-- A body that was opened, framed again. -/
theorem frame.enc (K : Nat) (hK : 2097200 < K) (t : D16) (body s d3 d5 : List Int) (hB : Byt body) (hf : bodyF K (t.1, t.2.1, t.2.2.1, t.2.2.2.1, t.2.2.2.2.1, t.2.2.2.2.2.1, t.2.2.2.2.2.2.1, t.2.2.2.2.2.2.2.1, t.2.2.2.2.2.2.2.2.1, t.2.2.2.2.2.2.2.2.2.1, t.2.2.2.2.2.2.2.2.2.2.1, t.2.2.2.2.2.2.2.2.2.2.2.1, t.2.2.2.2.2.2.2.2.2.2.2.2.1, t.2.2.2.2.2.2.2.2.2.2.2.2.2.1, true) = some (body, 0)) (hs : esc body = s) (hsb : Byt s) (hn : s.length < 2097152) (h3 : d3 = dig 3 s.length) (h5 : d5 = dig 5 (goOn 0#32 (d3 ++ s)).toNat) : encF K t = some ((([167] ++ d3) ++ s) ++ d5, 0) := by
  have hf : fBody.f K t.1 t.2.1 t.2.2.1 t.2.2.2.1 t.2.2.2.2.1 t.2.2.2.2.2.1 t.2.2.2.2.2.2.1 t.2.2.2.2.2.2.2.1 t.2.2.2.2.2.2.2.2.1 t.2.2.2.2.2.2.2.2.2.1 t.2.2.2.2.2.2.2.2.2.2.1 t.2.2.2.2.2.2.2.2.2.2.2.1 t.2.2.2.2.2.2.2.2.2.2.2.2.1 t.2.2.2.2.2.2.2.2.2.2.2.2.2.1 = some (body, 0) := hf
  have hle := (esc_le body).1
  rw [hs] at hle
  have p3 : (128 : Nat) ^ 3 = 2097152 := by decide
  have p5 : (128 : Nat) ^ 5 = 34359738368 := by decide
  obtain ⟨u, hu1, hu2⟩ := Digits.eq s.length 3 (by omega) K (by omega)
  have hu : u = (d3, 0) := by
    rcases hu2 with ⟨_, _, h⟩ | ⟨m, hm, _, _, ⟨_, _, h⟩ | ⟨e1, e2, _⟩⟩
    · omega
    · obtain rfl : m = 3 := by omega
      omega
    · obtain rfl : m = 3 := by omega
      exact Prod.ext (by rw [e1, h3]) e2
  have hd3 : Byt d3 := by rw [h3]; exact dig_byt _ _
  have hd3l : d3.length = 3 := by rw [h3, dig_len]
  have hsum : Sum.f K [d3, s] = some (((goOn 0#32 (d3 ++ s)).toNat : Nat) : Int) := by
    have := Sum.eq [d3, s] K (by omega) (fun q hq => by
      simp only [List.mem_cons, List.not_mem_nil, or_false] at hq
      rcases hq with rfl | rfl
      · exact ⟨hd3, by omega, by omega⟩
      · exact ⟨hsb, by omega, by omega⟩) (by simp) (by simp; omega)
    rw [this]; simp [iv]
  have hlt := (goOn 0#32 (d3 ++ s)).isLt
  obtain ⟨x, hx1, hx2⟩ := Digits.eq (goOn 0#32 (d3 ++ s)).toNat 5 (by omega) K (by omega)
  have hx : x = (d5, 0) := by
    rcases hx2 with ⟨_, _, h⟩ | ⟨m, hm, _, _, ⟨_, _, h⟩ | ⟨e1, e2, _⟩⟩
    · omega
    · obtain rfl : m = 5 := by omega
      omega
    · obtain rfl : m = 5 := by omega
      exact Prod.ext (by rw [e1, h5]) e2
  have hd5l : d5.length = 5 := by rw [h5, dig_len]
  unfold encF fEncode.f
  rw [hf, Option.bind_some, if_neg (by simp), Wrap.eq body hB (by omega) K (by omega), hs, Option.bind_some, wu64 _ (by omega), hu1, Option.bind_some, hu, if_neg (by simp), hsum, Option.bind_some, wu64 _ (by omega), hx1, Option.bind_some, hx, gd_pos (by simp; omega), gd_pos (by simp; omega), gd_pos (by simp; omega)]
theorem all_lt {l : List Int} (h : ∀ j : Nat, j < l.length → rd l (j : Int) < 128) : ∀ x ∈ l, x < 128 := by
  intro x hx
  obtain ⟨j, hj, rfl⟩ := List.mem_iff_getElem.1 hx
  have := h j hj
  rwa [rd_nat l j hj] at this
theorem fDecode.rel (b : List Int) (hb : Byt b) (hl : b.length ≤ 140737488355328) (a : Int) (K : Nat) (hK : b.length + 2097200 < K) :
    Ans (fDecode.f K b a) (fun t => Nil t ∨ Got K b a t) := by
  unfold fDecode.f
  refine Ans.bind (Q := fun v => v = true ∨ (0 ≤ a ∧ a < b.length)) (Ans.ite (fun _ => Ans.some (.inl rfl)) (fun h => Ans.some ?_)) (fun o ho => Ans.ite (fun _ => Ans.some (.inl (Nil.of _ (by decide)))) (fun hf => ?_))
  · by_cases h2 : (b.length : Int) ≤ a
    · exact .inl (decide_eq_true h2)
    · exact .inr ⟨by omega, by omega⟩
  have ho : 0 ≤ a ∧ a < b.length := by
    rcases ho with h | h
    · exact absurd h hf
    · exact h
  obtain ⟨p, rfl⟩ : ∃ p : Nat, a = (p : Int) := ⟨a.toNat, by omega⟩
  have w1 : IntKind.wrap .i64 ((p : Int) + 1) = ((p + 1 : Nat) : Int) := by rw [w64 (by omega) (by omega)]; omega
  have w4 : IntKind.wrap .i64 ((p : Int) + 4) = ((p + 4 : Nat) : Int) := by rw [w64 (by omega) (by omega)]; omega
  refine Ans.gd (by omega) (Ans.ite (fun _ => Ans.some (.inl (Nil.of _ (by decide)))) (fun h167 => ?_))
  simp only [w1, w4, Int.toNat_natCast, List.take_length]
  refine Ans.gd (by omega) (Ans.bind (fLength.ans (b.drop (p + 1)) (hb.drop _) (by simp; omega) K (by omega)) (fun t13 h13 => Ans.ite (fun h => Ans.some (.inl (Nil.of _ h))) (fun h0 => ?_)))
  obtain ⟨_, n, en, hn, hbv, hdig⟩ : t13.2 = 0 ∧ ∃ n : Nat, t13.1 = (n : Int) ∧ n < 2097152 ∧ n = bv ((b.drop (p + 1)).take 3) ∧ ∀ j : Nat, j < 3 → j < (b.drop (p + 1)).length ∧ rd (b.drop (p + 1)) (j : Int) < 128 := by
    rcases h13 with h | h
    · exact absurd h h0
    · exact h
  have w5 : IntKind.wrap .i64 (((p + 4 : Nat) : Int) + (n : Int)) = ((p + 4 + n : Nat) : Int) := by rw [w64 (by omega) (by omega)]; omega
  have w9 : IntKind.wrap .i64 (((p + 4 + n : Nat) : Int) + 5) = ((p + 9 + n : Nat) : Int) := by rw [w64 (by omega) (by omega)]; omega
  have wl : IntKind.wrap .i64 (IntKind.wrap .i64 (4 + (n : Int)) + 5) = ((n + 9 : Nat) : Int) := by
    rw [w64 (n := 4 + (n : Int)) (by omega) (by omega), w64 (by omega) (by omega)]; omega
  simp only [en, w5, w9, wl, Int.toNat_natCast]
  refine Ans.ite (fun _ => Ans.some (.inl (Nil.of _ (by decide)))) (fun hlen => Ans.gd (by omega) ?_)
  have hsl : ((b.take (p + 4 + n)).drop (p + 4)).length = n := by simp; omega
  have hsb : Byt ((b.take (p + 4 + n)).drop (p + 4)) := (hb.take _).drop _
  obtain ⟨r, hr1, hr2⟩ := Next.eq ((b.take (p + 4 + n)).drop (p + 4)) 0 hsb (by omega)
  refine Ans.bind (Q := fun v => v = r) ⟨r, hr1, rfl⟩ (fun v hv => Ans.ite (fun _ => Ans.some (.inl (Nil.of _ (by decide)))) (fun hnext => ?_))
  subst hv
  refine Ans.gd (by omega) ?_
  obtain ⟨u, hu1, hu2⟩ := Number.eq ((b.take (p + 9 + n)).drop (p + 4 + n)) 5 ((hb.take _).drop _) K (by omega)
  refine Ans.bind (Q := fun v => v = u) ⟨u, hu1, rfl⟩ (fun v hv => ?_)
  subst hv
  obtain ⟨d, hd⟩ : ∃ d, d = (b.take (p + 4 + n)).drop (p + 1) := ⟨_, rfl⟩
  rw [← hd]
  have hsum : Sum.f K [d] = some (((goOn 0#32 d).toNat : Nat) : Int) := by
    have := Sum.eq [d] K (by omega) (fun q hq => by
      rw [List.mem_singleton] at hq; subst hq; rw [hd]
      exact ⟨(hb.take _).drop _, by simp; omega, by simp; omega⟩) (by simp) (by simp; omega)
    rw [this]; simp [iv]
  have hlt := (goOn 0#32 d).isLt
  refine Ans.bind (Q := fun o => o.2 = true ∨ (o.1 = (b.take (p + 4 + n)).drop (p + 4) ∧ v.2 = 0 ∧ v.1 = ((goOn 0#32 d).toNat : Nat))) (Ans.ite (fun _ => Ans.some (.inl rfl)) (fun h5 => Ans.gd (by omega) (Ans.bind (Q := fun q => q = (((goOn 0#32 d).toNat : Nat) : Int)) ⟨_, hsum, rfl⟩ (fun q hq => Ans.some ?_)))) (fun o31 h31 => Ans.ite (fun _ => Ans.some (.inl (Nil.of _ (by decide)))) (fun h44 => ?_))
  · subst hq
    rw [wu64 _ (by omega)]
    by_cases h : v.1 = (((goOn 0#32 d).toNat : Nat) : Int)
    · exact .inr ⟨rfl, by omega, h⟩
    · exact .inl (decide_eq_true h)
  obtain ⟨e31, hv2, hv1⟩ : o31.1 = (b.take (p + 4 + n)).drop (p + 4) ∧ v.2 = 0 ∧ v.1 = ((goOn 0#32 d).toNat : Nat) := by
    rcases h31 with h | h
    · exact absurd h h44
    · exact h
  rw [e31]
  have hq5 : ((b.take (p + 9 + n)).drop (p + 4 + n)).length = 5 := by simp; omega
  have hd5 : (b.take (p + 9 + n)).drop (p + 4 + n) = dig 5 (goOn 0#32 d).toNat := by
    rcases hu2 with ⟨_, h, _⟩ | ⟨m, hm5, _, _, ⟨_, h, _⟩ | ⟨_, _, h, _⟩ | ⟨_, h1, _, h⟩⟩
    · omega
    · omega
    · omega
    · obtain rfl : m = 5 := by omega
      rw [List.take_of_length_le (by omega)] at h h1
      have hbv5 : bv ((b.take (p + 9 + n)).drop (p + 4 + n)) = (goOn 0#32 d).toNat := by omega
      have := dig_bv ((b.take (p + 9 + n)).drop (p + 4 + n)) (fun x hx => ⟨((hb.take _).drop _ x hx).1, h x hx⟩)
      rw [hq5, hbv5] at this
      exact this.symm
  have h3l : ((b.drop (p + 1)).take 3).length = 3 := by simp; omega
  have hd3 : (b.take (p + 4)).drop (p + 1) = dig 3 n := by
    have h : ∀ x ∈ (b.drop (p + 1)).take 3, x < 128 := by
      refine all_lt (fun j hj => ?_)
      rw [rd_take _ 3 j (by simp; omega) (by omega)]
      exact (hdig j (by omega)).2
    have := dig_bv ((b.drop (p + 1)).take 3) (fun x hx => ⟨((hb.drop _).take _ x hx).1, h x hx⟩)
    rw [h3l, ← hbv, take_drop3 b _ _ (by omega), show p + 1 + 3 = p + 4 by omega] at this
    exact this.symm
  have hdd : d = dig 3 n ++ (b.take (p + 4 + n)).drop (p + 4) := by
    rw [hd, cut3 b (p + 1) (p + 4) (p + 4 + n) (by omega) (by omega), hd3]
  have hall : (b.take (p + 9 + n)).drop p = (([167] ++ dig 3 n) ++ (b.take (p + 4 + n)).drop (p + 4)) ++ dig 5 (goOn 0#32 d).toNat := by
    rw [cut3 b p (p + 4 + n) (p + 9 + n) (by omega) (by omega), hd5, cut3 b p (p + 1) (p + 4 + n) (by omega) (by omega), ← hd, hdd]
    have e1 : (b.take (p + 1)).drop p = [167] := by
      rw [← take_drop3 b p 1 (by omega), drop_cons b p (by omega), show rd b (p : Int) = 167 by omega]; rfl
    rw [e1]; simp
  cases ho2 : opn ((b.take (p + 4 + n)).drop (p + 4)) 0 with
  | inr e =>
    obtain ⟨r2, h1, h2, h3, _⟩ := Open.inr hsb (by omega) K (by omega) ho2
    refine Ans.bind (Q := fun q => q = r2) ⟨r2, h1, rfl⟩ (fun q hq => ?_)
    subst hq
    refine Ans.ite (fun _ => Ans.some (.inl (Nil.of _ (by decide)))) (fun hz => ?_)
    refine Ans.bind (parse.rel K (by omega) q.1 (by rw [h2]; exact Byt.nil) (by rw [h2]; simp)) (fun t51 h51 => Ans.ite (fun hok => ?_) (fun _ => Ans.some (.inl (Nil.of _ (by decide)))))
    exact absurd h2 (h51 hok).1
  | inl body =>
    obtain ⟨r2, h1, h2, h3, _⟩ := Open.inl hsb (by omega) K (by omega) ho2
    obtain ⟨o1, o2⟩ := opn_only _ _ _ hsb ho2
    have hbb := opn_byt hsb ho2
    refine Ans.bind (Q := fun q => q = r2) ⟨r2, h1, rfl⟩ (fun q hq => ?_)
    subst hq
    refine Ans.ite (fun _ => Ans.some (.inl (Nil.of _ (by decide)))) (fun hz => ?_)
    rw [h2]
    refine Ans.bind ((parse.rel K (by omega) body hbb (by omega)).and (parse.wf K (by omega) body hbb (by omega))) (fun t51 h51 => Ans.ite (fun hok => ?_) (fun _ => Ans.some (.inl (Nil.of _ (by decide)))))
    obtain ⟨hne, hbody⟩ := h51.1 hok
    have hn1 : 1 ≤ n := by
      cases body with
      | nil => exact absurd rfl hne
      | cons x y => rw [List.length_cons] at o2; omega
    refine Ans.some (.inr ⟨rfl, p, n, rfl, hn1, hn, by omega, rfl, ?_, h51.2⟩)
    rw [hall]
    exact frame.enc K (by omega) _ body ((b.take (p + 4 + n)).drop (p + 4)) (dig 3 n) (dig 5 (goOn 0#32 d).toNat) hbb hbody o1 hsb (by omega) (by rw [hsl]) (by rw [← hdd])
theorem Pure.FrameOnce : ∀ (a0 : List Int) (a1 : Int), (∀ x ∈ a0, (Lit.int .u8 x).wf = true) → a0.length * 1 ≤ 140737488351232 → (Lit.int .i64 a1).wf = true → ∃ K, FrameOnce.f K a0 a1 = some true := by
  intro b a1 hb hl h1
  have hb := Byt.of hb
  refine ⟨b.length + 2097300, ?_⟩
  generalize hK : b.length + 2097300 = K
  have key : Ans (FrameOnce.f K b a1) (fun r => r = true) := by
    unfold FrameOnce.f
    refine Ans.bind (Q := fun v => v = true) ⟨true, known.eq K (by omega), rfl⟩ (fun t1 ht1 => ?_)
    subst ht1
    refine Ans.bind (fDecode.rel b hb (by omega) a1 K (by omega)) (fun t3 h3 => ?_)
    rcases h3 with ⟨e, he, rfl⟩ | ⟨h0, p, n, rfl, hn1, hn, hp, el, henc, _⟩
    · refine Ans.ite (fun _ => ?_) (fun h => absurd he h)
      exact Ans.ite (fun _ => Ans.ite (fun _ => Ans.some (decide_eq_true ⟨rfl, ⟨rfl, rfl, rfl, rfl, trivial⟩, ⟨rfl, rfl, rfl, rfl, rfl, trivial⟩, ⟨rfl, ⟨rfl, rfl, rfl, trivial⟩, trivial⟩, trivial⟩)) (fun h => absurd rfl h)) (fun h => absurd rfl h)
    · refine Ans.ite (fun h => absurd h0 h) (fun _ => ?_)
      refine Ans.bind (Q := fun q => q = ((b.take (p + 9 + n)).drop p, 0)) ⟨_, henc, rfl⟩ (fun q hq => ?_)
      subst hq
      rw [el]
      have wa : IntKind.wrap .i64 ((p : Int) + ((n + 9 : Nat) : Int)) = ((p + 9 + n : Nat) : Int) := by rw [w64 (by omega) (by omega)]; omega
      rw [wa]
      refine Ans.bind (Q := fun o => o = false) (Ans.ite (fun h => absurd rfl h) (fun _ => Ans.ite (fun h => by omega) (fun _ => Ans.ite (fun h => by omega) (fun _ => Ans.some ?_)))) (fun o ho => Ans.ite (fun h => by rw [ho] at h; cases h) (fun _ => ?_))
      · rw [w64 (by omega) (by omega)]
        exact decide_eq_false (by omega)
      · refine Ans.gd (by omega) ?_
        rw [Int.toNat_natCast, Int.toNat_natCast]
        have hs := same.eq ((b.take (p + 9 + n)).drop p) ((b.take (p + 9 + n)).drop p) (by simp; omega) K (by simp; omega)
        refine Ans.bind (Q := fun q => q = true) ⟨_, hs, by simp⟩ (fun q hq => Ans.ite (fun _ => Ans.some hq) (fun h => absurd rfl h))
  obtain ⟨r, h, hr⟩ := key
  rw [h, hr]
end Go.Proofs.Ytakolnamobkkkaa
