/- Own text. A frame whose escaped body has another sum, or another digit of the sum, is none. Conditions: bytes. -/
import Derived.Test.YtakolnamobkkkaaPureI
import Derived.Test.YtakolnamobkkkaaPureCB
set_option linter.unusedSimpArgs false
set_option linter.unusedVariables false
set_option maxRecDepth 100000
namespace Go.Proofs.Ytakolnamobkkkaa
open Go Go.Sx

theorem dig_inj (c n m : Nat) (hn : n < 128 ^ c) (hm : m < 128 ^ c) (h : dig c n = dig c m) : n = m := by
  have := congrArg bv h
  rwa [bv_dig, bv_dig, Nat.mod_eq_of_lt hn, Nat.mod_eq_of_lt hm] at this
theorem app_inj {a b c d : List Int} (h : a ++ b = c ++ d) (hl : a.length = c.length) : a = c ∧ b = d := List.append_inj h hl
/-- Bytes in a frame's shape, that are a frame: what they must be. -/
theorem shape_of (E D y : List Int) (n : Nat) (hE : E.length = n) (hn : n < 2097152) (hD : D.length = 5) {m : Nat} {g : D14} (h : FrAt ([167] ++ (dig 3 n ++ (E ++ (D ++ y)))) 0 m g) : esc (bdy g) = E ∧ D = dig 5 (sumOf E) ∧ m = n + 9 := by
  obtain ⟨hv, hm, hp, he⟩ := h
  have hle := frm_le hv
  rw [List.drop_zero, Nat.zero_add] at he
  have hfl := frm_len g
  have p3 : (128 : Nat) ^ 3 = 2097152 := by decide
  have hl3 := dig_len 3 n
  have hl3' := dig_len 3 (esc (bdy g)).length
  have e1 : [167] ++ (dig 3 n ++ (E ++ (D ++ y))) = frm g ++ ([167] ++ (dig 3 n ++ (E ++ (D ++ y)))).drop m := by
    have := (List.take_append_drop m ([167] ++ (dig 3 n ++ (E ++ (D ++ y))))).symm
    rwa [he] at this
  generalize ([167] ++ (dig 3 n ++ (E ++ (D ++ y)))).drop m = z at e1
  unfold frm frameOf at e1
  rw [List.append_assoc] at e1
  have e2 := (app_inj e1 rfl).2
  rw [List.append_assoc] at e2
  obtain ⟨e3, e4⟩ := app_inj e2 (by rw [hl3, hl3'])
  have en := dig_inj 3 _ _ (by omega) (by omega) e3
  rw [List.append_assoc] at e4
  obtain ⟨e5, e6⟩ := app_inj e4 (by omega)
  obtain ⟨e7, _⟩ := app_inj e6 (by rw [hD, dig_len])
  exact ⟨e5.symm, by rw [e7, e5], by omega⟩
theorem sumOf_lt (E : List Int) : sumOf E < 128 ^ 5 := by
  have := (goOn 0#32 (dig 3 E.length ++ E)).isLt
  have p5 : (128 : Nat) ^ 5 = 34359738368 := by decide
  show (goOn 0#32 (dig 3 E.length ++ E)).toNat < _
  omega
/-- The state ahead of a frame's escaped body. -/
def sof (n : Nat) : W := run (~~~0#32) (dig 3 n)
theorem sum_run (E F : List Int) (h : E.length = F.length) (hs : sumOf E = sumOf F) : run (sof E.length) E = run (sof E.length) F := by
  have h2 : goOn 0#32 (dig 3 E.length ++ E) = goOn 0#32 (dig 3 F.length ++ F) := BitVec.eq_of_toNat_eq hs
  unfold goOn at h2
  have h3 := BitVec.not_inj.1 h2
  rw [run_app, run_app, ← h] at h3
  exact h3
/-- The escaped body's bytes have been changed so that their sum is another one: no frame. -/
theorem hit_body (E E' : List Int) (h1 : E'.length = E.length) (hn : E.length < 2097152) (hr : run (sof E.length) E' ≠ run (sof E.length) E) (m : Nat) (g : D14) : ¬ FrAt ([167] ++ (dig 3 E.length ++ (E' ++ (dig 5 (sumOf E) ++ [])))) 0 m g := by
  intro h
  obtain ⟨e1, e2, _⟩ := shape_of E' _ [] E.length h1 hn (dig_len 5 _) h
  have := dig_inj 5 _ _ (sumOf_lt _) (sumOf_lt _) e2
  exact hr (sum_run E E' h1.symm this).symm
/-- A digit of the sum is another one: no frame. -/
theorem hit_digit (E D : List Int) (hn : E.length < 2097152) (hD : D.length = 5) (hne : D ≠ dig 5 (sumOf E)) (m : Nat) (g : D14) : ¬ FrAt ([167] ++ (dig 3 E.length ++ (E ++ (D ++ [])))) 0 m g := by
  intro h
  exact hne (shape_of E D [] E.length rfl hn hD h).2.1

/-! ### Bits turned, one by one -/
/-- The bytes behind some bits turned: Q says which, from bit a of the body on. -/
def Hit (E : List Int) (a i : Nat) (x : List Int) (Q : W) : Prop :=
  ∃ E', Byt E' ∧ E'.length = E.length ∧ x = [167] ++ (dig 3 E.length ++ (E' ++ (dig 5 (sumOf E) ++ []))) ∧ run (sof E.length) E' = run (sof E.length) E ^^^ steps (8 * E.length - a) Q ∧ (∀ j, i ≤ j → Q.getLsbD j = false) ∧ (Q = 0#32 → E' = E)
theorem Hit.start {E : List Int} (hE : Byt E) (a : Nat) : Hit E a 0 ([167] ++ (dig 3 E.length ++ (E ++ (dig 5 (sumOf E) ++ [])))) 0#32 :=
  ⟨E, hE, rfl, rfl, by rw [steps_zero, BitVec.xor_zero], fun j _ => by simp, fun _ => rfl⟩
theorem Hit.len {E : List Int} {a i : Nat} {x : List Int} {Q : W} (h : Hit E a i x Q) : x.length = E.length + 9 := by
  obtain ⟨E', _, h2, rfl, _⟩ := h
  simp [dig_len]; omega
theorem Hit.byt {E : List Int} {a i : Nat} {x : List Int} {Q : W} (h : Hit E a i x Q) : Byt x := by
  obtain ⟨E', h1, h2, rfl, _⟩ := h
  refine Byt.app.2 ⟨?_, Byt.app.2 ⟨dig_byt _ _, Byt.app.2 ⟨h1, Byt.app.2 ⟨dig_byt _ _, Byt.nil⟩⟩⟩⟩
  intro y hy; rw [List.mem_singleton] at hy; subst hy; decide
theorem Hit.skip {E : List Int} {a i : Nat} {x : List Int} {Q : W} (h : Hit E a i x Q) : Hit E a (i + 1) x Q := by
  obtain ⟨E', h1, h2, h3, h4, h5, h6⟩ := h
  exact ⟨E', h1, h2, h3, h4, fun j hj => h5 j (by omega), h6⟩
theorem set_mid (x y : List Int) (z : List Int) (j : Nat) (v : Int) (h : j < y.length) : (x ++ (y ++ z)).set (x.length + j) v = x ++ (y.set j v ++ z) := by
  rw [List.set_append_right _ _ (by omega), show x.length + j - x.length = j by omega, List.set_append_left _ _ h]
theorem rd_mid (x y z : List Int) (j : Nat) (h : j < y.length) : rd (x ++ (y ++ z)) ((x.length + j : Nat) : Int) = rd y (j : Int) := by
  simp only [rd, Int.toNat_natCast, List.getD_eq_getElem?_getD]
  rw [List.getElem?_append_right (by omega), show x.length + j - x.length = j by omega, List.getElem?_append_left h]
/-- Bit a + i of the body is turned. -/
theorem Hit.turn {E : List Int} {a i : Nat} {x : List Int} {Q : W} (h : Hit E a i x Q) (hi : i < 32) (ha : a + i < 8 * E.length) :
    Hit E a (i + 1) (x.set (4 + (a + i) / 8) (Sx.bits .xor .u8 (rd x ((4 + (a + i) / 8 : Nat) : Int)) (Sx.shl .u8 1 (((a + i) % 8 : Nat) : Int)))) (Q ^^^ (1#32 <<< i)) ∧ (Q ^^^ (1#32 <<< i)).getLsbD i = true := by
  obtain ⟨E', h1, h2, rfl, h4, h5, h6⟩ := h
  have hbit : (Q ^^^ (1#32 <<< i)).getLsbD i = true := by
    rw [BitVec.getLsbD_xor, h5 i (Nat.le_refl _), BitVec.getLsbD_shiftLeft]
    simp; omega
  refine ⟨⟨flip E' (a + i), flip_byt _ _ h1 (by omega), by rw [flip_len, h2], ?_, ?_, ?_, ?_⟩, hbit⟩
  · have hl : ([167] ++ dig 3 E.length).length = 4 := by simp [dig_len]
    have hj : (a + i) / 8 < E'.length := by omega
    have ea : ∀ X : List Int, [167] ++ (dig 3 E.length ++ X) = ([167] ++ dig 3 E.length) ++ X := fun X => (List.append_assoc _ _ _).symm
    rw [ea, ea]
    have e1 := set_mid ([167] ++ dig 3 E.length) E' (dig 5 (sumOf E) ++ []) ((a + i) / 8) (Sx.bits .xor .u8 (rd E' (((a + i) / 8 : Nat) : Int)) (Sx.shl .u8 1 (((a + i) % 8 : Nat) : Int))) hj
    have e2 := rd_mid ([167] ++ dig 3 E.length) E' (dig 5 (sumOf E) ++ []) ((a + i) / 8) hj
    rw [hl] at e1 e2
    rw [e2, e1]
    rfl
  · rw [run_flip E' _ _ h1 (by omega), h4, ← mix, h2]
    congr 1
    rw [show 8 * E.length - a = i + (8 * E.length - (a + i)) by omega, steps_add, steps_one i hi]
  · intro j hj
    rw [BitVec.getLsbD_xor, h5 j (by omega), BitVec.getLsbD_shiftLeft]
    simp; omega
  · intro h0
    rw [h0] at hbit
    simp at hbit
theorem Hit.no {E : List Int} {a i : Nat} {x : List Int} {Q : W} (h : Hit E a i x Q) (hn : E.length < 2097152) (hQ : Q ≠ 0#32) (m : Nat) (g : D14) : ¬ FrAt x 0 m g := by
  obtain ⟨E', h1, h2, rfl, h4, h5, h6⟩ := h
  refine hit_body E E' h2 hn (fun he => ?_) m g
  rw [h4] at he
  have := congrArg (fun z => run (sof E.length) E ^^^ z) he
  simp only [BitVec.xor_self, ← BitVec.xor_assoc, BitVec.zero_xor] at this
  exact hQ (steps_inj0 _ _ this)
theorem Hit.same {E : List Int} {a i : Nat} {x : List Int} (h : Hit E a i x 0#32) : x = [167] ++ (dig 3 E.length ++ (E ++ (dig 5 (sumOf E) ++ []))) := by
  obtain ⟨E', h1, h2, rfl, h4, h5, h6⟩ := h
  rw [h6 rfl]
theorem frm_eq (f : D14) : frm f = [167] ++ (dig 3 (esc (bdy f)).length ++ (esc (bdy f) ++ (dig 5 (sumOf (esc (bdy f))) ++ []))) := by
  unfold frm frameOf; rw [List.append_nil]
end Go.Proofs.Ytakolnamobkkkaa
