/- Own text. From a row's input to what a walk wants: a struct of whole numbers, bools and strings, its cells one by one. -/
import Derived.Test.YtakolnamobkkkaaSxRow
namespace Go.Sx
open Go Go.ChangeShapes Go.WideShapes
/-- A struct's cells, each of its type. -/
def CellsOk (P : Program) (w : World) (r : Reach) (base : Nat) : List TypeId → List Value → Prop
  | [], l => l = []
  | u :: us, l => ∃ v l', l = v :: l' ∧ Cell.okWide P w r base u v ∧ CellsOk P w r base us l'
theorem cellsOk_of {P : Program} {w : World} {r : Reach} {base : Nat} : ∀ (us : List TypeId) (l : List Value), l.length = us.length → (∀ (i : Nat) (v : Value), l[i]? = some v → ∃ u, us[i]? = some u ∧ Cell.okWide P w r base u v) → CellsOk P w r base us l
  | [], l, h, _ => List.eq_nil_of_length_eq_zero h
  | u :: us, [], h, _ => by simp at h
  | u :: us, v :: l, h, hc => by
    refine ⟨v, l, rfl, ?_, cellsOk_of us l (by simpa using h) (fun i x hx => ?_)⟩
    · obtain ⟨u', e, hu⟩ := hc 0 v rfl
      cases e; exact hu
    · obtain ⟨u', e, hu⟩ := hc (i + 1) x (by simpa using hx)
      exact ⟨u', by simpa using e, hu⟩
theorem open_struct {P : Program} {w : World} {r : Reach} {base : Nat} {t : TypeId} {fs : Array Field} {ts : List TypeId} {v : Value} (ht : P.underlying t = some (.struct fs)) (hts : P.cellTypes P.depth t = some ts) (hn : P.cellsOf t = ts.length) (h : Value.okWide P w r base t v) : ∃ cs : List Value, v = .agg cs.toArray ∧ CellsOk P w r base ts cs := by
  simp only [Value.okWide, ht] at h
  obtain ⟨cs, rfl, h2, ts', e, _, h4⟩ := h
  rw [hts] at e
  cases e
  refine ⟨cs.toList, by simp, cellsOk_of ts cs.toList (by simp; omega) (fun i x hx => ?_)⟩
  have hx' : cs[i]? = some x := by simpa using hx
  have hi : i < cs.size := by
    rcases Nat.lt_or_ge i cs.size with h | h
    · exact h
    · rw [Array.getElem?_eq_none h] at hx'; cases hx'
  obtain ⟨u, e1, e2⟩ := h4 i x hx'
  rw [Nat.mod_eq_of_lt (by omega)] at e1
  exact ⟨u, e1, e2⟩
theorem cell_int {P : Program} {w : World} {r : Reach} {base : Nat} {u : TypeId} {k : IntKind} {v : Value} (hu : P.underlying u = some (.int k)) (h : Cell.okWide P w r base u v) : ∃ n, v = .int k n ∧ (Lit.int k n).wf = true := by
  cases v <;> simp [Cell.okWide, Cell.ok, hu] at h
  obtain ⟨rfl, h⟩ := h
  exact ⟨_, rfl, by simpa [Lit.wf] using (show _ ≤ _ ∧ _ ≤ _ from h)⟩
theorem cell_string {P : Program} {w : World} {r : Reach} {base : Nat} {u : TypeId} {v : Value} (hu : P.underlying u = some .string) (h : Cell.okWide P w r base u v) : ∃ s : ByteArray, v = .string s ∧ s.size ≤ 9223372036854775807 := by
  cases v <;> simp [Cell.okWide, Cell.ok, hu] at h
  refine ⟨_, rfl, ?_⟩
  have e : IntKind.i64.max = 9223372036854775807 := by decide
  omega
theorem cell_bool {P : Program} {w : World} {r : Reach} {base : Nat} {u : TypeId} {v : Value} (hu : P.underlying u = some .bool) (h : Cell.okWide P w r base u v) : ∃ b : Bool, v = .bool b := by
  cases v <;> simp [Cell.okWide, Cell.ok, hu] at h
  exact ⟨_, rfl⟩
end Go.Sx
