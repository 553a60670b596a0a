/- Own text, laid out of another seat. Conditions: as there. -/
import Derived.Test.YtakolnamobkkkaaPureVC
set_option linter.unusedSimpArgs false
set_option linter.unusedVariables false
set_option maxRecDepth 10000
namespace Go.Proofs.Ytakolnamobkkkaa
open Go Go.Sx
theorem DecR.zero {b : List Int} {t : Int × Int × Int} (h : DecR b t) (h0 : t.2.2 ≠ 0) : t.1 = 0 ∧ t.2.1 = 0 := by
  rcases h with ⟨a, b, _⟩ | ⟨a, b, _⟩ | ⟨j, _, _, _, _, ⟨a, b, _⟩ | ⟨a, b, _⟩ | ⟨_, _, e, _⟩⟩
  · exact ⟨a, b⟩
  · exact ⟨a, b⟩
  · exact ⟨a, b⟩
  · exact ⟨a, b⟩
  · exact absurd e h0
/-- What is told as a number is the front of the bytes, in its one writing. -/
theorem DecR.num {b : List Int} {t : Int × Int × Int} (hb : Byt b) (h : DecR b t) (h0 : t.2.2 = 0) : ∃ j : Nat, j < b.length ∧ j < 10 ∧ t.2.1 = ((j + 1 : Nat) : Int) ∧ t.1 = (val (b.take (j + 1)) : Nat) ∧ Can (b.take (j + 1)) ∧ val (b.take (j + 1)) < 18446744073709551616 := by
  rcases h with ⟨_, _, e, _⟩ | ⟨_, _, e, _⟩ | ⟨j, h1, h2, h3, h4, ⟨_, _, e, _⟩ | ⟨_, _, e, _⟩ | ⟨e1, e2, e3, e4, e5⟩⟩
  · omega
  · omega
  · omega
  · omega
  · refine ⟨j, h1, h2, e2, e1, ?_, val_fit b j hb h1 h2 e4⟩
    refine can_of (b.take (j + 1)) j (hb.take _) (by simp; omega) (fun i hi => ?_) ?_ ?_
    · rw [rd_take b _ i (by omega) (by omega)]; exact h4 i hi
    · rw [rd_take b _ j (by omega) (by omega)]; exact h3
    · rw [rd_take b _ j (by omega) (by omega)]; exact e5
end Go.Proofs.Ytakolnamobkkkaa
