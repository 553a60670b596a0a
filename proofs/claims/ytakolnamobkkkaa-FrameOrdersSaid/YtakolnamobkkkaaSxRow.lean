/- Own text. From a row's input to what a walk wants: a slice of whole numbers is a list that can be read. -/
import Derived.Test.YtakolnamobkkkaaSxMore
import Derived.SizedLaws
import Derived.ChangeSlices
import Derived.OpenShut
namespace Go.Sx
open Go Go.ChangeShapes Go.WideShapes
theorem RdG.start {w : World} {A : Option Addr} {L : List Value} (h : Rd w A L) : RdG w.heap.size w [] A L := RdG.old h fun j u hu a ha => by
  obtain ⟨b, e, hc⟩ := h j u hu
  rw [ha] at e; cases e
  rcases Nat.lt_or_ge (a.add j).block w.heap.size with hl | hl
  · exact hl
  · have : w.heap[(a.add j).block]? = none := Array.getElem?_eq_none hl
    simp [World.cell?, this] at hc
/-- A row's slice of whole numbers: a list, its length within the row's reach. -/
theorem open_list {H : Type} {enc : TypeId × Value → H} {P : Program} {W : World} {base : Nat} {spare : Nat → Bool} {held : Bool} {t e : TypeId} {k : IntKind} {a : Option Addr} {len cap : Nat} {d : DataW H} {ps : List MemPlace} {ts : List TypeId} {ds : List (DataW H)} {j : Nat}
    (hsz : (DataW.weightsEach P ts ds).all (· ≤ reachBytes) = true) (ht : ts[j]? = some t) (hd : ds[j]? = some d) (hu : P.underlying t = some (.slice e)) (he : P.underlying e = some (.int k)) (hc : P.cellsOf e = 1) {bt : Nat} (hB : P.bytesOf e = bt)
    (h : DataW.Trod enc P W base spare held t (.slice a len cap) d ps) : ∃ xs : List Int, len = xs.length ∧ xs.length ≤ cap ∧ xs.length * bt ≤ 140737488351232 ∧ (∀ x ∈ xs, (Lit.int k x).wf = true) ∧ RdG W.heap.size W [] a (xs.map (Value.int k)) ∧ ((d = .nil ∧ xs = []) ∨ ∃ es sp, d = .slice es sp ∧ es.length = xs.length) := by
  obtain ⟨fuel, hf⟩ := h
  rcases open_ints hu he hc hf with ⟨hcs, _⟩ | ⟨x, l, c, zs, hcs, _, hl, _, hz, hx, hcell, hwf⟩
  · simp [Value.cells] at hcs
    obtain ⟨rfl, rfl, rfl⟩ := hcs
    exact ⟨[], rfl, Nat.le_refl _, by simp, by simp, RdG.none_, .inl ⟨by simp_all, rfl⟩⟩
  · simp [Value.cells] at hcs
    obtain ⟨rfl, rfl, rfl⟩ := hcs
    obtain ⟨hx, _⟩ := Prod.mk.inj hx
    subst hx
    have z := sized_slice hsz ht hd hu
    rw [hB] at z
    have hl2 : len ≤ zs.length := by
      rw [hz]
      split
      · exact hl
      · exact Nat.le_refl _
    have h1 : (lits (H := H) k (zs.take len)).length + (lits (H := H) k (zs.drop len)).length = zs.length := by
      simp [lits]
      omega
    rw [h1] at z
    have hlen : (zs.take len).length = len := by rw [List.length_take]; omega
    refine ⟨zs.take len, hlen.symm, by rw [hlen]; exact hl, by rw [hlen]; exact Nat.le_trans (Nat.mul_le_mul_right _ hl2) z, fun x hx => hwf x (List.mem_of_mem_take hx), RdG.start fun j u hu => ?_, .inr ⟨_, _, rfl, by simp [lits]⟩⟩
    have hj : j < len := by
      rcases Nat.lt_or_ge j len with h | h
      · exact h
      · rw [List.getElem?_eq_none (by simp; omega)] at hu; cases hu
    refine ⟨_, rfl, ?_⟩
    rw [hcell j (by omega)]
    rw [List.getElem?_map, List.getElem?_take, if_pos hj] at hu
    rw [List.getD_eq_getElem?_getD]
    cases hz : zs[j]? with
    | none => rw [hz] at hu; cases hu
    | some y => rw [hz] at hu; cases hu; rfl
end Go.Sx
