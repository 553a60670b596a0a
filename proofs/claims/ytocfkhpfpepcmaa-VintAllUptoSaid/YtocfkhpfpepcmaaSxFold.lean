/- Own text. Ranges over functions, read as plain functions: a fold that may be given up. -/
import Derived.Test.YtocfkhpfpepcmaaSxPure
import Derived.Test.YtocfkhpfpepcmaaSxIter
set_option linter.unusedSimpArgs false
set_option linter.unusedVariables false
namespace Go.Sx
open Go Go.RowKit
def foldE {S E X : Type} (step : S → X → Option (S ⊕ E)) : S → List X → Option (S ⊕ E)
  | s, [] => some (.inl s)
  | s, x :: r => (step s x).bind fun o => ysel o (fun s' => foldE step s' r) (fun e => some (.inr e))
theorem foldE_cons {S E X : Type} {step : S → X → Option (S ⊕ E)} {s s' : S} {x : X} {r : List X} (h : step s x = some (.inl s')) : foldE step s (x :: r) = foldE step s' r := by
  rw [foldE, h]; rfl
theorem foldE_stop {S E X : Type} {step : S → X → Option (S ⊕ E)} {s : S} {e : E} {x : X} {r : List X} (h : step s x = some (.inr e)) : foldE step s (x :: r) = some (.inr e) := by
  rw [foldE, h]; rfl
theorem foldE_app {S E X : Type} {step : S → X → Option (S ⊕ E)} : ∀ {l r : List X} {s s' : S}, foldE step s l = some (.inl s') → foldE step s (l ++ r) = foldE step s' r
  | [], r, s, s', h => by cases h; rfl
  | x :: l, r, s, s', h => by
    rw [foldE] at h
    cases hs : step s x with
    | none => rw [hs] at h; cases h
    | some o =>
      rw [hs] at h
      cases o with
      | inl s1 => rw [List.cons_append, foldE_cons hs]; exact foldE_app h
      | inr e => cases h
/-- A fold whose state goes by a known way, and that is given up at the m-th step, if it comes so far. -/
theorem foldE_walk {S E X : Type} (step : S → X → Option (S ⊕ E)) (L : List X) (st : Nat → S) (m : Nat) (ex : E) (hm : 0 < m)
    (hstep : ∀ n (h : n < L.length), n < m → step (st n) L[n] = some (if n + 1 = m then .inr ex else .inl (st (n + 1)))) :
    foldE step (st 0) L = some (if m ≤ L.length then .inr ex else .inl (st L.length)) := by
  have key : ∀ (d n : Nat), n + d = L.length → n < m → foldE step (st n) (L.drop n) = some (if m ≤ L.length then .inr ex else .inl (st L.length)) := by
    intro d
    induction d with
    | zero =>
      intro n hn hlt
      rw [List.drop_of_length_le (by omega), if_neg (by omega), foldE]
      have : n = L.length := by omega
      rw [this]
    | succ d ih =>
      intro n hn hlt
      have hnl : n < L.length := by omega
      rw [List.drop_eq_getElem_cons hnl]
      have h := hstep n hnl hlt
      by_cases e : n + 1 = m
      · rw [if_pos e] at h
        rw [foldE_stop h, if_pos (by omega)]
      · rw [if_neg e] at h
        rw [foldE_cons h]
        exact ih (n + 1) (by omega) (by omega)
  have := key L.length 0 (by omega) hm
  rwa [List.drop_zero] at this
/-- One that goes to its end. -/
theorem foldE_all {S E X : Type} (step : S → X → Option (S ⊕ E)) (L : List X) (st : Nat → S) (hstep : ∀ n (h : n < L.length), step (st n) L[n] = some (.inl (st (n + 1)))) :
    foldE step (st 0) L = some (.inl (st L.length)) := by
  cases L with
  | nil => rfl
  | cons x r =>
    have h0 := hstep 0 (by simp)
    have key : ∀ (d n : Nat), n + d = (x :: r).length → foldE step (st n) ((x :: r).drop n) = some (.inl (st (x :: r).length)) := by
      intro d
      induction d with
      | zero =>
        intro n hn
        rw [List.drop_of_length_le (by omega), foldE]
        have : n = (x :: r).length := by omega
        rw [this]
      | succ d ih =>
        intro n hn
        have hnl : n < (x :: r).length := by omega
        rw [List.drop_eq_getElem_cons hnl, foldE_cons (hstep n hnl)]
        exact ih (n + 1) (by omega)
    have := key _ 0 (Nat.zero_add _)
    rwa [List.drop_zero] at this
end Go.Sx
