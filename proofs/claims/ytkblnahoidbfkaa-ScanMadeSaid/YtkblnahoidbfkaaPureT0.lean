/- Own text. What is laid behind clean bytes is cut as by itself; what is clean stays. Conditions: bytes of bounded number. -/
import Derived.Test.YtkblnahoidbfkaaPureQ
set_option linter.unusedSimpArgs false
set_option linter.unusedVariables false
set_option maxRecDepth 100000
namespace Go.Proofs.Ytkblnahoidbfkaa
open Go Go.Sx

/-- Frames laid one behind the other. -/
def layF : Nat → List Fr → List Fr
  | _, [] => []
  | k, (_, n, f) :: l => (k, n, f) :: layF (k + n) l
def Fine (l : List Fr) : Prop := ∀ x ∈ l, Val x.2.2 ∧ x.2.1 = (frm x.2.2).length
theorem Frs.fine {b : List Int} {a : Nat} {l : List Fr} (h : Frs b a l) : Fine l := fun x hx => ⟨(h.mem x hx).2.1, (h.mem x hx).2.2.1⟩
theorem shift_lay (n : Nat) : ∀ (l : List Fr) (k : Nat), shf n (layF k l) = layF (n + k) l
  | [], k => rfl
  | (p, m, f) :: l, k => by
    rw [layF, layF, shf, List.map_cons]
    congr 1
    rw [← shf, shift_lay n l, Nat.add_assoc]
theorem shift_shift (n m : Nat) (l : List Fr) : shf n (shf m l) = shf (n + m) l := by
  unfold shf; rw [List.map_map]
  refine List.map_congr_left fun x _ => ?_
  simp [Nat.add_assoc]
theorem shift_app (n : Nat) (l r : List Fr) : shf n (l ++ r) = shf n l ++ shf n r := by unfold shf; rw [List.map_append]
theorem cln_cons (x : Fr) (l : List Fr) : cln (x :: l) = frm x.2.2 ++ cln l := rfl
/-- Clean bytes, and others behind them. -/
theorem Frs.lay : ∀ (la : List Fr), Fine la → ∀ {b : List Int} {lb : List Fr}, Frs b 0 lb → Frs (cln la ++ b) 0 (layF 0 la ++ shf (cln la).length lb)
  | [], _, b, lb, h => by
    have e : shf 0 lb = lb := by unfold shf; simp
    show Frs ([] ++ b) 0 ([] ++ shf 0 lb)
    rw [e]; exact h
  | (p, n, f) :: la, hf, b, lb, h => by
    have hx := hf _ List.mem_cons_self
    have hn : n = (frm f).length := hx.2
    have ih := Frs.lay la (fun x hx => hf x (List.mem_cons_of_mem _ hx)) h
    have h2 := Frs.front hx.1 ih
    rw [shift_app, shift_lay, shift_shift] at h2
    rw [cln_cons, List.append_assoc, List.length_append]
    rw [layF, List.cons_append, hn, Nat.zero_add]
    exact h2
theorem Frs.lay0 (la : List Fr) (h : Fine la) : Frs (cln la) 0 (layF 0 la) := by
  have := Frs.lay la h (b := []) (lb := []) (.nil fun p n f _ hf => by have := hf.le; simp at this; omega)
  have e : shf (cln la).length [] = [] := rfl
  rwa [e, List.append_nil, List.append_nil] at this
def ef (x : Fr) : T40_ := (false, (x.1 : Int), (x.2.1 : Int))
def up (k : Nat) (x : T40_) : T40_ := (x.1, x.2.1 + (k : Int), x.2.2)
theorem exts_lay (N : Nat) (L : List Fr) : ∀ (la : List Fr) (k : Nat), Fine la → exts N k (layF k la ++ L) = (layF k la).map ef ++ exts N (k + (cln la).length) L
  | [], k, _ => rfl
  | (p, n, f) :: la, k, h => by
    have hx : n = (frm f).length := (h _ List.mem_cons_self).2
    rw [layF, List.cons_append, exts, if_neg (by omega), List.nil_append, exts_lay N L la (k + n) (fun x hx => h x (List.mem_cons_of_mem _ hx)), cln_cons, List.length_append, List.map_cons]
    rw [← hx, List.cons_append, Nat.add_assoc]
    rfl
theorem exts_shift (N k : Nat) : ∀ (l : List Fr) (a : Nat), exts (k + N) (k + a) (shf k l) = (exts N a l).map (up k)
  | [], a => by
    show exts (k + N) (k + a) [] = _
    rw [exts, exts]
    by_cases h : a < N
    · rw [if_pos h, if_pos (by omega), show k + N - (k + a) = N - a by omega]
      simp [up]; omega
    · rw [if_neg h, if_neg (by omega)]; rfl
  | (p, n, f) :: l, a => by
    have ih := exts_shift N k l (p + n)
    show exts (k + N) (k + a) ((k + p, n, f) :: shf k l) = _
    rw [exts, exts, Nat.add_assoc k p n, ih, List.map_append, List.map_cons]
    by_cases h : a < p
    · rw [if_pos h, if_pos (by omega), show k + p - (k + a) = p - a by omega]
      simp [up]; omega
    · rw [if_neg h, if_neg (by omega)]
      simp [up]; omega
/-! ### Clean bytes -/
abbrev T15 := Int × Int × Int × Int × ByteArray × ByteArray × Int × Int × Int × Int × ByteArray × Int × Int × Int × Int
def x15 (x : Fr) : T15 := ((x.1 : Int), x.2.2)
theorem foldE_map {S E X Y : Type} (step : S → Y → Option (S ⊕ E)) (g : X → Y) : ∀ (l : List X) (s : S), foldE (fun s x => step s (g x)) s l = foldE step s (l.map g)
  | [], s => rfl
  | x :: l, s => by
    rw [List.map_cons, foldE, foldE]
    congr 1
    funext o
    cases o with
    | inl s' => exact foldE_map step g l s'
    | inr e => rfl
theorem sFramesF.eq {S E : Type} (step : S → T15 → Option (S ⊕ E)) {b : List Int} (hb : Byt b) (hl : b.length ≤ 16777216) (K : Nat) (hK : b.length + 2097400 < K) {l : List Fr} (h : Frs b 0 l) (σ : S) : sFramesF.f K step σ b = foldE step σ (l.map x15) := by
  unfold sFramesF.f
  show (some ()).bind _ = _
  rw [Option.bind_some, sallF.eq _ hb hl K hK h]
  have id2 : ∀ (o : Option (S ⊕ E)), (o.bind fun o => ysel o (fun s => some (.inl s)) (fun e => some (.inr e))) = o := by
    intro o
    cases o with
    | none => rfl
    | some o => cases o <;> rfl
  rw [id2]
  have e : l.map x15 = (l.map x16).map (fun x => (x.2.2.2.2.2.2.2.2.2.2.2.2.2.2.1, x.1, x.2.1, x.2.2.1, x.2.2.2.1, x.2.2.2.2.1, x.2.2.2.2.2.1, x.2.2.2.2.2.2.1, x.2.2.2.2.2.2.2.1, x.2.2.2.2.2.2.2.2.1, x.2.2.2.2.2.2.2.2.2.1, x.2.2.2.2.2.2.2.2.2.2.1, x.2.2.2.2.2.2.2.2.2.2.2.1, x.2.2.2.2.2.2.2.2.2.2.2.2.1, x.2.2.2.2.2.2.2.2.2.2.2.2.2.1)) := by
    rw [List.map_map]; rfl
  have fm := foldE_map step (fun (x : T16) => ((x.2.2.2.2.2.2.2.2.2.2.2.2.2.2.1, x.1, x.2.1, x.2.2.1, x.2.2.2.1, x.2.2.2.2.1, x.2.2.2.2.2.1, x.2.2.2.2.2.2.1, x.2.2.2.2.2.2.2.1, x.2.2.2.2.2.2.2.2.1, x.2.2.2.2.2.2.2.2.2.1, x.2.2.2.2.2.2.2.2.2.2.1, x.2.2.2.2.2.2.2.2.2.2.2.1, x.2.2.2.2.2.2.2.2.2.2.2.2.1, x.2.2.2.2.2.2.2.2.2.2.2.2.2.1) : T15)) (l.map x16) σ
  rw [e, ← fm]
  congr 1
  funext s x
  exact id2 _
theorem cln_lay : ∀ (l : List Fr) (k : Nat), cln (layF k l) = cln l
  | [], k => rfl
  | (p, n, f) :: l, k => by rw [layF, cln_cons, cln_cons, cln_lay l]
def fr (x : Fr) : D14 := x.2.2
theorem fr_lay : ∀ (l : List Fr) (k : Nat), (layF k l).map fr = l.map fr
  | [], k => rfl
  | (p, n, f) :: l, k => by rw [layF, List.map_cons, List.map_cons, fr_lay l]; rfl
/-- Bytes without the lead byte hold no frame's beginning. -/
theorem Frs.lower {b : List Int} {a a' : Nat} {l : List Fr} (h : Frs b a l) (ha : a' ≤ a) (hn : ∀ q m g, a' ≤ q → q < a → ¬ FrAt b q m g) : Frs b a' l := by
  cases h with
  | nil h1 =>
    refine .nil fun p n f hp hf => ?_
    by_cases c : p < a
    · exact hn p n f hp c hf
    · exact h1 p n f (by omega) hf
  | cons h1 h2 h3 h4 =>
    refine .cons (by omega) h2 (fun q m g hq hlt => ?_) h4
    by_cases c : q < a
    · exact hn q m g hq c
    · exact h3 q m g (by omega) hlt
theorem Frs.junk {j b : List Int} {l : List Fr} (hj : (167 : Int) ∉ j) (h : Frs b 0 l) : Frs (j ++ b) 0 (shf j.length l) := by
  have h1 := h.shift (x := j)
  rw [Nat.add_zero] at h1
  refine h1.lower (Nat.zero_le _) (fun q m g _ hq hg => ?_)
  have h2 := hg.lead.1
  rw [rd_app_left _ _ _ hq] at h2
  exact hj (h2 ▸ rd_mem j q hq)
end Go.Proofs.Ytkblnahoidbfkaa
