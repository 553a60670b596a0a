/- Own text. What is laid behind clean bytes is cut as by itself; what is clean stays; the plain parts of the laws ScanJoined and ScanClean. Conditions: bytes of bounded number. -/
import Derived.Test.YtkblnahoidbfkaaPureQ
import Derived.Test.YtkblnahoidbfkaaLift7
import Derived.Test.YtkblnahoidbfkaaLift9
set_option linter.unusedSimpArgs false
set_option linter.unusedVariables false
set_option maxRecDepth 100000
namespace Go.Proofs.Ytkblnahoidbfkaa
open Go Go.Sx

/-- Frames laid one behind the other. -/
def layF : Nat → List Fr → List Fr
  | _, [] => []
  | k, (_, n, f) :: l => (k, n, f) :: layF (k + n) l
def Fine (l : List Fr) : Prop := ∀ x ∈ l, Val x.2.2 ∧ x.2.1 = (frm x.2.2).length
theorem Frs.fine {b : List Int} {a : Nat} {l : List Fr} (h : Frs b a l) : Fine l := fun x hx => ⟨(h.mem x hx).2.1, (h.mem x hx).2.2.1⟩
theorem shift_lay (n : Nat) : ∀ (l : List Fr) (k : Nat), shf n (layF k l) = layF (n + k) l
  | [], k => rfl
  | (p, m, f) :: l, k => by
    rw [layF, layF, shf, List.map_cons]
    congr 1
    rw [← shf, shift_lay n l, Nat.add_assoc]
theorem shift_shift (n m : Nat) (l : List Fr) : shf n (shf m l) = shf (n + m) l := by
  unfold shf; rw [List.map_map]
  refine List.map_congr_left fun x _ => ?_
  simp [Nat.add_assoc]
theorem shift_app (n : Nat) (l r : List Fr) : shf n (l ++ r) = shf n l ++ shf n r := by unfold shf; rw [List.map_append]
theorem cln_cons (x : Fr) (l : List Fr) : cln (x :: l) = frm x.2.2 ++ cln l := rfl
/-- Clean bytes, and others behind them. -/
theorem Frs.lay : ∀ (la : List Fr), Fine la → ∀ {b : List Int} {lb : List Fr}, Frs b 0 lb → Frs (cln la ++ b) 0 (layF 0 la ++ shf (cln la).length lb)
  | [], _, b, lb, h => by
    have e : shf 0 lb = lb := by unfold shf; simp
    show Frs ([] ++ b) 0 ([] ++ shf 0 lb)
    rw [e]; exact h
  | (p, n, f) :: la, hf, b, lb, h => by
    have hx := hf _ List.mem_cons_self
    have hn : n = (frm f).length := hx.2
    have ih := Frs.lay la (fun x hx => hf x (List.mem_cons_of_mem _ hx)) h
    have h2 := Frs.front hx.1 ih
    rw [shift_app, shift_lay, shift_shift] at h2
    rw [cln_cons, List.append_assoc, List.length_append]
    rw [layF, List.cons_append, hn, Nat.zero_add]
    exact h2
theorem Frs.lay0 (la : List Fr) (h : Fine la) : Frs (cln la) 0 (layF 0 la) := by
  have := Frs.lay la h (b := []) (lb := []) (.nil fun p n f _ hf => by have := hf.le; simp at this; omega)
  have e : shf (cln la).length [] = [] := rfl
  rwa [e, List.append_nil, List.append_nil] at this
def ef (x : Fr) : T40_ := (false, (x.1 : Int), (x.2.1 : Int))
def up (k : Nat) (x : T40_) : T40_ := (x.1, x.2.1 + (k : Int), x.2.2)
theorem exts_lay (N : Nat) (L : List Fr) : ∀ (la : List Fr) (k : Nat), Fine la → exts N k (layF k la ++ L) = (layF k la).map ef ++ exts N (k + (cln la).length) L
  | [], k, _ => rfl
  | (p, n, f) :: la, k, h => by
    have hx : n = (frm f).length := (h _ List.mem_cons_self).2
    rw [layF, List.cons_append, exts, if_neg (by omega), List.nil_append, exts_lay N L la (k + n) (fun x hx => h x (List.mem_cons_of_mem _ hx)), cln_cons, List.length_append, List.map_cons]
    rw [← hx, List.cons_append, Nat.add_assoc]
    rfl
theorem exts_shift (N k : Nat) : ∀ (l : List Fr) (a : Nat), exts (k + N) (k + a) (shf k l) = (exts N a l).map (up k)
  | [], a => by
    show exts (k + N) (k + a) [] = _
    rw [exts, exts]
    by_cases h : a < N
    · rw [if_pos h, if_pos (by omega), show k + N - (k + a) = N - a by omega]
      simp [up]; omega
    · rw [if_neg h, if_neg (by omega)]; rfl
  | (p, n, f) :: l, a => by
    have ih := exts_shift N k l (p + n)
    show exts (k + N) (k + a) ((k + p, n, f) :: shf k l) = _
    rw [exts, exts, Nat.add_assoc k p n, ih, List.map_append, List.map_cons]
    by_cases h : a < p
    · rw [if_pos h, if_pos (by omega), show k + p - (k + a) = p - a by omega]
      simp [up]; omega
    · rw [if_neg h, if_neg (by omega)]
      simp [up]; omega
theorem ScanJoined.l1_eq (T : List T40_) (c : List Int) (hc : c.length ≤ 16777216) (hT : T.length ≤ 16777216) (hb : ∀ x ∈ T, 0 ≤ x.2.1 ∧ x.2.1 ≤ 16777216) : ∀ (n i : Nat) (out : List T40_), i + n = T.length → out.length + n ≤ 50331648 → ∀ k, n < k → ScanJoined.l1 T c k (out, (i : Int)) = some (out ++ (T.drop i).map (up c.length)) := by
  intro n
  induction n with
  | zero =>
    intro i out h ho k hk
    obtain ⟨k, rfl⟩ : ∃ m, k = m + 1 := ⟨k - 1, by omega⟩
    rw [ScanJoined.l1]; simp only
    rw [if_neg (by omega), List.drop_of_length_le (by omega)]; simp
  | succ n ih =>
    intro i out h ho k hk
    obtain ⟨k, rfl⟩ : ∃ m, k = m + 1 := ⟨k - 1, by omega⟩
    have hi : i < T.length := by omega
    have hd : T.drop i = rd T (i : Int) :: T.drop (i + 1) := by
      rw [List.drop_eq_getElem_cons hi]; congr 1; simp [rd, List.getD, List.getElem?_eq_getElem hi]
    have hm : rd T (i : Int) ∈ T := by
      have : rd T (i : Int) = T[i] := by simp [rd, List.getD, List.getElem?_eq_getElem hi]
      rw [this]; exact List.getElem_mem hi
    have hbx := hb _ hm
    rw [ScanJoined.l1]; simp only
    rw [if_pos (by omega), gd_pos (by omega), gd_pos (by omega), gd_pos (by simp; omega), w64 (n := (i : Int) + 1) (by omega) (by omega), show ((i : Int) + 1) = ((i + 1 : Nat) : Int) by omega, ih (i + 1) _ (by omega) (by simp; omega) k (by omega), hd, w64 (by omega) (by omega)]
    simp [up]
theorem sameExtents.l1_eq (T : List T40_) (hT : T.length ≤ 100000000) : ∀ (n i : Nat), i + n = T.length → ∀ k, n < k → sameExtents.l1 T T k (i : Int) = some (.inr ()) := by
  intro n
  induction n with
  | zero =>
    intro i h k hk
    obtain ⟨k, rfl⟩ : ∃ m, k = m + 1 := ⟨k - 1, by omega⟩
    rw [sameExtents.l1, if_neg (by omega)]
  | succ n ih =>
    intro i h k hk
    obtain ⟨k, rfl⟩ : ∃ m, k = m + 1 := ⟨k - 1, by omega⟩
    rw [sameExtents.l1, if_pos (by omega), gd_pos (by omega), gd_pos (by omega), gd_pos (by omega), gd_pos (by omega), if_pos ⟨rfl, rfl, rfl, trivial⟩, w64 (by omega) (by omega), show ((i : Int) + 1) = ((i + 1 : Nat) : Int) by omega]
    exact ih (i + 1) (by omega) k (by omega)
theorem sameExtents.self (T : List T40_) (hT : T.length ≤ 100000000) (K : Nat) (hK : T.length < K) : sameExtents.f K T T = some true := by
  unfold sameExtents.f
  rw [if_neg (by simp)]
  exact thn_of (sameExtents.l1_eq T hT T.length 0 (by omega) K hK) rfl
theorem exts_bd (N : Nat) : ∀ (l : List Fr) (a : Nat), a ≤ N → (∀ x ∈ l, x.1 + x.2.1 ≤ N) → ∀ x ∈ exts N a l, 0 ≤ x.2.1 ∧ x.2.1 ≤ (N : Int)
  | [], a, ha, _, x, hx => by
    rw [exts] at hx
    split at hx
    · rw [List.mem_singleton] at hx; subst hx; simp only; omega
    · cases hx
  | (p, n, f) :: l, a, ha, h, x, hx => by
    have h1 := h _ List.mem_cons_self
    simp only at h1
    rw [exts] at hx
    rcases List.mem_append.1 hx with hx | hx
    · split at hx
      · rw [List.mem_singleton] at hx; subst hx; simp only; omega
      · cases hx
    · rcases List.mem_cons.1 hx with rfl | hx
      · simp only; omega
      · exact exts_bd N l (p + n) h1 (fun y hy => h y (List.mem_cons_of_mem _ hy)) x hx
theorem Pure.ScanJoined : ∀ (a0 : List Int) (a1 : List Int), (∀ x ∈ a0, (Lit.int .u8 x).wf = true) → (∀ x ∈ a1, (Lit.int .u8 x).wf = true) → a0.length + a1.length ≤ 1048576 → ∃ K, ScanJoined.f K a0 a1 = some true := by
  intro a b ha hb hl
  have ha := Byt.of ha
  have hb := Byt.of hb
  refine ⟨40000000, ?_⟩
  generalize hK : 40000000 = K
  obtain ⟨la, h1⟩ := Frs.all a 0
  obtain ⟨lb, h2⟩ := Frs.all b 0
  have hlen1 := h1.len (Nat.zero_le _)
  have hlen2 := h2.len (Nat.zero_le _)
  have hcl := cln_len h1 (Nat.zero_le _)
  have hcb := cln_byt h1
  have hf := h1.fine
  have hlc := Frs.lay0 la hf
  have hlj := Frs.lay la hf h2
  have hel := exts_len b.length lb 0
  have e1 : exts (cln la).length 0 (layF 0 la) = (layF 0 la).map ef := by
    have := exts_lay (cln la).length [] la 0 hf
    rw [List.append_nil, Nat.zero_add] at this
    rw [this, exts, if_neg (by omega), List.append_nil]
  have e2 : exts ((cln la) ++ b).length 0 (layF 0 la ++ shf (cln la).length lb) = (layF 0 la).map ef ++ (exts b.length 0 lb).map (up (cln la).length) := by
    rw [exts_lay _ _ la 0 hf, Nat.zero_add, List.length_append]
    have := exts_shift b.length (cln la).length lb 0
    rw [Nat.add_zero] at this
    rw [this]
  have hll : (layF 0 la).length ≤ 1048576 := by have := hlc.len (Nat.zero_le _); omega
  unfold ScanJoined.f
  rw [sClean.eq ha (by omega) K (by omega) h1, Option.bind_some, gd_pos (by simp; omega), gd_pos (by simp; omega), List.nil_append, sExtents.eq hcb (by omega) K (by omega) hlc, Option.bind_some, sExtents.eq hb (by omega) K (by omega) h2, Option.bind_some, e1]
  have l1 := ScanJoined.l1_eq (exts b.length 0 lb) (cln la) (by omega) (by omega) (fun x hx => by have := exts_bd b.length lb 0 (Nat.zero_le _) (fun y hy => (h2.mem y hy).2.le.2.2) x hx; omega) (exts b.length 0 lb).length 0 ((layF 0 la).map ef) (by omega) (by simp; omega) K (by omega)
  rw [List.drop_zero] at l1
  refine bind_of l1 ?_
  rw [sExtents.eq (Byt.app.2 ⟨hcb, hb⟩) (by simp; omega) K (by simp; omega) hlj, Option.bind_some, e2, sameExtents.self _ (by simp; omega) K (by simp; omega), Option.bind_some, if_pos rfl, works.eq K (by omega)]
  rfl

/-! ### Clean bytes -/
abbrev T15 := Int × Int × Int × Int × ByteArray × ByteArray × Int × Int × Int × Int × ByteArray × Int × Int × Int × Int
def x15 (x : Fr) : T15 := ((x.1 : Int), x.2.2)
theorem foldE_map {S E X Y : Type} (step : S → Y → Option (S ⊕ E)) (g : X → Y) : ∀ (l : List X) (s : S), foldE (fun s x => step s (g x)) s l = foldE step s (l.map g)
  | [], s => rfl
  | x :: l, s => by
    rw [List.map_cons, foldE, foldE]
    congr 1
    funext o
    cases o with
    | inl s' => exact foldE_map step g l s'
    | inr e => rfl
theorem sFramesF.eq {S E : Type} (step : S → T15 → Option (S ⊕ E)) {b : List Int} (hb : Byt b) (hl : b.length ≤ 16777216) (K : Nat) (hK : b.length + 2097400 < K) {l : List Fr} (h : Frs b 0 l) (σ : S) : sFramesF.f K step σ b = foldE step σ (l.map x15) := by
  unfold sFramesF.f
  show (some ()).bind _ = _
  rw [Option.bind_some, sallF.eq _ hb hl K hK h]
  have id2 : ∀ (o : Option (S ⊕ E)), (o.bind fun o => ysel o (fun s => some (.inl s)) (fun e => some (.inr e))) = o := by
    intro o
    cases o with
    | none => rfl
    | some o => cases o <;> rfl
  rw [id2]
  have e : l.map x15 = (l.map x16).map (fun x => (x.2.2.2.2.2.2.2.2.2.2.2.2.2.2.1, x.1, x.2.1, x.2.2.1, x.2.2.2.1, x.2.2.2.2.1, x.2.2.2.2.2.1, x.2.2.2.2.2.2.1, x.2.2.2.2.2.2.2.1, x.2.2.2.2.2.2.2.2.1, x.2.2.2.2.2.2.2.2.2.1, x.2.2.2.2.2.2.2.2.2.2.1, x.2.2.2.2.2.2.2.2.2.2.2.1, x.2.2.2.2.2.2.2.2.2.2.2.2.1, x.2.2.2.2.2.2.2.2.2.2.2.2.2.1)) := by
    rw [List.map_map]; rfl
  have fm := foldE_map step (fun (x : T16) => ((x.2.2.2.2.2.2.2.2.2.2.2.2.2.2.1, x.1, x.2.1, x.2.2.1, x.2.2.2.1, x.2.2.2.2.1, x.2.2.2.2.2.1, x.2.2.2.2.2.2.1, x.2.2.2.2.2.2.2.1, x.2.2.2.2.2.2.2.2.1, x.2.2.2.2.2.2.2.2.2.1, x.2.2.2.2.2.2.2.2.2.2.1, x.2.2.2.2.2.2.2.2.2.2.2.1, x.2.2.2.2.2.2.2.2.2.2.2.2.1, x.2.2.2.2.2.2.2.2.2.2.2.2.2.1) : T15)) (l.map x16) σ
  rw [e, ← fm]
  congr 1
  funext s x
  exact id2 _
theorem cln_lay : ∀ (l : List Fr) (k : Nat), cln (layF k l) = cln l
  | [], k => rfl
  | (p, n, f) :: l, k => by rw [layF, cln_cons, cln_cons, cln_lay l]
theorem ScanClean.l1_eq (T : List T40_) (hT : T.length ≤ 16777216) (h : ∀ x ∈ T, x.1 = false) : ∀ (n i : Nat), i + n = T.length → ∀ k, n < k → ScanClean.l1 T k (i : Int) = some (.inr ()) := by
  intro n
  induction n with
  | zero =>
    intro i hi k hk
    obtain ⟨k, rfl⟩ : ∃ m, k = m + 1 := ⟨k - 1, by omega⟩
    rw [ScanClean.l1, if_neg (by omega)]
  | succ n ih =>
    intro i hi k hk
    obtain ⟨k, rfl⟩ : ∃ m, k = m + 1 := ⟨k - 1, by omega⟩
    have hlt : i < T.length := by omega
    have hm : rd T (i : Int) ∈ T := by
      have : rd T (i : Int) = T[i] := by simp [rd, List.getD, List.getElem?_eq_getElem hlt]
      rw [this]; exact List.getElem_mem hlt
    rw [ScanClean.l1, if_pos (by omega), gd_pos (by omega), gd_pos (by omega), if_neg (by rw [h _ hm]; simp), w64 (by omega) (by omega), show ((i : Int) + 1) = ((i + 1 : Nat) : Int) by omega]
    exact ih (i + 1) (by omega) k (by omega)
def fr (x : Fr) : T53_ := x.2.2
theorem fr_lay : ∀ (l : List Fr) (k : Nat), (layF k l).map fr = l.map fr
  | [], k => rfl
  | (p, n, f) :: l, k => by rw [layF, List.map_cons, List.map_cons, fr_lay l]; rfl
theorem Pure.ScanClean : ∀ (a0 : List Int), (∀ x ∈ a0, (Lit.int .u8 x).wf = true) → a0.length ≤ 1048576 → ∃ K, ScanClean.f K a0 = some true := by
  intro b hb hl
  have hb := Byt.of hb
  refine ⟨40000000, ?_⟩
  generalize hK : 40000000 = K
  obtain ⟨l, h⟩ := Frs.all b 0
  have hlen := h.len (Nat.zero_le _)
  have hcl := cln_len h (Nat.zero_le _)
  have hcb := cln_byt h
  have hf := h.fine
  have hlc := Frs.lay0 l hf
  have e1 : exts (cln l).length 0 (layF 0 l) = (layF 0 l).map ef := by
    have := exts_lay (cln l).length [] l 0 hf
    rw [List.append_nil, Nat.zero_add] at this
    rw [this, exts, if_neg (by omega), List.append_nil]
  have hll : (layF 0 l).length ≤ 1048576 := by have := hlc.len (Nat.zero_le _); omega
  have hl1 := ScanClean.l1_eq ((layF 0 l).map ef) (by simp; omega) (fun x hx => by obtain ⟨y, _, rfl⟩ := List.mem_map.1 hx; rfl) ((layF 0 l).map ef).length 0 (by omega) K (by simp; omega)
  have hl1 : ScanClean.l1 ((layF 0 l).map ef) K 0 = _ := hl1
  have fold1 : ∀ (st : List T53_ → T15 → Option (List T53_ ⊕ Empty)), (∀ s x, s.length ≤ 16777216 → st s x = some (.inl (s ++ [x.2]))) → ∀ (L : List Fr) (s : List T53_), s.length + L.length ≤ 16777216 → foldE st s (L.map x15) = some (.inl (s ++ L.map fr)) := by
    intro st hst L
    induction L with
    | nil => intro s _; simp [foldE]
    | cons x L ih =>
      intro s hs
      rw [List.length_cons] at hs
      rw [List.map_cons, foldE_cons (hst s (x15 x) (by omega)), ih _ (by simp; omega)]
      simp [x15, fr]
  have fold2 : ∀ (H : List T53_) (hH : H.length ≤ 16777216) (st : Int → T15 → Option (Int ⊕ Int)), (∀ (q : Nat) x, q < H.length → rd H (q : Int) = x.2 → st (q : Int) x = some (.inl ((q + 1 : Nat) : Int))) → ∀ (L : List Fr) (q : Nat), H.drop q = L.map fr → foldE st (q : Int) (L.map x15) = some (.inl ((q + L.length : Nat) : Int)) := by
    intro H hH st hst L
    induction L with
    | nil => intro q _; rfl
    | cons x L ih =>
      intro q hq
      rw [List.map_cons] at hq
      have hqlt : q < H.length := by
        rcases Nat.lt_or_ge q H.length with h1 | h1
        · exact h1
        · rw [List.drop_of_length_le h1] at hq; cases hq
      rw [List.drop_eq_getElem_cons hqlt] at hq
      obtain ⟨g1, g2⟩ := List.cons.inj hq
      have hr : rd H (q : Int) = (x15 x).2 := by
        have : rd H (q : Int) = H[q] := by simp [rd, List.getD, List.getElem?_eq_getElem hqlt]
        rw [this, g1]; rfl
      rw [List.map_cons, foldE_cons (hst q (x15 x) hqlt hr), ih (q + 1) g2, List.length_cons]
      congr 3; omega
  unfold ScanClean.f
  rw [sClean.eq hb (by omega) K (by omega) h, Option.bind_some, sClean.eq hcb (by omega) K (by omega) hlc, Option.bind_some, sExtents.eq hcb (by omega) K (by omega) hlc, Option.bind_some, e1, hl1, thn_inr, cln_lay]
  show (some ()).bind _ = _
  rw [Option.bind_some]
  show (some ()).bind _ = _
  rw [Option.bind_some, Option.bind_some, sFramesF.eq _ hb (by omega) K (by omega) h, fold1 _ (fun s x hs => by rw [gd_pos (by simp; omega)]) l [] (by simp; omega), Option.bind_some, List.nil_append]
  show ((sFramesF.f K _ 0 (cln l)).bind _) = _
  rw [sFramesF.eq _ hcb (by omega) K (by omega) hlc]
  have hfl : (l.map fr).length = l.length := by simp
  have h2 := fold2 (l.map fr) (by simp; omega)
  refine bind_of (h2 _ (fun q x hq hr => ?_) (layF 0 l) 0 (by rw [List.drop_zero, fr_lay])) ?_
  · rw [if_neg (by omega), gd_pos (by omega), gd_pos (by omega), hr, w64 (by omega) (by omega)]
    simp
  · have hlaylen : (layF 0 l).length = l.length := by
      have := congrArg List.length (fr_lay l 0)
      simpa using this
    show ((same.f K (cln l) (cln l)).bind _) = _
    have hs := same.eq (cln l) (cln l) (by omega) K (by omega)
    rw [hs, Option.bind_some, if_pos (by simp), if_pos (by rw [hlaylen, hfl]; simp), works.eq K (by omega)]
    rfl
end Go.Proofs.Ytkblnahoidbfkaa
