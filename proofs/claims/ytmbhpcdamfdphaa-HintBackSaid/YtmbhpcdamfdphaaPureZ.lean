/- Own text. Fingerprints, checks, pointers of frames end to end. Conditions: bytes of bounded number. -/
import Derived.Test.YtmbhpcdamfdphaaPureY
set_option linter.unusedSimpArgs false
set_option linter.unusedVariables false
set_option maxRecDepth 100000
namespace Go.Proofs.Ytmbhpcdamfdphaa
open Go Go.Sx

theorem known.at (n : Nat) : known.f (n + 300) = some true := by kernel_rfl
theorem known.eq (K : Nat) (hK : 300 ≤ K) : known.f K = some true := by
  have := known.at (K - 300)
  rwa [show K - 300 + 300 = K by omega] at this
theorem sPrint.eq {b : List Int} (hb : Byt b) (hl : b.length ≤ 140737488351232) (K : Nat) (hK : b.length + 2097400 < K) {l : List Fr} (h : Frs b 0 l) : sPrint.f K b = some ((b.length : Int), (l.length : Int), crcV b) := by
  have hlen := h.len (Nat.zero_le _)
  unfold sPrint.f
  rw [Sum.one hb (by omega) K (by omega), Option.bind_some]
  show (some ()).bind _ = _
  rw [Option.bind_some, sFramesF.eq _ hb hl K hK h]
  have fold : ∀ (L : List Fr) (q : Nat), q + L.length ≤ 140737488351232 → foldE (E := Empty) (fun (i20 : Int) (_ : T15) => some (.inl (IntKind.wrap .i64 (i20 + 1)))) (q : Int) (L.map x15) = some (.inl ((q + L.length : Nat) : Int)) := by
    intro L
    induction L with
    | nil => intro q _; rfl
    | cons x L ih =>
      intro q hq
      rw [List.length_cons] at hq
      rw [List.map_cons, foldE_cons (s' := ((q + 1 : Nat) : Int)) (by rw [w64 (by omega) (by omega)]; rfl), ih (q + 1) (by omega), List.length_cons]
      congr 3; omega
  refine bind_of (fold l 0 (by omega)) ?_
  simp [ysel]
theorem hCheck.rel {b : List Int} (hb : Byt b) (hl : b.length ≤ 140737488355328) (K : Nat) (hK : b.length + 2097300 < K) (x : T44_) : Ans (hCheck.f K b x.1 x.2.1 x.2.2.1 x.2.2.2.1 x.2.2.2.2) (fun r => r = true → ∃ y : Fr, FrAt b y.1 y.2.1 y.2.2 ∧ Rec y.2.2 ∧ ptr y = x) := by
  unfold hCheck.f
  refine Ans.bind (fDecode.spec K b hb (by omega) hK x.2.2.1) (fun t ht => ?_)
  rcases ht with ⟨p, n, f, hp, hF, rfl⟩ | ⟨e, he, rfl, _⟩
  · rw [if_pos (d16_e f n 0), isRecordH.eq, Option.bind_some]
    refine Ans.ite (fun hr => ?_) (fun _ => Ans.some (fun h => by cases h))
    refine Ans.ite (fun h1 => ?_) (fun _ => Ans.some (fun h => by cases h))
    refine Ans.ite (fun h2 => ?_) (fun _ => Ans.some (fun h => by cases h))
    refine Ans.ite (fun h3 => ?_) (fun _ => Ans.some (fun h => by cases h))
    refine Ans.some (fun h4 => ⟨(p, n, f), hF, (by have := of_decide_eq_true hr; exact this), ?_⟩)
    replace h4 := of_decide_eq_true h4
    obtain ⟨l, k, a, m, s⟩ := x
    simp only at hp h1 h2 h3 h4
    subst hp
    show (f.2.1, f.2.2.1, (p : Int), (n : Int), f.2.2.2.1) = _
    have h1 : (n : Int) = m := h1
    have h2 : f.2.1 = l := h2
    have h3 : f.2.2.1 = k := h3
    have h4 : f.2.2.2.1 = s := h4
    rw [h1, h2, h3, h4]
  · rw [if_neg (by rw [d16_e]; exact he)]
    exact Ans.some (fun h => by cases h)
theorem hCheck.ok {b : List Int} (hb : Byt b) (hl : b.length ≤ 16777216) (K : Nat) (hK : b.length + 2097300 < K) {p n : Nat} {f : D14} (hF : FrAt b p n f) (hr : Rec f) : hCheck.f K b (ptr (p, n, f)).1 (ptr (p, n, f)).2.1 (ptr (p, n, f)).2.2.1 (ptr (p, n, f)).2.2.2.1 (ptr (p, n, f)).2.2.2.2 = some true := by
  show hCheck.f K b f.2.1 f.2.2.1 (p : Int) (n : Int) f.2.2.2.1 = _
  unfold hCheck.f
  rw [fDecode.at K b hb (by omega) hK hF, Option.bind_some, if_pos (d16_e f n 0), isRecordH.eq, Option.bind_some, if_pos (decide_eq_true (show (d16 f (n : Int) 0).1 = 1 ∨ (d16 f (n : Int) 0).1 = 2 from hr)), if_pos (by rfl), if_pos (by rfl), if_pos (by rfl)]
  simp [d16]
theorem Tl.ch {b : List Int} : ∀ (l : List Fr) (a : Nat), Tl b a l → Ch (a : Int) (l.map ptr) ∧ chE (a : Int) (l.map ptr) = (b.length : Int)
  | [], a, h => ⟨trivial, by have h : a = b.length := h; show (a : Int) = _; omega⟩
  | x :: l, a, h => by
    have ih := Tl.ch l _ h.2.2.2
    have e : ((a + x.2.1 : Nat) : Int) = (a : Int) + (ptr x).2.2.2.1 := by show _ = (a : Int) + (x.2.1 : Int); omega
    rw [e] at ih
    exact ⟨⟨by show (x.1 : Int) = _; rw [h.1], ih.1⟩, ih.2⟩
theorem Tl.of {b : List Int} : ∀ (l : List Fr) (a : Nat), (∀ x ∈ l, FrAt b x.1 x.2.1 x.2.2 ∧ Rec x.2.2) → Ch (a : Int) (l.map ptr) → chE (a : Int) (l.map ptr) = (b.length : Int) → Tl b a l
  | [], a, _, _, h => by have h : (a : Int) = (b.length : Int) := h; show a = b.length; omega
  | x :: l, a, h1, h2, h3 => by
    have e : ((a + x.2.1 : Nat) : Int) = (a : Int) + (ptr x).2.2.2.1 := by show _ = (a : Int) + (x.2.1 : Int); omega
    have hx := h1 x List.mem_cons_self
    have ea : x.1 = a := by have : (x.1 : Int) = (a : Int) := h2.1; omega
    refine ⟨ea, by rw [← ea]; exact hx.1, hx.2, Tl.of l _ (fun y hy => h1 y (List.mem_cons_of_mem _ hy)) (by rw [e]; exact h2.2) (by rw [e]; exact h3)⟩
theorem Tl.mem {b : List Int} : ∀ (l : List Fr) (a : Nat), Tl b a l → ∀ x ∈ l, FrAt b x.1 x.2.1 x.2.2 ∧ Rec x.2.2
  | x :: l, a, h, y, hy => by
    rcases List.mem_cons.1 hy with rfl | hy
    · exact ⟨by rw [h.1]; exact h.2.1, h.2.2.1⟩
    · exact Tl.mem l _ h.2.2.2 y hy
theorem Tl.vp {b : List Int} {l : List Fr} (h : Tl b 0 l) (hl : b.length ≤ 4194304) : ∀ x ∈ l.map ptr, Vp x := by
  intro x hx
  obtain ⟨y, hy, rfl⟩ := List.mem_map.1 hx
  have h1 := h.mem _ _ y hy
  have := h1.1.le
  exact val_hint h1.1.1 h1.2 y.1 y.2.1 (by omega) (by omega) (by omega)
theorem frs_of {b : List Int} : ∀ (ps : List T44_), (∀ x ∈ ps, ∃ y : Fr, FrAt b y.1 y.2.1 y.2.2 ∧ Rec y.2.2 ∧ ptr y = x) → ∃ l : List Fr, l.map ptr = ps ∧ ∀ y ∈ l, FrAt b y.1 y.2.1 y.2.2 ∧ Rec y.2.2
  | [], _ => ⟨[], rfl, by simp⟩
  | x :: ps, h => by
    obtain ⟨y, h1, h2, h3⟩ := h x List.mem_cons_self
    obtain ⟨l, h4, h5⟩ := frs_of ps fun z hz => h z (List.mem_cons_of_mem _ hz)
    refine ⟨y :: l, by rw [List.map_cons, h3, h4], fun z hz => ?_⟩
    rcases List.mem_cons.1 hz with rfl | hz
    · exact ⟨h1, h2⟩
    · exact h5 z hz
theorem rd_memT {α : Type} [Inhabited α] (L : List α) (i : Nat) (h : i < L.length) : rd L (i : Int) ∈ L := by
  have : rd L (i : Int) = L[i] := by simp [rd, List.getD, List.getElem?_eq_getElem h]
  rw [this]; exact List.getElem_mem h
theorem drop_rdT {α : Type} [Inhabited α] {L r : List α} {x : α} {i : Nat} (h : L.drop i = x :: r) : i < L.length ∧ rd L (i : Int) = x ∧ L.drop (i + 1) = r := by
  have hi : i < L.length := by
    rcases Nat.lt_or_ge i L.length with h1 | h1
    · exact h1
    · rw [List.drop_of_length_le h1] at h; cases h
  rw [List.drop_eq_getElem_cons hi] at h
  obtain ⟨h1, h2⟩ := List.cons.inj h
  exact ⟨hi, by rw [← h1]; simp [rd, List.getD, List.getElem?_eq_getElem hi], h2⟩
theorem samePointers.l1_eq (T : List T44_) (hT : T.length ≤ 1000000000) : ∀ (n i : Nat), i + n = T.length → ∀ k, n < k → samePointers.l1 T T k (i : Int) = some (.inr ()) := by
  intro n
  induction n with
  | zero =>
    intro i h k hk
    obtain ⟨k, rfl⟩ : ∃ m, k = m + 1 := ⟨k - 1, by omega⟩
    rw [samePointers.l1, if_neg (by omega)]
  | succ n ih =>
    intro i h k hk
    obtain ⟨k, rfl⟩ : ∃ m, k = m + 1 := ⟨k - 1, by omega⟩
    rw [samePointers.l1, if_pos (by omega), gd_pos (by omega), gd_pos (by omega), gd_pos (by omega), gd_pos (by omega), if_pos (by simp), w64 (by omega) (by omega), show ((i : Int) + 1) = ((i + 1 : Nat) : Int) by omega]
    exact ih (i + 1) (by omega) k (by omega)
theorem samePointers.self (T : List T44_) (hT : T.length ≤ 1000000000) (K : Nat) (hK : T.length < K) : samePointers.f K T T = some true := by
  unfold samePointers.f
  rw [if_neg (by simp)]
  exact thn_of (samePointers.l1_eq T hT T.length 0 (by omega) K hK) rfl
theorem ch_app (x : T44_) : ∀ (ps : List T44_) (a : Int), Ch a ps → x.2.2.1 = chE a ps → Ch a (ps ++ [x])
  | [], a, _, h => ⟨h, trivial⟩
  | y :: ps, a, h, e => ⟨h.1, ch_app x ps _ h.2 e⟩
theorem chE_app (x : T44_) : ∀ (ps : List T44_) (a : Int), chE a (ps ++ [x]) = chE a ps + x.2.2.2.1
  | [], a => rfl
  | y :: ps, a => chE_app x ps _
theorem chE_le : ∀ (ps : List T44_) (a : Int), (∀ x ∈ ps, Vp x) → a ≤ chE a ps
  | [], a, _ => Int.le_refl a
  | y :: ps, a, h => by
    have h1 := (h y List.mem_cons_self).of
    have h2 := chE_le ps (a + y.2.2.2.1) fun x hx => h x (List.mem_cons_of_mem _ hx)
    show a ≤ chE (a + y.2.2.2.1) ps
    omega
theorem hs_app (ps : List T44_) (x : T44_) : hs (ps ++ [x]) = hs ps ++ frm (hp x) := by simp [hs]
end Go.Proofs.Ytmbhpcdamfdphaa
