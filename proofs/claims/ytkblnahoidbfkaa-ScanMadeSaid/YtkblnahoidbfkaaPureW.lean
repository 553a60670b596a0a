/- Own text. What was written is found, whatever junk lies between; the plain part of the law ScanMade. Conditions: whole numbers in their types' bounds, bytes, bounded bulk. -/
import Derived.Test.YtkblnahoidbfkaaPureT0
import Derived.Test.YtkblnahoidbfkaaLift11
set_option linter.unusedSimpArgs false
set_option linter.unusedVariables false
set_option maxRecDepth 100000
namespace Go.Proofs.Ytkblnahoidbfkaa
open Go Go.Sx

theorem rd_memT {α : Type} [Inhabited α] (L : List α) (i : Nat) (h : i < L.length) : rd L (i : Int) ∈ L := by
  have : rd L (i : Int) = L[i] := by simp [rd, List.getD, List.getElem?_eq_getElem h]
  rw [this]; exact List.getElem_mem h
/-- The frame of a record. -/
def recR (t : T44_) : D14 := (t.2.1, t.1, t.2.1, t.2.2.1, t.2.2.2, 0, 0, 0, 0, E0, 0, 0, 0, 0)
/-- Pieces: junk, and a frame behind it. -/
abbrev Pm := List Int × D14
def mt (P : List Pm) : List Int := P.flatMap fun x => x.1 ++ frm x.2
def mk : Nat → List Pm → List Fr
  | _, [] => []
  | k, (j, f) :: r => (k + j.length, (frm f).length, f) :: mk (k + j.length + (frm f).length) r
def Gm (x : Pm) : Prop := (167 : Int) ∉ x.1 ∧ Byt x.1 ∧ (x.2.1 = 1 ∨ x.2.1 = 2) ∧ Val x.2
theorem mk_shf (n : Nat) : ∀ (P : List Pm) (k : Nat), shf n (mk k P) = mk (n + k) P
  | [], k => rfl
  | (j, t) :: r, k => by
    rw [mk, mk, shf, List.map_cons, ← shf, mk_shf n r]
    simp only [Nat.add_assoc]
theorem Frs.made {tail : List Int} (ht : (167 : Int) ∉ tail) : ∀ (P : List Pm), (∀ x ∈ P, Gm x) → Frs (mt P ++ tail) 0 (mk 0 P)
  | [], _ => by
    refine .nil fun p n f _ hf => ?_
    have h1 := hf.lead.1
    have h2 := hf.le
    have e : mt [] ++ tail = tail := rfl
    rw [e] at h1 h2
    exact ht (h1 ▸ rd_mem tail p (by omega))
  | (j, t) :: r, h => by
    have hx := h _ List.mem_cons_self
    have ih := Frs.made ht r (fun x hx => h x (List.mem_cons_of_mem _ hx))
    have h2 := Frs.junk hx.1 (Frs.front hx.2.2.2 ih)
    have e : mt ((j, t) :: r) ++ tail = j ++ (frm t ++ (mt r ++ tail)) := by simp [mt]
    rw [e, mk, Nat.zero_add]
    rw [mk_shf, shf, List.map_cons, ← shf, mk_shf] at h2
    simpa [Nat.add_comm, Nat.add_left_comm, Nat.add_assoc] using h2
theorem mt_app (P : List Pm) (x : Pm) : mt (P ++ [x]) = mt P ++ (x.1 ++ frm x.2) := by simp [mt]
theorem mk_app : ∀ (P : List Pm) (x : Pm) (k : Nat), mk k (P ++ [x]) = mk k P ++ [(k + (mt P).length + x.1.length, (frm x.2).length, x.2)]
  | [], x, k => by obtain ⟨j, t⟩ := x; simp [mk, mt]
  | (j, t) :: r, x, k => by
    rw [List.cons_append, mk, mk_app r x, mk]
    have e : (mt ((j, t) :: r)).length = j.length + (frm t).length + (mt r).length := by simp [mt]; omega
    rw [e, List.cons_append]
    congr 4; omega
theorem mk_len : ∀ (P : List Pm) (k : Nat), (mk k P).length = P.length
  | [], _ => rfl
  | (j, t) :: r, k => by rw [mk, List.length_cons, mk_len r, List.length_cons]
theorem mk_fr : ∀ (P : List Pm) (k : Nat), ∀ x ∈ mk k P, ∃ y ∈ P, x.2.2 = y.2
  | [], _, x, h => by cases h
  | (j, t) :: r, k, x, h => by
    rw [mk] at h
    rcases List.mem_cons.1 h with rfl | h
    · exact ⟨_, List.mem_cons_self, rfl⟩
    · obtain ⟨y, hy, e⟩ := mk_fr r _ x h
      exact ⟨y, List.mem_cons_of_mem _ hy, e⟩
theorem mt_byt (P : List Pm) (h : ∀ x ∈ P, Gm x) : Byt (mt P) := by
  intro y hy
  obtain ⟨x, hx, hxy⟩ := List.mem_flatMap.1 hy
  have := h x hx
  rcases List.mem_append.1 hxy with h1 | h1
  · exact this.2.1 y h1
  · exact frm_byt this.2.2.2 y h1
theorem mt_ge : ∀ (P : List Pm), (∀ x ∈ P, Gm x) → 10 * P.length ≤ (mt P).length
  | [], _ => by simp
  | x :: P, h => by
    have h1 := frm_le (h x List.mem_cons_self).2.2.2
    have h2 := mt_ge P fun y hy => h y (List.mem_cons_of_mem _ hy)
    have e : (mt (x :: P)).length = x.1.length + (frm x.2).length + (mt P).length := by simp [mt]; omega
    rw [e, List.length_cons]; omega
/-- What was laid so far: pieces, and junk behind them; what is wanted. -/
def Lm (n : Nat) (o : List Int × List T80_) : Prop := ∃ P tail, o = (mt P ++ tail, (mk 0 P).map x16) ∧ (167 : Int) ∉ tail ∧ Byt tail ∧ (∀ x ∈ P, Gm x) ∧ P.length ≤ n ∧ (mt P ++ tail).length ≤ 1006009

theorem contains2 (K : Nat) (hK : 5 < K) (k : Int) (h : k = 1 ∨ k = 2) : contains.f K [1, 2] k = some true := by
  obtain ⟨n, rfl⟩ : ∃ n, K = n + 5 := ⟨K - 5, by omega⟩
  rcases h with rfl | rfl <;> rfl
theorem sRecords.made {b : List Int} (hb : Byt b) (hl : b.length ≤ 16777216) (K : Nat) (hK : b.length + 2097400 < K) {l : List Fr} (h : Frs b 0 l) (hk : ∀ x ∈ l, x.2.2.1 = 1 ∨ x.2.2.1 = 2) : sRecords.f K b [] = some (l.map x16) := by
  unfold sRecords.f
  rw [if_pos (by rfl), Option.bind_some]
  show (some ()).bind _ = _
  rw [Option.bind_some, sallF.eq _ hb hl K hK h]
  have hlen := h.len (Nat.zero_le _)
  have fold : ∀ (st : List T80_ → T16 → Option (List T80_ ⊕ Empty)), (∀ s x, s.length ≤ 16777216 → (x.1 = 1 ∨ x.1 = 2) → st s x = some (.inl (s ++ [x]))) → ∀ (L : List Fr), (∀ x ∈ L, x.2.2.1 = 1 ∨ x.2.2.1 = 2) → ∀ (s : List T80_), s.length + L.length ≤ 16777216 → foldE st s (L.map x16) = some (.inl (s ++ L.map x16)) := by
    intro st hst L
    induction L with
    | nil => intro _ s _; simp [foldE]
    | cons x L ih =>
      intro hx s hs
      rw [List.length_cons] at hs
      rw [List.map_cons, foldE_cons (hst s (x16 x) (by omega) (hx x List.mem_cons_self)), ih (fun y hy => hx y (List.mem_cons_of_mem _ hy)) _ (by simp; omega)]
      simp
  rw [fold _ (fun s x hs hx => ?_) l hk [] (by simp; omega), List.nil_append]
  · rfl
  · rw [contains2 K (by omega) _ hx, Option.bind_some, if_pos rfl, gd_pos (by simp; omega)]
theorem ScanMade.l2_rel (st : List Int × List T80_ × Int) (J : List (List Int)) (q : Nat) (hq : st.2.2 = (q : Int)) (hqJ : q < J.length) (hJ : Byt (rd J (q : Int))) (hJl : (rd J (q : Int)).length ≤ 140737488351232) : ∀ (n i : Nat) (out y : List Int), i + n = (rd J (q : Int)).length → (out ++ y).length ≤ 1000000 → (167 : Int) ∉ y → Byt y → ∀ k, n < k → Ans (ScanMade.l2 st J k (out ++ y, (i : Int))) (fun r => ∃ y', r = out ++ y' ∧ (167 : Int) ∉ y' ∧ Byt y' ∧ r.length ≤ 1000000) := by
  intro n
  induction n with
  | zero =>
    intro i out y h1 h2 h3 h4 k hk
    obtain ⟨k, rfl⟩ : ∃ m, k = m + 1 := ⟨k - 1, by omega⟩
    rw [ScanMade.l2]; simp only
    rw [hq, gd_pos (by omega), if_neg (by omega), Option.bind_some]
    exact Ans.ite (fun h => by cases h) (fun _ => Ans.some ⟨y, rfl, h3, h4, h2⟩)
  | succ n ih =>
    intro i out y h1 h2 h3 h4 k hk
    obtain ⟨k, rfl⟩ : ∃ m, k = m + 1 := ⟨k - 1, by omega⟩
    rw [ScanMade.l2]; simp only
    rw [hq, gd_pos (by omega), if_pos (by omega), Option.bind_some]
    refine Ans.ite (fun h => ?_) (fun _ => Ans.some ⟨y, rfl, h3, h4, h2⟩)
    have h := of_decide_eq_true h
    have hm := rd_mem (rd J (q : Int)) i (by omega)
    have wi : IntKind.wrap .i64 ((i : Int) + 1) = ((i + 1 : Nat) : Int) := by rw [w64 (by omega) (by omega)]; omega
    rw [gd_pos (by omega), gd_pos (by omega), wi]
    by_cases c : rd (rd J (q : Int)) (i : Int) = 167
    · rw [if_neg (by simp [c]), Option.bind_some]
      exact ih (i + 1) out y (by omega) h2 h3 h4 k (by omega)
    · rw [if_pos c, gd_pos (by omega), gd_pos (by omega), gd_pos (by simp at h ⊢; omega), Option.bind_some, List.append_assoc]
      refine ih (i + 1) out (y ++ [rd (rd J (q : Int)) (i : Int)]) (by omega) (by simp at h ⊢; omega) (fun hh => ?_) (Byt.app.2 ⟨h4, fun z hz => by rw [List.mem_singleton] at hz; subst hz; exact hJ _ hm⟩) k (by omega)
      rcases List.mem_append.1 hh with hh | hh
      · exact h3 hh
      · rw [List.mem_singleton] at hh; exact c hh.symm
def WfR (x : T44_) : Prop := (Lit.int .u64 x.1).wf = true ∧ (Lit.int .i64 x.2.1).wf = true
theorem recR.kind {t : T44_} (h : Val (recR t)) : t.2.1 = 1 ∨ t.2.1 = 2 := by
  rcases h.2 with ⟨l, k, v, e, _⟩ | ⟨l, k, e, _⟩ | ⟨l, d, a, n, k, e, _⟩ | ⟨c, b, r, s, e, _⟩
  · exact .inl (congrArg (·.1) e)
  · exact .inr (congrArg (·.1) e)
  · have h1 : t.2.1 = 3 := congrArg (·.1) e
    have h2 : t.2.1 = 0 := congrArg (·.2.2.1) e
    omega
  · have h1 : t.2.1 = 4 := congrArg (·.1) e
    have h2 : t.2.1 = 0 := congrArg (·.2.2.1) e
    omega
theorem ScanMade.l1_rel (K : Nat) (hK : 1000000000000000 ≤ K) (L : List T44_) (hL : L.length ≤ 10000000000000) (hw : ∀ x ∈ L, WfR x) (J : List (List Int)) (hJ : ∀ j ∈ J, Byt j) (hJl : ∀ j ∈ J, j.length ≤ 140737488351232) : ∀ (m i : Nat) (b : List Int) (W : List T80_), i + m = L.length → Lm i (b, W) → ∀ k, m < k →
    Ans (ScanMade.l1 K L J k (b, W, (i : Int))) (Lm L.length) := by
  intro m
  induction m with
  | zero =>
    intro i b W h1 h2 k hk
    obtain ⟨k, rfl⟩ : ∃ q, k = q + 1 := ⟨k - 1, by omega⟩
    rw [ScanMade.l1]; simp only
    rw [if_neg (by omega), Option.bind_some]
    refine Ans.ite (fun h => by cases h) (fun _ => Ans.some ?_)
    obtain ⟨P, tail, e, q1, q2, q3, q4, q5⟩ := h2
    exact ⟨P, tail, e, q1, q2, q3, by omega, q5⟩
  | succ m ih =>
    intro i b W h1 h2 k hk
    obtain ⟨k, rfl⟩ : ∃ q, k = q + 1 := ⟨k - 1, by omega⟩
    rw [ScanMade.l1]; simp only
    rw [if_pos (by omega), Option.bind_some]
    obtain ⟨P, tail, e, q1, q2, q3, q4, q5⟩ := h2
    obtain ⟨rfl, rfl⟩ := Prod.mk.inj e
    refine Ans.ite (fun h => ?_) (fun _ => Ans.some ⟨P, tail, rfl, q1, q2, q3, by omega, q5⟩)
    have hlt := of_decide_eq_true h
    have wi : IntKind.wrap .i64 ((i : Int) + 1) = ((i + 1 : Nat) : Int) := by rw [w64 (by omega) (by omega)]; omega
    have hplen : ((mk 0 P).map x16).length = P.length := by rw [List.length_map, mk_len]
    have hge := mt_ge P q3
    have hlt2 := hlt
    rw [List.length_append] at hlt2
    refine Ans.bind (Q := fun o => Lm (i + 1) o) ?_ (fun o ho => ?_)
    · refine Ans.bind (Q := fun o => ∃ y, o = mt P ++ y ∧ (167 : Int) ∉ y ∧ Byt y ∧ o.length ≤ 1000000) (Ans.ite (fun hi => Ans.bind (Q := fun o => ∃ y, o = mt P ++ y ∧ (167 : Int) ∉ y ∧ Byt y ∧ o.length ≤ 1000000) ?_ (fun o ho => Ans.some ho)) (fun hi => Ans.some ⟨tail, rfl, q1, q2, by omega⟩)) (fun o ho => ?_)
      · have hi : i < J.length := by omega
        have hm := rd_memT J i hi
        exact ScanMade.l2_rel _ J i rfl hi (hJ _ hm) (by have := hJl _ hm; omega) (rd J (i : Int)).length 0 (mt P) tail (by omega) (by omega) q1 q2 K (by have := hJl _ hm; omega)
      · obtain ⟨y, rfl, g1, g2, g3⟩ := ho
        rw [gd_pos (by omega), gd_pos (by omega)]
        have hm := rd_memT L i (by omega)
        have hwr := hw _ hm
        obtain ⟨t, ht⟩ : ∃ t, t = rd L (i : Int) := ⟨_, rfl⟩
        rw [← ht] at hwr ⊢
        show Ans ((some (recR t)).bind _) _
        rw [Option.bind_some]
        have hW : Wf (recR t) := ⟨wfu64 hwr.1, ⟨Int.le_refl 0, by show (0 : Int) < 18446744073709551616; decide⟩, ⟨Int.le_refl 0, by show (0 : Int) < 4294967296; decide⟩⟩
        rcases encE.spec K (by omega) (recR t) hW with ⟨hv, he⟩ | ⟨hv, e, he0, he⟩
        · have he : fEncode.f K (recR t).1 (recR t).2.1 (recR t).2.2.1 (recR t).2.2.2.1 (recR t).2.2.2.2.1 (recR t).2.2.2.2.2.1 (recR t).2.2.2.2.2.2.1 (recR t).2.2.2.2.2.2.2.1 (recR t).2.2.2.2.2.2.2.2.1 (recR t).2.2.2.2.2.2.2.2.2.1 (recR t).2.2.2.2.2.2.2.2.2.2.1 (recR t).2.2.2.2.2.2.2.2.2.2.2.1 (recR t).2.2.2.2.2.2.2.2.2.2.2.2.1 (recR t).2.2.2.2.2.2.2.2.2.2.2.2.2 = _ := he
          have hfl := frm_le hv
          rw [he, Option.bind_some, if_neg (by simp), gd_pos (by rw [List.length_append, hplen]; simp; omega), gd_pos (by simp only; omega)]
          refine Ans.some ⟨P ++ [(y, recR t)], [], ?_, by simp, Byt.nil, ?_, by simp; omega, ?_⟩
          · rw [mt_app, mk_app, List.append_nil, List.map_append, List.append_assoc]
            have e : (0 + (mt P).length + y.length : Nat) = (mt P ++ y).length := by rw [List.length_append, Nat.zero_add]
            simp only
            rw [e]
            rfl
          · intro x hx
            rcases List.mem_append.1 hx with hx | hx
            · exact q3 x hx
            · rw [List.mem_singleton] at hx; subst hx
              exact ⟨g1, g2, recR.kind hv, hv⟩
          · rw [mt_app, List.append_nil, ← List.append_assoc, List.length_append]; simp only; omega
        · have he : fEncode.f K (recR t).1 (recR t).2.1 (recR t).2.2.1 (recR t).2.2.2.1 (recR t).2.2.2.2.1 (recR t).2.2.2.2.2.1 (recR t).2.2.2.2.2.2.1 (recR t).2.2.2.2.2.2.2.1 (recR t).2.2.2.2.2.2.2.2.1 (recR t).2.2.2.2.2.2.2.2.2.1 (recR t).2.2.2.2.2.2.2.2.2.2.1 (recR t).2.2.2.2.2.2.2.2.2.2.2.1 (recR t).2.2.2.2.2.2.2.2.2.2.2.2.1 (recR t).2.2.2.2.2.2.2.2.2.2.2.2.2 = _ := he
          rw [he, Option.bind_some, if_pos he0]
          exact Ans.some ⟨P, y, rfl, g1, g2, q3, by omega, by omega⟩
    · obtain ⟨b', W'⟩ := o
      simp only
      rw [wi]
      exact ih (i + 1) b' W' (by omega) ho k (by omega)
theorem ScanMade.l3_eq (T : List T80_) (o : List Int × List T80_) (ho : o.2 = T) (hT : T.length ≤ 16777216) : ∀ (n i : Nat), i + n = T.length → ∀ k, n < k → ScanMade.l3 T o k (i : Int) = some (.inr ()) := by
  intro n
  induction n with
  | zero =>
    intro i h k hk
    obtain ⟨k, rfl⟩ : ∃ m, k = m + 1 := ⟨k - 1, by omega⟩
    rw [ScanMade.l3, if_neg (by omega)]
  | succ n ih =>
    intro i h k hk
    obtain ⟨k, rfl⟩ : ∃ m, k = m + 1 := ⟨k - 1, by omega⟩
    rw [ScanMade.l3, ho, if_pos (by omega), gd_pos (by omega), gd_pos (by omega), gd_pos (by omega), gd_pos (by omega), if_pos (by simp), w64 (by omega) (by omega), show ((i : Int) + 1) = ((i + 1 : Nat) : Int) by omega]
    exact ih (i + 1) (by omega) k (by omega)
theorem Pure.ScanMade : ∀ (a0 : List T44_) (a1 : List (List Int)), (∀ x ∈ a0, WfR x) → a0.length * 48 ≤ 140737488351232 → (∀ xs ∈ a1, ∀ x ∈ xs, (Lit.int .u8 x).wf = true) → (∀ xs ∈ a1, xs.length ≤ 140737488351232) → ∃ K, ScanMade.f K a0 a1 = some true := by
  intro L J hw hl hJ hJl
  have hJ : ∀ j ∈ J, Byt j := fun j hj => Byt.of (hJ j hj)
  refine ⟨1000000000000000, ?_⟩
  generalize hK : 1000000000000000 = K
  have key : Ans (ScanMade.f K L J) (fun r => r = true) := by
    unfold ScanMade.f
    rw [works.eq K (by omega), Option.bind_some]
    refine Ans.bind (ScanMade.l1_rel K (by omega) L (by omega) hw J hJ hJl L.length 0 [] [] (by omega) ⟨[], [], rfl, by simp, Byt.nil, by simp, by simp, by simp [mt]⟩ K (by omega)) (fun o ho => ?_)
    obtain ⟨P, tail, rfl, q1, q2, q3, q4, q5⟩ := ho
    have hF := Frs.made q1 P q3
    have hb : Byt (mt P ++ tail) := Byt.app.2 ⟨mt_byt P q3, q2⟩
    have hml : ((mk 0 P).map x16).length = P.length := by rw [List.length_map, mk_len]
    have hge := mt_ge P q3
    have hq5 := q5
    rw [List.length_append] at hq5
    simp only
    rw [sRecords.made hb (by omega) K (by omega) hF (fun x hx => by obtain ⟨y, hy, e⟩ := mk_fr P 0 x hx; rw [e]; exact (q3 y hy).2.2.1), Option.bind_some, if_neg (by simp)]
    have h3 := ScanMade.l3_eq ((mk 0 P).map x16) (mt P ++ tail, (mk 0 P).map x16) rfl (by omega) ((mk 0 P).map x16).length 0 (by omega) K (by omega)
    have h3 : ScanMade.l3 ((mk 0 P).map x16) (mt P ++ tail, (mk 0 P).map x16) K 0 = _ := h3
    rw [h3, thn_inr]
    exact Ans.some rfl
  obtain ⟨r, h, hr⟩ := key
  rw [h, hr]
end Go.Proofs.Ytkblnahoidbfkaa
