/- Own text. Frames are found among junk; the plain part of the law TopScanned. Conditions: whole numbers in their types' bounds, bytes, bounded bulk. -/
import Derived.Test.YtkblnahoidbfkaaPureT0
import Derived.Test.YtkblnahoidbfkaaPureR
import Derived.Test.YtkblnahoidbfkaaPureN
import Derived.Test.YtkblnahoidbfkaaLift12
set_option linter.unusedSimpArgs false
set_option linter.unusedVariables false
set_option maxRecDepth 100000
namespace Go.Proofs.Ytkblnahoidbfkaa
open Go Go.Sx

abbrev Pc := List Int × (Int × Int × ByteArray × ByteArray)
def flt (P : List Pc) : List Int := P.flatMap fun x => x.1 ++ frm (recF x.2)
def fl : Nat → List Pc → List Fr
  | _, [] => []
  | k, (j, t) :: r => (k + j.length, (frm (recF t)).length, recF t) :: fl (k + j.length + (frm (recF t)).length) r
def pos : Nat → List Pc → List Int
  | _, [] => []
  | k, (j, t) :: r => ((k + j.length : Nat) : Int) :: pos (k + j.length + (frm (recF t)).length) r
def sj (P : List Pc) : Nat := (P.map fun x => x.1.length).sum
def Gd (x : Pc) : Prop := (167 : Int) ∉ x.1 ∧ Byt x.1 ∧ x.1.length ≤ 200 ∧ (x.2.2.1 = 1 ∨ x.2.2.1 = 2) ∧ Val (recF x.2)
theorem fl_shf (n : Nat) : ∀ (P : List Pc) (k : Nat), shf n (fl k P) = fl (n + k) P
  | [], k => rfl
  | (j, t) :: r, k => by
    rw [fl, fl, shf, List.map_cons, ← shf, fl_shf n r]
    simp only [Nat.add_assoc]
theorem Frs.pieces {tail : List Int} (ht : (167 : Int) ∉ tail) : ∀ (P : List Pc), (∀ x ∈ P, Gd x) → Frs (flt P ++ tail) 0 (fl 0 P)
  | [], _ => by
    refine .nil fun p n f _ hf => ?_
    have h1 := hf.lead.1
    have h2 := hf.le
    have e : flt [] ++ tail = tail := rfl
    rw [e] at h1 h2
    exact ht (h1 ▸ rd_mem tail p (by omega))
  | (j, t) :: r, h => by
    have hx := h _ List.mem_cons_self
    have ih := Frs.pieces ht r (fun x hx => h x (List.mem_cons_of_mem _ hx))
    have h2 := Frs.junk hx.1 (Frs.front hx.2.2.2.2 ih)
    have e : flt ((j, t) :: r) ++ tail = j ++ (frm (recF t) ++ (flt r ++ tail)) := by simp [flt]
    rw [e, fl, Nat.zero_add]
    rw [fl_shf, shf, List.map_cons, ← shf, fl_shf] at h2
    simpa [Nat.add_comm, Nat.add_left_comm, Nat.add_assoc] using h2
theorem fl_len : ∀ (P : List Pc) (k : Nat), (fl k P).length = P.length
  | [], _ => rfl
  | (j, t) :: r, k => by rw [fl, List.length_cons, fl_len r, List.length_cons]
theorem pos_len : ∀ (P : List Pc) (k : Nat), (pos k P).length = P.length
  | [], _ => rfl
  | (j, t) :: r, k => by rw [pos, List.length_cons, pos_len r, List.length_cons]
theorem pos_app : ∀ (P : List Pc) (x : Pc) (k : Nat), pos k (P ++ [x]) = pos k P ++ [((k + (flt P).length + x.1.length : Nat) : Int)]
  | [], x, k => by obtain ⟨j, t⟩ := x; simp [pos, flt]
  | (j, t) :: r, x, k => by
    rw [List.cons_append, pos, pos_app r x, pos]
    have e : (flt ((j, t) :: r)).length = j.length + (frm (recF t)).length + (flt r).length := by simp [flt]; omega
    rw [e, List.cons_append]
    congr 3; omega
theorem flt_app (P : List Pc) (x : Pc) : flt (P ++ [x]) = flt P ++ (x.1 ++ frm (recF x.2)) := by simp [flt]
theorem sj_app (P : List Pc) (x : Pc) : sj (P ++ [x]) = sj P + x.1.length := by simp [sj]
theorem flt_len (P : List Pc) (h : ∀ x ∈ P, Gd x) : (flt P).length ≤ 6300 * P.length ∧ sj P ≤ 200 * P.length := by
  induction P with
  | nil => simp [flt, sj]
  | cons x r ih =>
    have h1 := h x List.mem_cons_self
    have h2 := ih (fun y hy => h y (List.mem_cons_of_mem _ hy))
    have h3 := frm_le h1.2.2.2.2
    have h4 := h1.2.2.1
    have e1 : (flt (x :: r)).length = x.1.length + (frm (recF x.2)).length + (flt r).length := by simp [flt]; omega
    have e2 : sj (x :: r) = x.1.length + sj r := by simp [sj]
    rw [e1, e2, List.length_cons]; omega
theorem flt_byt (P : List Pc) (h : ∀ x ∈ P, Gd x) : Byt (flt P) := by
  intro y hy
  obtain ⟨x, hx, hxy⟩ := List.mem_flatMap.1 hy
  have := h x hx
  rcases List.mem_append.1 hxy with h1 | h1
  · exact this.2.1 y h1
  · exact frm_byt this.2.2.2.2 y h1

theorem junkOf.l1_rel (j : List Int) (hb : Byt j) : ∀ (n i : Nat) (out : List Int), 200 - i ≤ n → out.length ≤ i → i ≤ 200 → (167 : Int) ∉ out → Byt out → ∀ k, n < k → Ans (junkOf.l1 j k (out, (i : Int))) (fun r => (167 : Int) ∉ r ∧ Byt r ∧ r.length ≤ 200) := by
  intro n
  induction n with
  | zero =>
    intro i out h1 h2 h3 h4 h5 k hk
    obtain ⟨k, rfl⟩ : ∃ m, k = m + 1 := ⟨k - 1, by omega⟩
    rw [junkOf.l1]; simp only
    refine Ans.bind (Q := fun o => o = false) (Ans.ite (fun _ => Ans.some (decide_eq_false (by omega))) (fun _ => Ans.some rfl)) (fun o ho => Ans.ite (fun h => by rw [ho] at h; cases h) (fun _ => Ans.some ⟨h4, h5, by omega⟩))
  | succ n ih =>
    intro i out h1 h2 h3 h4 h5 k hk
    obtain ⟨k, rfl⟩ : ∃ m, k = m + 1 := ⟨k - 1, by omega⟩
    rw [junkOf.l1]; simp only
    refine Ans.bind (Q := fun o => o = true → i < j.length ∧ i < 200) (Ans.ite (fun h => Ans.some (fun h' => ⟨by omega, by have := of_decide_eq_true h'; omega⟩)) (fun _ => Ans.some (fun h => by cases h))) (fun o ho => Ans.ite (fun h => ?_) (fun _ => Ans.some ⟨h4, h5, by omega⟩))
    obtain ⟨g1, g2⟩ := ho h
    have wi : IntKind.wrap .i64 ((i : Int) + 1) = ((i + 1 : Nat) : Int) := by rw [w64 (by omega) (by omega)]; omega
    have hm := rd_mem j i g1
    refine Ans.bind (Q := fun o => (167 : Int) ∉ o ∧ Byt o ∧ o.length ≤ i + 1) (Ans.gd (by omega) (Ans.ite (fun h7 => Ans.gd (by omega) (Ans.gd (by simp; omega) (Ans.some ⟨?_, ?_, by simp; omega⟩))) (fun _ => Ans.some ⟨h4, h5, by omega⟩))) (fun o ho => ?_)
    · rw [List.mem_append, List.mem_singleton]
      rintro (h | h)
      · exact h4 h
      · exact h7 h.symm
    · exact Byt.app.2 ⟨h5, fun y hy => by rw [List.mem_singleton] at hy; subst hy; exact hb _ hm⟩
    · rw [wi]
      exact ih (i + 1) o (by omega) ho.2.2 (by omega) ho.1 ho.2.1 k (by omega)
theorem junkOf.rel (j : List Int) (hb : Byt j) (K : Nat) (hK : 300 < K) : Ans (junkOf.f K j) (fun r => (167 : Int) ∉ r ∧ Byt r ∧ r.length ≤ 200) := by
  unfold junkOf.f
  exact Ans.bind (junkOf.l1_rel j hb 200 0 [] (by omega) (by simp) (by omega) (by simp) Byt.nil K (by omega)) (fun r hr => Ans.some hr)
def Wf4 (x : T95_) : Prop := (Lit.int .i64 x.1).wf = true ∧ (Lit.int .i64 x.2.1).wf = true ∧ (Lit.int .i64 x.2.2.1).wf = true ∧ (Lit.int .i64 x.2.2.2).wf = true
/-- What is laid: pieces of junk, each with a record's frame behind it; junk. -/
def Laid (K : Nat) (L : List T95_) (J : List (List Int)) (P : List Pc) (tail : List Int) : Prop :=
  P.length = L.length ∧ (∀ i : Nat, i < L.length → ∃ t, recordOf.f K (rd L (i : Int)).1 (rd L (i : Int)).2.1 (rd L (i : Int)).2.2.1 (rd L (i : Int)).2.2.2 ((i + 1 : Nat) : Int) = some t ∧ (P[i]?).map (·.2) = some t) ∧ (∀ x ∈ P, Gd x) ∧ (167 : Int) ∉ tail ∧ Byt tail ∧ tail.length ≤ 200 ∧ (J = [] → (∀ x ∈ P, x.1 = []) ∧ tail = [])
theorem laid.l1_rel (K : Nat) (hK : 4000000 < K) (L : List T95_) (hL : L.length ≤ 100) (hw : ∀ x ∈ L, Wf4 x) (J : List (List Int)) (hJ : ∀ j ∈ J, Byt j) : ∀ (m i : Nat) (P : List Pc), i + m = L.length → P.length = i →
    (∀ q : Nat, q < i → ∃ t, recordOf.f K (rd L (q : Int)).1 (rd L (q : Int)).2.1 (rd L (q : Int)).2.2.1 (rd L (q : Int)).2.2.2 ((q + 1 : Nat) : Int) = some t ∧ (P[q]?).map (·.2) = some t) → (∀ x ∈ P, Gd x) → (J = [] → ∀ x ∈ P, x.1 = []) → ∀ k, m + 1 < k →
    Ans (laid.l1 K L J k (flt P, pos 0 P, (sj P : Int), (i : Int))) (fun o => ∃ P' tail, o = .inr (flt P' ++ tail, pos 0 P', ((sj P' + tail.length : Nat) : Int)) ∧ Laid K L J P' tail) := by
  intro m
  have jk : ∀ (i : Nat) (P : List Pc), (∀ x ∈ P, Gd x) → P.length ≤ 100 → Ans ((if (i : Int) < (J.length : Int) then (gd ((0 : Int) ≤ (i : Int) ∧ (i : Int) < (J.length : Int)) ((junkOf.f K (rd J (i : Int))).bind fun t335 => gd (((flt P).length + t335.length) * 1 ≤ 140737488355328) (some ((flt P ++ t335), IntKind.wrap .i64 ((sj P : Int) + (t335.length : Int)))))) else (some (flt P, (sj P : Int))))) (fun o => ∃ j, (167 : Int) ∉ j ∧ Byt j ∧ j.length ≤ 200 ∧ (J = [] → j = []) ∧ o = (flt P ++ j, ((sj P + j.length : Nat) : Int))) := by
    intro i P hP hl
    have hfl := flt_len P hP
    refine Ans.ite (fun h => Ans.gd (by omega) (Ans.bind (junkOf.rel _ (hJ _ ?_) K (by omega)) (fun j hj => Ans.gd (by omega) (Ans.some ⟨j, hj.1, hj.2.1, hj.2.2, fun e => by rw [e] at h; simp at h; omega, ?_⟩)))) (fun _ => Ans.some ⟨[], by simp, Byt.nil, by simp, fun _ => rfl, by simp⟩)
    · have hi : i < J.length := by omega
      have : rd J (i : Int) = J[i] := by simp [rd, List.getD, List.getElem?_eq_getElem hi]
      rw [this]; exact List.getElem_mem hi
    · rw [w64 (by omega) (by omega)]
      congr 1
  induction m with
  | zero =>
    intro i P h1 h2 h3 h4 h5 k hk
    obtain ⟨k, rfl⟩ : ∃ q, k = q + 1 := ⟨k - 1, by omega⟩
    obtain ⟨k, rfl⟩ : ∃ q, k = q + 1 := ⟨k - 1, by omega⟩
    rw [laid.l1]; simp only
    refine Ans.ite (fun _ => Ans.thn (Ans.bind (jk i P h4 (by omega)) (fun o ho => Ans.ite (fun h => by omega) (fun _ => Ans.some ?_)))) (fun h => by omega)
    obtain ⟨j, g1, g2, g3, g4, rfl⟩ := ho
    simp only
    rw [laid.l1]; simp only
    refine Ans.ite (fun h => ?_) (fun _ => Ans.some ⟨P, j, rfl, by omega, fun q hq => h3 q (by omega), h4, g1, g2, g3, fun e => ⟨h5 e, g4 e⟩⟩)
    rw [w64 (by omega) (by omega)] at h; omega
  | succ m ih =>
    intro i P h1 h2 h3 h4 h5 k hk
    obtain ⟨k, rfl⟩ : ∃ q, k = q + 1 := ⟨k - 1, by omega⟩
    have hfl := flt_len P h4
    have hi : i < L.length := by omega
    have hrm : rd L (i : Int) ∈ L := by
      have : rd L (i : Int) = L[i] := by simp [rd, List.getD, List.getElem?_eq_getElem hi]
      rw [this]; exact List.getElem_mem hi
    obtain ⟨w1, w2, w3, w4⟩ := hw _ hrm
    have wi : IntKind.wrap .i64 ((i : Int) + 1) = ((i + 1 : Nat) : Int) := by rw [w64 (by omega) (by omega)]; omega
    rw [laid.l1]; simp only
    rw [wi, wu64 (i + 1) (by omega)]
    refine Ans.ite (fun _ => Ans.thn (Ans.bind (jk i P h4 (by omega)) (fun o ho => Ans.ite (fun _ => ?_) (fun h => by omega)))) (fun h => by omega)
    obtain ⟨j, g1, g2, g3, g4, rfl⟩ := ho
    refine Ans.gd (by omega) (Ans.gd (by omega) ?_)
    obtain ⟨t, ht, ht1, ht2, hv⟩ := recordOf.rel K (by omega) (rd L (i : Int)).1 (rd L (i : Int)).2.1 (rd L (i : Int)).2.2.1 (rd L (i : Int)).2.2.2 (i + 1) (by omega) (by omega) (wf64 w1) (wf64 w2) (wf64 w3)
    refine Ans.bind (Q := fun q => q = t) ⟨t, ht, rfl⟩ (fun q hq => ?_)
    subst hq
    have hle := frm_le hv
    refine Ans.bind (Q := fun u => u = frm (recF q)) ⟨_, framed.eq K (by omega) q hv, rfl⟩ (fun u hu => ?_)
    subst hu
    have hpl := pos_len P 0
    refine Ans.ite (fun h => by omega) (fun _ => Ans.gd (by simp; omega) (Ans.gd (by simp; omega) (Ans.some ?_)))
    simp only
    have hG : Gd (j, q) := ⟨g1, g2, g3, ht2, hv⟩
    have e1 : (flt P ++ j) ++ frm (recF q) = flt (P ++ [(j, q)]) := by rw [flt_app, List.append_assoc]
    have e2 : pos 0 P ++ [((flt P ++ j).length : Int)] = pos 0 (P ++ [(j, q)]) := by rw [pos_app]; simp
    have e3 : ((sj P + j.length : Nat) : Int) = (sj (P ++ [(j, q)]) : Int) := by rw [sj_app]
    rw [e1, e2, e3]
    refine ih (i + 1) (P ++ [(j, q)]) (by omega) (by simp; omega) (fun r hr => ?_) (fun x hx => ?_) (fun e x hx => ?_) k (by omega)
    · by_cases c : r < i
      · obtain ⟨t', g5, g6⟩ := h3 r c
        exact ⟨t', g5, by rw [List.getElem?_append_left (by omega)]; exact g6⟩
      · obtain rfl : r = i := by omega
        exact ⟨q, ht, by rw [List.getElem?_append_right (by omega), h2, Nat.sub_self]; rfl⟩
    · rcases List.mem_append.1 hx with h | h
      · exact h4 x h
      · rw [List.mem_singleton] at h; subst h; exact hG
    · rcases List.mem_append.1 hx with h | h
      · exact h5 e x h
      · rw [List.mem_singleton] at h; subst h; exact g4 e
theorem laid.rel (K : Nat) (hK : 4000000 < K) (L : List T95_) (hL : L.length ≤ 100) (hw : ∀ x ∈ L, Wf4 x) (J : List (List Int)) (hJ : ∀ j ∈ J, Byt j) : Ans (laid.f K L J) (fun o => ∃ P tail, o = (flt P ++ tail, pos 0 P, ((sj P + tail.length : Nat) : Int), true) ∧ Laid K L J P tail) := by
  unfold laid.f
  refine Ans.thn (Ans.mono (laid.l1_rel K hK L hL hw J hJ L.length 0 [] (by omega) rfl (fun q hq => by omega) (by simp) (by simp) K (by omega)) (fun o ho => ?_))
  obtain ⟨P, tail, rfl, h⟩ := ho
  exact Ans.some ⟨P, tail, rfl, h⟩
/-- The lengths of a list's frames. -/
def ns (l : List Fr) : Nat := (l.map fun x => x.2.1).sum
theorem TopScanned.l1_eq (N : Nat) (hN : N ≤ 8388608) (T : List T40_) (hT : T.length ≤ 16777216) : ∀ (l : List Fr) (a i bad : Nat), T.drop i = exts N a l → a ≤ N → l.Pairwise (fun x y => x.1 + x.2.1 ≤ y.1) → (∀ x ∈ l, a ≤ x.1 ∧ x.1 + x.2.1 ≤ N ∧ 1 ≤ x.2.1) → (0 < i → (rd T ((i - 1 : Nat) : Int)).1 = false) → bad ≤ a → ∀ k, T.length - i < k → TopScanned.l1 T k ((a : Int), (bad : Int), (i : Int)) = some (.inr ((N : Int), ((bad + (N - a) - ns l : Nat) : Int))) := by
  have step : ∀ (i a m bad : Nat) (x : T40_) (k : Nat), i < T.length → rd T (i : Int) = x → x.2.1 = a → x.2.2 = m → 1 ≤ m → a + m ≤ 8388608 → bad ≤ a → (x.1 = true → 0 < i → (rd T ((i - 1 : Nat) : Int)).1 = false) → TopScanned.l1 T (k + 1) ((a : Int), (bad : Int), (i : Int)) = TopScanned.l1 T k (((a + m : Nat) : Int), (((if x.1 = true then bad + m else bad) : Nat) : Int), ((i + 1 : Nat) : Int)) := by
    intro i a m bad x k hi hx e1 e2 hm hl hb hj
    rw [TopScanned.l1]; simp only
    rw [if_pos (by omega), gd_pos (by omega), gd_pos (by omega), hx, e1, e2, if_neg (by simp), gd_pos (by omega), gd_pos (by omega), if_neg (by omega)]
    have hb2 : (if 0 < (i : Int) then (gd ((0 : Int) ≤ (i : Int) ∧ (i : Int) < (T.length : Int)) (gd ((0 : Int) ≤ (i : Int) ∧ (i : Int) < (T.length : Int)) (if x.1 = true then (gd ((0 : Int) ≤ (IntKind.wrap .i64 ((i : Int) - 1)) ∧ (IntKind.wrap .i64 ((i : Int) - 1)) < (T.length : Int)) (gd ((0 : Int) ≤ (IntKind.wrap .i64 ((i : Int) - 1)) ∧ (IntKind.wrap .i64 ((i : Int) - 1)) < (T.length : Int)) (some ((rd T (IntKind.wrap .i64 ((i : Int) - 1))).1)))) else (some false)))) else (some false)) = some false := by
      split
      · rw [gd_pos (by omega), gd_pos (by omega)]
        split
        · rename_i h2 h1
          rw [w64 (by omega) (by omega), show ((i : Int) - 1) = ((i - 1 : Nat) : Int) by omega, gd_pos (by omega), gd_pos (by omega), hj h1 (by omega)]
        · rfl
      · rfl
    rw [hb2, Option.bind_some, if_neg (by simp), gd_pos (by omega), gd_pos (by omega), gd_pos (by omega), gd_pos (by omega)]
    by_cases hx1 : x.1 = true
    · rw [if_pos hx1, gd_pos (by omega), gd_pos (by omega), thn_inr, if_pos hx1, w64 (by omega) (by omega), w64 (by omega) (by omega), w64 (by omega) (by omega)]
      congr 1
    · rw [if_neg hx1, thn_inr, if_neg hx1, w64 (by omega) (by omega), w64 (by omega) (by omega)]
      congr 1
  have fin : ∀ (i bad : Nat) (k : Nat), T.length ≤ i → TopScanned.l1 T (k + 1) ((N : Int), (bad : Int), (i : Int)) = some (.inr ((N : Int), (bad : Int))) := by
    intro i bad k hi
    rw [TopScanned.l1]; simp only
    rw [if_neg (by omega)]
  intro l
  induction l with
  | nil =>
    intro a i bad hd ha _ _ hj hb k hk
    obtain ⟨k, rfl⟩ : ∃ m, k = m + 1 := ⟨k - 1, by omega⟩
    rw [exts] at hd
    by_cases hlt : a < N
    · rw [if_pos hlt] at hd
      obtain ⟨hi, hx, hd2⟩ := drop_rd hd
      have hi2 : T.length ≤ i + 1 := List.drop_eq_nil_iff.1 hd2
      rw [step i a (N - a) bad _ k hi hx rfl rfl (by omega) (by omega) hb (fun _ h => hj h), if_pos rfl]
      obtain ⟨k, rfl⟩ : ∃ m, k = m + 1 := ⟨k - 1, by omega⟩
      rw [show a + (N - a) = N by omega, fin (i + 1) _ k hi2]
      simp [ns]
    · rw [if_neg hlt] at hd
      have hi2 : T.length ≤ i := List.drop_eq_nil_iff.1 hd
      obtain rfl : a = N := by omega
      rw [fin i bad k hi2]
      simp [ns]
  | cons x l ih =>
    obtain ⟨p, n, f⟩ := x
    intro a i bad hd ha hp hm hj hb k hk
    have hx := hm _ List.mem_cons_self
    simp only at hx
    obtain ⟨hp1, hp2⟩ := List.pairwise_cons.1 hp
    rw [exts] at hd
    have hns : ns ((p, n, f) :: l) = n + ns l := by simp [ns]
    have hnl : p + n + ns l ≤ N := by
      have : ∀ (l : List Fr) (a : Nat), a ≤ N → l.Pairwise (fun x y => x.1 + x.2.1 ≤ y.1) → (∀ x ∈ l, a ≤ x.1 ∧ x.1 + x.2.1 ≤ N) → a + ns l ≤ N := by
        intro l
        induction l with
        | nil => intro a ha _ _; simpa [ns] using ha
        | cons y l ih2 =>
          intro a ha hp hm
          obtain ⟨q1, q2⟩ := List.pairwise_cons.1 hp
          have hy := hm y List.mem_cons_self
          have := ih2 (y.1 + y.2.1) hy.2 q2 (fun z hz => ⟨q1 z hz, (hm z (List.mem_cons_of_mem _ hz)).2⟩)
          have e : ns (y :: l) = y.2.1 + ns l := by simp [ns]
          rw [e]; omega
      exact this l (p + n) hx.2.1 hp2 (fun z hz => ⟨hp1 z hz, (hm z (List.mem_cons_of_mem _ hz)).2.1⟩)
    have frame : ∀ (i bad : Nat) (k : Nat), T.drop i = (false, (p : Int), (n : Int)) :: exts N (p + n) l → T.length - i < k → bad ≤ p → TopScanned.l1 T k ((p : Int), (bad : Int), (i : Int)) = some (.inr ((N : Int), ((bad + (N - (p + n)) - ns l : Nat) : Int))) := by
      intro i bad k hd hk hb
      obtain ⟨hi, hx2, hd2⟩ := drop_rd hd
      obtain ⟨k, rfl⟩ : ∃ m, k = m + 1 := ⟨k - 1, by omega⟩
      rw [step i p n bad _ k hi hx2 rfl rfl hx.2.2 (by omega) hb (fun h => by cases h), if_neg (by simp)]
      exact ih (p + n) (i + 1) bad hd2 hx.2.1 hp2 (fun z hz => ⟨hp1 z hz, (hm z (List.mem_cons_of_mem _ hz)).2⟩) (fun _ => by rw [Nat.add_sub_cancel, hx2]) (by omega) k (by omega)
    by_cases hlt : a < p
    · rw [if_pos hlt] at hd
      obtain ⟨hi, hx2, hd2⟩ := drop_rd hd
      obtain ⟨k, rfl⟩ : ∃ m, k = m + 1 := ⟨k - 1, by omega⟩
      rw [step i a (p - a) bad _ k hi hx2 rfl rfl (by omega) (by omega) hb (fun _ h => hj h), if_pos rfl, show a + (p - a) = p by omega, frame (i + 1) (bad + (p - a)) k hd2 (by omega) (by omega), hns]
      congr 4; omega
    · rw [if_neg hlt] at hd
      obtain rfl : a = p := by omega
      rw [frame i bad k hd hk hb, hns]
      congr 4; omega
theorem sNext.one (n : Nat) : sNext.f (n + 60) [167] 0 = some (-1, 0) := by kernel_rfl
theorem fl_ns : ∀ (P : List Pc) (k : Nat), ns (fl k P) + sj P = (flt P).length
  | [], k => rfl
  | (j, t) :: r, k => by
    have := fl_ns r (k + j.length + (frm (recF t)).length)
    have e1 : ns (fl k ((j, t) :: r)) = (frm (recF t)).length + ns (fl (k + j.length + (frm (recF t)).length) r) := by rw [fl]; simp [ns]
    have e2 : sj ((j, t) :: r) = j.length + sj r := by simp [sj]
    have e3 : (flt ((j, t) :: r)).length = j.length + (frm (recF t)).length + (flt r).length := by simp [flt]; omega
    rw [e1, e2, e3]; omega
theorem fl_cln : ∀ (P : List Pc) (k : Nat), cln (fl k P) = P.flatMap fun x => frm (recF x.2)
  | [], k => rfl
  | (j, t) :: r, k => by rw [fl, cln_cons, fl_cln r]; rfl
theorem fl_drop : ∀ (P : List Pc) (k q : Nat), (fl k P).drop q = fl (k + (flt (P.take q)).length) (P.drop q)
  | P, k, 0 => by simp [flt]
  | [], k, q + 1 => by simp [fl]
  | (j, t) :: r, k, q + 1 => by
    rw [fl, List.drop_succ_cons, fl_drop r, List.drop_succ_cons, List.take_succ_cons]
    have e : (flt ((j, t) :: r.take q)).length = j.length + (frm (recF t)).length + (flt (r.take q)).length := by simp [flt]; omega
    rw [e]
    congr 1; omega
theorem pos_drop : ∀ (P : List Pc) (k q : Nat), (pos k P).drop q = pos (k + (flt (P.take q)).length) (P.drop q)
  | P, k, 0 => by simp [flt]
  | [], k, q + 1 => by simp [pos]
  | (j, t) :: r, k, q + 1 => by
    rw [pos, List.drop_succ_cons, pos_drop r, List.drop_succ_cons, List.take_succ_cons]
    have e : (flt ((j, t) :: r.take q)).length = j.length + (frm (recF t)).length + (flt (r.take q)).length := by simp [flt]; omega
    rw [e]
    congr 1; omega
theorem Pure.TopScanned : ∀ (a0 : List T95_) (a1 : List (List Int)), (∀ x ∈ a0, Wf4 x) → a0.length * 32 ≤ 140737488351232 → (∀ xs ∈ a1, ∀ x ∈ xs, (Lit.int .u8 x).wf = true) → ∃ K, TopScanned.f K a0 a1 = some true := by
  intro L0 J hw hl hJ
  have hJ : ∀ j ∈ J, Byt j := fun j hj => Byt.of (hJ j hj)
  refine ⟨40000000, ?_⟩
  generalize hK : 40000000 = K
  have key : Ans (TopScanned.f K L0 J) (fun r => r = true) := by
    unfold TopScanned.f
    refine Ans.bind (Q := fun L => L.length ≤ 100 ∧ ∀ x ∈ L, Wf4 x) (Ans.ite (fun h => Ans.gd (by refine ⟨by decide, by decide, ?_⟩; show 100 ≤ _; omega) (Ans.some ⟨by show (List.drop 0 (L0.take 100)).length ≤ 100; simp; omega, fun x hx => hw x (List.mem_of_mem_take (List.mem_of_mem_drop hx))⟩)) (fun h => Ans.some ⟨by omega, hw⟩)) (fun L hL => ?_)
    obtain ⟨hL, hw⟩ := hL
    refine Ans.bind (laid.rel K (by omega) L hL hw J hJ) (fun t15 h15 => ?_)
    obtain ⟨P, tail, rfl, p1, p2, p3, p4, p5, p6, p7⟩ := h15
    refine Ans.bind (laid.rel K (by omega) L hL hw [] (by simp)) (fun t25 h25 => ?_)
    obtain ⟨P', tail', rfl, q1, q2, q3, q4, q5, q6, q7⟩ := h25
    obtain ⟨q8, q9⟩ := q7 rfl
    subst q9
    have hFrs := Frs.pieces p4 P p3
    have hfl := flt_len P p3
    have hbb : Byt (flt P ++ tail) := Byt.app.2 ⟨flt_byt P p3, p5⟩
    have hbl : (flt P ++ tail).length ≤ 640000 := by rw [List.length_append]; omega
    obtain ⟨b, hb⟩ : ∃ b, b = flt P ++ tail := ⟨_, rfl⟩
    rw [← hb] at hFrs hbb hbl ⊢
    -- the frames that were laid without junk are those that were laid
    have hPP : P'.map (·.2) = P.map (·.2) := by
      apply List.ext_getElem?
      intro i
      rw [List.getElem?_map, List.getElem?_map]
      by_cases hi : i < L.length
      · obtain ⟨t, h1, h2⟩ := p2 i hi
        obtain ⟨t', h3, h4⟩ := q2 i hi
        rw [h1] at h3; cases h3
        rw [h2, h4]
      · rw [List.getElem?_eq_none (by omega), List.getElem?_eq_none (by omega)]
    have hcl : flt P' = cln (fl 0 P) := by
      rw [fl_cln]
      have e1 : flt P' = (P'.map (·.2)).flatMap fun t => frm (recF t) := by
        unfold flt
        rw [List.flatMap_map]
        clear q1 q2 q3 q7 hPP
        induction P' with
        | nil => rfl
        | cons x l ih =>
          rw [List.flatMap_cons, List.flatMap_cons, ih (fun y hy => q8 y (List.mem_cons_of_mem _ hy)), q8 x List.mem_cons_self]; rfl
      rw [e1, hPP, List.flatMap_map]
    refine Ans.bind (Q := fun o => o = false) (Ans.ite (fun _ => Ans.some rfl) (fun h => absurd rfl h)) (fun o ho => Ans.ite (fun h => by rw [ho] at h; cases h) (fun _ => ?_))
    show Ans ((some ()).bind _) _
    rw [Option.bind_some]
    have hflen := fl_len P 0
    have hplen := pos_len P 0
    have fold : ∀ (st : Int → T15 → Option (Int ⊕ Int)), (∀ (q p : Nat) (f : D14), q < L.length → rd (pos 0 P) (q : Int) = (p : Int) → (∃ t, recordOf.f K (rd L (q : Int)).1 (rd L (q : Int)).2.1 (rd L (q : Int)).2.2.1 (rd L (q : Int)).2.2.2 ((q + 1 : Nat) : Int) = some t ∧ f = recF t) → st (q : Int) ((p : Int), f) = some (.inl ((q + 1 : Nat) : Int))) → ∀ (m q : Nat), q + m = L.length → foldE st (q : Int) (((fl 0 P).drop q).map x15) = some (.inl (L.length : Int)) := by
      intro st hst m
      induction m with
      | zero =>
        intro q hq
        rw [List.drop_of_length_le (by omega)]
        obtain rfl : q = L.length := by omega
        rfl
      | succ m ih =>
        intro q hq
        have hqP : q < P.length := by omega
        obtain ⟨x, hx⟩ : ∃ x, x = P[q] := ⟨_, rfl⟩
        have hd : P.drop q = x :: P.drop (q + 1) := by rw [List.drop_eq_getElem_cons hqP, hx]
        obtain ⟨j, t⟩ := x
        have e1 := fl_drop P 0 q
        have e1' := fl_drop P 0 (q + 1)
        have e2 := pos_drop P 0 q
        rw [hd, fl] at e1
        rw [hd, pos] at e2
        have hr := (drop_rd e2).2.1
        have e3 : (fl 0 P).drop (q + 1) = fl (0 + (flt (P.take q)).length + j.length + (frm (recF t)).length) (P.drop (q + 1)) := by
          rw [← List.drop_drop, e1]; rfl
        rw [e1, List.map_cons]
        obtain ⟨t', g1, g2⟩ := p2 q (by omega)
        have ht' : t' = t := by
          rw [List.getElem?_eq_getElem hqP, ← hx] at g2
          exact (Option.some.inj g2).symm
        subst ht'
        rw [foldE_cons (show st (q : Int) (x15 _) = _ from hst q _ _ (by omega) hr ⟨t', g1, rfl⟩), ← e3]
        exact ih (q + 1) (by omega)
    rw [sFramesF.eq _ hbb (by omega) K (by omega) hFrs]
    refine Ans.bind (Q := fun o => o = .inl (L.length : Int)) ⟨_, fold _ (fun q p f hq hp hf => ?_) L.length 0 (by omega), rfl⟩ (fun o ho => ?_)
    · obtain ⟨t, h1, rfl⟩ := hf
      have wq : IntKind.wrap .i64 ((q : Int) + 1) = ((q + 1 : Nat) : Int) := by rw [w64 (by omega) (by omega)]; omega
      rw [if_neg (by omega), gd_pos (by rw [hplen]; omega), gd_pos (by rw [hplen]; omega), hp, if_neg (by simp), gd_pos (by omega), gd_pos (by omega), wq, wu64 _ (by omega), h1, Option.bind_some, if_pos ⟨rfl, ⟨rfl, rfl, rfl, rfl, trivial⟩, ⟨rfl, rfl, rfl, rfl, rfl, trivial⟩, ⟨rfl, ⟨rfl, rfl, rfl, trivial⟩, trivial⟩, trivial⟩]
      simp [recF]
    subst ho
    have hen := exts_len b.length (fl 0 P) 0
    have hns := fl_ns P 0
    have hbl2 : b.length = (flt P).length + tail.length := by rw [hb, List.length_append]
    have hap : (fl 0 P).Pairwise (fun x y => x.1 + x.2.1 ≤ y.1) := by
      refine List.Pairwise.imp_of_mem (R := fun x y => x.1 < y.1) (fun {x y} hx hy hxy => (hFrs.mem x hx).2.apart (hFrs.mem y hy).2 hxy) hFrs.sorted
    have hl1 := TopScanned.l1_eq b.length (by omega) (exts b.length 0 (fl 0 P)) (by omega) (fl 0 P) 0 0 0 rfl (Nat.zero_le _) hap (fun x hx => by have := (hFrs.mem x hx).2.le; exact ⟨Nat.zero_le _, by omega, by omega⟩) (fun h => by omega) (Nat.le_refl _) K (by omega)
    have hl1 : TopScanned.l1 (exts b.length 0 (fl 0 P)) K (0, 0, 0) = _ := hl1
    have hfine := hFrs.fine
    have hcb := cln_byt hFrs
    have hcll := cln_len hFrs (Nat.zero_le _)
    have hlay := Frs.lay0 (fl 0 P) hfine
    have e9 : exts (cln (fl 0 P)).length 0 (layF 0 (fl 0 P)) = (layF 0 (fl 0 P)).map ef := by
      have := exts_lay (cln (fl 0 P)).length [] (fl 0 P) 0 hfine
      rw [List.append_nil, Nat.zero_add] at this
      rw [this, exts, if_neg (by omega), List.append_nil]
    have hlaylen : (layF 0 (fl 0 P)).length = L.length := by
      have := congrArg List.length (fr_lay (fl 0 P) 0)
      simp at this; omega
    have hone := sNext.one (K - 60)
    rw [show K - 60 + 60 = K by omega] at hone
    show Ans ((sExtents.f K b).bind _) _
    rw [sExtents.eq hbb (by omega) K (by omega) hFrs, Option.bind_some, hl1, thn_inr, sClean.eq hbb (by omega) K (by omega) hFrs, Option.bind_some, sExtents.eq hcb (by omega) K (by omega) hlay, Option.bind_some, hone, Option.bind_some, e9]
    simp only
    rw [if_pos (by trivial), if_pos (by trivial), if_pos (by congr 1; omega), List.append_nil, hcl]
    have hsb : sameBytes.f (cln (fl 0 P)) (cln (fl 0 P)) = some true := by unfold sameBytes.f; simp
    rw [hsb, Option.bind_some, if_pos rfl, if_pos (by rw [List.length_map, hlaylen]), if_pos (by trivial)]
    exact Ans.some (by simp)
  obtain ⟨r, h, hr⟩ := key
  rw [h, hr]
end Go.Proofs.Ytkblnahoidbfkaa
