/- Own text. From a row's input to what a walk wants: slices of structs of scalars; slices of slices of whole numbers. -/
import Derived.Test.YtkblnahoidbfkaaSxCells
import Derived.Test.YtkblnahoidbfkaaSxFlat
import Derived.WideShapes
set_option linter.unusedSimpArgs false
set_option linter.unusedVariables false
namespace Go.Sx
open Go Go.ChangeShapes Go.WideShapes
section
variable {H : Type} {enc : TypeId × Value → H} {P : Program} {W : World} {base : Nat} {spare : Nat → Bool} {held : Bool}

def leafD : TypeDesc → Bool
  | .int _ => true
  | .bool => true
  | .string => true
  | _ => false
def leafT (P : Program) (t : TypeId) : Bool := (match P.underlying t with | some D => leafD D | none => false) && (P.cellsOf t == 1)
/-- A cell of a scalar type. -/
def LeafOk (P : Program) (t : TypeId) (v : Value) : Prop :=
  (∃ k n, P.underlying t = some (.int k) ∧ v = .int k n ∧ (Lit.int k n).wf = true) ∨ (P.underlying t = some .bool ∧ ∃ b, v = .bool b) ∨ (P.underlying t = some .string ∧ ∃ s : ByteArray, v = .string s)
theorem LeafOk.int {t : TypeId} {v : Value} {k : IntKind} (h : LeafOk P t v) (hu : P.underlying t = some (.int k)) : ∃ n, v = .int k n ∧ (Lit.int k n).wf = true := by
  rcases h with ⟨k', n, h1, h2, h3⟩ | ⟨h1, _⟩ | ⟨h1, _⟩
  · rw [hu] at h1; cases h1; exact ⟨n, h2, h3⟩
  · rw [hu] at h1; cases h1
  · rw [hu] at h1; cases h1
theorem LeafOk.bool {t : TypeId} {v : Value} (h : LeafOk P t v) (hu : P.underlying t = some .bool) : ∃ b, v = .bool b := by
  rcases h with ⟨k', n, h1, h2, h3⟩ | ⟨h1, h2⟩ | ⟨h1, _⟩
  · rw [hu] at h1; cases h1
  · exact h2
  · rw [hu] at h1; cases h1
theorem LeafOk.str {t : TypeId} {v : Value} (h : LeafOk P t v) (hu : P.underlying t = some .string) : ∃ s : ByteArray, v = .string s := by
  rcases h with ⟨k', n, h1, h2, h3⟩ | ⟨h1, h2⟩ | ⟨h1, h2⟩
  · rw [hu] at h1; cases h1
  · rw [hu] at h1; cases h1
  · exact h2
theorem leaf_of {fuel : Nat} {t : TypeId} {v : Value} {x : DataW H × List MemPlace} {D : TypeDesc} (hu : P.underlying t = some D) (hD : leafD D = true) (h : DataW.trod enc P W base spare held fuel t [v] = some x) : LeafOk P t v := by
  cases D with
  | int k =>
    obtain ⟨n, e, _, hw⟩ := DataW.trod_int hu h
    exact .inl ⟨k, n, hu, (List.cons.inj e).1, hw⟩
  | bool =>
    obtain ⟨b, e, _⟩ := DataW.trod_bool hu h
    exact .inr (.inl ⟨hu, b, (List.cons.inj e).1⟩)
  | string =>
    obtain ⟨s, e, _⟩ := DataW.trod_string hu h
    exact .inr (.inr ⟨hu, s, (List.cons.inj e).1⟩)
  | _ => simp [leafD] at hD
theorem struct_of {fuel : Nat} {t : TypeId} {cs : List Value} {x : DataW H × List MemPlace} {fs : Array Field} (hu : P.underlying t = some (.struct fs)) (h : DataW.trod enc P W base spare held fuel t cs = some x) :
    cs.length = P.cellsOf t ∧ ∀ f ∈ fs.toList, ∃ n y, DataW.trod enc P W base spare held n f.type ((cs.drop f.offset).take (P.cellsOf f.type)) = some y := by
  obtain ⟨xs, n, _, _, hl, hx, hf⟩ := DataW.trod_struct hu h
  refine ⟨hl, fun f hfm => ?_⟩
  obtain ⟨i, hi⟩ := List.mem_iff_getElem?.1 hfm
  have hi' : fs[i]? = some f := by simpa using hi
  have := hf i f hi'
  have hlt : i < xs.length := by
    have := (Array.getElem?_eq_some_iff.1 hi').1
    omega
  rw [List.getElem?_eq_getElem hlt] at this
  exact ⟨n, _, this⟩
/-- A struct's cells, each of its scalar type. -/
def FlatOk (P : Program) (ts : List TypeId) (cs : List Value) : Prop := cs.length = ts.length ∧ ∀ (i : Nat) t v, ts[i]? = some t → cs[i]? = some v → LeafOk P t v
theorem flat_of {fuel : Nat} {t : TypeId} {cs : List Value} {x : DataW H × List MemPlace} {fs : Array Field} {ts : List TypeId} (hu : P.underlying t = some (.struct fs)) (hf : fs.toList.map (fun f => (f.offset, f.type)) = ts.zipIdx.map (fun p => (p.2, p.1))) (hl : ts.all (leafT P) = true) (hn : P.cellsOf t = ts.length)
    (h : DataW.trod enc P W base spare held fuel t cs = some x) : FlatOk P ts cs := by
  obtain ⟨h1, h2⟩ := struct_of hu h
  refine ⟨by rw [h1, hn], fun i u v hi hv => ?_⟩
  have hm : (i, u) ∈ fs.toList.map (fun f => (f.offset, f.type)) := by
    rw [hf]
    refine List.mem_map.2 ⟨(u, i), ?_, rfl⟩
    rw [List.mem_zipIdx_iff_getElem?]
    exact hi
  obtain ⟨f, hfm, hfe⟩ := List.mem_map.1 hm
  obtain ⟨e1, e2⟩ := Prod.mk.inj hfe
  obtain ⟨n, y, hy⟩ := h2 f hfm
  have hlt := List.all_eq_true.1 hl u (List.mem_of_getElem? hi)
  unfold leafT at hlt
  rw [Bool.and_eq_true] at hlt
  obtain ⟨l1, l2⟩ := hlt
  have l2 : P.cellsOf u = 1 := by simpa using l2
  rw [e1, e2, l2] at hy
  have hc : (cs.drop i).take 1 = [v] := by
    have hlt : i < cs.length := (List.getElem?_eq_some_iff.1 hv).1
    rw [List.drop_eq_getElem_cons hlt]
    have := (List.getElem?_eq_some_iff.1 hv).2
    simp [this]
  rw [hc] at hy
  cases hD : P.underlying u with
  | none => rw [hD] at l1; cases l1
  | some D => rw [hD] at l1; exact leaf_of hD l1 hy

theorem mapM_at {α β : Type} {f : α → Option β} : ∀ {l : List α} {r : List β}, l.mapM f = some r → ∀ (i : Nat) y, r[i]? = some y → ∃ x, l[i]? = some x ∧ f x = some y
  | [], r, h, i, y, hy => by
    simp at h; subst h; simp at hy
  | a :: l, r, h, i, y, hy => by
    rw [List.mapM_cons] at h
    cases h1 : f a with
    | none => simp [h1] at h
    | some b =>
      cases h2 : l.mapM f with
      | none => simp [h1, h2] at h
      | some r' =>
        simp [h1, h2] at h
        subst h
        cases i with
        | zero => simp at hy; subst hy; exact ⟨a, rfl, h1⟩
        | succ i =>
          obtain ⟨x, hx, hfx⟩ := mapM_at h2 i y (by simpa using hy)
          exact ⟨x, by simpa using hx, hfx⟩
theorem cells_at {a : Addr} {n : Nat} {cs : List Value} (h : W.cells? base a n = some cs) (o : Nat) (u : Value) (hu : cs[o]? = some u) : W.cell? (a.add o) = some u := by
  unfold World.cells? at h
  split at h
  · obtain ⟨x, hx, hc⟩ := mapM_at h o u hu
    have hox : x = o := by
      have := (List.getElem?_eq_some_iff.1 hx).2
      simpa using this.symm
    rw [hox] at hc; exact hc
  · cases h
theorem choose_list {T : Type} {Q : Nat → T → Prop} : ∀ (m : Nat), (∀ i, i < m → ∃ x, Q i x) → ∃ xs : List T, xs.length = m ∧ ∀ (i : Nat) x, xs[i]? = some x → Q i x
  | 0, _ => ⟨[], rfl, fun i x h => by simp at h⟩
  | m + 1, h => by
    obtain ⟨xs, h1, h2⟩ := choose_list m (fun i hi => h i (by omega))
    obtain ⟨y, hy⟩ := h m (by omega)
    refine ⟨xs ++ [y], by simp [h1], fun i x hx => ?_⟩
    by_cases hi : i < m
    · rw [List.getElem?_append_left (by omega)] at hx; exact h2 i x hx
    · rw [List.getElem?_append_right (by omega)] at hx
      have : i - xs.length = 0 := by
        have := (List.getElem?_eq_some_iff.1 hx).1
        simp at this; omega
      rw [this] at hx
      simp at hx; subst hx
      obtain rfl : i = m := by omega
      exact hy
theorem flat_idx {α : Type} {e : α → List Value} {sz : Nat} (hE : ∀ x, (e x).length = sz) (hsz : 0 < sz) (xs : List α) (j : Nat) (u : Value) (h : (xs.flatMap e)[j]? = some u) : ∃ x, xs[j / sz]? = some x ∧ (e x)[j % sz]? = some u := by
  have hj : j < xs.length * sz := by
    have := (List.getElem?_eq_some_iff.1 h).1
    rwa [flat_len hE] at this
  have hi : j / sz < xs.length := (Nat.div_lt_iff_lt_mul hsz).2 hj
  refine ⟨xs[j / sz], List.getElem?_eq_getElem hi, ?_⟩
  have h2 : ((xs.flatMap e).drop (j / sz * sz))[j % sz]? = some u := by
    rw [List.getElem?_drop, Nat.mul_comm, Nat.div_add_mod]; exact h
  rw [← flat_drop hE, List.drop_eq_getElem_cons hi, List.flatMap_cons, List.getElem?_append_left (by rw [hE]; exact Nat.mod_lt _ hsz)] at h2
  exact h2
/-- A row's slice of structs of scalars. -/
theorem open_rows {T : Type} {e' : T → List Value} {sz : Nat} (hE : ∀ x, (e' x).length = sz) (hsz0 : 0 < sz) {wfT : T → Prop} {t e : TypeId} {a : Option Addr} {len cap : Nat} {d : DataW H} {ps : List MemPlace} {ts : List TypeId} {ds : List (DataW H)} {j : Nat}
    (hsz : (DataW.weightsEach P ts ds).all (· ≤ reachBytes) = true) (ht : ts[j]? = some t) (hd : ds[j]? = some d) (hu : P.underlying t = some (.slice e)) (hc : P.cellsOf e = sz) {bt : Nat} (hB : P.bytesOf e = bt)
    (hone : ∀ fuel cs x, DataW.trod enc P W base spare held fuel e cs = some x → ∃ y, cs = e' y ∧ wfT y)
    (h : DataW.Trod enc P W base spare held t (.slice a len cap) d ps) : ∃ xs : List T, len = xs.length ∧ xs.length ≤ cap ∧ xs.length * bt ≤ 140737488351232 ∧ (∀ x ∈ xs, wfT x) ∧ RdG W.heap.size W [] a (xs.flatMap e') ∧ ((d = .nil ∧ xs = []) ∨ ∃ es sp, d = .slice es sp ∧ es.length = xs.length) := by
  obtain ⟨fuel, hf⟩ := h
  rcases DataW.trod_slice hu hf with ⟨hcs, hx⟩ | ⟨a', len', cap', elems, rest, n, _, hcs, hx, hb, hl, hm, hlen, hel, hsp, hns⟩
  · simp [Value.cells] at hcs
    obtain ⟨rfl, rfl, rfl⟩ := hcs
    exact ⟨[], rfl, Nat.le_refl _, by simp, by simp, RdG.none_, .inl ⟨(Prod.mk.inj hx).1, rfl⟩⟩
  · simp [Value.cells] at hcs
    obtain ⟨rfl, rfl, rfl⟩ := hcs
    obtain ⟨hx1, _⟩ := Prod.mk.inj hx
    subst hx1
    have z := sized_slice hsz ht hd hu
    rw [hB] at z
    obtain ⟨xs, h1, h2⟩ := choose_list (Q := fun i (x : T) => W.cells? base (a'.add (i * sz)) sz = some (e' x) ∧ wfT x) len (fun i hi => by
      have := hel i hi
      rw [List.getElem?_eq_getElem (by omega), hc, Option.bind_eq_some_iff] at this
      obtain ⟨cs, hcs, hy⟩ := this
      obtain ⟨y, rfl, hw⟩ := hone _ _ _ hy
      exact ⟨y, hcs, hw⟩)
    refine ⟨xs, h1.symm, by omega, ?_, fun x hx => ?_, RdG.start fun j u hj => ?_, .inr ⟨_, _, rfl, by simp; omega⟩⟩
    · refine Nat.le_trans (Nat.mul_le_mul_right _ ?_) z
      simp; omega
    · obtain ⟨i, hi⟩ := List.mem_iff_getElem?.1 hx
      exact (h2 i x hi).2
    · obtain ⟨x, hx, hxu⟩ := flat_idx hE hsz0 xs j u hj
      refine ⟨a', rfl, ?_⟩
      have := cells_at (h2 _ x hx).1 _ u hxu
      rwa [add_add, Nat.mul_comm, Nat.div_add_mod] at this

/-- A slice of slices of whole numbers: what it reads as. -/
def Nest (k : IntKind) (d : DataW H) (xss : List (List Int)) : Prop :=
  (d = .nil ∧ xss = []) ∨ ∃ es sp, d = .slice es sp ∧ es.length = xss.length ∧ ∀ (i : Nat) y x, es[i]? = some y → xss[i]? = some x → (y = .nil ∧ x = []) ∨ ∃ es' sp', y = .slice es' sp' ∧ es'.length = x.length
theorem VV.of {k : IntKind} : ∀ (vs : List Value) (xss : List (List Int)), vs.length = xss.length → (∀ (i : Nat) v x, vs[i]? = some v → xss[i]? = some x → ∃ A c, v = .slice A x.length c ∧ RdG W.heap.size W [] A (x.map (Value.int k)) ∧ x.length ≤ c) → VV W.heap.size W [] (Value.int k) vs xss
  | [], [], _, _ => trivial
  | v :: vs, x :: xss, hl, h => ⟨h 0 v x rfl rfl, VV.of vs xss (by simpa using hl) (fun i v' x' h1 h2 => h (i + 1) v' x' (by simpa using h1) (by simpa using h2))⟩
  | [], x :: xss, hl, _ => by simp at hl
  | v :: vs, [], hl, _ => by simp at hl
theorem open_lists {t e1 e2 : TypeId} {k : IntKind} {a : Option Addr} {len cap : Nat} {d : DataW H} {ps : List MemPlace} (hu : P.underlying t = some (.slice e1)) (hu1 : P.underlying e1 = some (.slice e2)) (hu2 : P.underlying e2 = some (.int k)) (hc1 : P.cellsOf e1 = 1) (hc2 : P.cellsOf e2 = 1)
    (h : DataW.Trod enc P W base spare held t (.slice a len cap) d ps) : ∃ (xss : List (List Int)) (vs : List Value), len = xss.length ∧ xss.length ≤ cap ∧ RdG W.heap.size W [] a vs ∧ VV W.heap.size W [] (Value.int k) vs xss ∧ (∀ xs ∈ xss, ∀ x ∈ xs, (Lit.int k x).wf = true) ∧ Nest k d xss := by
  obtain ⟨fuel, hf⟩ := h
  rcases DataW.trod_slice hu hf with ⟨hcs, hx⟩ | ⟨a', len', cap', elems, rest, n, _, hcs, hx, hb, hl, hm, hlen, hel, hsp, hns⟩
  · simp [Value.cells] at hcs
    obtain ⟨rfl, rfl, rfl⟩ := hcs
    exact ⟨[], [], rfl, Nat.le_refl _, RdG.none_, trivial, by simp, .inl ⟨(Prod.mk.inj hx).1, rfl⟩⟩
  · simp [Value.cells] at hcs
    obtain ⟨rfl, rfl, rfl⟩ := hcs
    obtain ⟨hx1, _⟩ := Prod.mk.inj hx
    subst hx1
    obtain ⟨zs, h1, h2⟩ := choose_list (Q := fun i (q : List Int × Value) => W.cell? (a'.add i) = some q.2 ∧ (∃ A c, q.2 = .slice A q.1.length c ∧ RdG W.heap.size W [] A (q.1.map (Value.int k)) ∧ q.1.length ≤ c) ∧ (∀ x ∈ q.1, (Lit.int k x).wf = true) ∧
        ∃ y, elems[i]? = some y ∧ ((y.1 = .nil ∧ q.1 = []) ∨ ∃ es' sp', y.1 = .slice es' sp' ∧ es'.length = q.1.length)) len (fun i hi => by
      have := hel i hi
      rw [List.getElem?_eq_getElem (by omega), hc1, Nat.mul_one, Option.bind_eq_some_iff] at this
      obtain ⟨cs, hcs, hy⟩ := this
      have hel' : elems[i]? = some elems[i] := List.getElem?_eq_getElem (by omega)
      rcases open_ints hu1 hu2 hc2 hy with ⟨e1, e2⟩ | ⟨x, l, c, zs, e1, _, hl', _, hz, hxx, hcell, hwf⟩
      · subst e1
        exact ⟨([], .slice none 0 0), cell_of_cells?_one hcs, ⟨none, 0, rfl, RdG.none_, Nat.le_refl _⟩, by simp, _, hel', .inl ⟨by rw [e2], rfl⟩⟩
      · subst e1
        have hl2 : l ≤ zs.length := by
          rw [hz]
          split
          · exact hl'
          · exact Nat.le_refl _
        have hzl : (zs.take l).length = l := by rw [List.length_take]; omega
        refine ⟨(zs.take l, .slice (some x) l c), cell_of_cells?_one hcs, ⟨some x, c, by rw [hzl], RdG.start fun j u hu => ?_, by rw [hzl]; exact hl'⟩, fun x hx => hwf x (List.mem_of_mem_take hx), _, hel', .inr ⟨_, _, by rw [hxx], by simp [lits]⟩⟩
        have hj : j < l := by
          rcases Nat.lt_or_ge j l with h | h
          · exact h
          · rw [List.getElem?_eq_none (by simp; omega)] at hu; cases hu
        refine ⟨_, rfl, ?_⟩
        rw [hcell j (by omega)]
        rw [List.getElem?_map, List.getElem?_take, if_pos hj] at hu
        rw [List.getD_eq_getElem?_getD]
        cases hz : zs[j]? with
        | none => rw [hz] at hu; cases hu
        | some y => rw [hz] at hu; cases hu; rfl)
    refine ⟨zs.map (·.1), zs.map (·.2), by simp [h1], by simp; omega, RdG.start fun j u hj => ?_, VV.of _ _ (by simp) (fun i v x hv hx => ?_), fun xs hxs => ?_, .inr ⟨_, _, rfl, by simp; omega, fun i y x hy hx => ?_⟩⟩
    · rw [List.getElem?_map, Option.map_eq_some_iff] at hj
      obtain ⟨q, hq, rfl⟩ := hj
      exact ⟨a', rfl, (h2 j q hq).1⟩
    · rw [List.getElem?_map, Option.map_eq_some_iff] at hv hx
      obtain ⟨q, hq, rfl⟩ := hv
      obtain ⟨q', hq', rfl⟩ := hx
      rw [hq] at hq'; cases hq'
      exact (h2 i q hq).2.1
    · obtain ⟨q, hq, rfl⟩ := List.mem_map.1 hxs
      obtain ⟨i, hi⟩ := List.mem_iff_getElem?.1 hq
      exact (h2 i q hi).2.2.1
    · rw [List.getElem?_map, Option.map_eq_some_iff] at hy hx
      obtain ⟨w, hw, rfl⟩ := hy
      obtain ⟨q, hq, rfl⟩ := hx
      obtain ⟨y', hy', hh⟩ := (h2 i q hq).2.2.2
      rw [hw] at hy'; cases hy'
      exact hh
theorem weightsAll_mem {e : TypeId} {n : Nat} : ∀ (es : List (DataW H)) (i : Nat) (y : DataW H), es[i]? = some y → n ∈ y.weights P e → n ∈ DataW.weightsAll P e es
  | [], i, y, h, _ => by simp at h
  | d :: r, 0, y, h, hn => by
    simp only [List.getElem?_cons_zero, Option.some.injEq] at h
    subst h
    simp only [DataW.weightsAll, List.mem_append]
    exact .inl hn
  | d :: r, i + 1, y, h, hn => by
    simp only [List.getElem?_cons_succ] at h
    simp only [DataW.weightsAll, List.mem_append]
    exact .inr (weightsAll_mem r i y h hn)
theorem sized_nest {k : IntKind} {ts : List TypeId} {ds : List (DataW H)} (h : (DataW.weightsEach P ts ds).all (· ≤ reachBytes) = true) {j : Nat} {t e1 e2 : TypeId} {d : DataW H} {xss : List (List Int)} (ht : ts[j]? = some t) (hd : ds[j]? = some d) (hu : P.underlying t = some (.slice e1)) (hu1 : P.underlying e1 = some (.slice e2)) (hB : P.bytesOf e2 = 1) (hN : Nest k d xss) : ∀ x ∈ xss, x.length ≤ 140737488351232 := by
  intro x hx
  rcases hN with ⟨_, rfl⟩ | ⟨es, sp, rfl, hl, hN⟩
  · cases hx
  · obtain ⟨i, hi⟩ := List.mem_iff_getElem?.1 hx
    have hlt : i < es.length := by rw [hl]; exact (List.getElem?_eq_some_iff.1 hi).1
    rcases hN i es[i] x (List.getElem?_eq_getElem hlt) hi with ⟨_, rfl⟩ | ⟨es', sp', hy, hl'⟩
    · simp
    · have hm : (es'.length + sp'.length) * P.bytesOf e2 ∈ (DataW.slice es sp).weights P t := by
        simp only [DataW.weights, hu, List.mem_cons, List.mem_append]
        refine .inr (.inl (weightsAll_mem es i es[i] (List.getElem?_eq_getElem hlt) ?_))
        rw [hy]
        simp [DataW.weights, hu1]
      have h2 := List.all_eq_true.1 h _ (DataW.weights_mem_each ht hd _ hm)
      rw [hB, Nat.mul_one] at h2
      have h3 : es'.length + sp'.length ≤ reachBytes := by simpa using h2
      have e : reachBytes = 140737488351232 := rfl
      omega
end
end Go.Sx
