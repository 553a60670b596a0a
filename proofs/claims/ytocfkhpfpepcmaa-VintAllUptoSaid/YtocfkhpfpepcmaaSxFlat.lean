/- Own text. Rows of elements of several cells each: read, cut, appended to, written out. -/
import Derived.Test.YtocfkhpfpepcmaaSxIter
set_option linter.unusedSimpArgs false
set_option linter.unusedVariables false
namespace Go.Sx
open Go Go.RowKit
variable {P : Program} {ro : Option Nat} {n : Nat} {ds : List Deferred} {ops : Array Oper} {Q : Exit → Act → World → Prop} {rest : List Oper} {s s' : Env}
variable {B : Nat} {w0 : World} {G G' : List HP}
section
variable {d : Nat} {ty : TypeId} {pos : String} {aft : Array Edge} {gd : Option (Nat × Bool)}
variable {α : Type} {enc : α → List Value} {sz : Nat}

theorem flat_len (hE : ∀ x, (enc x).length = sz) (xs : List α) : (xs.flatMap enc).length = xs.length * sz := by
  induction xs with
  | nil => simp
  | cons x r ih => rw [List.flatMap_cons, List.length_append, hE, ih, List.length_cons, Nat.succ_mul]; omega
theorem flat_drop (hE : ∀ x, (enc x).length = sz) : ∀ (xs : List α) (i : Nat), (xs.drop i).flatMap enc = (xs.flatMap enc).drop (i * sz)
  | xs, 0 => by simp
  | [], i + 1 => by simp
  | x :: r, i + 1 => by
    rw [List.drop_succ_cons, List.flatMap_cons, flat_drop hE r i, Nat.succ_mul, Nat.add_comm (i * sz) sz, ← List.drop_drop, List.drop_left' (hE x)]
theorem flat_take (hE : ∀ x, (enc x).length = sz) : ∀ (xs : List α) (i : Nat), (xs.take i).flatMap enc = (xs.flatMap enc).take (i * sz)
  | xs, 0 => by simp
  | [], i + 1 => by simp
  | x :: r, i + 1 => by
    rw [List.take_succ_cons, List.flatMap_cons, List.flatMap_cons, flat_take hE r i, Nat.succ_mul, List.take_append, hE x, show i * sz + sz - sz = i * sz by omega, List.take_of_length_le (l := enc x) (by rw [hE x]; omega)]
theorem flat_get [Inhabited α] (hE : ∀ x, (enc x).length = sz) (xs : List α) (i : Int) (h : 0 ≤ i ∧ i < xs.length) : ((xs.flatMap enc).drop (i.toNat * sz)).take sz = enc (rd xs i) := by
  have hi : i.toNat < xs.length := by omega
  rw [← flat_drop hE]
  have e : xs.drop i.toNat = rd xs i :: xs.drop (i.toNat + 1) := by
    rw [List.drop_eq_getElem_cons hi]
    congr 1
    simp [rd, List.getD, List.getElem?_eq_getElem hi]
  rw [e, List.flatMap_cons, List.take_left' (hE _)]
theorem flat_cell [Inhabited α] (hE : ∀ x, (enc x).length = sz) (xs : List α) (i : Int) (h : 0 ≤ i ∧ i < xs.length) (o : Nat) (ho : o < sz) : (xs.flatMap enc)[i.toNat * sz + o]? = (enc (rd xs i))[o]? := by
  rw [← flat_get hE xs i h, List.getElem?_take, if_pos ho, List.getElem?_drop]
theorem flat_pos (hE : ∀ x, (enc x).length = sz) (hsz : 0 < sz) {xs : List α} {i : Int} (h : 0 ≤ i ∧ i < (xs.length : Int)) : i.toNat * sz < (xs.flatMap enc).length := by
  rw [flat_len hE]; exact Nat.mul_lt_mul_of_pos_right (by omega) hsz
theorem RdG.someM (hE : ∀ x, (enc x).length = sz) (hsz : 0 < sz) {A : Option Addr} {xs : List α} {i : Int} (hr : RdG B w0 G A (xs.flatMap enc)) (h : 0 ≤ i ∧ i < (xs.length : Int)) (w : World) (hw : St B w0 G w) : ∃ a, A = some a := hr.some_ (flat_pos hE hsz h) w hw
/-- An element, whole. -/
theorem Y.ldM [Inhabited α] {te : TypeId} {x : Operand} {A : Option Addr} {a : Addr} {i : Int} {xs : List α} {us : List Value} {D : TypeDesc} {bt : Nat} {z : Value} (hE : ∀ x, (enc x).length = sz) (ht : P.underlying te = some D) (hs : scalarD D = false) (hi : TI P te sz bt z)
    (hx : s.ev x = some (.pointer (some (a.add (i.toNat * sz))))) (ha : A = some a) (h0 : 0 ≤ i ∧ i < xs.length) (hr : RdG B w0 G A (xs.flatMap enc)) (hus : us = enc (rd xs i)) : Qs P n ds B w0 ⟨some d, .load te x, ty, pos, aft, gd⟩ s G (.agg us.toArray) := by
  subst hus
  exact Y.ldA ht hs hi (hE _) hx hr ha (by rw [hE]; exact flat_get hE xs i h0)
/-- A part of an element, of one cell. -/
theorem Y.ldF [Inhabited α] {te : TypeId} {x : Operand} {A : Option Addr} {a : Addr} {i : Int} {o : Nat} {xs : List α} {u : Value} {D : TypeDesc} (hE : ∀ x, (enc x).length = sz) (ht : P.underlying te = some D) (hs : scalarD D = true)
    (hx : s.ev x = some (.pointer (some (a.add (i.toNat * sz + o))))) (ha : A = some a) (h0 : 0 ≤ i ∧ i < xs.length) (ho : o < sz) (hr : RdG B w0 G A (xs.flatMap enc)) (hu : (enc (rd xs i))[o]? = some u) : Qs P n ds B w0 ⟨some d, .load te x, ty, pos, aft, gd⟩ s G u :=
  Y.ld ht hs hx hr ha (by rw [flat_cell hE xs i h0 o ho]; exact hu)
/-- A part that is a struct. -/
theorem Y.ldFA [Inhabited α] {te : TypeId} {x : Operand} {A : Option Addr} {a : Addr} {i : Int} {o k : Nat} {xs : List α} {us : List Value} {D : TypeDesc} {bt : Nat} {z : Value} (hE : ∀ x, (enc x).length = sz) (ht : P.underlying te = some D) (hs : scalarD D = false) (hi : TI P te k bt z) (hl : us.length = k)
    (hx : s.ev x = some (.pointer (some (a.add (i.toNat * sz + o))))) (ha : A = some a) (h0 : 0 ≤ i ∧ i < xs.length) (ho : o + k ≤ sz) (hr : RdG B w0 G A (xs.flatMap enc)) (hu : ((enc (rd xs i)).drop o).take k = us) : Qs P n ds B w0 ⟨some d, .load te x, ty, pos, aft, gd⟩ s G (.agg us.toArray) := by
  refine Y.ldA ht hs hi hl hx hr ha ?_
  rw [hl, ← hu, ← flat_get hE xs i h0, List.drop_take, List.drop_drop, List.take_take, Nat.min_eq_left (by omega)]
theorem J.appM {t ty' e : TypeId} {x y : Operand} {bt : Nat} {z : Value} {A A2 : Option Addr} {c c2 : Nat} {xs ys : List α} (hE : ∀ x, (enc x).length = sz) (h1 : ∀ x, ∀ u ∈ enc x, u.oneCell' = true) (hd : Nat.blt d n = true) (ht : P.underlying t = some (.slice e)) (hi : TI P e sz bt z) (hzs : z.cells.size = sz) (hsz : 0 < sz) (hbt : 0 < bt)
    (hx : s.ev x = some (.slice A xs.length c)) (hy : s.ev y = some (.slice A2 ys.length c2)) (hr : RdG B w0 (own e sz A c (xs.flatMap enc) :: G) A2 (ys.flatMap enc)) (hb : (xs.length + ys.length) * bt ≤ 140737488355328)
    (kk : ∀ A' c', J P ro n ds ops Q B w0 rest ((d, .slice A' (xs ++ ys).length c') :: s) (own e sz A' c' ((xs ++ ys).flatMap enc) :: G)) :
    J P ro n ds ops Q B w0 (⟨some d, .call { callee := .builtin .append, args := #[x, y], argTypes := #[t, t] }, ty', pos, aft, none⟩ :: rest) s (own e sz A c (xs.flatMap enc) :: G) :=
  J.app hd ht hi hzs hsz hbt hx hy (flat_len hE xs) (flat_len hE ys) (fun u hu => by obtain ⟨v, _, hv⟩ := List.mem_flatMap.1 hu; exact h1 v u hv) hr hb fun A' c' => by
    have := kk A' c'; rwa [List.length_append, List.flatMap_append] at this
theorem J.bsM {t e : TypeId} {len : Nat} {parts : Array (Nat × Operand)} {vs : List (Nat × Value)} {xs : List α} {bt : Nat} {z : Value} {zs : List Value} (hE : ∀ x, (enc x).length = sz) (hd : Nat.blt d n = true) (ht : P.underlying t = some (.slice e)) (hi : TI P e sz bt z)
    (hz : (Array.range (len * sz)).map (fun x => z.cells[x % z.cells.size]!) = zs.toArray) (hp : s.evP parts.toList = some vs) (hf : Instr.fill (fun i => some (i * sz, sz)) zs.toArray vs = some (xs.flatMap enc).toArray) (hl : xs.length = len) (h24 : Nat.ble (len * sz) 16777216 = true) (hlm : Nat.ble len 16777216 = true)
    (kk : ∀ A, J P ro n ds ops Q B w0 rest ((d, .slice A xs.length len) :: s) (own e sz A len (xs.flatMap enc) :: G)) :
    J P ro n ds ops Q B w0 (⟨some d, .buildSlice t len parts, ty, pos, aft, none⟩ :: rest) s G :=
  J.core hd (by simp) fun a w ha hw => by
    have h24' := Nat.le_of_ble_eq_true h24
    have hlm' := Nat.le_of_ble_eq_true hlm
    have hr := run_buildSlice (P := P) (len := len) (vs := vs.toArray) (L := xs.flatMap enc) ht hi (by rw [hz]; exact hf) h24' w
    have hp' : parts.map (fun (i, x) => (i, a.eval x)) = vs.toArray := by rw [← ha.evP hp]; exact Array.ext' (by simp)
    have hfl := flat_len hE xs
    rw [hl] at hfl
    refine ⟨.slice (some ⟨w.heap.size, 0, none⟩) len len, _, _, _, ?_, own_alloc hw (c := len) (cur := (xs.flatMap enc).toArray) (xs.flatMap enc) (by rw [List.size_toArray]; exact hfl) (by simp [maxLen]; omega) (by omega) (by rw [List.take_of_length_le (by simp)]), by have := kk (some ⟨w.heap.size, 0, none⟩); rwa [hl] at this, rfl⟩
    simp only [execOp, Sem.run_bind, hp', hr, Result.andThen_ok, Sem.run_pure]
theorem Y.faA2 {t : TypeId} {x : Operand} {f off k o o2 : Nat} {A : Addr} (hf : FA P t f off) (hx : s.ev x = some (.pointer (some (A.add (k + o))))) (ho : Nat.add o off = o2) : Qp P n ds ⟨some d, .fieldAddr t x f, ty, pos, aft, gd⟩ s (.pointer (some (A.add (k + o2)))) := by
  have h := Y.faA (P := P) (n := n) (ds := ds) (ty := ty) (pos := pos) (aft := aft) (d := d) (gd := gd) hf hx
  have ho' : o + off = o2 := ho
  rwa [Nat.add_assoc, ho'] at h
theorem Y.slcM {t e : TypeId} {x : Operand} {lo hi : Option Operand} {A : Option Addr} {c l h bt : Nat} {z : Value} {xs : List α} (ht : P.underlying t = some (.slice e)) (hi' : TI P e sz bt z)
    (hx : s.ev x = some (.slice A xs.length c)) (hl : bnd s lo 0 l) (hh : bnd s hi xs.length h) (h1 : l ≤ h ∧ h ≤ xs.length) (hc : xs.length ≤ c) :
    Qp P n ds ⟨some d, .slice t x lo hi none, ty, pos, aft, gd⟩ s (.slice (subA sz A c l) ((xs.take h).drop l).length (c - l)) := by
  rw [take_drop_len xs l h h1.2]
  exact Y.slc ht hi' hx hl hh ⟨h1.1, by omega⟩
theorem RdG.subM (hE : ∀ x, (enc x).length = sz) {A : Option Addr} {c l h : Nat} {xs : List α} (hr : RdG B w0 G A (xs.flatMap enc)) (hc : xs.length ≤ c) : RdG B w0 G (subA sz A c l) (((xs.take h).drop l).flatMap enc) := by
  have := hr.sub (sz := sz) (c := c) (by rw [flat_len hE]; exact Nat.mul_le_mul_right _ hc) l h
  rwa [flat_drop hE, flat_take hE]
theorem own_leM {e : TypeId} {A : Option Addr} {c : Nat} {xs : List α} (hE : ∀ x, (enc x).length = sz) (hsz : 0 < sz) (i : Nat) (hi : G[i]? = some (own e sz A c (xs.flatMap enc))) (w : World) (hw : St B w0 G w) : xs.length ≤ c := by
  have := own_le i hi w hw
  rw [flat_len hE] at this
  exact Nat.le_of_mul_le_mul_right this hsz
end
/-- A chunk and all that was there. -/
theorem Inc.mix {X : HP} (L : List HP) (i : Nat) (hi : L[i]? = some X) (e : L ++ G = G') : Inc B w0 (X :: G) G' := fun K w hw => by
  subst e
  have hlt : i < L.length := (List.getElem?_eq_some_iff.1 hi).1
  have h1 : (K ++ (L ++ G))[K.length + i]? = some X := by rw [List.getElem?_append_right (by omega), show K.length + i - K.length = i by omega, List.getElem?_append_left hlt]; exact hi
  have h2 := hw.pull (K.length + i) h1 rfl
  rw [List.eraseIdx_append_of_length_le (by omega), show K.length + i - K.length = i by omega, List.eraseIdx_append_of_lt_length hlt, ← List.append_assoc] at h2
  exact ⟨_, h2.unmid⟩
end Go.Sx
