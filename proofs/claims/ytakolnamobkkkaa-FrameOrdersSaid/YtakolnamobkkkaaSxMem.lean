/- Own text. Operations on memory: loads, stores, new variables, slices, append. -/
import Derived.Test.YtakolnamobkkkaaSxOps
import Derived.Laws.BytesArg
import Derived.Lib.ConvBytes
import Derived.Lib.AppendStr
import Derived.Laws.CopyRow
import Derived.Laws.OwnMore
set_option linter.unusedSimpArgs false
set_option linter.unusedVariables false
namespace Go.Sx
open Go Go.RowKit

/-! ### Types -/
/-- Size in cells, in bytes, zero value of a type. -/
def TI (P : Program) (t : TypeId) (sz bt : Nat) (z : Value) : Prop := ∃ i, P.info? t = some i ∧ i.size = sz ∧ i.bytes = bt ∧ i.zero = some z
theorem TI.of {P : Program} {t : TypeId} {sz bt : Nat} {z : Value} (h : (P.info? t).map (fun i => (i.size, i.bytes, i.zero)) = some (sz, bt, some z)) : TI P t sz bt z := by
  cases hi : P.info? t with
  | none => simp [hi] at h
  | some i => simp [hi] at h; exact ⟨i, hi, h.1, h.2.1, h.2.2⟩
theorem TI.size {P : Program} {t : TypeId} {sz bt : Nat} {z : Value} (h : TI P t sz bt z) (w : World) : (Go.sizeOf t).run P w = .ok sz w := by
  obtain ⟨i, hi, rfl, _, _⟩ := h; simp [Go.sizeOf, typeInfo, hi]
theorem TI.zero {P : Program} {t : TypeId} {sz bt : Nat} {z : Value} (h : TI P t sz bt z) (w : World) : (zeroValue t).run P w = .ok z w := by
  obtain ⟨i, hi, _, _, hz⟩ := h; simp [zeroValue, typeInfo, hi, hz]
def scalarD : TypeDesc → Bool
  | .struct _ => false
  | .array _ _ => false
  | _ => true
theorem isAgg_no {P : Program} {t : TypeId} {D : TypeDesc} (ht : P.underlying t = some D) (hs : scalarD D = true) (w : World) : (isAgg t).run P w = .ok false w := by
  cases D <;> simp [scalarD] at hs <;> simp [isAgg, run_underlying ht]
theorem isAgg_yes {P : Program} {t : TypeId} {D : TypeDesc} (ht : P.underlying t = some D) (hs : scalarD D = false) (w : World) : (isAgg t).run P w = .ok true w := by
  cases D <;> simp [scalarD] at hs <;> simp [isAgg, run_underlying ht]

variable {P : Program} {ro : Option Nat} {n : Nat} {ds : List Deferred} {ops : Array Oper} {Q : Exit → Act → World → Prop} {rest : List Oper} {s s' : Env}
variable {B : Nat} {w0 : World} {G G' : List HP}

/-! ### Lists of cells -/
def rd {α : Type} [Inhabited α] (xs : List α) (i : Int) : α := xs.getD i.toNat default
theorem map_get {α : Type} [Inhabited α] (enc : α → Value) (xs : List α) (i : Int) (h0 : 0 ≤ i) (h1 : i < xs.length) : (xs.map enc)[i.toNat]? = some (enc (rd xs i)) := by
  have : i.toNat < xs.length := by omega
  simp [rd, List.getD, List.getElem?_eq_getElem this]
theorem RdG.cell {A : Option Addr} {L : List Value} {a : Addr} {j : Nat} {u : Value} (h : RdG B w0 G A L) (ha : A = some a) (hj : L[j]? = some u) (w : World) (hw : St B w0 G w) : w.cell? (a.add j) = some u := by
  obtain ⟨a', e, hc⟩ := h.now hw j u hj
  rw [ha] at e; cases e; exact hc
theorem cells_cell {g : Nat} {ty : TypeId} {L : List Value} {j : Nat} {u : Value} (i : Nat) (hi : G[i]? = some (cells g ty L)) (hj : L[j]? = some u) (w : World) (hw : St B w0 G w) : w.cell? ⟨g, j, none⟩ = some u := by
  obtain ⟨q, hX, hq⟩ := at_of i hi hw
  obtain ⟨a, e, hc⟩ := rd_cells hX hq j u hj
  cases e; rwa [add0] at hc
theorem RdG.some_ {A : Option Addr} {L : List Value} (h : RdG B w0 G A L) {j : Nat} (hj : j < L.length) (w : World) (hw : St B w0 G w) : ∃ a, A = some a := by
  obtain ⟨a, e, _⟩ := h.now hw j L[j] (by simp [hj])
  exact ⟨a, e⟩
theorem own_le {e : TypeId} {sz : Nat} {A : Option Addr} {c : Nat} {L : List Value} (i : Nat) (hi : G[i]? = some (own e sz A c L)) (w : World) (hw : St B w0 G w) : L.length ≤ c * sz := by
  obtain ⟨q, hX, _⟩ := at_of i hi hw
  rcases hX with ⟨_, _, rfl, _⟩ | ⟨_, _, _, _, _, _, h, _⟩
  · simp
  · exact h
def subA (sz : Nat) (A : Option Addr) (c l : Nat) : Option Addr := if c = l then A else A.map (·.add (l * sz))
theorem RdG.sub {A : Option Addr} {L : List Value} {sz c : Nat} (h : RdG B w0 G A L) (hc : L.length ≤ c * sz) (l hh : Nat) : RdG B w0 G (subA sz A c l) ((L.take (hh * sz)).drop (l * sz)) := by
  unfold subA
  split
  · rename_i e; subst e
    have : (L.take (hh * sz)).drop (c * sz) = [] := List.drop_eq_nil_of_le (by simp; omega)
    rw [this]
    exact fun _ _ _ j u hj => by simp at hj
  · exact (h.take _).drop _

theorem idx_lt {i : Int} {m : Nat} (h : 0 ≤ i ∧ i < (m : Int)) : Int.toNat i < m := by omega

section memops
variable {d : Nat} {ty : TypeId} {pos : String} {aft : Array Edge} {gd : Option (Nat × Bool)}

theorem run_load {p : Addr} {u : Value} {w : World} (hc : w.cell? p = some u) : (load p).run P w = .ok u w := by simp [load, Sem.run, hc]

/-- A load of one cell. -/
theorem Y.ld {te : TypeId} {x : Operand} {A : Option Addr} {a : Addr} {j : Nat} {L : List Value} {u : Value} {D : TypeDesc} (ht : P.underlying te = some D) (hs : scalarD D = true) (hx : s.ev x = some (.pointer (some (a.add j))))
    (hr : RdG B w0 G A L) (ha : A = some a) (hj : L[j]? = some u) : Qs P n ds B w0 ⟨some d, .load te x, ty, pos, aft, gd⟩ s G u := fun K a' w ha' hw => by
  obtain ⟨b, e, hc⟩ := hr K w hw j u hj
  rw [ha] at e; cases e
  simp [execOp, Sem.run_bind, ha'.ev hx, Instr.loadAt, Instr.sureAddr, loadVar, isAgg_no ht hs, hc]
/-- From a variable of the function's own. -/
theorem Y.ldC {te : TypeId} {x : Operand} {g j : Nat} {t : TypeId} {L : List Value} {u : Value} {D : TypeDesc} (i : Nat) (ht : P.underlying te = some D) (hs : scalarD D = true) (hx : s.ev x = some (.pointer (some ⟨g, j, none⟩)))
    (hi : G[i]? = some (cells g t L)) (hj : L[j]? = some u) : Qs P n ds B w0 ⟨some d, .load te x, ty, pos, aft, gd⟩ s G u :=
  Y.ld ht hs (a := ⟨g, 0, none⟩) (j := j) (by rw [add0]; exact hx) (RdG.cells i hi) rfl hj
/-- A load of a struct or an array. -/
theorem Y.ldA {te : TypeId} {x : Operand} {A : Option Addr} {a : Addr} {j : Nat} {L us : List Value} {D : TypeDesc} {sz bt : Nat} {z : Value} (ht : P.underlying te = some D) (hs : scalarD D = false) (hi : TI P te sz bt z) (hl : us.length = sz)
    (hx : s.ev x = some (.pointer (some (a.add j)))) (hr : RdG B w0 G A L) (ha : A = some a) (hj : (L.drop j).take us.length = us) : Qs P n ds B w0 ⟨some d, .load te x, ty, pos, aft, gd⟩ s G (.agg us.toArray) := fun K a' w ha' hw => by
  have hc : ∀ i u, us[i]? = some u → w.cell? ((a.add j).add i) = some u := by
    intro i u hu
    rw [← hj, List.getElem?_take] at hu
    split at hu
    · rw [List.getElem?_drop] at hu
      obtain ⟨b, e, hc⟩ := hr K w hw (j + i) u hu
      rw [ha] at e; cases e
      rw [add_add]; exact hc
    · cases hu
  have hl' := run_loadCells_list (P := P) w (a.add j) us hc
  rw [hl] at hl'
  simp [execOp, Sem.run_bind, ha'.ev hx, Instr.loadAt, Instr.sureAddr, loadVar, isAgg_yes ht hs, hi.size, hl']
theorem Y.ldCA {te : TypeId} {x : Operand} {g j : Nat} {t : TypeId} {L us : List Value} {D : TypeDesc} {sz bt : Nat} {z : Value} (i : Nat) (ht : P.underlying te = some D) (hs : scalarD D = false) (hi' : TI P te sz bt z) (hl : us.length = sz)
    (hx : s.ev x = some (.pointer (some ⟨g, j, none⟩))) (hi : G[i]? = some (cells g t L)) (hj : (L.drop j).take us.length = us) : Qs P n ds B w0 ⟨some d, .load te x, ty, pos, aft, gd⟩ s G (.agg us.toArray) :=
  Y.ldA ht hs hi' hl (a := ⟨g, 0, none⟩) (j := j) (by rw [add0]; exact hx) (RdG.cells i hi) rfl hj

/-- The address of an element of a slice. -/
theorem Y.ixa {t e : TypeId} {x ix : Operand} {A : Option Addr} {p : Addr} {m c sz bt : Nat} {z : Value} {k : IntKind} {i : Int} (ht : P.underlying t = some (.slice e)) (hz : TI P e sz bt z)
    (hx : s.ev x = some (.slice A m c)) (hi : s.ev ix = some (.int k i)) (h0 : 0 ≤ i ∧ i < m) (hA : A = some p) : Qp P n ds ⟨some d, .indexAddr t x ix, ty, pos, aft, gd⟩ s (.pointer (some (p.add (i.toNat * sz)))) := fun a w ha => by
  subst hA
  simp [execOp, Sem.run_bind, ha.ev hx, ha.ev hi, Instr.indexAt, asIntOf, run_underlying ht, h0.1, h0.2, hz.size]
/-- Of an array behind a pointer. -/
theorem Y.ixp {t e : TypeId} {x ix : Operand} {p : Addr} {m sz bt : Nat} {z : Value} {k : IntKind} {i : Int} (ht : P.underlying t = some (.array m e)) (hz : TI P e sz bt z)
    (hx : s.ev x = some (.pointer (some p))) (hi : s.ev ix = some (.int k i)) (h0 : 0 ≤ i ∧ i < m) : Qp P n ds ⟨some d, .indexAddr t x ix, ty, pos, aft, gd⟩ s (.pointer (some (p.add (i.toNat * sz)))) := fun a w ha => by
  simp [execOp, Sem.run_bind, ha.ev hx, ha.ev hi, Instr.indexAt, Instr.sureAddr, asIntOf, run_underlying ht, h0.1, h0.2, hz.size]
theorem J.fresh {d d' : Nat} {u v : Value} (hf : s.get d = none) (kk : J P ro n ds ops Q B w0 rest ((d', u) :: s) G) : J P ro n ds ops Q B w0 rest ((d', u) :: (d, v) :: s) G :=
  fun a w ha hw => kk a w (ha.sub fun k x hk => by
    rw [Env.get_cons] at hk ⊢
    split
    · rename_i e; rw [if_pos e] at hk; exact hk
    · rename_i e; rw [if_neg e] at hk
      rw [Env.get_cons]
      split
      · rename_i e'; subst e'; rw [hf] at hk; cases hk
      · exact hk) hw
/-- An element of a slice of one-cell elements: address and load. -/
theorem J.el {α : Type} [Inhabited α] {enc : α → Value} {t e te : TypeId} {x ix : Operand} {A : Option Addr} {c bt d' : Nat} {z : Value} {k : IntKind} {i : Int} {xs : List α} {D : TypeDesc} {ty' : TypeId} {pos' : String} {aft' : Array Edge}
    (hd : Nat.blt d n = true) (hd' : Nat.blt d' n = true) (hf : s.get d = none) (ht : P.underlying t = some (.slice e)) (hz : TI P e 1 bt z) (hte : P.underlying te = some D) (hs : scalarD D = true)
    (hx : s.ev x = some (.slice A xs.length c)) (hi : s.ev ix = some (.int k i)) (h0 : 0 ≤ i ∧ i < xs.length) (hr : RdG B w0 G A (xs.map enc))
    (kk : J P ro n ds ops Q B w0 rest ((d', enc (rd xs i)) :: s) G) : J P ro n ds ops Q B w0 (⟨some d, .indexAddr t x ix, ty, pos, aft, none⟩ :: ⟨some d', .load te (.tmp d), ty', pos', aft', none⟩ :: rest) s G :=
  J.know (hr.some_ (j := i.toNat) (by simp; omega)) fun ⟨a, ha⟩ => J.p rfl hd rfl rfl (Y.ixa ht hz hx hi h0 ha)
    (J.r rfl hd' rfl rfl (Y.ld hte hs (j := i.toNat * 1) (by simp [Env.ev, Env.get_cons]) hr ha (by rw [Nat.mul_one]; exact map_get enc xs i h0.1 h0.2)) (J.fresh hf kk))
/-- An element, through its address. -/
theorem Y.ldE {α : Type} [Inhabited α] {enc : α → Value} {te : TypeId} {x : Operand} {A : Option Addr} {a : Addr} {i : Int} {xs : List α} {D : TypeDesc} (hte : P.underlying te = some D) (hs : scalarD D = true)
    (hx : s.ev x = some (.pointer (some (a.add (i.toNat * 1))))) (ha : A = some a) (h0 : 0 ≤ i ∧ i < xs.length) (hr : RdG B w0 G A (xs.map enc)) : Qs P n ds B w0 ⟨some d, .load te x, ty, pos, aft, gd⟩ s G (enc (rd xs i)) :=
  Y.ld hte hs hx hr ha (by rw [Nat.mul_one]; exact map_get enc xs i h0.1 h0.2)

/-- The address of a field. -/
def FA (P : Program) (t : TypeId) (f off : Nat) : Prop := ∀ a w, (Instr.fieldAt t (.pointer (some a)) f).run P w = .ok (.pointer (some (a.add off))) w
theorem FA.of {P : Program} {t : TypeId} {f off : Nat} {fs : Array Field} {fl : Field} {sz bt : Nat} {z : Value} (ht : P.underlying t = some (.struct fs)) (hf : fs[f]? = some fl) (hz : TI P fl.type sz bt z) (h0 : sz ≠ 0) (ho : fl.offset = off) : FA P t f off := by
  intro a w
  simp [Instr.fieldAt, Sem.run_bind, run_underlying ht, hf, Instr.sureAddr, fieldPlace, hz.size, h0, ho]
theorem Y.fa {t : TypeId} {x : Operand} {f off : Nat} {p : Addr} (hf : FA P t f off) (hx : s.ev x = some (.pointer (some p))) : Qp P n ds ⟨some d, .fieldAddr t x f, ty, pos, aft, gd⟩ s (.pointer (some (p.add off))) :=
  fun a w ha => by have h := hf p w; simp [execOp, Sem.run_bind, ha.ev hx, h]
/-- Of a variable of the function's own: spelled out. -/
theorem Y.fa0 {t : TypeId} {x : Operand} {f off : Nat} {g o o' : Nat} (hf : FA P t f off) (hx : s.ev x = some (.pointer (some ⟨g, o, none⟩))) (ho : Nat.add o off = o') : Qp P n ds ⟨some d, .fieldAddr t x f, ty, pos, aft, gd⟩ s (.pointer (some ⟨g, o', none⟩)) := by
  have : (⟨g, o, none⟩ : Addr).add off = ⟨g, o', none⟩ := by
    have h' : o + off = o' := ho
    unfold Addr.add; split
    · rename_i e; rw [e] at h'; simp at h'; rw [h']
    · simp [h']
  have h := Y.fa (P := P) (n := n) (ds := ds) (ty := ty) (pos := pos) (aft := aft) (d := d) (gd := gd) hf hx
  rwa [this] at h

/-! ### Fields and structs by value -/
theorem run_part {t : TypeId} {D : TypeDesc} (ht : P.underlying t = some D) (hs : scalarD D = true) {cs : Array Value} {o : Nat} {v : Value} (hv : cs[o]? = some v) (w : World) : (part t cs o).run P w = .ok v w := by
  simp [part, Sem.run_bind, isAgg_no ht hs, hv]
theorem Y.fld {t : TypeId} {x : Operand} {f : Nat} {fs : Array Field} {fl : Field} {D : TypeDesc} {cs : Array Value} {v : Value} (ht : P.underlying t = some (.struct fs)) (hf : fs[f]? = some fl) (htf : P.underlying fl.type = some D) (hs : scalarD D = true)
    (hx : s.ev x = some (.agg cs)) (hv : cs[fl.offset]? = some v) : Qp P n ds ⟨some d, .field t x f, ty, pos, aft, gd⟩ s v :=
  fun a w ha => by simp [execOp, Instr.field, Sem.run_bind, ha.ev hx, run_underlying ht, hf, asAgg, run_part htf hs hv]
theorem Y.fldA {t : TypeId} {x : Operand} {f : Nat} {fs : Array Field} {fl : Field} {D : TypeDesc} {cs us : Array Value} {sz bt : Nat} {z : Value} (ht : P.underlying t = some (.struct fs)) (hf : fs[f]? = some fl) (htf : P.underlying fl.type = some D) (hs : scalarD D = false) (hi : TI P fl.type sz bt z)
    (hx : s.ev x = some (.agg cs)) (hv : cs.extract fl.offset (fl.offset + sz) = us) : Qp P n ds ⟨some d, .field t x f, ty, pos, aft, gd⟩ s (.agg us) :=
  fun a w ha => by simp [execOp, Instr.field, Sem.run_bind, ha.ev hx, run_underlying ht, hf, asAgg, part, isAgg_yes htf hs, hi.size, hv]
/-- Where the fields of a struct lie: (begin, cells). -/
def PL (P : Program) (t : TypeId) (pl : List (Nat × Nat)) : Prop := ∃ fs : Array Field, P.underlying t = some (.struct fs) ∧ ∀ w, (fs.mapM (fun (f : Field) => do let z ← Go.sizeOf f.type; pure (f.offset, z))).run P w = .ok pl.toArray w
theorem PL.of {t : TypeId} {fs : Array Field} {pl : List (Nat × Nat)} (ht : P.underlying t = some (.struct fs)) (h : fs.toList.map (fun f => (P.info? f.type).map (fun i => (f.offset, i.size))) = pl.map some) : PL P t pl := by
  refine ⟨fs, ht, fun w => ?_⟩
  have key : ∀ (l : List Field) (pl : List (Nat × Nat)), l.map (fun f => (P.info? f.type).map (fun i => (f.offset, i.size))) = pl.map some → (l.mapM (fun f => (do let z ← Go.sizeOf f.type; pure (f.offset, z) : Sem (Nat × Nat)))).run P w = .ok pl w := by
    intro l
    induction l with
    | nil => intro pl h; cases pl with
      | nil => simp
      | cons p r => simp at h
    | cons f l ih =>
      intro pl h
      cases pl with
      | nil => simp at h
      | cons p r =>
        simp only [List.map_cons, List.cons.injEq] at h
        obtain ⟨h1, h2⟩ := h
        cases hi : P.info? f.type with
        | none => simp [hi] at h1
        | some i =>
          simp [hi] at h1
          rw [List.mapM_cons, Sem.run_bind]
          have e1 : Sem.run P (do let z ← Go.sizeOf f.type; pure (f.offset, z) : Sem (Nat × Nat)) w = .ok p w := by simp [Go.sizeOf, typeInfo, hi, h1]
          rw [e1, Result.andThen_ok, Sem.run_bind, ih r h2]
          simp
  rw [Array.mapM_eq_mapM_toList, Sem.run_map, key fs.toList pl h]
  simp
theorem Y.bld {t : TypeId} {parts : Array (Nat × Operand)} {vs : List (Nat × Value)} {pl : List (Nat × Nat)} {cs : List Value} {zs : Array Value} {sz bt : Nat} {z : Value} (hp : s.evP parts.toList = some vs) (hpl : PL P t pl) (hi : TI P t sz bt z) (hz : z.cells = zs)
    (hf : Instr.fill (fun x => pl.toArray[x]?) zs vs = some cs.toArray) : Qp P n ds ⟨some d, .build t parts, ty, pos, aft, gd⟩ s (.agg cs.toArray) := fun a w ha => by
  obtain ⟨fs, ht, hm⟩ := hpl
  have e : parts.map (fun (i, x) => (i, a.eval x)) = vs.toArray := by rw [← ha.evP hp]; exact Array.ext' (by simp)
  simp only [execOp, Sem.run_bind, Instr.build, hi.zero, Result.andThen_ok, run_underlying ht, hm, e, hz, hf, Sem.run_pure]

/-! ### New variables -/
theorem run_newRow (e : TypeId) (cs : Array Value) (w : World) : (newRow e cs).run P w = .ok ⟨w.heap.size, 0, none⟩ (w.alloc (.cells cs e (0, 0))) := by
  rfl
theorem J.newCells {op : Op} {t : TypeId} {L : List Value} (hd : Nat.blt d n = true) (hnd : ∀ c, op ≠ .defer c)
    (hr : ∀ a w, Ok n ds s a → (execOp a.eval ⟨some d, op, ty, pos, aft, none⟩).run P w = .ok (.value (.pointer (some ⟨w.heap.size, 0, none⟩))) (w.alloc (.cells L.toArray t (0, 0))))
    (kk : ∀ g, J P ro n ds ops Q B w0 rest ((d, .pointer (some ⟨g, 0, none⟩)) :: s) (cells g t L :: G)) : J P ro n ds ops Q B w0 (⟨some d, op, ty, pos, aft, none⟩ :: rest) s G :=
  J.core hd hnd fun a w ha hw => ⟨_, _, _, _, hr a w ha, hw.alloc _, kk w.heap.size, rfl⟩
theorem J.alloc {t : TypeId} {sz bt : Nat} {z : Value} {L : List Value} (hd : Nat.blt d n = true) (hz : TI P t sz bt z) (hL : z.cells = L.toArray)
    (kk : ∀ g, J P ro n ds ops Q B w0 rest ((d, .pointer (some ⟨g, 0, none⟩)) :: s) (cells g t L :: G)) : J P ro n ds ops Q B w0 (⟨some d, .alloc t, ty, pos, aft, none⟩ :: rest) s G :=
  J.newCells hd (by simp) (fun a w ha => by simp [execOp, Instr.alloc, Sem.run_bind, hz.zero, newVar, hL, run_newRow, Result.andThen_ok, Sem.run_pure]) kk
theorem J.box {t : TypeId} {x : Operand} {v : Value} {L : List Value} (hd : Nat.blt d n = true) (hx : s.ev x = some v) (hL : v.cells = L.toArray)
    (kk : ∀ g, J P ro n ds ops Q B w0 rest ((d, .pointer (some ⟨g, 0, none⟩)) :: s) (cells g t L :: G)) : J P ro n ds ops Q B w0 (⟨some d, .box t x, ty, pos, aft, none⟩ :: rest) s G :=
  J.newCells hd (by simp) (fun a w ha => by simp [execOp, Instr.box, Sem.run_bind, ha.ev hx, newVar, hL, run_newRow, Result.andThen_ok, Sem.run_pure]) kk

/-! ### Stores -/
theorem run_store {p : Addr} {u v : Value} {w : World} (hc : w.cell? p = some u) (hf : w.frozen? p = false) (h1 : v.oneCell' = true) : (store p v).run P w = .ok () (w.setCell p v) := by
  cases v <;> simp [Value.oneCell'] at h1 <;> simp [store, Sem.run, hc, hf]
theorem one_cells {v : Value} (h1 : v.oneCell' = true) : v.cells = #[v] := by cases v <;> simp [Value.oneCell'] at h1 <;> rfl
theorem run_storeVar {t : TypeId} {p : Addr} {u v : Value} {w : World} {bt : Nat} {z : Value} (hi : TI P t 1 bt z) (hc : w.cell? p = some u) (hf : w.frozen? p = false) (h1 : v.oneCell' = true) : (storeVar t p v).run P w = .ok () (w.setCell p v) := by
  have := run_store (P := P) hc hf h1
  simp [storeVar, Sem.run_bind, hi.size, one_cells h1, storeCells, Addr.add, this]
theorem setCell_heap_same {w : World} {g : Nat} {cur : Array Value} {t : TypeId} {f : Nat × Nat} (h : w.heap[g]? = some (.cells cur t f)) (o : Nat) (v : Value) : (w.setCell ⟨g, o, none⟩ v).heap[g]? = some (.cells (cur.setIfInBounds o v) t f) := by
  simp [World.setCell, Array.getElem?_modify, h]
/-- Into a variable of the function's own. -/
theorem J.st {te : TypeId} {x y : Operand} {g o bt : Nat} {t : TypeId} {L : List Value} {v z : Value} (hi : TI P te 1 bt z) (hx : s.ev x = some (.pointer (some ⟨g, o, none⟩))) (hy : s.ev y = some v) (h1 : v.oneCell' = true) (ho : o < L.length)
    (kk : J P ro n ds ops Q B w0 rest s (cells g t (L.set o v) :: G)) : J P ro n ds ops Q B w0 (⟨none, .store te x y, ty, pos, aft, none⟩ :: rest) s (cells g t L :: G) :=
  J.coreU (by simp) fun a w ha hw => by
    obtain ⟨hg, hB⟩ := blk_head hw
    have hc : w.cell? ⟨g, o, none⟩ = some L[o] := by rw [cell_si hg]; simp [ho]
    have hfz : w.frozen? ⟨g, o, none⟩ = false := by simp [World.frozen?, hg]
    refine ⟨_, _, ?_, hw.setBlk (o' := .cells (L.set o v).toArray t (0, 0)) (w' := w.setCell ⟨g, o, none⟩ v) rfl rfl rfl (by simp) ?_ (fun b _ hb => Below.heap_setCell _ _ _ _ hb), kk⟩
    · simp [execOp, Sem.run_bind, ha.ev hx, ha.ev hy, Instr.storeAt, Instr.sureAddr, run_storeVar hi hc hfz h1, Result.andThen_ok, Sem.run_pure]
    · rw [setCell_heap_same hg]; simp
/-- Into a row of the function's own. -/
theorem J.sto {te e : TypeId} {x y : Operand} {A : Option Addr} {a : Addr} {j c sz bt : Nat} {L : List Value} {v z : Value} (hi : TI P te 1 bt z) (ha' : A = some a) (hx : s.ev x = some (.pointer (some (a.add j)))) (hy : s.ev y = some v) (h1 : v.oneCell' = true) (hj : j < L.length)
    (kk : J P ro n ds ops Q B w0 rest s (own e sz A c (L.set j v) :: G)) : J P ro n ds ops Q B w0 (⟨none, .store te x y, ty, pos, aft, none⟩ :: rest) s (own e sz A c L :: G) :=
  J.coreU (by simp) fun a' w ha hw => by
    obtain ⟨q, hX, hq⟩ := head_of hw
    rcases hX with ⟨h, _⟩ | ⟨g, cur, rfl, rfl, hs, hm, hle, htake⟩
    · rw [ha'] at h; cases h
    · cases ha'
      have hg := (hq g _ (si_self _ _)).1
      rw [add0] at hx
      have hjc : j < cur.size := by
        have := congrArg List.length htake
        simp at this; omega
      have hc : w.cell? ⟨g, j, none⟩ = some cur[j] := by rw [cell_si hg]; simp [hjc]
      have hfz : w.frozen? ⟨g, j, none⟩ = false := by simp [World.frozen?, hg]
      refine ⟨w.setCell ⟨g, j, none⟩ v, own e sz (some ⟨g, 0, none⟩) c (L.set j v) :: G, ?_, ?_, kk⟩
      · simp [execOp, Sem.run_bind, ha.ev hx, ha.ev hy, Instr.storeAt, Instr.sureAddr, run_storeVar hi hc hfz h1, Result.andThen_ok, Sem.run_pure]
      · refine hw.swap rfl rfl rfl (by simp) fun q' hq' hqq => ⟨si g (.cells (cur.setIfInBounds j v) e (0, 0)), .inr ⟨g, _, rfl, rfl, by simpa using hs, hm, by simpa using hle, ?_⟩, ?_, ?_, ?_⟩
        · rw [List.length_set, Array.toList_setIfInBounds, List.take_set, htake]
        · intro b o e'; unfold si at e'; split at e'
          · rename_i hb; subst hb; cases e'; exact ⟨setCell_heap_same hg _ _, (hq b _ (si_self _ _)).2⟩
          · cases e'
        · intro b e'
          left
          rcases hq' with ⟨h, _⟩ | ⟨g', cur', h, rfl, _⟩
          · cases h
          · cases h
            unfold si at e' ⊢; split at e'
            · rename_i hb; rw [if_pos hb]; simp
            · exact absurd rfl e'
        · intro b hb e'
          refine Below.heap_setCell _ _ _ _ ?_
          rcases hq' with ⟨h, _⟩ | ⟨g', cur', h, rfl, _⟩
          · cases h
          · cases h
            intro hbg; subst hbg; simp [si] at e'

end memops
end Go.Sx
