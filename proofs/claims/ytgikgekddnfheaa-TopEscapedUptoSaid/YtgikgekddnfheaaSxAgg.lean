/- Own text. Structs: stored whole, compared, in rows. -/
import Derived.Test.YtgikgekddnfheaaSxMore
import Derived.Laws.StructEq
set_option linter.unusedSimpArgs false
set_option linter.unusedVariables false
namespace Go.Sx
open Go Go.RowKit
variable {P : Program} {ro : Option Nat} {n : Nat} {ds : List Deferred} {ops : Array Oper} {Q : Exit → Act → World → Prop} {rest : List Oper} {s s' : Env}
variable {B : Nat} {w0 : World} {G G' : List HP}
section
variable {d : Nat} {ty : TypeId} {pos : String} {aft : Array Edge} {gd : Option (Nat × Bool)}

/-! ### A struct is stored whole -/
theorem run_storeVar_agg {te : TypeId} {sz bt : Nat} {z : Value} {us : List Value} (hi : TI P te sz bt z) (hl : us.length = sz) {g o : Nat} {t : TypeId} {cur : Array Value} {w : World} (hg : w.heap[g]? = some (.cells cur t (0, 0))) (ho : o + us.length ≤ cur.size) (h1 : ∀ v ∈ us, v.oneCell' = true) :
    (storeVar te ⟨g, o, none⟩ (.agg us.toArray)).run P w = .ok () (w.setRow g (cur.toList.take o ++ us ++ cur.toList.drop (o + us.length)).toArray) := by
  have h := run_storeCells_at P g o t us 0 cur w hg (by simpa using ho) h1
  have hs : (Value.agg us.toArray).cells.size = sz := by simp [Value.cells, hl]
  simp only [storeVar, Sem.run_bind, hi.size, Result.andThen_ok, hs]
  simpa [Value.cells] using h
theorem J.stA {te : TypeId} {x y : Operand} {g o sz bt : Nat} {t : TypeId} {L us L' : List Value} {z : Value} (hi : TI P te sz bt z) (hx : s.ev x = some (.pointer (some ⟨g, o, none⟩))) (hy : s.ev y = some (.agg us.toArray)) (ho : Nat.ble (o + us.length) L.length = true) (hl : us.length = sz) (h1 : us.all Value.oneCell' = true)
    (hL : L.take o ++ us ++ L.drop (o + us.length) = L') (kk : J P ro n ds ops Q B w0 rest s (cells g t L' :: G)) : J P ro n ds ops Q B w0 (⟨none, .store te x y, ty, pos, aft, none⟩ :: rest) s (cells g t L :: G) :=
  J.coreU (by simp) fun a w ha hw => by
    obtain ⟨hg, hB⟩ := blk_head hw
    have ho' := Nat.le_of_ble_eq_true ho
    have h1' : ∀ v ∈ us, v.oneCell' = true := fun v hv => List.all_eq_true.1 h1 v hv
    have hr := run_storeVar_agg (P := P) hi hl hg (by simpa using ho') h1'
    have hL2 : ((L.toArray.toList.take o ++ us ++ L.toArray.toList.drop (o + us.length)).toArray) = L'.toArray := by simp only [List.toList_toArray, hL]
    rw [hL2] at hr
    refine ⟨_, _, ?_, hw.setBlk (o' := .cells L'.toArray t (0, 0)) (w' := w.setRow g L'.toArray) rfl rfl rfl (by simp [World.setRow]) (setRow_heap w g _ _ t _ hg) (fun b _ hb => setRow_other w g b _ hb), kk⟩
    simp [execOp, Sem.run_bind, ha.ev hx, ha.ev hy, Instr.storeAt, Instr.sureAddr, hr, Result.andThen_ok, Sem.run_pure]

/-! ### '==' of structs -/
def EqV (P : Program) (h : Nat) (t : TypeId) (a b : Value) (p : Prop) [Decidable p] : Prop := ∀ d w, (Op.equalIn (d + h) t a b).run P w = .ok (decide p) w
def EqFs (P : Program) (h : Nat) (xs ys : Array Value) (fs : List Field) (p : Prop) [Decidable p] : Prop := ∀ d w, (Op.eqFields (d + h) xs ys fs).run P w = .ok (decide p) w
theorem EqV.int {t : TypeId} {k k' : IntKind} {a b : Int} (h : Nat) (ht : P.underlying t = some (.int k')) : EqV P (h + 1) t (.int k a) (.int k b) (a = b) := fun d w => by
  rw [← Nat.add_assoc, run_equalIn_int w (d + h) t k k' a b ht, beqi]
theorem EqV.str {t : TypeId} {a b : ByteArray} (h : Nat) (ht : P.underlying t = some .string) : EqV P (h + 1) t (.string a) (.string b) (a = b) := fun d w => by
  rw [← Nat.add_assoc, run_equalIn_string w (d + h) t a b ht, beql]
  simp only [toList_inj]
theorem EqV.bool {t : TypeId} {a b : Bool} (h : Nat) (ht : P.underlying t = some .bool) : EqV P (h + 1) t (.bool a) (.bool b) (a = b) := fun d w => by
  rw [← Nat.add_assoc, run_equalIn_bool' w (d + h) t a b ht, beqb]
theorem EqFs.nil {h : Nat} {xs ys : Array Value} : EqFs P h xs ys [] True := fun d w => by simp [Op.eqFields, Sem.run_pure]
theorem EqFs.cons {h : Nat} {xs ys : Array Value} {f : Field} {fs : List Field} {a b : Value} {p q : Prop} [Decidable p] [Decidable q] (hn : (f.name == "_") = false) (ha : ∀ w, (part f.type xs f.offset).run P w = .ok a w) (hb : ∀ w, (part f.type ys f.offset).run P w = .ok b w)
    (he : EqV P h f.type a b p) (hr : EqFs P h xs ys fs q) : EqFs P h xs ys (f :: fs) (p ∧ q) := fun d w => by
  have hn' : f.name ≠ "_" := by simpa using hn
  simp only [Op.eqFields, hn', ne_eq, not_false_eq_true, if_true, Sem.run_bind, ha, hb, he d w, Result.andThen_ok]
  by_cases hp : p
  · simp [hp, hr d w]
  · simp [hp, Sem.run_pure]
theorem EqV.struct {t : TypeId} {fs : Array Field} {h : Nat} {xs ys : Array Value} {p : Prop} [Decidable p] (ht : P.underlying t = some (.struct fs)) (hp : P.stoodInHeld t = false) (hf : EqFs P h xs ys fs.toList p) : EqV P (h + 1) t (.agg xs) (.agg ys) p := fun d w => by
  have e : P.fieldsOf t = fs := by simp [Program.fieldsOf, ht]
  rw [← Nat.add_assoc, run_equalIn_struct w (d + h) t xs ys (by rw [e]; exact ht) hp, e]
  exact hf d w
theorem part_one {t : TypeId} {D : TypeDesc} (ht : P.underlying t = some D) (hs : scalarD D = true) {cs : Array Value} {o : Nat} {v : Value} (hv : cs[o]? = some v) : ∀ w, (part t cs o).run P w = .ok v w := fun w => run_part ht hs hv w
theorem part_agg {t : TypeId} {D : TypeDesc} {sz bt : Nat} {z : Value} (ht : P.underlying t = some D) (hs : scalarD D = false) (hi : TI P t sz bt z) {cs us : Array Value} {o : Nat} (hv : cs.extract o (o + sz) = us) : ∀ w, (part t cs o).run P w = .ok (.agg us) w := fun w => by
  simp [part, Sem.run_bind, isAgg_yes ht hs, hi.size, hv]
theorem Y.eqst {t u : TypeId} {x y : Operand} {xs ys : Array Value} {p : Prop} [Decidable p] {h : Nat} (hg : P.eqGuardType P.depth t = false) (hh : Nat.ble h 10000 = true) (he : EqV P h t (.agg xs) (.agg ys) p) (hx : s.ev x = some (.agg xs)) (hy : s.ev y = some (.agg ys)) :
    Qp P n ds ⟨some d, .binOp .eql t x y u, ty, pos, aft, gd⟩ s (.bool (decide p)) := fun a' w ha => by
  have h1 := he (10000 - h) w
  rw [Nat.sub_add_cancel (Nat.le_of_ble_eq_true hh)] at h1
  simp [execOp, Sem.run_pure, Sem.run_bind, ha.ev hx, ha.ev hy, run_eqGuard_agg w _ _ _ _ _ _ hg, run_eql_struct w, h1]
theorem Y.nest {t u : TypeId} {x y : Operand} {xs ys : Array Value} {p : Prop} [Decidable p] {h : Nat} (hg : P.eqGuardType P.depth t = false) (hh : Nat.ble h 10000 = true) (he : EqV P h t (.agg xs) (.agg ys) p) (hx : s.ev x = some (.agg xs)) (hy : s.ev y = some (.agg ys)) :
    Qp P n ds ⟨some d, .binOp .neq t x y u, ty, pos, aft, gd⟩ s (.bool (!decide p)) := fun a' w ha => by
  have h1 := he (10000 - h) w
  rw [Nat.sub_add_cancel (Nat.le_of_ble_eq_true hh)] at h1
  simp [execOp, Sem.run_pure, Sem.run_bind, ha.ev hx, ha.ev hy, run_eqGuard_agg w _ _ _ _ _ _ hg, run_neq_struct w, h1]
end
end Go.Sx
