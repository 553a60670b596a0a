/- Own text. Structs: stored whole, compared, in rows. -/
import Derived.Test.YtakolnamobkkkaaSxMore
import Derived.Laws.StructEq
set_option linter.unusedSimpArgs false
set_option linter.unusedVariables false
namespace Go.Sx
open Go Go.RowKit
variable {P : Program} {ro : Option Nat} {n : Nat} {ds : List Deferred} {ops : Array Oper} {Q : Exit → Act → World → Prop} {rest : List Oper} {s s' : Env}
variable {B : Nat} {w0 : World} {G G' : List HP}
section
variable {d : Nat} {ty : TypeId} {pos : String} {aft : Array Edge} {gd : Option (Nat × Bool)}

/-! ### A struct is stored whole -/
theorem run_storeVar_agg {te : TypeId} {sz bt : Nat} {z : Value} {us : List Value} (hi : TI P te sz bt z) (hl : us.length = sz) {g o : Nat} {t : TypeId} {cur : Array Value} {w : World} (hg : w.heap[g]? = some (.cells cur t (0, 0))) (ho : o + us.length ≤ cur.size) (h1 : ∀ v ∈ us, v.oneCell' = true) :
    (storeVar te ⟨g, o, none⟩ (.agg us.toArray)).run P w = .ok () (w.setRow g (cur.toList.take o ++ us ++ cur.toList.drop (o + us.length)).toArray) := by
  have h := run_storeCells_at P g o t us 0 cur w hg (by simpa using ho) h1
  have hs : (Value.agg us.toArray).cells.size = sz := by simp [Value.cells, hl]
  simp only [storeVar, Sem.run_bind, hi.size, Result.andThen_ok, hs]
  simpa [Value.cells] using h
theorem J.stA {te : TypeId} {x y : Operand} {g o sz bt : Nat} {t : TypeId} {L us L' : List Value} {z : Value} (hi : TI P te sz bt z) (hx : s.ev x = some (.pointer (some ⟨g, o, none⟩))) (hy : s.ev y = some (.agg us.toArray)) (ho : Nat.ble (o + us.length) L.length = true) (hl : us.length = sz) (h1 : us.all Value.oneCell' = true)
    (hL : L.take o ++ us ++ L.drop (o + us.length) = L') (kk : J P ro n ds ops Q B w0 rest s (cells g t L' :: G)) : J P ro n ds ops Q B w0 (⟨none, .store te x y, ty, pos, aft, none⟩ :: rest) s (cells g t L :: G) :=
  J.coreU (by simp) fun a w ha hw => by
    obtain ⟨hg, hB⟩ := blk_head hw
    have ho' := Nat.le_of_ble_eq_true ho
    have h1' : ∀ v ∈ us, v.oneCell' = true := fun v hv => List.all_eq_true.1 h1 v hv
    have hr := run_storeVar_agg (P := P) hi hl hg (by simpa using ho') h1'
    have hL2 : ((L.toArray.toList.take o ++ us ++ L.toArray.toList.drop (o + us.length)).toArray) = L'.toArray := by simp only [List.toList_toArray, hL]
    rw [hL2] at hr
    refine ⟨_, _, ?_, hw.setBlk (o' := .cells L'.toArray t (0, 0)) (w' := w.setRow g L'.toArray) rfl rfl rfl (by simp [World.setRow]) (setRow_heap w g _ _ t _ hg) (fun b _ hb => setRow_other w g b _ hb), kk⟩
    simp [execOp, Sem.run_bind, ha.ev hx, ha.ev hy, Instr.storeAt, Instr.sureAddr, hr, Result.andThen_ok, Sem.run_pure]

/-! ### '==' of structs -/
def EqV (P : Program) (h : Nat) (t : TypeId) (a b : Value) (p : Prop) [Decidable p] : Prop := ∀ d w, (Op.equalIn (d + h) t a b).run P w = .ok (decide p) w
def EqFs (P : Program) (h : Nat) (xs ys : Array Value) (fs : List Field) (p : Prop) [Decidable p] : Prop := ∀ d w, (Op.eqFields (d + h) xs ys fs).run P w = .ok (decide p) w
theorem EqV.int {t : TypeId} {k k' : IntKind} {a b : Int} (h : Nat) (ht : P.underlying t = some (.int k')) : EqV P (h + 1) t (.int k a) (.int k b) (a = b) := fun d w => by
  rw [← Nat.add_assoc, run_equalIn_int w (d + h) t k k' a b ht, beqi]
theorem EqV.str {t : TypeId} {a b : ByteArray} (h : Nat) (ht : P.underlying t = some .string) : EqV P (h + 1) t (.string a) (.string b) (a = b) := fun d w => by
  rw [← Nat.add_assoc, run_equalIn_string w (d + h) t a b ht, beql]
  simp only [toList_inj]
theorem EqV.bool {t : TypeId} {a b : Bool} (h : Nat) (ht : P.underlying t = some .bool) : EqV P (h + 1) t (.bool a) (.bool b) (a = b) := fun d w => by
  rw [← Nat.add_assoc, run_equalIn_bool' w (d + h) t a b ht, beqb]
theorem EqFs.nil {h : Nat} {xs ys : Array Value} : EqFs P h xs ys [] True := fun d w => by simp [Op.eqFields, Sem.run_pure]
theorem EqFs.cons {h : Nat} {xs ys : Array Value} {f : Field} {fs : List Field} {a b : Value} {p q : Prop} [Decidable p] [Decidable q] (hn : (f.name == "_") = false) (ha : ∀ w, (part f.type xs f.offset).run P w = .ok a w) (hb : ∀ w, (part f.type ys f.offset).run P w = .ok b w)
    (he : EqV P h f.type a b p) (hr : EqFs P h xs ys fs q) : EqFs P h xs ys (f :: fs) (p ∧ q) := fun d w => by
  have hn' : f.name ≠ "_" := by simpa using hn
  simp only [Op.eqFields, hn', ne_eq, not_false_eq_true, if_true, Sem.run_bind, ha, hb, he d w, Result.andThen_ok]
  by_cases hp : p
  · simp [hp, hr d w]
  · simp [hp, Sem.run_pure]
theorem EqV.struct {t : TypeId} {fs : Array Field} {h : Nat} {xs ys : Array Value} {p : Prop} [Decidable p] (ht : P.underlying t = some (.struct fs)) (hp : P.stoodInHeld t = false) (hf : EqFs P h xs ys fs.toList p) : EqV P (h + 1) t (.agg xs) (.agg ys) p := fun d w => by
  have e : P.fieldsOf t = fs := by simp [Program.fieldsOf, ht]
  rw [← Nat.add_assoc, run_equalIn_struct w (d + h) t xs ys (by rw [e]; exact ht) hp, e]
  exact hf d w
theorem part_one {t : TypeId} {D : TypeDesc} (ht : P.underlying t = some D) (hs : scalarD D = true) {cs : Array Value} {o : Nat} {v : Value} (hv : cs[o]? = some v) : ∀ w, (part t cs o).run P w = .ok v w := fun w => run_part ht hs hv w
theorem part_agg {t : TypeId} {D : TypeDesc} {sz bt : Nat} {z : Value} (ht : P.underlying t = some D) (hs : scalarD D = false) (hi : TI P t sz bt z) {cs us : Array Value} {o : Nat} (hv : cs.extract o (o + sz) = us) : ∀ w, (part t cs o).run P w = .ok (.agg us) w := fun w => by
  simp [part, Sem.run_bind, isAgg_yes ht hs, hi.size, hv]
theorem Y.eqst {t u : TypeId} {x y : Operand} {xs ys : Array Value} {p : Prop} [Decidable p] {h : Nat} (hg : P.eqGuardType P.depth t = false) (hh : Nat.ble h 10000 = true) (he : EqV P h t (.agg xs) (.agg ys) p) (hx : s.ev x = some (.agg xs)) (hy : s.ev y = some (.agg ys)) :
    Qp P n ds ⟨some d, .binOp .eql t x y u, ty, pos, aft, gd⟩ s (.bool (decide p)) := fun a' w ha => by
  have h1 := he (10000 - h) w
  rw [Nat.sub_add_cancel (Nat.le_of_ble_eq_true hh)] at h1
  simp [execOp, Sem.run_pure, Sem.run_bind, ha.ev hx, ha.ev hy, run_eqGuard_agg w _ _ _ _ _ _ hg, run_eql_struct w, h1]
theorem Y.nest {t u : TypeId} {x y : Operand} {xs ys : Array Value} {p : Prop} [Decidable p] {h : Nat} (hg : P.eqGuardType P.depth t = false) (hh : Nat.ble h 10000 = true) (he : EqV P h t (.agg xs) (.agg ys) p) (hx : s.ev x = some (.agg xs)) (hy : s.ev y = some (.agg ys)) :
    Qp P n ds ⟨some d, .binOp .neq t x y u, ty, pos, aft, gd⟩ s (.bool (!decide p)) := fun a' w ha => by
  have h1 := he (10000 - h) w
  rw [Nat.sub_add_cancel (Nat.le_of_ble_eq_true hh)] at h1
  simp [execOp, Sem.run_pure, Sem.run_bind, ha.ev hx, ha.ev hy, run_eqGuard_agg w _ _ _ _ _ _ hg, run_neq_struct w, h1]

/-! ### A string's bytes appended -/
theorem strCells_eq (s : ByteArray) : Lib.strCells s = (bytesOf s).map (Value.int .u8) := by
  simp [Lib.strCells, bytesOf]
theorem run_appS {t u ty' e : TypeId} (ht : P.underlying t = some (.slice e)) (hu : P.underlying u = some .string) (hi : TI P e 1 1 (.int .u8 0))
    {A : Option Addr} {c nn : Nat} {L : List Value} {a : ByteArray} (hL : L.length = nn) (hb : nn + a.size ≤ 140737488355328)
    {w : World} (hw : St B w0 (own e 1 A c L :: G) w) :
    ∃ A' c' w', (Builtin.append_ #[t, u] ty' #[.slice A nn c, .string a]).run P w = .ok (.slice A' (nn + a.size) c') w' ∧ St B w0 (own e 1 A' c' (L ++ Lib.strCells a) :: G) w' := by
  obtain ⟨i, hii, hi1, hi2, hi3⟩ := hi
  have hlen : (L ++ Lib.strCells a).length = nn + a.size := by rw [List.length_append, hL, Lib.strCells_length]
  have hz1 : (Value.int IntKind.u8 0).cells.size = 1 := rfl
  have fresh : ∀ (olds : List Value) (old : Nat), olds = L →
      St B w0 (own e 1 (some ⟨w.heap.size, 0, none⟩) (grownCap w (nn + a.size) old e) (L ++ Lib.strCells a) :: G) (w.drew.alloc (.cells (olds.toArray ++ (Lib.strCells a).toArray ++ Builtin.zeroCells (Value.int IntKind.u8 0).cells (grownCap w (nn + a.size) old e - (nn + a.size))) e (0, 0))) := by
    intro olds old ho
    subst ho
    have hge := grownCap_ge w (nn + a.size) old e
    have hcm := grownCap_le_maxLen w (nn + a.size) old e (by simp [maxLen]; omega)
    refine own_new hw rfl ?_ hcm ?_ ?_
    · simp only [Array.size_append, List.size_toArray, size_zeroCells, hz1, hL, Lib.strCells_length]
      omega
    · rw [hlen]; omega
    · simp only [Array.toList_append]
      rw [List.take_append_of_le_length (by simp)]
      exact List.take_of_length_le (by simp)
  obtain ⟨q, hX, hq⟩ := head_of hw
  have hrow := own_row (by rw [hL, Nat.mul_one]) (by decide) hw
  rcases hX with ⟨rfl, rfl, rfl, _⟩ | ⟨g, cur, rfl, rfl, hs, hm, hle, htake⟩
  · have hnn : nn = 0 := by simpa using hL.symm
    subst hnn
    by_cases hm0 : a.size = 0
    · have hn : Lib.strCells a = [] := List.eq_nil_of_length_eq_zero (by rw [Lib.strCells_length]; exact hm0)
      refine ⟨none, 0, w, ?_, by rw [hn]; simpa using hw⟩
      have hf := Lib.run_firstCells_string (P := P) w 1 a
      rw [hm0] at hf
      simp [Builtin.append_, run_underlying ht, run_underlying hu, Go.sizeOf, typeInfo, hii, hi1, Builtin.lenOf, hm0, hf]
    · have hrn := run_append_nil_string (P := P) w t u ty' e i (.int .u8 0) ht hu hii hi3 a (by omega) (by omega) (by rw [hi2]; omega)
      have e1 : (a.data.map fun b => Value.int .u8 b.toNat) = (Lib.strCells a).toArray := by apply Array.ext'; simp [Lib.strCells]
      rw [e1] at hrn
      have hf := fresh [] 0 rfl
      simp only [Nat.zero_add, List.nil_append, Array.empty_append] at hf ⊢
      exact ⟨_, _, _, hrn, by simpa using hf⟩
  · have hg := (hq g _ (si_self _ _)).1
    have hBg := (hq g _ (si_self _ _)).2
    by_cases hroom : nn + a.size ≤ c
    · have hcs : cur.size = c := by simpa using hs
      have hrr := Lib.run_append_room_string (P := P) w t u ty' e i ht hu hii hi1 g nn c cur hg a hroom (by omega)
      refine ⟨_, _, _, hrr, ?_⟩
      refine hw.swap rfl rfl rfl (by simp [World.setRow]) fun q' hq' hqq => ?_
      have hq'' : q' = si g (.cells cur e (0, 0)) := by
        rcases hq' with ⟨h, _⟩ | ⟨g', cur', h, rfl, _⟩
        · cases h
        · cases h
          have h1' := (hqq g _ (si_self _ _)).1
          rw [hg] at h1'; cases h1'; rfl
      subst hq''
      refine ⟨si g (.cells (cur.toList.take nn ++ Lib.strCells a ++ cur.toList.drop (nn + a.size)).toArray e (0, 0)), .inr ⟨g, (cur.toList.take nn ++ Lib.strCells a ++ cur.toList.drop (nn + a.size)).toArray, rfl, rfl, ?_, hm, ?_, ?_⟩, ?_, ?_, ?_⟩
      · simp only [List.size_toArray, List.length_append, List.length_take, List.length_drop, Array.length_toList, Lib.strCells_length]
        omega
      · rw [hlen]; omega
      · have htk : cur.toList.take nn = L := by rw [← hL]; exact htake
        rw [htk]
        exact List.take_left
      · intro b o e'; unfold si at e'; split at e'
        · rename_i hb'; subst hb'; cases e'; exact ⟨setRow_heap w b cur _ e _ hg, hBg⟩
        · cases e'
      · intro b e'; left
        unfold si at e' ⊢; split at e'
        · rename_i hb'; rw [if_pos hb']; simp
        · exact absurd rfl e'
      · intro b hb' e'
        refine setRow_other w g b _ ?_
        intro hbg; subst hbg; simp [si] at e'
    · have hold : ∀ j u, L[j]? = some u → w.cell? ((⟨g, 0, none⟩ : Addr).add j) = some u := hrow.cells (g := g) rfl
      have hrg := Lib.run_append_grow_string (P := P) w t u ty' e i (.int .u8 0) ht hu hii hi3 ⟨g, 0, none⟩ nn c L (by rw [hi1]; omega) hold a (by omega) (by omega) (by rw [hi2]; exact growslice_fits (by omega) (by omega))
      exact ⟨_, _, _, hrg, fresh L c rfl⟩
theorem J.appT {t u ty' e : TypeId} {x y : Operand} {A : Option Addr} {c : Nat} {xs : List Int} {a : ByteArray} (hd : Nat.blt d n = true) (ht : P.underlying t = some (.slice e)) (hu : P.underlying u = some .string) (hi : TI P e 1 1 (.int .u8 0))
    (hx : s.ev x = some (.slice A xs.length c)) (hy : s.ev y = some (.string a)) (hb : (xs.length + a.size) * 1 ≤ 140737488355328)
    (kk : ∀ A' c', J P ro n ds ops Q B w0 rest ((d, .slice A' (xs ++ bytesOf a).length c') :: s) (own e 1 A' c' ((xs ++ bytesOf a).map (Value.int .u8)) :: G)) :
    J P ro n ds ops Q B w0 (⟨some d, .call { callee := .builtin .append, args := #[x, y], argTypes := #[t, u] }, ty', pos, aft, none⟩ :: rest) s (own e 1 A c (xs.map (Value.int .u8)) :: G) :=
  J.core hd (by simp) fun a' w ha hw => by
    obtain ⟨A', c', w', hrun, hw'⟩ := run_appS (P := P) (ty' := ty') (nn := xs.length) (L := xs.map (Value.int .u8)) (a := a) ht hu hi (by simp) (by omega) hw
    have hk := kk A' c'
    rw [List.length_append, bytesOf_length, List.map_append, ← strCells_eq] at hk
    refine ⟨_, w', _, _, ?_, hw', hk, rfl⟩
    simp [execOp, resolve, invoke, builtin, Sem.run_bind, ha.ev hx, ha.ev hy, hrun, Result.andThen_ok, Sem.run_pure]
end
end Go.Sx
