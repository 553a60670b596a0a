/- Own text. Slices: made, written out, cut, appended to, copied, turned into strings. -/
import Derived.Test.YtakolnamobkkkaaSxMem
set_option linter.unusedSimpArgs false
set_option linter.unusedVariables false
namespace Go.Sx
open Go Go.RowKit
variable {P : Program} {ro : Option Nat} {n : Nat} {ds : List Deferred} {ops : Array Oper} {Q : Exit → Act → World → Prop} {rest : List Oper} {s s' : Env}
variable {B : Nat} {w0 : World} {G G' : List HP}
section
variable {d : Nat} {ty : TypeId} {pos : String} {aft : Array Edge}

theorem own_alloc {w : World} (hw : St B w0 G w) {e : TypeId} {sz c : Nat} {cur : Array Value} (L : List Value) (hs : cur.size = c * sz) (hm : c ≤ maxLen) (hl : L.length ≤ c * sz) (ht : cur.toList.take L.length = L) :
    St B w0 (own e sz (some ⟨w.heap.size, 0, none⟩) c L :: G) (w.alloc (.cells cur e (0, 0))) :=
  hw.add rfl rfl rfl (by simp) (fun b hb => Below.heap_alloc w _ b hb) ⟨_, .inr ⟨w.heap.size, cur, rfl, rfl, hs, hm, hl, ht⟩, fun b o e' => by
    unfold si at e'; split at e'
    · rename_i hb; subst hb; cases e'; exact ⟨World.alloc_heap_new w _, Nat.le_refl _⟩
    · cases e'⟩

/-! ### make -/
theorem madeCells_one (z : Value) (k : Nat) (hz : z.cells = #[z]) : madeCells z.cells k = (List.replicate k z).toArray := by
  apply Array.ext
  · simp [madeCells]
  · intro i h1 h2
    simp [madeCells, hz, Nat.mod_one]
theorem J.mk {t e : TypeId} {x y : Operand} {k k' : IntKind} {l c : Int} {bt : Nat} {z : Value} (hd : Nat.blt d n = true) (ht : P.underlying t = some (.slice e)) (hi : TI P e 1 bt z) (hz : z.cells = #[z])
    (hx : s.ev x = some (.int k l)) (hy : s.ev y = some (.int k' c)) (h0 : 0 ≤ l ∧ l ≤ c ∧ (bt : Int) * c ≤ 281474976710656) (hb : 0 < bt)
    (kk : ∀ A, J P ro n ds ops Q B w0 rest ((d, .slice A l.toNat c.toNat) :: s) (own e 1 A c.toNat (List.replicate l.toNat z) :: G)) :
    J P ro n ds ops Q B w0 (⟨some d, .makeSlice t x y, ty, pos, aft, none⟩ :: rest) s G :=
  J.core hd (by simp) fun a w ha hw => by
    obtain ⟨i, hii, h1, h2, h3⟩ := hi
    have hc : c ≤ 281474976710656 := by
      have hb' : (1 : Int) ≤ bt := by omega
      have := Int.mul_le_mul_of_nonneg_right hb' (show 0 ≤ c by omega)
      omega
    have hr := run_make (P := P) w t e i z ht hii h3 k k' l c h0.1 h0.2.1 (by rw [h2]; exact h0.2.2) (by omega)
    rw [h1, Nat.mul_one, madeCells_one z _ hz] at hr
    refine ⟨_, _, _, _, ?_, own_alloc hw (c := c.toNat) (cur := (List.replicate c.toNat z).toArray) (List.replicate l.toNat z) (by simp) (by simp [maxLen]; omega) (by simp; omega) ?_, kk _, rfl⟩
    · simp [execOp, Sem.run_bind, ha.ev hx, ha.ev hy, hr, Result.andThen_ok, Sem.run_pure]
    · simp [List.take_replicate]; omega

/-! ### slices written out -/
theorem run_buildSlice {t e : TypeId} {len sz bt : Nat} {vs : Array (Nat × Value)} {z : Value} {L : List Value} (ht : P.underlying t = some (.slice e)) (hi : TI P e sz bt z)
    (hf : Instr.fill (fun i => some (i * sz, sz)) ((Array.range (len * sz)).map (fun x => z.cells[x % z.cells.size]!)) vs.toList = some L.toArray) (h24 : len * sz ≤ 16777216) (w : World) :
    (Instr.buildSlice t len vs).run P w = .ok (.slice (some ⟨w.heap.size, 0, none⟩) len len) (w.alloc (.cells L.toArray e (0, 0))) := by
  have h24' : ¬ (len * sz > 2 ^ 24) := by omega
  unfold Instr.buildSlice
  simp only [Sem.run_bind, run_underlying ht, Result.andThen_ok, hi.size w]
  rw [if_neg h24']
  by_cases h0 : len * sz = 0
  · rw [h0] at hf
    have hr0 : (Array.range 0).map (fun x => z.cells[x % z.cells.size]!) = #[] := by simp
    have hr1 : (Array.range 0).map (fun _ => (default : Value)) = #[] := by simp
    rw [hr0] at hf
    simp only [h0, hr1]
    simp [hr1, Sem.run_bind, h0, hf, run_newRow, Result.andThen_ok, Sem.run_pure, -World.alloc_eq]
  · simp [Sem.run_bind, h0, hi.zero w, hf, run_newRow, Result.andThen_ok, Sem.run_pure, -World.alloc_eq]
theorem range_one (z : Value) (hz : z.cells = #[z]) (k : Nat) : (Array.range (k * 1)).map (fun x => z.cells[x % z.cells.size]!) = (List.replicate k z).toArray := by
  apply Array.ext
  · simp
  · intro i h1 h2; simp [hz, Nat.mod_one]
/-- Of one-cell elements: the literal's cells, by the model's own filling. -/
theorem J.bs {t e : TypeId} {len : Nat} {parts : Array (Nat × Operand)} {vs : List (Nat × Value)} {L : List Value} {bt : Nat} {z : Value} (hd : Nat.blt d n = true) (ht : P.underlying t = some (.slice e)) (hi : TI P e 1 bt z) (hz : z.cells = #[z])
    (hp : ∀ a, Ok n ds s a → parts.map (fun (i, x) => (i, a.eval x)) = vs.toArray) (hf : Instr.fill (fun i => some (i * 1, 1)) (List.replicate len z).toArray vs = some L.toArray) (hl : L.length = len) (h24 : len ≤ 16777216)
    (kk : ∀ A, J P ro n ds ops Q B w0 rest ((d, .slice A len len) :: s) (own e 1 A len L :: G)) :
    J P ro n ds ops Q B w0 (⟨some d, .buildSlice t len parts, ty, pos, aft, none⟩ :: rest) s G :=
  J.core hd (by simp) fun a w ha hw => by
    have hr := run_buildSlice (P := P) (len := len) (vs := vs.toArray) (L := L) ht hi (by rw [range_one z hz]; exact hf) (by omega) w
    refine ⟨.slice (some ⟨w.heap.size, 0, none⟩) len len, _, _, _, ?_, own_alloc hw (c := len) (cur := L.toArray) L (by simp [hl]) (by simp [maxLen]; omega) (by simp [hl]) (by simp), kk _, rfl⟩
    simp only [execOp, Sem.run_bind, hp a ha, hr, Result.andThen_ok, Sem.run_pure]

/-! ### append -/
theorem own_new {w w' : World} {e : TypeId} {sz c c' : Nat} {A : Option Addr} {L L' : List Value} {cur : Array Value} (hw : St B w0 (own e sz A c L :: G) w)
    (hw' : w' = w.drew.alloc (.cells cur e (0, 0))) (hs : cur.size = c' * sz) (hm : c' ≤ maxLen) (hl : L'.length ≤ c' * sz) (ht : cur.toList.take L'.length = L') :
    St B w0 (own e sz (some ⟨w.heap.size, 0, none⟩) c' L' :: G) w' := by
  subst hw'
  exact own_alloc (e := e) (hw.drop.drew) (cur := cur) L' hs hm hl ht
theorem run_app {t ty' e : TypeId} {sz bt : Nat} {z : Value} (ht : P.underlying t = some (.slice e)) (hi : TI P e sz bt z) (hzs : z.cells.size = sz) (hsz : 0 < sz)
    {A A2 : Option Addr} {c nn m c2 : Nat} {L N : List Value} (hL : L.length = nn * sz) (hN : N.length = m * sz) (h1 : ∀ u ∈ N, u.oneCell' = true) (hb : (nn + m) * bt ≤ 140737488355328) (hbt : 0 < bt)
    {w : World} (hw : St B w0 (own e sz A c L :: G) w) (hr : Rd w A2 N) :
    ∃ A' c' w', (Builtin.append_ #[t, t] ty' #[.slice A nn c, .slice A2 m c2]).run P w = .ok (.slice A' (nn + m) c') w' ∧ St B w0 (own e sz A' c' (L ++ N) :: G) w' := by
  obtain ⟨i, hii, hi1, hi2, hi3⟩ := hi
  have hbig : nn + m ≤ 140737488355328 := by
    have := Nat.le_mul_of_pos_right (nn + m) hbt
    omega
  have hlen : (L ++ N).length = (nn + m) * sz := by rw [List.length_append, hL, hN, Nat.add_mul]
  have fresh : ∀ (olds : List Value) (old : Nat), olds = L → 
      St B w0 (own e sz (some ⟨w.heap.size, 0, none⟩) (grownCap w (nn + m) old e) (L ++ N) :: G) (w.drew.alloc (.cells (olds.toArray ++ N.toArray ++ Builtin.zeroCells z.cells (grownCap w (nn + m) old e - (nn + m))) e (0, 0))) := by
    intro olds old ho
    subst ho
    have hge := grownCap_ge w (nn + m) old e
    have hcm := grownCap_le_maxLen w (nn + m) old e (by simp [maxLen]; omega)
    refine own_new hw rfl ?_ hcm ?_ ?_
    · simp only [Array.size_append, List.size_toArray, size_zeroCells, hzs, hL, hN, ← Nat.add_mul]
      congr 1; omega
    · rw [hlen]; exact Nat.mul_le_mul_right _ hge
    · simp only [Array.toList_append]
      rw [List.take_append_of_le_length (by simp)]
      exact List.take_of_length_le (by simp)
  have hrow := own_row hL hsz hw
  obtain ⟨q, hX, hq⟩ := head_of hw
  cases A2 with
  | none =>
    have hN0 : N = [] := by
      cases N with
      | nil => rfl
      | cons u r => obtain ⟨a, h, _⟩ := hr 0 u rfl; cases h
    subst hN0
    have hm0 : m = 0 := by
      rcases Nat.eq_zero_or_pos m with e' | e'
      · exact e'
      · have := Nat.mul_pos e' hsz; simp at hN; omega
    subst hm0
    refine ⟨A, c, w, ?_, by simpa using hw⟩
    have hnc : nn ≤ c := by
      rcases hrow.2 with ⟨h, h'⟩ | ⟨_, _, _, h, _, _, h', _⟩
      · omega
      · cases h; exact h'
    cases A <;> simp [Builtin.append_, run_underlying ht, Go.sizeOf, typeInfo, hii, Builtin.lenOf, Builtin.firstCells, hnc, storeCells]
  | some a2 =>
    have hnews : ∀ j u, N[j]? = some u → w.cell? (a2.add j) = some u := by
      intro j u hj
      obtain ⟨a, h, hc⟩ := hr j u hj
      cases h; exact hc
    rcases hX with ⟨rfl, rfl, rfl, _⟩ | ⟨g, cur, rfl, rfl, hs, hm, hle, htake⟩
    · have hnn : nn = 0 := by
        rcases Nat.eq_zero_or_pos nn with e' | e'
        · exact e'
        · have := Nat.mul_pos e' hsz; simp at hL; omega
      subst hnn
      by_cases hm0 : m = 0
      · subst hm0
        have hN0 : N = [] := List.eq_nil_of_length_eq_zero (by simpa using hN)
        subst hN0
        refine ⟨none, 0, w, ?_, by simpa using hw⟩
        simp [Builtin.append_, run_underlying ht, Go.sizeOf, typeInfo, hii, Builtin.lenOf, Builtin.firstCells, loadCells, loadCellsFrom]
      · have hrn := run_append_nil (P := P) w t ty' e i z ht hii hi3 a2 m c2 N (by rw [hi1]; exact hN) hnews (by omega) (by omega) (by rw [hi2]; simp at hb; omega)
        have hf := fresh [] 0 rfl
        simp only [Nat.zero_add, List.nil_append, Array.empty_append] at hf ⊢
        exact ⟨_, _, _, hrn, by simpa using hf⟩
    · have hg := (hq g _ (si_self _ _)).1
      have hBg := (hq g _ (si_self _ _)).2
      by_cases hroom : nn + m ≤ c
      · have hfit : nn * i.size + N.length ≤ cur.size := by rw [hN, hs, hi1, ← Nat.add_mul]; exact Nat.mul_le_mul_right _ hroom
        have hrr := run_append_room (P := P) w t ty' e i ht hii g nn c cur hg a2 m c2 N (by rw [hi1]; exact hN) hnews h1 hroom hfit
        refine ⟨_, _, _, hrr, ?_⟩
        refine hw.swap rfl rfl rfl (by simp [World.setRow]) fun q' hq' hqq => ?_
        have hq'' : q' = si g (.cells cur e (0, 0)) := by
          rcases hq' with ⟨h, _⟩ | ⟨g', cur', h, rfl, _⟩
          · cases h
          · cases h
            have h1' := (hqq g _ (si_self _ _)).1
            rw [hg] at h1'; cases h1'; rfl
        subst hq''
        have hnew : ((cur.toList.take (nn * i.size) ++ N ++ cur.toList.drop (nn * i.size + N.length)).toArray).size = c * sz := by
          simp only [List.size_toArray, List.length_append, List.length_take, List.length_drop, Array.length_toList]
          omega
        refine ⟨si g (.cells _ e (0, 0)), .inr ⟨g, _, rfl, rfl, hnew, hm, ?_, ?_⟩, ?_, ?_, ?_⟩
        · rw [hlen]; exact Nat.mul_le_mul_right _ hroom
        · have htk : cur.toList.take (nn * i.size) = L := by rw [hi1, ← hL]; exact htake
          rw [htk]
          exact List.take_left
        · intro b o e'; unfold si at e'; split at e'
          · rename_i hb'; subst hb'; cases e'; exact ⟨setRow_heap w b cur _ e _ hg, hBg⟩
          · cases e'
        · intro b e'; left
          unfold si at e' ⊢; split at e'
          · rename_i hb'; rw [if_pos hb']; simp
          · exact absurd rfl e'
        · intro b hb' e'
          refine setRow_other w g b _ ?_
          intro hbg; subst hbg; simp [si] at e'
      · have hold : ∀ j u, L[j]? = some u → w.cell? ((⟨g, 0, none⟩ : Addr).add j) = some u := hrow.cells (g := g) rfl
        have hrg := run_append_grow (P := P) w t ty' e i z ht hii hi3 ⟨g, 0, none⟩ nn c L (by rw [hi1]; exact hL) hold a2 m c2 N (by rw [hi1]; exact hN) hnews (by omega) (by omega) (by rw [hi2]; exact growslice_fits (by omega) hb)
        exact ⟨_, _, _, hrg, fresh L c rfl⟩
theorem J.app {t ty' e : TypeId} {x y : Operand} {sz bt : Nat} {z : Value} {A A2 : Option Addr} {c nn m c2 : Nat} {L N : List Value} (hd : Nat.blt d n = true) (ht : P.underlying t = some (.slice e)) (hi : TI P e sz bt z) (hzs : z.cells.size = sz) (hsz : 0 < sz) (hbt : 0 < bt)
    (hx : s.ev x = some (.slice A nn c)) (hy : s.ev y = some (.slice A2 m c2)) (hL : L.length = nn * sz) (hN : N.length = m * sz) (h1 : ∀ u ∈ N, u.oneCell' = true) (hr : RdG B w0 (own e sz A c L :: G) A2 N) (hb : (nn + m) * bt ≤ 140737488355328)
    (kk : ∀ A' c', J P ro n ds ops Q B w0 rest ((d, .slice A' (nn + m) c') :: s) (own e sz A' c' (L ++ N) :: G)) :
    J P ro n ds ops Q B w0 (⟨some d, .call { callee := .builtin .append, args := #[x, y], argTypes := #[t, t] }, ty', pos, aft, none⟩ :: rest) s (own e sz A c L :: G) :=
  J.core hd (by simp) fun a w ha hw => by
    obtain ⟨A', c', w', hrun, hw'⟩ := run_app (P := P) (ty' := ty') (c2 := c2) ht hi hzs hsz hL hN h1 hb hbt hw (hr.now hw)
    refine ⟨_, w', _, _, ?_, hw', kk A' c', rfl⟩
    simp [execOp, resolve, invoke, builtin, Sem.run_bind, ha.ev hx, ha.ev hy, hrun, Result.andThen_ok, Sem.run_pure]

end
end Go.Sx
