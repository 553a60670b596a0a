/- Own text. Cutting, copying, strings. -/
import Derived.Test.YtakolnamobkkkaaSxSlice
set_option linter.unusedSimpArgs false
set_option linter.unusedVariables false
namespace Go.Sx
open Go Go.RowKit
variable {P : Program} {ro : Option Nat} {n : Nat} {ds : List Deferred} {ops : Array Oper} {Q : Exit → Act → World → Prop} {rest : List Oper} {s s' : Env}
variable {B : Nat} {w0 : World} {G G' : List HP}
section
variable {d : Nat} {ty : TypeId} {pos : String} {aft : Array Edge} {gd : Option (Nat × Bool)}

/-- A bound of a slice expression, or its default. -/
def bnd (s : Env) (o : Option Operand) (df : Nat) (v : Nat) : Prop :=
  match o with
  | none => v = df
  | some x => ∃ k i, s.ev x = some (.int k i) ∧ 0 ≤ i ∧ i.toNat = v
theorem bnd.no {df : Nat} : bnd s none df df := rfl
theorem bnd.yes {x : Operand} {k : IntKind} {i : Int} {df : Nat} (hx : s.ev x = some (.int k i)) (h0 : 0 ≤ i) : bnd s (some x) df i.toNat := ⟨k, i, hx, h0, rfl⟩
theorem run_bound {i : Int} {k : IntKind} {y : Nat} {code : BoundsCode} (h0 : 0 ≤ i) (h1 : i.toNat ≤ y) (w : World) : (Instr.sliceBound (.int k i) y code).run P w = .ok i.toNat w := by
  have : i ≤ (y : Int) := by omega
  simp [Instr.sliceBound, asIntOf, Sem.run_bind, h0, this]
theorem run_bounds {a : Act} (ha : Ok n ds s a) {isS : Bool} {len cap : Nat} {lo hi : Option Operand} {l h : Nat} (hl : bnd s lo 0 l) (hh : bnd s hi len h) (h1 : l ≤ h) (h2 : h ≤ cap) (w : World) :
    (Instr.sliceBounds isS len cap (lo.map a.eval) (hi.map a.eval) none).run P w = .ok (l, h, cap) w := by
  cases lo with
  | none =>
    simp [bnd] at hl; subst hl
    cases hi with
    | none => simp [bnd] at hh; subst hh; simp [Instr.sliceBounds]
    | some y =>
      obtain ⟨k, i, hy, h0, rfl⟩ := hh
      simp [Instr.sliceBounds, Sem.run_bind, ha.ev hy, run_bound h0 h2]
  | some x =>
    obtain ⟨k', i', hx, h0', rfl⟩ := hl
    cases hi with
    | none => simp [bnd] at hh; subst hh; simp [Instr.sliceBounds, Sem.run_bind, ha.ev hx, run_bound h0' h1]
    | some y =>
      obtain ⟨k, i, hy, h0, rfl⟩ := hh
      simp [Instr.sliceBounds, Sem.run_bind, ha.ev hy, ha.ev hx, run_bound h0 h2, run_bound h0' h1]
theorem Y.slc {t e : TypeId} {x : Operand} {lo hi : Option Operand} {A : Option Addr} {m c l h sz bt : Nat} {z : Value} (ht : P.underlying t = some (.slice e)) (hi' : TI P e sz bt z)
    (hx : s.ev x = some (.slice A m c)) (hl : bnd s lo 0 l) (hh : bnd s hi m h) (h1 : l ≤ h ∧ h ≤ c) : Qp P n ds ⟨some d, .slice t x lo hi none, ty, pos, aft, gd⟩ s (.slice (subA sz A c l) (h - l) (c - l)) := fun a w ha => by
  have hb := run_bounds (P := P) ha (isS := true) hl hh h1.1 h1.2 w
  simp [execOp, Sem.run_bind, ha.ev hx, Instr.sliceAt, Instr.slice, run_underlying ht, hb, hi'.size, subA]
theorem Y.slcT {t : TypeId} {x : Operand} {lo hi : Option Operand} {a : ByteArray} {l h : Nat} (ht : P.underlying t = some .string)
    (hx : s.ev x = some (.string a)) (hl : bnd s lo 0 l) (hh : bnd s hi a.size h) (h1 : l ≤ h ∧ h ≤ a.size) : Qp P n ds ⟨some d, .slice t x lo hi none, ty, pos, aft, gd⟩ s (.string (a.extract l h)) := fun a' w ha => by
  have hb := run_bounds (P := P) ha (isS := false) hl hh h1.1 h1.2 w
  simp [execOp, Sem.run_bind, ha.ev hx, Instr.sliceAt, Instr.slice, run_underlying ht, hb]

/-! ### Rows of one-cell elements, by their lists -/
theorem take_drop_len {α : Type} (xs : List α) (l h : Nat) (hh : h ≤ xs.length) : ((xs.take h).drop l).length = h - l := by simp; omega
theorem Y.slcL {α : Type} {t e : TypeId} {x : Operand} {lo hi : Option Operand} {A : Option Addr} {c l h bt : Nat} {z : Value} {xs : List α} (ht : P.underlying t = some (.slice e)) (hi' : TI P e 1 bt z)
    (hx : s.ev x = some (.slice A xs.length c)) (hl : bnd s lo 0 l) (hh : bnd s hi xs.length h) (h1 : l ≤ h ∧ h ≤ xs.length) (hc : xs.length ≤ c) :
    Qp P n ds ⟨some d, .slice t x lo hi none, ty, pos, aft, gd⟩ s (.slice (subA 1 A c l) ((xs.take h).drop l).length (c - l)) := by
  rw [take_drop_len xs l h h1.2]
  exact Y.slc ht hi' hx hl hh ⟨h1.1, by omega⟩
theorem RdG.subL {α : Type} {enc : α → Value} {A : Option Addr} {c l h : Nat} {xs : List α} (hr : RdG B w0 G A (xs.map enc)) (hc : xs.length ≤ c) : RdG B w0 G (subA 1 A c l) (((xs.take h).drop l).map enc) := by
  have := hr.sub (sz := 1) (c := c) (by simpa using hc) l h
  simpa [List.map_drop, List.map_take] using this
theorem J.mkL {t e : TypeId} {α : Type} {enc : α → Value} {x y : Operand} {k k' : IntKind} {l c : Int} {bt : Nat} {z : α} (hd : Nat.blt d n = true) (ht : P.underlying t = some (.slice e)) (hi : TI P e 1 bt (enc z)) (hz : (enc z).cells = #[enc z])
    (hx : s.ev x = some (.int k l)) (hy : s.ev y = some (.int k' c)) (h0 : 0 ≤ l ∧ l ≤ c ∧ (bt : Int) * c ≤ 281474976710656) (hb : 0 < bt)
    (kk : ∀ A, J P ro n ds ops Q B w0 rest ((d, .slice A (List.replicate l.toNat z).length c.toNat) :: s) (own e 1 A c.toNat ((List.replicate l.toNat z).map enc) :: G)) :
    J P ro n ds ops Q B w0 (⟨some d, .makeSlice t x y, ty, pos, aft, none⟩ :: rest) s G :=
  J.mk hd ht hi hz hx hy h0 hb fun A => by have := kk A; rwa [List.length_replicate, List.map_replicate] at this
theorem J.appL {α : Type} {enc : α → Value} {t ty' e : TypeId} {x y : Operand} {bt : Nat} {z : Value} {A A2 : Option Addr} {c c2 : Nat} {xs ys : List α} (hd : Nat.blt d n = true) (ht : P.underlying t = some (.slice e)) (hi : TI P e 1 bt z) (hzs : z.cells.size = 1) (hbt : 0 < bt)
    (hx : s.ev x = some (.slice A xs.length c)) (hy : s.ev y = some (.slice A2 ys.length c2)) (h1 : ∀ u, (enc u).oneCell' = true) (hr : RdG B w0 (own e 1 A c (xs.map enc) :: G) A2 (ys.map enc)) (hb : (xs.length + ys.length) * bt ≤ 140737488355328)
    (kk : ∀ A' c', J P ro n ds ops Q B w0 rest ((d, .slice A' (xs ++ ys).length c') :: s) (own e 1 A' c' ((xs ++ ys).map enc) :: G)) :
    J P ro n ds ops Q B w0 (⟨some d, .call { callee := .builtin .append, args := #[x, y], argTypes := #[t, t] }, ty', pos, aft, none⟩ :: rest) s (own e 1 A c (xs.map enc) :: G) :=
  J.app hd ht hi hzs (by omega) hbt hx hy (by simp) (by simp) (fun u hu => by simp at hu; obtain ⟨v, _, rfl⟩ := hu; exact h1 v) hr hb fun A' c' => by
    have := kk A' c'; rwa [List.length_append, List.map_append] at this
theorem J.bsL {α : Type} {enc : α → Value} {t e : TypeId} {len : Nat} {parts : Array (Nat × Operand)} {vs : List (Nat × Value)} {xs : List α} {bt : Nat} {z : Value} (hd : Nat.blt d n = true) (ht : P.underlying t = some (.slice e)) (hi : TI P e 1 bt z) (hz : z.cells = #[z])
    (hp : s.evP parts.toList = some vs) (hf : Instr.fill (fun i => some (i * 1, 1)) (List.replicate len z).toArray vs = some (xs.map enc).toArray) (hl : xs.length = len) (h24 : Nat.ble len 16777216 = true)
    (kk : ∀ A, J P ro n ds ops Q B w0 rest ((d, .slice A xs.length len) :: s) (own e 1 A len (xs.map enc) :: G)) :
    J P ro n ds ops Q B w0 (⟨some d, .buildSlice t len parts, ty, pos, aft, none⟩ :: rest) s G :=
  J.bs hd ht hi hz (vs := vs) (L := xs.map enc) (fun a ha => by rw [← ha.evP hp]; exact Array.ext' (by simp)) hf (by simpa using hl) (Nat.le_of_ble_eq_true h24) fun A => by rw [← hl] at kk ⊢; exact kk A
theorem J.bsV {t e : TypeId} {len : Nat} {parts : Array (Nat × Operand)} {vs : List (Nat × Value)} {L : List Value} {bt : Nat} {z : Value} (hd : Nat.blt d n = true) (ht : P.underlying t = some (.slice e)) (hi : TI P e 1 bt z) (hz : z.cells = #[z])
    (hp : s.evP parts.toList = some vs) (hf : Instr.fill (fun i => some (i * 1, 1)) (List.replicate len z).toArray vs = some L.toArray) (hl : L.length = len) (h24 : Nat.ble len 16777216 = true)
    (kk : ∀ A, J P ro n ds ops Q B w0 rest ((d, .slice A len len) :: s) (own e 1 A len L :: G)) :
    J P ro n ds ops Q B w0 (⟨some d, .buildSlice t len parts, ty, pos, aft, none⟩ :: rest) s G :=
  J.bs hd ht hi hz (vs := vs) (L := L) (fun a ha => by rw [← ha.evP hp]; exact Array.ext' (by simp)) hf hl (Nat.le_of_ble_eq_true h24) kk
theorem J.mk0 {t e : TypeId} {α : Type} {enc : α → Value} {x y : Operand} {k k' : IntKind} {c : Int} {bt : Nat} {z : Value} (hd : Nat.blt d n = true) (ht : P.underlying t = some (.slice e)) (hi : TI P e 1 bt z) (hz : z.cells = #[z])
    (hx : s.ev x = some (.int k 0)) (hy : s.ev y = some (.int k' c)) (h0 : 0 ≤ c ∧ (bt : Int) * c ≤ 281474976710656) (hb : 0 < bt)
    (kk : ∀ A, J P ro n ds ops Q B w0 rest ((d, .slice A ([] : List α).length c.toNat) :: s) (own e 1 A c.toNat (([] : List α).map enc) :: G)) :
    J P ro n ds ops Q B w0 (⟨some d, .makeSlice t x y, ty, pos, aft, none⟩ :: rest) s G :=
  J.mk hd ht hi hz hx hy ⟨by omega, h0.1, h0.2⟩ hb fun A => kk A
/-- A store into a variable of the function's own, spelled out. -/
theorem J.stE {te : TypeId} {x y : Operand} {g o bt : Nat} {t : TypeId} {L L' : List Value} {v z : Value} (hi : TI P te 1 bt z) (hx : s.ev x = some (.pointer (some ⟨g, o, none⟩))) (hy : s.ev y = some v) (h1 : v.oneCell' = true) (ho : Nat.blt o L.length = true) (hL : L.set o v = L')
    (kk : J P ro n ds ops Q B w0 rest s (cells g t L' :: G)) : J P ro n ds ops Q B w0 (⟨none, .store te x y, ty, pos, aft, none⟩ :: rest) s (cells g t L :: G) :=
  J.st hi hx hy h1 (Nat.le_of_ble_eq_true ho) (by rw [hL]; exact kk)
/-- Into a row of one-cell elements. -/
theorem J.stoL {α : Type} {enc : α → Value} {te e : TypeId} {x y : Operand} {A : Option Addr} {a : Addr} {i : Int} {c bt : Nat} {xs : List α} {v : α} {z : Value} (hi : TI P te 1 bt z) (ha' : A = some a) (hx : s.ev x = some (.pointer (some (a.add (i.toNat * 1))))) (hy : s.ev y = some (enc v)) (h1 : (enc v).oneCell' = true) (hj : 0 ≤ i ∧ i < xs.length)
    (kk : J P ro n ds ops Q B w0 rest s (own e 1 A c ((xs.set i.toNat v).map enc) :: G)) : J P ro n ds ops Q B w0 (⟨none, .store te x y, ty, pos, aft, none⟩ :: rest) s (own e 1 A c (xs.map enc) :: G) :=
  J.sto hi ha' hx hy h1 (by simp; omega) (by rw [Nat.mul_one, ← List.map_set]; exact kk)
theorem set_len {α : Type} {A : Option Addr} {c : Nat} (xs : List α) (i : Nat) (v : α) : Value.slice A xs.length c = Value.slice A (xs.set i v).length c := by rw [List.length_set]
theorem St.nilOwn {w : World} (e : TypeId) (sz : Nat) (h : St B w0 G w) : St B w0 (own e sz none 0 [] :: G) w :=
  h.imp fun p hp => ⟨em, p, fun _ => .inl rfl, (em_jn p).symm, .inl ⟨rfl, rfl, rfl, rfl⟩, hp⟩
theorem J.nilOwn (e : TypeId) (sz : Nat) (h : J P ro n ds ops Q B w0 rest s (own e sz none 0 [] :: G)) : J P ro n ds ops Q B w0 rest s G := fun a w ha hw => h a w ha (hw.nilOwn e sz)
theorem own_leL {α : Type} {enc : α → Value} {e : TypeId} {A : Option Addr} {c : Nat} {xs : List α} (i : Nat) (hi : G[i]? = some (own e 1 A c (xs.map enc))) (w : World) (hw : St B w0 G w) : xs.length ≤ c := by
  have := own_le i hi w hw; simpa using this

/-! ### copy -/
theorem J.cpy {dT sT e : TypeId} {x y : Operand} {A A2 : Option Addr} {m c m2 c2 bt : Nat} {z : Value} {L N : List Value} (hd : Nat.blt d n = true) (ht : P.underlying dT = some (.slice e)) (hi : TI P e 1 bt z)
    (hx : s.ev x = some (.slice A m c)) (hy : s.ev y = some (.slice A2 m2 c2)) (hm : m ≤ L.length) (hN : N.length = m2) (h1 : ∀ u ∈ N, u.oneCell' = true) (hr : RdG B w0 (own e 1 A c L :: G) A2 N)
    (kk : J P ro n ds ops Q B w0 rest ((d, .int .i64 (min m2 m : Nat)) :: s) (own e 1 A c (N.take m ++ L.drop (min m2 m)) :: G)) :
    J P ro n ds ops Q B w0 (⟨some d, .call { callee := .builtin .copy, args := #[x, y], argTypes := #[dT, sT] }, ty, pos, aft, none⟩ :: rest) s (own e 1 A c L :: G) :=
  J.core hd (by simp) fun a w ha hw => by
    obtain ⟨i, hii, hi1, hi2, hi3⟩ := hi
    have hR := hr.now hw
    obtain ⟨q, hX, hq⟩ := head_of hw
    have hlen : (N.take m).length = min m2 m := by simp [hN, Nat.min_comm]
    by_cases hz : min m2 m = 0
    · -- nothing is copied
      have hT : N.take m = [] := List.eq_nil_of_length_eq_zero (by rw [hlen, hz])
      rw [hz, hT] at kk
      refine ⟨.int .i64 ((0 : Nat) : Int), w, _, _, ?_, hw, kk, rfl⟩
      have hz' : m2.min m = 0 := hz
      cases A <;> cases A2 <;> simp [execOp, resolve, invoke, builtin, Sem.run_bind, ha.ev hx, ha.ev hy, Builtin.copy_, run_underlying ht, Builtin.lenOf, Builtin.firstCells, Go.sizeOf, typeInfo, hii, hi1, hz', loadCells, loadCellsFrom, storeCells, goInt]
    · rcases hX with ⟨rfl, rfl, rfl, _⟩ | ⟨g, cur, rfl, rfl, hs, hmx, hle, htake⟩
      · simp at hm; omega
      · have hg := (hq g _ (si_self _ _)).1
        have hBg := (hq g _ (si_self _ _)).2
        cases A2 with
        | none =>
          have : N = [] := by
            cases N with
            | nil => rfl
            | cons u r => obtain ⟨a, h, _⟩ := hR 0 u rfl; cases h
          subst this; simp at hN; omega
        | some a2 =>
          have hsrc : ∀ j u, (N.take m)[j]? = some u → w.cell? (a2.add j) = some u := by
            intro j u hj
            obtain ⟨a', h, hc⟩ := (hR.take m) j u hj
            cases h; exact hc
          have hcur : L.length ≤ cur.size := by rw [hs]; exact hle
          have hrun := run_copy_row (P := P) w dT sT ty e g 0 m c a2 m2 c2 cur e (N.take m) ht (by simp [hii, hi1]) hg (hlen.trans rfl) hsrc (by rw [hlen]; omega) (fun u hu => h1 u (List.mem_of_mem_take hu))
          refine ⟨.int .i64 (min m2 m : Nat), w.setRow g (cur.toList.take 0 ++ N.take m ++ cur.toList.drop (0 + (N.take m).length)).toArray, _, _, ?_, ?_, kk, rfl⟩
          · rw [hlen] at hrun ⊢
            simp only [execOp, resolve, invoke, builtin, Sem.run_bind, Sem.run_pure, Result.andThen_ok, List.map_toArray, List.map_cons, List.map_nil, ha.ev hx, ha.ev hy, hrun, goInt]
          · refine hw.swap rfl rfl rfl (by simp [World.setRow]) fun q' hq' hqq => ?_
            have hq'' : q' = si g (.cells cur e (0, 0)) := by
              rcases hq' with ⟨h, _⟩ | ⟨g', cur', h, rfl, _⟩
              · cases h
              · cases h
                have h1' := (hqq g _ (si_self _ _)).1
                rw [hg] at h1'; cases h1'; rfl
            subst hq''
            refine ⟨si g (.cells (cur.toList.take 0 ++ N.take m ++ cur.toList.drop (0 + (N.take m).length)).toArray e (0, 0)), .inr ⟨g, _, rfl, rfl, ?_, hmx, ?_, ?_⟩, ?_, ?_, ?_⟩
            · simp only [List.take_zero, List.nil_append, Nat.zero_add, List.size_toArray, List.length_append, List.length_drop, Array.length_toList, hlen]
              rw [← hs]; omega
            · simp only [List.length_append, List.length_drop, hlen]; omega
            · simp only [List.take_zero, List.nil_append, Nat.zero_add, hlen]
              have hLd : L.drop (min m2 m) = (cur.toList.drop (min m2 m)).take (L.length - min m2 m) := by
                rw [← List.drop_take]
                rw [htake]
              rw [List.length_append, hlen, List.length_drop, hLd]
              rw [List.take_append]
              rw [List.take_of_length_le (by rw [hlen]; omega), hlen]
              congr 2; omega
            · intro b o e'; unfold si at e'; split at e'
              · rename_i hb'; subst hb'; cases e'; exact ⟨setRow_heap w b cur _ e _ hg, hBg⟩
              · cases e'
            · intro b e'; left
              unfold si at e' ⊢; split at e'
              · rename_i hb'; rw [if_pos hb']; simp
              · exact absurd rfl e'
            · intro b hb' e'
              refine setRow_other w g b _ ?_
              intro hbg; subst hbg; simp [si] at e'

/-! ### strings -/
theorem Y.b2s {src dst e : TypeId} {x : Operand} {A : Option Addr} {c : Nat} {xs : List Int} (hs : P.underlying src = some (.slice e)) (he : P.underlying e = some (.int .u8)) (hdst : P.underlying dst = some .string)
    (hx : s.ev x = some (.slice A xs.length c)) (hr : RdG B w0 G A (xs.map (Value.int .u8))) : Qs P n ds B w0 ⟨some d, .convert src dst x, ty, pos, aft, gd⟩ s G (.string (strOfNums xs)) := fun K a w ha hw => by
    have hR := hr K w hw
    cases A with
    | none =>
      have : xs = [] := by
        cases xs with
        | nil => rfl
        | cons u r => obtain ⟨a, h, _⟩ := hR 0 _ rfl; cases h
      subst this
      have := run_convert_bytes_nil (P := P) w src e hs he 0 c dst hdst
      simp [execOp, Sem.run_bind, ha.ev hx, this]
      rfl
    | some p =>
      have hl : (loadCells p xs.length).run P w = .ok (xs.map (Value.int .u8)).toArray w := by
        have := run_loadCells_list (P := P) w p (xs.map (Value.int .u8)) (fun j v hj => by
          obtain ⟨a', h, hc⟩ := hR j v hj
          cases h; exact hc)
        simpa using this
      have := run_convert_bytes_string w src dst e p xs.length c hs he hdst
      rw [run_bytesToString w _ _ c xs hl, foldl_push_bytes] at this
      simp [execOp, Sem.run_bind, ha.ev hx, this]
      simp [strOfNums, ByteArray.empty, ByteArray.emptyWithCapacity]
def bt (a : ByteArray) (i : Int) : Int := (a.data.toList.getD i.toNat 0).toNat
def bytesOf (a : ByteArray) : List Int := a.data.toList.map fun b => (b.toNat : Int)
theorem bytesOf_length (a : ByteArray) : (bytesOf a).length = a.size := by unfold bytesOf; rw [List.length_map, Array.length_toList]; rfl
theorem run_ixT {t : TypeId} {a : ByteArray} {k : IntKind} {i : Int} (ht : P.underlying t = some .string) (h0 : 0 ≤ i ∧ i < a.size) (w : World) : (Instr.index t (.string a) (.int k i)).run P w = .ok (.int .u8 (bt a i)) w := by
  have hlt : i.toNat < a.size := by omega
  have hlt' : i.toNat < a.data.size := hlt
  have hb : a[i.toNat]? = some a[i.toNat] := by simp [hlt]
  have hbt : ((a[i.toNat]).toNat : Int) = bt a i := by unfold bt; rw [List.getD, Array.getElem?_toList, Array.getElem?_eq_getElem hlt']; rfl
  simp only [Instr.index, Sem.run_bind, asIntOf, Sem.run_pure, Result.andThen_ok, run_underlying ht]
  rw [if_pos h0.1, hb]
  simp only [Sem.run_pure, hbt]
theorem Y.ixT {t : TypeId} {x ix : Operand} {a : ByteArray} {k : IntKind} {i : Int} (ht : P.underlying t = some .string) (hx : s.ev x = some (.string a)) (hi : s.ev ix = some (.int k i)) (h0 : 0 ≤ i ∧ i < a.size) :
    Qp P n ds ⟨some d, .index t x ix, ty, pos, aft, gd⟩ s (.int .u8 (bt a i)) := fun a' w ha => by
  simp only [execOp, Sem.run_bind, ha.ev hx, ha.ev hi, run_ixT ht h0, Result.andThen_ok, Sem.run_pure]
/-- What only is read: a block of any make. -/
def ro_ (A : Option Addr) (L : List Value) : HP := fun h => ∀ w : World, (∀ b o, h b = some o → w.heap[b]? = some o) → Rd w A L
theorem RdG.ro_ {A : Option Addr} {L : List Value} (i : Nat) (hi : G[i]? = some (Sx.ro_ A L)) : RdG B w0 G A L := RdG.of i hi fun w q hX hq => hX w fun b o h => (hq b o h).1
theorem St.toRo {w : World} {e : TypeId} {sz : Nat} {A : Option Addr} {c : Nat} {L : List Value} (h : St B w0 (own e sz A c L :: G) w) : St B w0 (ro_ A L :: G) w :=
  h.imp fun p ⟨h1, h2, hd, hp, hX, hr⟩ => ⟨h1, h2, hd, hp, fun w hw => rd_own (B := 0) hX fun b o hb => ⟨hw b o hb, Nat.zero_le _⟩, hr⟩
theorem J.s2b {src dst e : TypeId} {x : Operand} {a : ByteArray} {u : TypeDesc} (hd : Nat.blt d n = true) (hs : P.underlying src = some u) (hdst : P.underlying dst = some (.slice e)) (he : P.underlying e = some (.int .u8))
    (hx : s.ev x = some (.string a)) (kk : ∀ A c, J P ro n ds ops Q B w0 rest ((d, .slice A a.size c) :: s) (ro_ A ((bytesOf a).map (Value.int .u8)) :: G)) :
    J P ro n ds ops Q B w0 (⟨some d, .convert src dst x, ty, pos, aft, none⟩ :: rest) s G :=
  J.core hd (by simp) fun a' w ha hw => by
    have hr := Lib.run_convert_string_bytes w src dst e a hs hdst he
    refine ⟨.slice (some ⟨w.heap.size, 0, none⟩) a.size (grownCap w a.size 0 e), Lib.bytesWorld w e a, _, _, by simp only [execOp, Sem.run_bind, ha.ev hx, hr, Result.andThen_ok, Sem.run_pure], ?_, kk _ _, rfl⟩
    refine hw.add rfl rfl rfl (by rw [Lib.bytesWorld_size]; omega) (fun b hb => Lib.bytesWorld_at_old w e a b hb) ⟨si w.heap.size (.cells (Lib.bytesCells w e a) e ((Lib.bytesCells w e a).size, (Lib.bytesCells w e a).size + 1)), ?_, ?_⟩
    · intro w' hw' j u hj
      refine ⟨_, rfl, ?_⟩
      rw [add0, cell_si (hw' _ _ (si_self _ _))]
      simp [bytesOf] at hj
      obtain ⟨b, hb, rfl⟩ := hj
      obtain ⟨hlt, rfl⟩ := Array.getElem?_eq_some_iff.1 hb
      have hlt2 : j < a.size := hlt
      simp [Lib.bytesCells, Array.getElem?_append, hlt2, hlt, hb]
    · intro b o e'; unfold si at e'; split at e'
      · rename_i hb; subst hb; cases e'; exact ⟨Lib.bytesWorld_at_new w e a, Nat.le_refl _⟩
      · cases e'

theorem J.s2bL {src dst e : TypeId} {x : Operand} {a : ByteArray} {u : TypeDesc} (hd : Nat.blt d n = true) (hs : P.underlying src = some u) (hdst : P.underlying dst = some (.slice e)) (he : P.underlying e = some (.int .u8))
    (hx : s.ev x = some (.string a)) (kk : ∀ A c, J P ro n ds ops Q B w0 rest ((d, .slice A (bytesOf a).length c) :: s) (ro_ A ((bytesOf a).map (Value.int .u8)) :: G)) :
    J P ro n ds ops Q B w0 (⟨some d, .convert src dst x, ty, pos, aft, none⟩ :: rest) s G := J.s2b hd hs hdst he hx fun A c => by have := kk A c; rwa [bytesOf_length] at this
theorem copy_len {α : Type} {A : Option Addr} {c : Nat} (ys xs : List α) : Value.slice A xs.length c = Value.slice A (ys.take xs.length ++ xs.drop (min ys.length xs.length)).length c := by
  congr 1; simp; omega
theorem J.cpyL {α : Type} {enc : α → Value} {dT sT e : TypeId} {x y : Operand} {A A2 : Option Addr} {c c2 bt : Nat} {z : Value} {xs ys : List α} (hd : Nat.blt d n = true) (ht : P.underlying dT = some (.slice e)) (hi : TI P e 1 bt z)
    (hx : s.ev x = some (.slice A xs.length c)) (hy : s.ev y = some (.slice A2 ys.length c2)) (h1 : ∀ u, (enc u).oneCell' = true) (hr : RdG B w0 (own e 1 A c (xs.map enc) :: G) A2 (ys.map enc))
    (kk : J P ro n ds ops Q B w0 rest ((d, .int .i64 (min ys.length xs.length : Nat)) :: s) (own e 1 A c ((ys.take xs.length ++ xs.drop (min ys.length xs.length)).map enc) :: G)) :
    J P ro n ds ops Q B w0 (⟨some d, .call { callee := .builtin .copy, args := #[x, y], argTypes := #[dT, sT] }, ty, pos, aft, none⟩ :: rest) s (own e 1 A c (xs.map enc) :: G) :=
  J.cpy hd ht hi hx hy (by simp) (by simp) (fun u hu => by simp at hu; obtain ⟨v, _, rfl⟩ := hu; exact h1 v) hr (by simpa [List.map_append, List.map_take, List.map_drop] using kk)

/-! ### Parts at the front of a row, with more behind them -/
theorem RdG.pre {α : Type} {enc : α → Value} {A : Option Addr} {xs z : List α} (h : RdG B w0 G A ((xs ++ z).map enc)) : RdG B w0 G A (xs.map enc) := by
  intro K w hw j u hu
  refine h K w hw j u ?_
  have hj : j < xs.length := by
    rcases Nat.lt_or_ge j xs.length with h | h
    · exact h
    · rw [List.getElem?_eq_none (by simpa using h)] at hu; cases hu
  rw [List.map_append, List.getElem?_append_left (by simpa using hj)]
  exact hu
theorem len_pre {α : Type} {xs z : List α} {c : Nat} (h : (xs ++ z).length ≤ c) : xs.length ≤ c := by rw [List.length_append] at h; omega
theorem hc_sub {α : Type} {xs : List α} {c l h : Nat} (hc : xs.length ≤ c) : ((xs.take h).drop l).length ≤ c - l := by
  rw [List.length_drop, List.length_take]; omega
theorem subA_zero (sz : Nat) (A : Option Addr) (c : Nat) : subA sz A c 0 = A := by
  unfold subA
  split
  · rfl
  · rw [Nat.zero_mul]; cases A <;> simp [Addr.add]
theorem slc0 {α : Type} (A : Option Addr) (c : Nat) (xs : List α) (h : Nat) : Value.slice (subA 1 A c 0) ((xs.take h).drop 0).length (c - 0) = Value.slice A (xs.take h).length c := by
  rw [subA_zero, List.drop_zero]; rfl
theorem slc_len {α : Type} {A : Option Addr} {c : Nat} {xs ys : List α} (h : ys.length = xs.length) : Value.slice A xs.length c = Value.slice A ys.length c := by rw [h]
theorem slc_lenT {α : Type} {A : Option Addr} {c n : Nat} {xs ys : List α} (h : ys.length = (xs.take n).length) : Value.slice A xs.length c = Value.slice A (ys ++ xs.drop n).length c := by
  rw [List.length_append, h, ← List.length_append, List.take_append_drop]
theorem slc_lenN {α : Type} {A : Option Addr} {c : Nat} {xs ys : List α} (h : ys.length = xs.length) : Value.slice A xs.length c = Value.slice A (ys ++ ([] : List α)).length c := by
  rw [List.append_nil, h]
theorem St.split {w : World} {α : Type} {enc : α → Value} {e : TypeId} {A : Option Addr} {c n : Nat} {xs : List α} (h : St B w0 (own e 1 A c (xs.map enc) :: G) w) : St B w0 (own e 1 A c ((xs.take n ++ xs.drop n).map enc) :: G) w := by
  rw [List.take_append_drop]; exact h
theorem St.splitN {w : World} {α : Type} {enc : α → Value} {e : TypeId} {A : Option Addr} {c : Nat} {xs : List α} (h : St B w0 (own e 1 A c (xs.map enc) :: G) w) : St B w0 (own e 1 A c ((xs ++ ([] : List α)).map enc) :: G) w := by
  rw [List.append_nil]; exact h
/-- A part of all that is known behind a slice's address, up to its capacity. -/
theorem Y.slcW {α : Type} {t e : TypeId} {x : Operand} {lo hi : Option Operand} {A : Option Addr} {m c l h bt : Nat} {z : Value} {xs : List α} (ht : P.underlying t = some (.slice e)) (hi' : TI P e 1 bt z)
    (hx : s.ev x = some (.slice A m c)) (hl : bnd s lo 0 l) (hh : bnd s hi m h) (h1 : l ≤ h ∧ h ≤ xs.length) (hc : xs.length ≤ c) :
    Qp P n ds ⟨some d, .slice t x lo hi none, ty, pos, aft, gd⟩ s (.slice (subA 1 A c l) ((xs.take h).drop l).length (c - l)) := by
  rw [take_drop_len xs l h h1.2]
  exact Y.slc ht hi' hx hl hh ⟨h1.1, Nat.le_trans h1.2 hc⟩
/-- A store into the front of a row, with more behind it. -/
theorem J.stoLz {α : Type} {enc : α → Value} {te e : TypeId} {x y : Operand} {A : Option Addr} {a : Addr} {i : Int} {c bt : Nat} {xs zs : List α} {v : α} {z : Value} (hi : TI P te 1 bt z) (ha' : A = some a) (hx : s.ev x = some (.pointer (some (a.add (i.toNat * 1))))) (hy : s.ev y = some (enc v)) (h1 : (enc v).oneCell' = true) (hj : 0 ≤ i ∧ i < xs.length)
    (k : J P ro n ds ops Q B w0 rest s (own e 1 A c ((xs.set i.toNat v ++ zs).map enc) :: G)) : J P ro n ds ops Q B w0 (⟨none, .store te x y, ty, pos, aft, none⟩ :: rest) s (own e 1 A c ((xs ++ zs).map enc) :: G) := by
  have e1 : (xs ++ zs).set i.toNat v = xs.set i.toNat v ++ zs := List.set_append_left _ _ (by omega)
  refine J.stoL hi ha' hx hy h1 ⟨hj.1, by rw [List.length_append]; omega⟩ ?_
  rw [e1]; exact k
theorem star_snoc (M : List HP) (X : HP) (p : PH) (h : star (X :: M) p) : star (M ++ [X]) p := by
  obtain ⟨h1, h2, d, rfl, hX, hM⟩ := h
  exact star_append.2 ⟨h2, h1, dj_symm d, jn_comm d, hM, ⟨h1, em, fun _ => .inr rfl, (jn_em h1).symm, hX, rfl⟩⟩
theorem RdG.at_ {X : HP} {A : Option Addr} {L : List Value} (h : RdG B w0 [X] A L) (i : Nat) (hi : G[i]? = some X) : RdG B w0 G A L := by
  intro K w hw
  have hlt : i < G.length := (List.getElem?_eq_some_iff.1 hi).1
  have h1 : (K ++ G)[K.length + i]? = some X := by rw [List.getElem?_append_right (by omega)]; simpa using hi
  have h2 := hw.pull (K.length + i) h1 rfl
  -- X to the end, by what is owned apart from it
  have h3 : ∀ (M : List HP) (w : World), St B w0 (X :: M) w → St B w0 (M ++ [X]) w := by
    intro M w hM
    refine hM.imp fun p hp => ?_
    exact star_snoc M X p hp
  exact h _ w (h3 _ w h2)

/-! ### Arrays of one-cell elements behind a pointer -/
theorem agg_rep {α : Type} (enc : α → Value) (n : Nat) (x : α) : (Value.agg (Array.replicate n (enc x))).cells = ((List.replicate n x).map enc).toArray := by
  simp [Value.cells]
theorem Y.bld0 {t : TypeId} {zs : Array Value} {pl : List (Nat × Nat)} {sz bt : Nat} (hpl : PL P t pl) (hi : TI P t sz bt (.agg zs)) : Qp P n ds ⟨some d, .build t #[], ty, pos, aft, gd⟩ s (.agg zs) := fun a w ha => by
  obtain ⟨fs, ht, hm⟩ := hpl
  have e : (#[] : Array (Nat × Operand)).map (fun (i, x) => (i, a.eval x)) = ([] : List (Nat × Value)).toArray := by simp
  have hf : Instr.fill (fun x => pl.toArray[x]?) zs [] = some zs := rfl
  simp only [execOp, Sem.run_bind, Instr.build, hi.zero, Result.andThen_ok, run_underlying ht, hm, e]
  simp [Value.cells, Instr.fill]
theorem Y.faA {t : TypeId} {x : Operand} {f off o : Nat} {A : Addr} (hf : FA P t f off) (hx : s.ev x = some (.pointer (some (A.add o)))) : Qp P n ds ⟨some d, .fieldAddr t x f, ty, pos, aft, gd⟩ s (.pointer (some (A.add (o + off)))) := by
  rw [← add_add]; exact Y.fa hf hx
theorem Y.ixpA {t e : TypeId} {x ix : Operand} {A : Addr} {m sz bt o : Nat} {z : Value} {k : IntKind} {i : Int} (ht : P.underlying t = some (.array m e)) (hz : TI P e sz bt z)
    (hx : s.ev x = some (.pointer (some (A.add o)))) (hi : s.ev ix = some (.int k i)) (h0 : 0 ≤ i ∧ i < m) : Qp P n ds ⟨some d, .indexAddr t x ix, ty, pos, aft, gd⟩ s (.pointer (some (A.add (o + i.toNat * sz)))) := by
  rw [← add_add]; exact Y.ixp ht hz hx hi h0
theorem rdN {α : Type} [Inhabited α] (enc : α → Value) (xs : List α) (j : Nat) (hj : j < xs.length) : (xs.map enc)[j]? = some (enc (rd xs (j : Int))) := by
  have := map_get enc xs (j : Int) (by omega) (by omega)
  simpa using this
theorem Y.ldN {α : Type} [Inhabited α] {enc : α → Value} {te : TypeId} {x : Operand} {A : Addr} {j : Nat} {xs : List α} {D : TypeDesc} (hte : P.underlying te = some D) (hs : scalarD D = true)
    (hx : s.ev x = some (.pointer (some (A.add j)))) (hj : j < xs.length) (hr : RdG B w0 G (some A) (xs.map enc)) : Qs P n ds B w0 ⟨some d, .load te x, ty, pos, aft, gd⟩ s G (enc (rd xs (j : Int))) :=
  Y.ld hte hs hx hr rfl (rdN enc xs j hj)
theorem J.stN {α : Type} {enc : α → Value} {te : TypeId} {x y : Operand} {g j bt : Nat} {t : TypeId} {xs : List α} {v : α} {z : Value} (hi : TI P te 1 bt z) (hx : s.ev x = some (.pointer (some ((⟨g, 0, none⟩ : Addr).add j)))) (hy : s.ev y = some (enc v)) (h1 : (enc v).oneCell' = true) (hj : j < xs.length)
    (kk : J P ro n ds ops Q B w0 rest s (cells g t ((xs.set j v).map enc) :: G)) : J P ro n ds ops Q B w0 (⟨none, .store te x y, ty, pos, aft, none⟩ :: rest) s (cells g t (xs.map enc) :: G) := by
  rw [add0] at hx
  exact J.st hi hx hy h1 (by rw [List.length_map]; exact hj) (by rw [← List.map_set]; exact kk)

/-- A bytes literal out of a constant string: the row is marked; it only is read from here on. -/
theorem J.cvb {t e : TypeId} {x : Operand} {A : Option Addr} {a0 : Addr} {m c : Nat} {L : List Value} (hd : Nat.blt d n = true) (ht : P.underlying t = some (.slice e)) (he : P.underlying e = some (.int .u8)) (hA : A = some a0)
    (hx : s.ev x = some (.slice A m c)) (kk : J P ro n ds ops Q B w0 rest ((d, .slice A m c) :: s) (ro_ A L :: G)) :
    J P ro n ds ops Q B w0 (⟨some d, .convert t t x, ty, pos, aft, none⟩ :: rest) s (own e 1 A c L :: G) :=
  J.core hd (by simp) fun a' w ha hw => by
    obtain ⟨q, hX, hq⟩ := head_of hw
    rcases hX with ⟨h, _⟩ | ⟨g, cur, hA', rfl, hs, hm, hle, htake⟩
    · rw [hA] at h; cases h
    · rw [hA] at hA'; cases hA'
      subst hA
      have hg := (hq g _ (si_self _ _)).1
      have hsh : w.shape? g = some (e, cur.size) := by simp [World.shape?, hg]
      have hr : (convert t t (.slice (some ⟨g, 0, none⟩) m c)).run P w = .ok (.slice (some ⟨g, 0, none⟩) m c) (w.freeze ⟨g, cur.size, none⟩ 1) := by
        simp [convert, run_underlying ht, run_underlying he, markStringish, shape, freeze, Sem.run, hsh]
      refine ⟨.slice (some ⟨g, 0, none⟩) m c, w.freeze ⟨g, cur.size, none⟩ 1, _, ro_ (some ⟨g, 0, none⟩) L :: G, by simp only [execOp, Sem.run_bind, ha.ev hx, hr, Result.andThen_ok, Sem.run_pure], ?_, kk, rfl⟩
      have hnew : (w.freeze ⟨g, cur.size, none⟩ 1).heap[g]? = some (.cells cur e (cur.size, cur.size + 1)) := by
        simp [World.freeze, Array.getElem?_modify, hg]
      have hold : ∀ b, b ≠ g → (w.freeze ⟨g, cur.size, none⟩ 1).heap[b]? = w.heap[b]? := fun b hb => by
        simp [World.freeze, Array.getElem?_modify, Ne.symm hb]
      refine hw.swap (by simp [World.freeze]) (by simp [World.freeze]) (by simp [World.freeze]) (by simp [World.freeze]) fun q' hX' hq' => ?_
      rcases hX' with ⟨h, _⟩ | ⟨g', cur', hA', rfl, hs', hm', hle', htake'⟩
      · cases h
      · cases hA'
        have hg' := hq' g _ (si_self _ _)
        rw [hg] at hg'
        obtain ⟨hcur, hB⟩ := hg'
        cases hcur
        refine ⟨si g (.cells cur e (cur.size, cur.size + 1)), ?_, fun b o eo => ?_, fun b eb => .inl ?_, fun b hlt eb => hold b ?_⟩
        · intro w' hw' j u hj
          refine ⟨_, rfl, ?_⟩
          rw [add0, cell_si (hw' _ _ (si_self _ _))]
          have hjl : j < L.length := (List.getElem?_eq_some_iff.1 hj).1
          rw [← htake, List.getElem?_take, if_pos hjl] at hj
          simpa using hj
        · unfold si at eo; split at eo
          · rename_i hb; subst hb; cases eo; exact ⟨hnew, hB⟩
          · cases eo
        · unfold si at eb ⊢; split at eb
          · rename_i hb; rw [if_pos hb]; simp
          · exact absurd rfl eb
        · unfold si at eb; split at eb
          · cases eb
          · assumption

/-! ### Slices of slices that only are read -/
/-- The values vs are slices that read as xss. -/
def VV {α : Type} (B : Nat) (w0 : World) (G : List HP) (enc : α → Value) : List Value → List (List α) → Prop
  | [], [] => True
  | v :: vs, x :: xs => (∃ A c, v = .slice A x.length c ∧ RdG B w0 G A (x.map enc) ∧ x.length ≤ c) ∧ VV B w0 G enc vs xs
  | _, _ => False
theorem VV.len {α : Type} {enc : α → Value} : ∀ {vs : List Value} {xss : List (List α)}, VV B w0 G enc vs xss → vs.length = xss.length
  | [], [], _ => rfl
  | v :: vs, x :: xs, h => by rw [List.length_cons, List.length_cons, VV.len h.2]
  | [], x :: xs, h => h.elim
  | v :: vs, [], h => h.elim
theorem VV.get' {α : Type} [Inhabited α] {enc : α → Value} : ∀ {vs : List Value} {xss : List (List α)} (i : Nat), VV B w0 G enc vs xss → i < xss.length → ∃ A c, vs[i]? = some (.slice A (rd xss (i : Int)).length c) ∧ RdG B w0 G A ((rd xss (i : Int)).map enc) ∧ (rd xss (i : Int)).length ≤ c
  | [], [], i, _, h => by simp at h
  | v :: vs, x :: xs, 0, h, _ => by
    obtain ⟨A, c, e, h1, h2⟩ := h.1
    exact ⟨A, c, by rw [e]; rfl, h1, h2⟩
  | v :: vs, x :: xs, i + 1, h, hi => by
    obtain ⟨A, c, e, h1, h2⟩ := VV.get' i h.2 (by simpa using hi)
    have er : rd (x :: xs) ((i + 1 : Nat) : Int) = rd xs (i : Int) := by unfold rd; rw [Int.toNat_natCast, Int.toNat_natCast]; rfl
    rw [er]
    exact ⟨A, c, by simpa using e, h1, h2⟩
  | [], x :: xs, _, h, _ => h.elim
  | v :: vs, [], _, h, _ => h.elim
theorem VV.get {α : Type} [Inhabited α] {enc : α → Value} {vs : List Value} {xss : List (List α)} {i : Int} (h : VV B w0 G enc vs xss) (hi : 0 ≤ i ∧ i < xss.length) : ∃ A c, vs[i.toNat * 1]? = some (.slice A (rd xss i).length c) ∧ RdG B w0 G A ((rd xss i).map enc) ∧ (rd xss i).length ≤ c := by
  obtain ⟨A, c, e, h1, h2⟩ := VV.get' i.toNat h (by omega)
  have ei : ((i.toNat : Nat) : Int) = i := by omega
  rw [ei] at e h1 h2
  exact ⟨A, c, by rw [Nat.mul_one]; exact e, h1, h2⟩
theorem VV.suf {α : Type} {enc : α → Value} : ∀ {vs : List Value} {xss : List (List α)}, VV B w0 G enc vs xss → ∀ (K : List HP), K ++ G = G' → VV B w0 G' enc vs xss
  | [], [], _, _, _ => trivial
  | v :: vs, x :: xs, h, K, e => by
    obtain ⟨A, c, e1, h1, h2⟩ := h.1
    exact ⟨⟨A, c, e1, h1.suf K e, h2⟩, VV.suf h.2 K e⟩
  | [], x :: xs, h, _, _ => h.elim
  | v :: vs, [], h, _, _ => h.elim
theorem VV.nil {α : Type} {enc : α → Value} : VV B w0 G enc [] ([] : List (List α)) := trivial
theorem VV.cons {α : Type} {enc : α → Value} {A : Option Addr} {c : Nat} {x : List α} {vs : List Value} {xs : List (List α)} (h1 : RdG B w0 G A (x.map enc)) (h2 : x.length ≤ c) (h : VV B w0 G enc vs xs) : VV B w0 G enc (.slice A x.length c :: vs) (x :: xs) := ⟨⟨A, c, rfl, h1, h2⟩, h⟩
theorem VV.cons0 {α : Type} {enc : α → Value} {vs : List Value} {xs : List (List α)} (h : VV B w0 G enc vs xs) : VV B w0 G enc (.slice none 0 0 :: vs) ([] :: xs) := ⟨⟨none, 0, rfl, RdG.none_, Nat.le_refl _⟩, h⟩
theorem VV.some_ {α : Type} {enc : α → Value} {A : Option Addr} {vs : List Value} {xss : List (List α)} (hr : RdG B w0 G A vs) (hv : VV B w0 G enc vs xss) {j : Nat} (hj : j < xss.length) (w : World) (hw : St B w0 G w) : ∃ a, A = some a := hr.some_ (j := j) (by rw [hv.len]; exact hj) w hw

end
end Go.Sx
