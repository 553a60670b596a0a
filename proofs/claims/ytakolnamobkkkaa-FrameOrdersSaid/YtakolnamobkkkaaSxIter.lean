/- Own text. Functions that are ranged over: what a call of yield comes to; the statement; a return behind it. -/
import Derived.Test.YtakolnamobkkkaaSxDraw
import Derived.RangeFuncLeaves
import Derived.RangeFuncRecord
set_option linter.unusedSimpArgs false
set_option linter.unusedVariables false
namespace Go.Sx
open Go Go.RowKit
variable {P : Program} {ro : Option Nat} {n : Nat} {ds : List Deferred} {ops : Array Oper} {Q : Exit → Act → World → Prop} {rest : List Oper} {s s' : Env}
variable {B : Nat} {w0 : World} {G G' Gb : List HP}

/-- A call of a function's value, in a world: it hands back a value, in a world. -/
def CallV (P : Program) (yv : Value) (args : List Value) (w : World) (R : Value → World → Prop) : Prop :=
  ∃ fn cap, yv = .func fn #[] cap ∧
   ((∃ f as, (invoke (.fn fn cap) args.toArray).run P w = .ok (.enter f as) w ∧ Calls P f as w fun e w' => ∃ u, e = .returned u ∧ R u w') ∨
    (∃ l g tmps asg body, (invoke (.fn fn cap) args.toArray).run P w = .ok (.round l g tmps asg body) w ∧ RoundIn (FW none) 0 P l g tmps asg body w fun e w' => ∃ u, e = .returned u ∧ R u w'))
theorem CallV.mono {yv : Value} {args : List Value} {w : World} {R R' : Value → World → Prop} (h : CallV P yv args w R) (hr : ∀ u w', R u w' → R' u w') : CallV P yv args w R' := by
  obtain ⟨fn, cap, e, h⟩ := h
  refine ⟨fn, cap, e, ?_⟩
  rcases h with ⟨f, as, h1, h2⟩ | ⟨l, g, t, a, b, h1, h2⟩
  · exact .inl ⟨f, as, h1, h2.mono fun e w' ⟨u, he, hu⟩ => ⟨u, he, hr _ _ hu⟩⟩
  · exact .inr ⟨l, g, t, a, b, h1, h2.mono fun e w' ⟨u, he, hu⟩ => ⟨u, he, hr _ _ hu⟩⟩
theorem round_in {l g : Nat} {tmps : Array Value} {asg body : Code} {w : World} {R : Ending → World → Prop} (h : RoundIn (FW none) 0 P l g tmps asg body w R) : RoundIn (FW ro) 0 P l g tmps asg body w R := by
  cases ro with
  | none => exact h
  | some l => exact h
theorem J.callV {d : Nat} {ty : TypeId} {pos : String} {aft : Array Edge} {fo : Operand} {xs : Array Operand} {ts : Array TypeId} {yv : Value} {vs : List Value} {R : Value → World → Prop}
    (hd : Nat.blt d n = true) (hf : s.ev fo = some yv) (hx : s.evs xs.toList = some vs) (hc : ∀ w, St B w0 G w → CallV P yv vs w R)
    (k : ∀ u w', R u w' → ∃ G', St B w0 G' w' ∧ J P ro n ds ops Q B w0 rest ((d, u) :: s) G') :
    J P ro n ds ops Q B w0 (⟨some d, .call { callee := .value fo, args := xs, argTypes := ts }, ty, pos, aft, none⟩ :: rest) s G := by
  intro a w ha hw
  obtain ⟨fn, cap, rfl, hc2⟩ := hc w hw
  have e1 : xs.map a.eval = vs.toArray := by rw [← ha.evs hx]; exact Array.ext' (by simp)
  refine wpListIn_plain rfl fun K hK => ?_
  refine ⟨fun f _ => fw_true f, ?_⟩
  show Oper.uponIn _ _ _ _ _ _ _ ((Oper.semAt (FW ro).round a.eval _).run P w)
  rw [sem_at (o := ⟨some d, .call { callee := .value fo, args := xs, argTypes := ts }, ty, pos, aft, none⟩) _ _ (by simp)]
  have hr : (execOp a.eval ⟨some d, .call { callee := .value fo, args := xs, argTypes := ts }, ty, pos, aft, none⟩).run P w = (invoke (.fn fn cap) vs.toArray).run P w := by
    have e0 : (#[] : Array Value) ++ vs.toArray = vs.toArray := by simp
    simp only [execOp, resolve, Deferred.ofValue, Sem.run_bind, Sem.run_pure, ha.ev hf, e1, Result.andThen_ok, e0]
  rw [hr]
  rcases hc2 with ⟨f, as, h1, h2⟩ | ⟨l, g, t, asg, b, h1, h2⟩
  · rw [h1]
    refine ⟨by simp [FW], (calls_in h2).mono fun e w' he => ?_⟩
    obtain ⟨u, rfl, hu⟩ := he
    obtain ⟨G', hw', hj⟩ := k u w' hu
    exact hK _ _ (hj _ _ (ha.put hd u) hw')
  · rw [h1]
    refine ⟨by simp [FW], (round_in h2).mono fun e w' he => ?_⟩
    obtain ⟨u, rfl, hu⟩ := he
    obtain ⟨G', hw', hj⟩ := k u w' hu
    exact hK _ _ (hj _ _ (ha.put hd u) hw')

/-! ### What is read under some of the chunks -/
def Inc (B : Nat) (w0 : World) (R G : List HP) : Prop := ∀ K w, St B w0 (K ++ G) w → ∃ K', St B w0 (K' ++ R) w
theorem Inc.rd {R : List HP} {A : Option Addr} {L : List Value} (h : Inc B w0 R G) (hr : RdG B w0 R A L) : RdG B w0 G A L := fun K w hw => by
  obtain ⟨K', h'⟩ := h K w hw
  exact hr K' w h'
theorem Inc.refl : Inc B w0 G G := fun K w hw => ⟨K, hw⟩
theorem Inc.suf {R : List HP} (h : Inc B w0 R G) (L : List HP) (e : L ++ G = G') : Inc B w0 R G' := fun K w hw => h (K ++ L) w (by subst e; rwa [List.append_assoc])
theorem Inc.one {X : HP} (i : Nat) (hi : G[i]? = some X) : Inc B w0 [X] G := fun K w hw => by
  have hlt : i < G.length := (List.getElem?_eq_some_iff.1 hi).1
  have h1 : (K ++ G)[K.length + i]? = some X := by rw [List.getElem?_append_right (by omega)]; simpa using hi
  exact ⟨_, (hw.pull (K.length + i) h1 rfl).imp fun p hp => star_snoc _ _ _ hp⟩

/-! ### yield -/
/-- Calls of yv: in state σ, at x: as step says: on (true), or given up (false). -/
def YieldOk {S E X : Type} (P : Program) (B : Nat) (w0 : World) (Gb : List HP) (yv : Value) (enc : X → List Value) (Y : S ⊕ E → HP) (step : S → X → Option (S ⊕ E)) : Prop :=
  yv.cells = #[yv] ∧ ∀ σ x o, step σ x = some o → ∀ K w, St B w0 (Y (.inl σ) :: (K ++ Gb)) w → CallV P yv (enc x) w fun u w' => u = .bool o.isLeft ∧ St B w0 (Y o :: (K ++ Gb)) w'
theorem YieldOk.suf {S E X : Type} {yv : Value} {enc : X → List Value} {Y : S ⊕ E → HP} {step : S → X → Option (S ⊕ E)} (h : YieldOk P B w0 Gb yv enc Y step) (L : List HP) (e : L ++ Gb = G') : YieldOk P B w0 G' yv enc Y step := by
  subst e
  refine ⟨h.1, ?_⟩
  intro σ x o hs K w hw
  have := h.2 σ x o hs (K ++ L) w (by rwa [List.append_assoc])
  rwa [List.append_assoc] at this
theorem J.yield {S E X : Type} {enc : X → List Value} {Y : S ⊕ E → HP} {step : S → X → Option (S ⊕ E)} {yv : Value} {σ : S} {x : X} {o : S ⊕ E}
    {d : Nat} {ty : TypeId} {pos : String} {aft : Array Edge} {fo : Operand} {xs : Array Operand} {ts : Array TypeId}
    (hd : Nat.blt d n = true) (hy : YieldOk P B w0 Gb yv enc Y step) (hs : step σ x = some o) (hf : s.ev fo = some yv) (hx : s.evs xs.toList = some (enc x)) (K : List HP) (hG : Y (.inl σ) :: (K ++ Gb) = G)
    (k1 : ∀ σ', o = .inl σ' → J P ro n ds ops Q B w0 rest ((d, .bool true) :: s) (Y (.inl σ') :: (K ++ Gb)))
    (k2 : ∀ e, o = .inr e → J P ro n ds ops Q B w0 rest ((d, .bool false) :: s) (Y (.inr e) :: (K ++ Gb))) :
    J P ro n ds ops Q B w0 (⟨some d, .call { callee := .value fo, args := xs, argTypes := ts }, ty, pos, aft, none⟩ :: rest) s G := by
  subst hG
  refine J.callV hd hf hx (fun w hw => hy.2 σ x o hs K w hw) fun u w' hu => ?_
  cases o with
  | inl σ' => obtain ⟨rfl, hw⟩ := hu; exact ⟨_, hw, k1 σ' rfl⟩
  | inr e => obtain ⟨rfl, hw⟩ := hu; exact ⟨_, hw, k2 e rfl⟩
/-- How a call of yield goes on, in the plain function. -/
theorem hl_suf {l : Nat} (h : ∀ L w, St B w0 (L ++ G) w → ∃ r, w.heap[l]? = some (.loop r)) (F : List HP) (e : F ++ G = G') : ∀ L w, St B w0 (L ++ G') w → ∃ r, w.heap[l]? = some (.loop r) := fun L w hw => h (L ++ F) w (by subst e; rwa [List.append_assoc])
def ysel {S E R : Type} (o : S ⊕ E) (f : S → Option R) (g : E → Option R) : Option R :=
  match o with
  | .inl s => f s
  | .inr e => g e

theorem ysel_inl {S E R : Type} {s : S} {f : S → Option R} {g : E → Option R} {r : Option R} (h : ysel (.inl s) f g = r) : f s = r := h
theorem ysel_inr {S E R : Type} {e : E} {f : S → Option R} {g : E → Option R} {r : Option R} (h : ysel (.inr e) f g = r) : g e = r := h

/-! ### What is read through a pointer that was handed in -/
theorem Y.ldR {d : Nat} {ty : TypeId} {pos : String} {aft : Array Edge} {gd : Option (Nat × Bool)} {te : TypeId} {x : Operand} {g j : Nat} {L : List Value} {u : Value} {D : TypeDesc} (ht : P.underlying te = some D) (hs : scalarD D = true) (hx : s.ev x = some (.pointer (some ⟨g, j, none⟩)))
    (hr : RdG B w0 G (some ⟨g, 0, none⟩) L) (hj : L[j]? = some u) : Qs P n ds B w0 ⟨some d, .load te x, ty, pos, aft, gd⟩ s G u :=
  Y.ld ht hs (a := ⟨g, 0, none⟩) (j := j) (by rw [add0]; exact hx) hr rfl hj
theorem Y.ldRA {d : Nat} {ty : TypeId} {pos : String} {aft : Array Edge} {gd : Option (Nat × Bool)} {te : TypeId} {x : Operand} {g j : Nat} {L us : List Value} {D : TypeDesc} {sz bt : Nat} {z : Value} (ht : P.underlying te = some D) (hs : scalarD D = false) (hi' : TI P te sz bt z) (hl : us.length = sz)
    (hx : s.ev x = some (.pointer (some ⟨g, j, none⟩))) (hr : RdG B w0 G (some ⟨g, 0, none⟩) L) (hj : (L.drop j).take us.length = us) : Qs P n ds B w0 ⟨some d, .load te x, ty, pos, aft, gd⟩ s G (.agg us.toArray) :=
  Y.ldA ht hs hi' hl (a := ⟨g, 0, none⟩) (j := j) (by rw [add0]; exact hx) hr rfl hj

/-! ### Lists of chunks, turned round -/
theorem St.rot {L M : List HP} {w : World} (h : St B w0 (L ++ M) w) : St B w0 (M ++ L) w := h.imp fun p hp => by
  obtain ⟨h1, h2, d, rfl, ha, hb⟩ := star_append.1 hp
  exact star_append.2 ⟨h2, h1, dj_symm d, jn_comm d, hb, ha⟩
theorem St.mid {L M : List HP} {X : HP} {w : World} (h : St B w0 (L ++ X :: M) w) : St B w0 (X :: (L ++ M)) w := by
  have h1 : St B w0 (X :: M ++ L) w := St.rot h
  have h2 : St B w0 (M ++ L) w → True := fun _ => trivial
  refine h1.imp fun p hp => ?_
  obtain ⟨q1, q2, d, rfl, hX, hr⟩ := hp
  refine ⟨q1, q2, d, rfl, hX, ?_⟩
  obtain ⟨r1, r2, d2, rfl, ha, hb⟩ := star_append.1 hr
  exact star_append.2 ⟨r2, r1, dj_symm d2, jn_comm d2, hb, ha⟩
theorem St.unmid {L M : List HP} {X : HP} {w : World} (h : St B w0 (X :: (L ++ M)) w) : St B w0 (L ++ X :: M) w := by
  have h1 : St B w0 ((X :: L) ++ M) w := h
  have h2 : St B w0 (M ++ X :: L) w := St.rot h1
  have h3 := h2.mid
  refine h.imp fun p hp => ?_
  obtain ⟨q1, q2, d, rfl, hX, hr⟩ := hp
  obtain ⟨r1, r2, d2, rfl, ha, hb⟩ := star_append.1 hr
  obtain ⟨da, db⟩ := dj_jn.1 d
  refine star_append.2 ⟨r1, jn q1 r2, ?_, ?_, ha, q1, r2, db, rfl, hX, hb⟩
  · exact dj_jn.2 ⟨dj_symm da, d2⟩
  · rw [← jn_assoc, ← jn_assoc, jn_comm da]
/-- Many states of a piece of the heap in one chunk. -/
def some_ {ι : Type} (p : ι → Prop) (F : ι → List HP) : HP := fun h => ∃ i, p i ∧ star (F i) h
theorem St.some_open {ι : Type} {p : ι → Prop} {F : ι → List HP} {w : World} (h : St B w0 (some_ p F :: G) w) : ∃ i, p i ∧ St B w0 (F i ++ G) w := by
  obtain ⟨h1, h2, h3, h4, h5, h6, q, ⟨q1, q2, d, rfl, ⟨i, hi, hs⟩, hr⟩, hq⟩ := h
  exact ⟨i, hi, h1, h2, h3, h4, h5, h6, _, star_append.2 ⟨q1, q2, d, rfl, hs, hr⟩, hq⟩
theorem St.some_shut {ι : Type} {p : ι → Prop} {F : ι → List HP} {w : World} (i : ι) (hi : p i) (h : St B w0 (F i ++ G) w) : St B w0 (some_ p F :: G) w := h.imp fun q hq => by
  obtain ⟨q1, q2, d, rfl, ha, hb⟩ := star_append.1 hq
  exact ⟨q1, q2, d, rfl, ⟨i, hi, ha⟩, hb⟩
theorem St.put {w : World} {l : Nat} {o o' : Obj} (h : St B w0 (blk l o :: G) w) : St B w0 (blk l o' :: G) (w.putObj l o') := by
  have hl := (blk_head h).1
  have hlt : l < w.heap.size := (Array.getElem?_eq_some_iff.1 hl).1
  exact h.setBlk rfl rfl rfl (by simp) (World.putObj_heap_same hlt) fun b _ hb => World.putObj_heap_other hb

/-- The blocks for the rounds' deferred calls of the ranges that are over. -/
def dblks : List Deferred → HP
  | [], h => h = em
  | d :: ds, h => ∃ D, d = ⟨.collected D, #[]⟩ ∧ star [blk D (.deferred (some [])), dblks ds] h
theorem St.dnil {w : World} (h : St B w0 G w) : St B w0 (dblks [] :: G) w := h.imp fun p hp => ⟨em, p, fun _ => .inl rfl, (em_jn p).symm, rfl, hp⟩
theorem St.dcons {w : World} {D : Nat} (h : St B w0 (blk D (.deferred (some [])) :: dblks ds :: G) w) : St B w0 (dblks (⟨.collected D, #[]⟩ :: ds) :: G) w := h.imp fun p hp => by
  obtain ⟨q1, q2, d, rfl, hX, r1, r2, d2, rfl, hY, hr⟩ := hp
  obtain ⟨da, db⟩ := dj_jn.1 d
  refine ⟨jn q1 r1, r2, dj_symm (dj_jn.2 ⟨dj_symm db, dj_symm d2⟩), (jn_assoc _ _ _).symm, ⟨D, rfl, q1, r1, da, rfl, hX, r1, em, fun _ => .inr rfl, (jn_em r1).symm, hY, rfl⟩, hr⟩
theorem leavesM {fn : Func} {t : Array Value} {R : Ending → World → Prop} : ∀ {ds : List Deferred} {w : World}, St B w0 (dblks ds :: G) w → (∀ w, St B w0 G w → ∃ v, (results fn t).run P w = .ok v w ∧ R (.returned v) w) → LeavesInM (FW none) 0 P fn t R ds .returning w
  | [], w, h, k => k w h.drop
  | d :: ds, w, h, k => by
    obtain ⟨h1, h2, h3, h4, h5, h6, p, ⟨q1, q2, dd, rfl, ⟨D, rfl, r1, r2, d2, rfl, hX, r3, r4, d3, rfl, hY, rfl⟩, hr⟩, hq⟩ := h
    have hw : St B w0 (blk D (.deferred (some [])) :: dblks ds :: G) w := by
      refine ⟨h1, h2, h3, h4, h5, h6, _, ⟨r1, jn r3 q2, ?_, ?_, hX, r3, q2, ?_, rfl, hY, hr⟩, hq⟩
      · rw [jn_em] at d2
        obtain ⟨da, db⟩ := dj_jn.1 (dj_symm dd)
        exact dj_jn.2 ⟨d2, dj_symm da⟩
      · rw [jn_em]; exact jn_assoc _ _ _
      · rw [jn_em] at dd
        exact dj_symm (dj_jn.1 (dj_symm dd)).2
    refine ⟨by simp, .inl ⟨D, _, rfl, run_takeDeferred (blk_head hw).1, leavesM (hw.put (o' := .deferred none)).drop k⟩⟩

/-! ### A range over a function -/
/-- Where a round's body ends: on; by a jump out of the loop. -/
def roundQ {S E J K : Type} (B : Nat) (w0 : World) (Gi : S → J → List HP) (Xi : S → J → Prop) (Ge : E → K → List HP) (Xe : E → K → Prop) (jump : E → Code) (GK : List HP) (o : S ⊕ E) : Exit → Act → World → Prop
  | .normal, _, w => ∃ σ j, o = .inl σ ∧ Xi σ j ∧ St B w0 (Gi σ j ++ GK) w
  | .ret, _, w => ∃ e k, o = .inr e ∧ jump e = .ret ∧ Xe e k ∧ St B w0 (Ge e k ++ GK) w
  | .exit id, _, w => ∃ e k, o = .inr e ∧ jump e = .exit id ∧ Xe e k ∧ St B w0 (Ge e k ++ GK) w
  | _, _, _ => False
theorem N.round {S E Jt K : Type} {Gi : S → Jt → List HP} {Xi : S → Jt → Prop} {Ge : E → K → List HP} {Xe : E → K → Prop} {jump : E → Code} {GK : List HP} {o : S ⊕ E} (σ : S) (j : Jt) (ho : .inl σ = o) (hx : Xi σ j) (h : ∀ w, St B w0 G w → St B w0 (Gi σ j ++ GK) w) :
    N n ds (roundQ B w0 Gi Xi Ge Xe jump GK o) B w0 s G := fun a w ha hw => ⟨σ, j, ho.symm, hx, h w hw⟩
theorem T.round {S E Jt K : Type} {Gi : S → Jt → List HP} {Xi : S → Jt → Prop} {Ge : E → K → List HP} {Xe : E → K → Prop} {jump : E → Code} {GK : List HP} {o : S ⊕ E} (e : E) (k : K) (ho : .inr e = o) (hj : jump e = .ret) (hx : Xe e k) (h : ∀ w, St B w0 G w → St B w0 (Ge e k ++ GK) w) :
    T n ds (roundQ B w0 Gi Xi Ge Xe jump GK o) B w0 s G := fun a w ha hw => ⟨e, k, ho.symm, hj, hx, h w hw⟩
theorem X.round {S E Jt K : Type} {Gi : S → Jt → List HP} {Xi : S → Jt → Prop} {Ge : E → K → List HP} {Xe : E → K → Prop} {jump : E → Code} {GK : List HP} {o : S ⊕ E} {id : Nat} (e : E) (k : K) (ho : .inr e = o) (hj : jump e = .exit id) (hx : Xe e k) (h : ∀ w, St B w0 G w → St B w0 (Ge e k ++ GK) w) :
    X n ds (roundQ B w0 Gi Xi Ge Xe jump GK o) B w0 id s G := fun a w ha hw => ⟨e, k, ho.symm, hj, hx, h w hw⟩

/-- Where the assignments to the loop's left sides end. -/
def asgQ {A : Type} (n : Nat) (B : Nat) (w0 : World) (s : A → Env) (G : A → List HP) : Exit → Act → World → Prop
  | .normal, a, w => ∃ z, Ok n [] (s z) a ∧ St B w0 (G z) w
  | _, _, _ => False
theorem N.asg {A : Type} {s' : A → Env} {G' : A → List HP} (z : A) (hs : Sub (s' z) s) (hg : ∀ w, St B w0 G w → St B w0 (G' z) w) : N n [] (asgQ n B w0 s' G') B w0 s G := fun a w ha hw => ⟨z, ha.sub hs.get, hg w hw⟩
def zipEnv : List Nat → List Value → Env → Env
  | p :: ps, v :: vs, s => (p, v) :: zipEnv ps vs s
  | _, _, s => s
theorem zip_ok : ∀ {ps : List Nat} {vs : List Value} {t : Array Value} {s : Env}, Ok n [] s { tmps := t, defers := [] } → ps.all (Nat.blt · n) = true → ps.Nodup → (∀ p ∈ ps, s.get p = none) → vs.length = ps.length →
    Ok n [] (zipEnv ps vs s) { tmps := (ps.zip vs).foldl (fun t x => t.setIfInBounds x.1 x.2) t, defers := [] }
  | [], [], t, s, h, _, _, _, _ => h
  | p :: ps, v :: vs, t, s, h, hb, hn, hf, hl => by
    simp only [List.all_cons, Bool.and_eq_true] at hb
    have hn' := List.nodup_cons.1 hn
    have h1 : Ok n [] ((p, v) :: s) { tmps := t.setIfInBounds p v, defers := [] } := h.put hb.1 v
    have ih := zip_ok (ps := ps) (vs := vs) h1 hb.2 hn'.2 (fun q hq => by
      rw [Env.get_cons, if_neg (by intro e; subst e; exact hn'.1 hq)]; exact hf q (List.mem_cons_of_mem _ hq)) (by simpa using hl)
    have hsub : ∀ (ps : List Nat) (vs : List Value) (s : Env) (k : Nat) (u : Value), p ∉ ps → Env.get ((p, v) :: zipEnv ps vs s) k = some u → Env.get (zipEnv ps vs ((p, v) :: s)) k = some u := by
      intro ps
      induction ps with
      | nil => intro vs s k u _ hk; exact hk
      | cons q ps ih =>
        intro vs s k u hp hk
        cases vs with
        | nil => exact hk
        | cons x vs =>
          simp only [zipEnv] at hk ⊢
          rw [Env.get_cons]
          rw [Env.get_cons, Env.get_cons] at hk
          split
          · rename_i e; subst e
            rw [if_neg (fun e' => hp (by rw [e']; exact List.mem_cons_self)), if_pos rfl] at hk; exact hk
          · rename_i e
            rw [if_neg e] at hk
            refine ih vs s k u (fun hm => hp (List.mem_cons_of_mem _ hm)) ?_
            rw [Env.get_cons]; exact hk
    exact ⟨ih.size, ih.dfr, fun k u hk => ih.env k u (hsub ps vs s k u hn'.1 hk)⟩
  | [], v :: vs, t, s, _, _, _, _, hl => by simp at hl
  | p :: ps, [], t, s, _, _, _, _, hl => by simp at hl

theorem pf_of {ps : List Nat} (h : ps.all (fun p => (s.get p).isNone) = true) : ∀ p ∈ ps, s.get p = none := fun p hp => by
  have := List.all_eq_true.1 h p hp
  cases e : s.get p with
  | none => rfl
  | some v => rw [e] at this; cases this
theorem C.rangeF {S E X Jt K A : Type} {g : Operand} {ps : List Nat} {asg body : Code} {gf : FuncId} {caps : List Value} (enc : X → List Value) (Gi : S → Jt → List HP) (Xi : S → Jt → Prop) (Ge : E → K → List HP) (Xe : E → K → Prop) (jump : E → Code) (Ga : X → A → List HP) (sx : X → A → Env)
    (step : S → X → Option (S ⊕ E)) (σ0 : S) (j0 : Jt) (r : S ⊕ E)
    (hg : s.ev g = some (.func (.func gf) #[] caps.toArray)) (hgo : GoF P gf) (hps : ∀ x, (enc x).length = ps.length) (hpb : ps.all (Nat.blt · n) = true) (hpn : ps.Nodup) (hpf : ∀ p ∈ ps, s.get p = none)
    (hx0 : Xi σ0 j0) (hG : ∀ w, St B w0 G w → St B w0 (dblks ds :: (Gi σ0 j0 ++ Gb)) w)
    (hit : ∀ (Y : S ⊕ E → HP) (yv : Value), YieldOk P B w0 Gb yv enc Y step → ∀ w, St B w0 (Y (.inl σ0) :: Gb) w → Calls P gf (yv :: caps).toArray w fun e w' => e = .returned (.tuple #[]) ∧ St B w0 (Y r :: Gb) w')
    (asgn : ∀ l σ j x L, Xi σ j → C P (some l) n [] (asgQ n B w0 (sx x) (fun z => (Ga x z ++ Gi σ j) ++ (L ++ Gb))) B w0 asg (zipEnv ps (enc x) s) (Gi σ j ++ (L ++ Gb)))
    (round : ∀ l σ j x z o L, step σ x = some o → Xi σ j → (∀ L' w, St B w0 (L' ++ (L ++ Gb)) w → ∃ r, w.heap[l]? = some (.loop r)) → C P (some l) n [] (roundQ B w0 Gi Xi Ge Xe jump (L ++ Gb) o) B w0 body (sx x z) ((Ga x z ++ Gi σ j) ++ (L ++ Gb)))
    (done : ∀ ds' σ j, r = .inl σ → Xi σ j → N n ds' Q B w0 s (dblks ds' :: (Gi σ j ++ Gb)))
    (stop : ∀ ds' e k, r = .inr e → Xe e k → C P none n ds' Q B w0 (jump e) s (dblks ds' :: (Ge e k ++ Gb))) :
    C P none n ds Q B w0 (.rangeFunc g ps.toArray asg body) s G := by
  intro a w ha hw
  refine wpIn_rangeFunc fun fn hfn => ?_
  have hw1 := hG w hw
  obtain ⟨rec, hrec⟩ : ∃ rec : LoopState → Option Code → Loop, rec = fun st pe => { state := st, pending := pe, fn, tmps := a.tmps, params := ps.toArray, assign := asg, body, defers := w.heap.size } := ⟨_, rfl⟩
  obtain ⟨D, hD⟩ : ∃ D, D = w.heap.size := ⟨_, rfl⟩
  obtain ⟨l, hl⟩ : ∃ l, l = w.heap.size + 1 := ⟨_, rfl⟩
  obtain ⟨W1, hW1⟩ : ∃ W1, (w.alloc (.deferred (some []))).alloc (.loop (rec .ready none)) = W1 := ⟨_, rfl⟩
  have st1 : St B w0 (Sx.blk l (.loop (rec .ready none)) :: Sx.blk D (.deferred (some [])) :: dblks ds :: (Gi σ0 j0 ++ Gb)) W1 := by
    have h1 := (hw1.alloc (.deferred (some []))).alloc (.loop (rec .ready none))
    rw [World.size_alloc, ← hl, ← hD, hW1] at h1
    exact h1
  obtain ⟨A3, hA3⟩ : ∃ A3 : List HP, A3 = [Sx.blk D (.deferred (some [])), dblks ds] := ⟨_, rfl⟩
  let Y : S ⊕ E → HP := fun o => match o with
    | .inl σ => some_ (Xi σ) fun j => Sx.blk l (.loop (rec .ready none)) :: (A3 ++ Gi σ j)
    | .inr e => some_ (Xe e) fun k => Sx.blk l (.loop (rec .done (some (jump e)))) :: (A3 ++ Ge e k)
  have stY : St B w0 (Y (.inl σ0) :: Gb) W1 := St.some_shut j0 hx0 (by rw [hA3]; exact st1)
  refine ⟨l, [⟨.collected D, #[]⟩], W1, { target := .fn (.func gf) caps.toArray, args := #[.func (.yield l) #[] #[]] }, W1, gf, (.func (.yield l) #[] #[] :: caps).toArray, W1, ?_, ?_, ?_, ?_, by simp [FW], ?_⟩
  · rw [← hW1, hrec, hl, hD]; exact run_enterLoop_outer _ _ _ _ _
  · simp only [resolve, ha.ev hg, rangeCall]
    simp [Deferred.ofValue, Sem.run_pure, Sem.run_bind, Act.eval]
  · intro f' _; trivial
  · have h2 := hgo (.func (.yield l) #[] #[] :: caps).toArray W1
    have e0 : #[Value.func (.yield l) #[] #[]] ++ caps.toArray = (.func (.yield l) #[] #[] :: caps).toArray := by simp
    simp only [invoke, e0, h2]
  · have hy : YieldOk P B w0 Gb (.func (.yield l) #[] #[]) enc Y step := by
      refine ⟨rfl, ?_⟩
      intro σ x o hs L W hW
      obtain ⟨j, hxj, hW2⟩ := St.some_open hW
      have hL := (blk_head hW2).1
      refine ⟨.yield l, #[], rfl, .inr ?_⟩
      have hy := run_yield (P := P) (args := (enc x).toArray) hL (by rw [hrec]; simpa using hps x)
      rw [hrec] at hy
      refine ⟨l, fn, _, asg, body, by simpa [invoke] using hy, ?_⟩
      have hact : Ok n [] (zipEnv ps (enc x) s) { tmps := (ps.zip (enc x)).foldl (fun t x => t.setIfInBounds x.1 x.2) a.tmps, defers := [] } := zip_ok ⟨ha.size, rfl, ha.env⟩ hpb hpn hpf (hps x)
      have hA : St B w0 (Gi σ j ++ ((Sx.blk l (.loop (rec .ready none)) :: (A3 ++ L)) ++ Gb)) W := by
        have h4 : St B w0 (Sx.blk l (.loop (rec .ready none)) :: (A3 ++ (Gi σ j ++ (L ++ Gb)))) W := by simpa using hW2
        refine (St.rot (L := Sx.blk l (.loop (rec .ready none)) :: A3) h4).imp fun p hp => ?_
        rw [List.append_assoc] at hp
        obtain ⟨q1, q2, d, rfl, h6, h7⟩ := star_append.1 hp
        refine star_append.2 ⟨q1, q2, d, rfl, h6, ?_⟩
        have e : (Sx.blk l (.loop (rec .ready none)) :: (A3 ++ L)) ++ Gb = (Sx.blk l (.loop (rec .ready none)) :: A3) ++ (L ++ Gb) := by simp
        rw [e]
        obtain ⟨r1, r2, d2, rfl, h8, h9⟩ := star_append.1 h7
        exact star_append.2 ⟨r2, r1, dj_symm d2, jn_comm d2, h9, h8⟩
      refine roundIn_of_wpIn (F := FW none) hfn (wpIn_mono (asgn l σ j x (Sx.blk l (.loop (rec .ready none)) :: (A3 ++ L)) hxj _ _ hact hA) fun e a1 w1 hq => ?_)
      cases e <;> first | exact hq.elim | skip
      show ∃ w₂, _ ∧ _
      obtain ⟨z, hact1, hA1⟩ := hq
      obtain ⟨M, hM⟩ : ∃ M, M = Ga x z ++ Gi σ j := ⟨_, rfl⟩
      change St B w0 (Ga x z ++ Gi σ j ++ _) w1 at hA1
      rw [← hM] at hA1
      have hq : Ok n [] (sx x z) a1 ∧ St B w0 (Sx.blk l (.loop (rec .ready none)) :: (A3 ++ M) ++ (L ++ Gb)) w1 := ⟨hact1, by
        have h4 : St B w0 (M ++ Sx.blk l (.loop (rec .ready none)) :: (A3 ++ (L ++ Gb))) w1 := by simpa using hA1
        refine h4.mid.imp fun p hp => ?_
        obtain ⟨q1, q2, d, rfl, h7, h8⟩ := hp
        refine ⟨q1, q2, d, rfl, h7, ?_⟩
        show star ((A3 ++ M) ++ (L ++ Gb)) q2
        rw [List.append_assoc]
        obtain ⟨r1, r2, d2, rfl, h9, h10⟩ := star_append.1 h8
        obtain ⟨r3, r4, d3, rfl, h11, h12⟩ := star_append.1 h10
        obtain ⟨da, db⟩ := dj_jn.1 d2
        refine star_append.2 ⟨r3, jn r1 r4, dj_jn.2 ⟨dj_symm da, d3⟩, ?_, h11, star_append.2 ⟨r1, r4, db, rfl, h9, h12⟩⟩
        rw [← jn_assoc, ← jn_assoc, jn_comm da]⟩
      clear hact1 hA1 hact hA hW2 hL hy hW W
      revert hq
      generalize w1 = W
      intro hq
      obtain ⟨hact, hW2⟩ := hq
      have hL := (blk_head hW2).1
      refine ⟨_, run_beginRound hL (by rw [hrec]), ?_⟩
      have hW3 := hW2.put (o' := .loop { rec .ready none with state := .busy })
      obtain ⟨Lb, hLb⟩ : ∃ Lb, Lb = Sx.blk l (.loop { rec .ready none with state := .busy }) := ⟨_, rfl⟩
      rw [← hLb] at hW3
      -- the walk of the body
      have hW4 : St B w0 (M ++ ((Lb :: (A3 ++ L)) ++ Gb)) (W.putObj l (.loop { rec .ready none with state := .busy })) := by
        have h4 : St B w0 (Lb :: (A3 ++ (M ++ (L ++ Gb)))) (W.putObj l (.loop { rec .ready none with state := .busy })) := by simpa using hW3
        have h5 := St.rot (L := Lb :: A3) h4
        refine h5.imp fun p hp => ?_
        rw [List.append_assoc] at hp
        obtain ⟨q1, q2, d, rfl, h6, h7⟩ := star_append.1 hp
        refine star_append.2 ⟨q1, q2, d, rfl, h6, ?_⟩
        have e : (Lb :: (A3 ++ L)) ++ Gb = (Lb :: A3) ++ (L ++ Gb) := by simp
        rw [e]
        obtain ⟨r1, r2, d2, rfl, h8, h9⟩ := star_append.1 h7
        exact star_append.2 ⟨r2, r1, dj_symm d2, jn_comm d2, h9, h8⟩
      have hround := round l σ j x z o (Lb :: (A3 ++ L)) hs hxj (fun L' w' hw' => by
        have h9 : St B w0 (L' ++ Lb :: ((A3 ++ L) ++ Gb)) w' := by simpa using hw'
        have h10 := h9.mid
        rw [hLb] at h10
        exact ⟨_, (blk_head h10).1⟩)
      rw [← hM] at hround
      refine wpIn_mono (hround _ _ hact hW4) ?_
      -- the round's end
      have fin : ∀ (jmp : Option Code) (M : List HP) (W3 : World), St B w0 (M ++ ((Lb :: (A3 ++ L)) ++ Gb)) W3 →
          ∃ W4, (Instr.endRound l jmp).run P W3 = .ok (.bool jmp.isNone) W4 ∧ St B w0 (Sx.blk l (.loop (rec (if jmp.isNone then .ready else .done) jmp)) :: (A3 ++ M ++ (L ++ Gb))) W4 := by
        intro jmp M W3 h3
        have h4 : St B w0 (M ++ Lb :: ((A3 ++ L) ++ Gb)) W3 := by simpa using h3
        have h5 := h4.mid
        rw [hLb] at h5
        have hl5 := (blk_head h5).1
        have hend := run_endRound (P := P) jmp hl5
        rw [hrec] at hend
        refine ⟨_, hend, ?_⟩
        have h6 := h5.put (o' := .loop (rec (if jmp.isNone then .ready else .done) jmp))
        rw [hrec] at h6 ⊢
        refine h6.imp fun p hp => ?_
        obtain ⟨q1, q2, d, rfl, h7, h8⟩ := hp
        refine ⟨q1, q2, d, rfl, h7, ?_⟩
        have e1 : M ++ ((A3 ++ L) ++ Gb) = M ++ (A3 ++ (L ++ Gb)) := by simp
        rw [e1] at h8
        rw [List.append_assoc]
        obtain ⟨r1, r2, d2, rfl, h9, h10⟩ := star_append.1 h8
        obtain ⟨r3, r4, d3, rfl, h11, h12⟩ := star_append.1 h10
        obtain ⟨da, db⟩ := dj_jn.1 d2
        refine star_append.2 ⟨r3, jn r1 r4, dj_jn.2 ⟨dj_symm da, d3⟩, ?_, h11, star_append.2 ⟨r1, r4, db, rfl, h9, h12⟩⟩
        rw [← jn_assoc, ← jn_assoc, jn_comm da]
      rintro e a3 W3 hp
      cases e with
      | normal =>
        obtain ⟨σ', j', rfl, hx', h3⟩ := hp
        obtain ⟨W4, hr, h4⟩ := fin none _ W3 h3
        exact ⟨_, W4, hr, _, rfl, rfl, St.some_shut j' hx' (by simpa using h4)⟩
      | ret =>
        obtain ⟨e', k', rfl, hj, hx', h3⟩ := hp
        obtain ⟨W4, hr, h4⟩ := fin (some .ret) _ W3 h3
        exact ⟨_, W4, hr, _, rfl, rfl, St.some_shut k' hx' (by rw [hj]; simpa using h4)⟩
      | exit id =>
        obtain ⟨e', k', rfl, hj, hx', h3⟩ := hp
        obtain ⟨W4, hr, h4⟩ := fin (some (.exit id)) _ W3 h3
        exact ⟨_, W4, hr, _, rfl, rfl, St.some_shut k' hx' (by rw [hj]; simpa using h4)⟩
      | goto t => exact hp.elim
      | panic c => exact hp.elim
      | outgrown => exact hp.elim
    refine (calls_in (ro := none) (hit Y _ hy W1 stY)).mono fun e W2 he => ?_
    obtain ⟨rfl, he⟩ := he
    have back : ∀ (jmp : Option Code) (st : LoopState) (M : List HP), st ≠ .busy → St B w0 (Sx.blk l (.loop (rec st jmp)) :: (A3 ++ M) ++ Gb) W2 → ∃ W4, (Instr.endLoop l).run P W2 = .ok jmp W4 ∧ St B w0 (dblks (⟨.collected D, #[]⟩ :: ds) :: (M ++ Gb)) W4 := by
      intro jmp st M hst h3
      have hl5 := (blk_head h3).1
      have hend := run_endLoop (P := P) hl5 (by rw [hrec]; exact hst)
      rw [hrec] at hend
      refine ⟨_, hend, ?_⟩
      have h6 := (St.put (o' := .loop { rec st jmp with state := .exhausted }) h3).drop
      rw [hrec] at h6
      subst hA3
      exact St.dcons (by simpa using h6)
    have hact : Ok n (⟨.collected D, #[]⟩ :: ds) s { a with defers := [⟨.collected D, #[]⟩] ++ a.defers } := ⟨ha.size, by simp [ha.dfr], ha.env⟩
    cases r with
    | inl σ =>
      obtain ⟨j, hxj, h3⟩ := St.some_open he
      obtain ⟨W4, hr, h4⟩ := back none .ready _ (by simp) h3
      exact ⟨none, W4, hr, done _ σ j rfl hxj _ _ hact h4⟩
    | inr e =>
      obtain ⟨k, hxk, h3⟩ := St.some_open he
      obtain ⟨W4, hr, h4⟩ := back (some (jump e)) .done _ (by simp) h3
      exact ⟨some (jump e), W4, hr, stop _ e k rfl hxk _ _ hact h4⟩
theorem C.rangeF' {S E X Jt K A : Type} {g : Operand} {ps : List Nat} {asg body : Code} {gf : FuncId} {caps : List Value} (enc : X → List Value) (Gi : S → Jt → List HP) (Xi : S → Jt → Prop) (Ge : E → K → List HP) (Xe : E → K → Prop) (jump : E → Code) (Ga : X → A → List HP) (sx : X → A → Env)
    (step : S → X → Option (S ⊕ E)) (σ0 : S) (j0 : Jt) (r : S ⊕ E)
    (hg : s.ev g = some (.func (.func gf) #[] caps.toArray)) (hgo : GoF P gf) (hps : ∀ x, (enc x).length = ps.length) (hpb : ps.all (Nat.blt · n) = true) (hpn : ps.Nodup) (hpf : ∀ p ∈ ps, s.get p = none)
    (hx0 : Xi σ0 j0) (hG : ∀ w, St B w0 G w → St B w0 (dblks ds :: (Gi σ0 j0 ++ Gb)) w)
    (hit : ∀ (Y : S ⊕ E → HP) (yv : Value), YieldOk P B w0 Gb yv enc Y step → ∀ w, St B w0 (Y (.inl σ0) :: Gb) w → Calls P gf (yv :: caps).toArray w fun e w' => e = .returned (.tuple #[]) ∧ St B w0 (Y r :: Gb) w')
    (asgn : ∀ l σ j x L, Xi σ j → C P (some l) n [] (asgQ n B w0 (sx x) (fun z => (Ga x z ++ Gi σ j) ++ (L ++ Gb))) B w0 asg (zipEnv ps (enc x) s) (Gi σ j ++ (L ++ Gb)))
    (round : ∀ l σ j x z o L G1, L ++ Gb = G1 → step σ x = some o → Xi σ j → (∀ L' w, St B w0 (L' ++ G1) w → ∃ r, w.heap[l]? = some (.loop r)) → C P (some l) n [] (roundQ B w0 Gi Xi Ge Xe jump G1 o) B w0 body (sx x z) ((Ga x z ++ Gi σ j) ++ G1))
    (done : ∀ ds' σ j, r = .inl σ → Xi σ j → N n ds' Q B w0 s (dblks ds' :: (Gi σ j ++ Gb)))
    (stop : ∀ ds' e k, r = .inr e → Xe e k → C P none n ds' Q B w0 (jump e) s (dblks ds' :: (Ge e k ++ Gb))) :
    C P none n ds Q B w0 (.rangeFunc g ps.toArray asg body) s G :=
  C.rangeF enc Gi Xi Ge Xe jump Ga sx step σ0 j0 r hg hgo hps hpb hpn hpf hx0 hG hit asgn (fun l σ j x z o L H hx hl => round l σ j x z o L _ rfl H hx hl) done stop

/-! ### Ranges within a round -/
theorem C.rangeN {S E X Jt K A : Type} {g : Operand} {ps : List Nat} {asg body : Code} {gf : FuncId} {caps : List Value} {l0 : Nat} (enc : X → List Value) (Gi : S → Jt → List HP) (Xi : S → Jt → Prop) (Ge : E → K → List HP) (Xe : E → K → Prop) (jump : E → Code) (Ga : X → A → List HP) (sx : X → A → Env)
    (step : S → X → Option (S ⊕ E)) (σ0 : S) (j0 : Jt) (r : S ⊕ E) (hl0 : ∀ L w, St B w0 (L ++ Gb) w → ∃ r, w.heap[l0]? = some (.loop r))
    (hg : s.ev g = some (.func (.func gf) #[] caps.toArray)) (hgo : GoF P gf) (hps : ∀ x, (enc x).length = ps.length) (hpb : ps.all (Nat.blt · n) = true) (hpn : ps.Nodup) (hpf : ∀ p ∈ ps, s.get p = none)
    (hx0 : Xi σ0 j0) (hG : ∀ w, St B w0 G w → St B w0 (Gi σ0 j0 ++ Gb) w)
    (hit : ∀ (Y : S ⊕ E → HP) (yv : Value), YieldOk P B w0 Gb yv enc Y step → ∀ w, St B w0 (Y (.inl σ0) :: Gb) w → Calls P gf (yv :: caps).toArray w fun e w' => e = .returned (.tuple #[]) ∧ St B w0 (Y r :: Gb) w')
    (asgn : ∀ l σ j x L, Xi σ j → C P (some l) n [] (asgQ n B w0 (sx x) (fun z => (Ga x z ++ Gi σ j) ++ (L ++ Gb))) B w0 asg (zipEnv ps (enc x) s) (Gi σ j ++ (L ++ Gb)))
    (round : ∀ l σ j x z o L, step σ x = some o → Xi σ j → (∀ L' w, St B w0 (L' ++ (L ++ Gb)) w → ∃ r, w.heap[l]? = some (.loop r)) → C P (some l) n [] (roundQ B w0 Gi Xi Ge Xe jump (L ++ Gb) o) B w0 body (sx x z) ((Ga x z ++ Gi σ j) ++ (L ++ Gb)))
    (done : ∀ σ j, r = .inl σ → Xi σ j → N n ds Q B w0 s (Gi σ j ++ Gb))
    (stop : ∀ e k, r = .inr e → Xe e k → C P (some l0) n ds Q B w0 (jump e) s (Ge e k ++ Gb)) :
    C P (some l0) n ds Q B w0 (.rangeFunc g ps.toArray asg body) s G := by
  intro a w ha hw
  refine wpIn_rangeFunc fun fn hfn => ?_
  have hw1 := hG w hw
  obtain ⟨r0, hr0⟩ := hl0 (Gi σ0 j0) w hw1
  obtain ⟨rec, hrec⟩ : ∃ rec : LoopState → Option Code → Loop, rec = fun st pe => { state := st, pending := pe, fn, tmps := a.tmps, params := ps.toArray, assign := asg, body, defers := r0.defers } := ⟨_, rfl⟩
  obtain ⟨l, hl⟩ : ∃ l, l = w.heap.size := ⟨_, rfl⟩
  obtain ⟨W1, hW1⟩ : ∃ W1, (w.alloc (.loop (rec .ready none))) = W1 := ⟨_, rfl⟩
  have st1 : St B w0 (Sx.blk l (.loop (rec .ready none)) :: (Gi σ0 j0 ++ Gb)) W1 := by
    have h1 := hw1.alloc (.loop (rec .ready none))
    rw [← hl, hW1] at h1
    exact h1
  let Y : S ⊕ E → HP := fun o => match o with
    | .inl σ => some_ (Xi σ) fun j => Sx.blk l (.loop (rec .ready none)) :: Gi σ j
    | .inr e => some_ (Xe e) fun k => Sx.blk l (.loop (rec .done (some (jump e)))) :: Ge e k
  have stY : St B w0 (Y (.inl σ0) :: Gb) W1 := St.some_shut j0 hx0 st1
  refine ⟨l, [], W1, { target := .fn (.func gf) caps.toArray, args := #[.func (.yield l) #[] #[]] }, W1, gf, (.func (.yield l) #[] #[] :: caps).toArray, W1, ?_, ?_, ?_, ?_, by simp [FW], ?_⟩
  · rw [← hW1, hrec, hl]
    show (Instr.enterLoop fn a.tmps ps.toArray asg body (some l0)).run P w = _
    unfold Instr.enterLoop
    simp only [Sem.run_bind, run_getLoop hr0, run_newObj_alloc, Result.andThen, Sem.run_pure]
  · simp only [resolve, ha.ev hg, rangeCall]
    simp [Deferred.ofValue, Sem.run_pure, Sem.run_bind, Act.eval]
  · intro f' _; trivial
  · have h2 := hgo (.func (.yield l) #[] #[] :: caps).toArray W1
    have e0 : #[Value.func (.yield l) #[] #[]] ++ caps.toArray = (.func (.yield l) #[] #[] :: caps).toArray := by simp
    simp only [invoke, e0, h2]
  · have hy : YieldOk P B w0 Gb (.func (.yield l) #[] #[]) enc Y step := by
      refine ⟨rfl, ?_⟩
      intro σ x o hs L W hW
      obtain ⟨j, hxj, hW2⟩ := St.some_open hW
      have hL := (blk_head hW2).1
      refine ⟨.yield l, #[], rfl, .inr ?_⟩
      have hy := run_yield (P := P) (args := (enc x).toArray) hL (by rw [hrec]; simpa using hps x)
      rw [hrec] at hy
      refine ⟨l, fn, _, asg, body, by simpa [invoke] using hy, ?_⟩
      have hact : Ok n [] (zipEnv ps (enc x) s) { tmps := (ps.zip (enc x)).foldl (fun t x => t.setIfInBounds x.1 x.2) a.tmps, defers := [] } := zip_ok ⟨ha.size, rfl, ha.env⟩ hpb hpn hpf (hps x)
      have hA : St B w0 (Gi σ j ++ ((Sx.blk l (.loop (rec .ready none)) :: L) ++ Gb)) W := St.unmid hW2
      refine roundIn_of_wpIn (F := FW none) hfn (wpIn_mono (asgn l σ j x (Sx.blk l (.loop (rec .ready none)) :: L) hxj _ _ hact hA) fun e a1 w1 hq => ?_)
      cases e <;> first | exact hq.elim | skip
      show ∃ w₂, _ ∧ _
      obtain ⟨z, hact1, hA1⟩ := hq
      obtain ⟨M, hM⟩ : ∃ M, M = Ga x z ++ Gi σ j := ⟨_, rfl⟩
      change St B w0 (Ga x z ++ Gi σ j ++ _) w1 at hA1
      rw [← hM] at hA1
      have hq : Ok n [] (sx x z) a1 ∧ St B w0 (Sx.blk l (.loop (rec .ready none)) :: (M ++ (L ++ Gb))) w1 := ⟨hact1, St.mid hA1⟩
      clear hact1 hA1 hact hA hW2 hL hy hW W
      revert hq
      generalize w1 = W
      intro hq
      obtain ⟨hact, hW2⟩ := hq
      have hL := (blk_head hW2).1
      refine ⟨_, run_beginRound hL (by rw [hrec]), ?_⟩
      have hW3 := hW2.put (o' := .loop { rec .ready none with state := .busy })
      obtain ⟨Lb, hLb⟩ : ∃ Lb, Lb = Sx.blk l (.loop { rec .ready none with state := .busy }) := ⟨_, rfl⟩
      rw [← hLb] at hW3
      have hW4 : St B w0 (M ++ ((Lb :: L) ++ Gb)) (W.putObj l (.loop { rec .ready none with state := .busy })) := hW3.unmid
      have hround := round l σ j x z o (Lb :: L) hs hxj (fun L' w' hw' => by
        have h9 : St B w0 (L' ++ Lb :: (L ++ Gb)) w' := hw'
        have h10 := h9.mid
        rw [hLb] at h10
        exact ⟨_, (blk_head h10).1⟩)
      rw [← hM] at hround
      refine wpIn_mono (hround _ _ hact hW4) ?_
      have fin : ∀ (jmp : Option Code) (M : List HP) (W3 : World), St B w0 (M ++ ((Lb :: L) ++ Gb)) W3 →
          ∃ W4, (Instr.endRound l jmp).run P W3 = .ok (.bool jmp.isNone) W4 ∧ St B w0 (Sx.blk l (.loop (rec (if jmp.isNone then .ready else .done) jmp)) :: (M ++ (L ++ Gb))) W4 := by
        intro jmp M W3 h3
        have h4 : St B w0 (M ++ Lb :: (L ++ Gb)) W3 := h3
        have h5 := h4.mid
        rw [hLb] at h5
        have hl5 := (blk_head h5).1
        have hend := run_endRound (P := P) jmp hl5
        rw [hrec] at hend
        refine ⟨_, hend, ?_⟩
        have h6 := h5.put (o' := .loop (rec (if jmp.isNone then .ready else .done) jmp))
        rw [hrec] at h6 ⊢
        exact h6
      rintro e a3 W3 hp
      cases e with
      | normal =>
        obtain ⟨σ', j', rfl, hx', h3⟩ := hp
        obtain ⟨W4, hr, h4⟩ := fin none _ W3 h3
        exact ⟨_, W4, hr, _, rfl, rfl, St.some_shut j' hx' h4⟩
      | ret =>
        obtain ⟨e', k', rfl, hj, hx', h3⟩ := hp
        obtain ⟨W4, hr, h4⟩ := fin (some .ret) _ W3 h3
        exact ⟨_, W4, hr, _, rfl, rfl, St.some_shut k' hx' (by rw [hj]; exact h4)⟩
      | exit id =>
        obtain ⟨e', k', rfl, hj, hx', h3⟩ := hp
        obtain ⟨W4, hr, h4⟩ := fin (some (.exit id)) _ W3 h3
        exact ⟨_, W4, hr, _, rfl, rfl, St.some_shut k' hx' (by rw [hj]; exact h4)⟩
      | goto t => exact hp.elim
      | panic c => exact hp.elim
      | outgrown => exact hp.elim
    refine (calls_in (ro := none) (hit Y _ hy W1 stY)).mono fun e W2 he => ?_
    obtain ⟨rfl, he⟩ := he
    have back : ∀ (jmp : Option Code) (st : LoopState) (M : List HP), st ≠ .busy → St B w0 (Sx.blk l (.loop (rec st jmp)) :: (M ++ Gb)) W2 → ∃ W4, (Instr.endLoop l).run P W2 = .ok jmp W4 ∧ St B w0 (M ++ Gb) W4 := by
      intro jmp st M hst h3
      have hl5 := (blk_head h3).1
      have hend := run_endLoop (P := P) hl5 (by rw [hrec]; exact hst)
      rw [hrec] at hend
      refine ⟨_, hend, ?_⟩
      have h6 := (St.put (o' := .loop { rec st jmp with state := .exhausted }) h3).drop
      rw [hrec] at h6
      exact h6
    have hact : Ok n ds s { a with defers := [] ++ a.defers } := ⟨ha.size, by simp [ha.dfr], ha.env⟩
    cases r with
    | inl σ =>
      obtain ⟨j, hxj, h3⟩ := St.some_open he
      obtain ⟨W4, hr, h4⟩ := back none .ready _ (by simp) h3
      exact ⟨none, W4, hr, done σ j rfl hxj _ _ hact h4⟩
    | inr e =>
      obtain ⟨k, hxk, h3⟩ := St.some_open he
      obtain ⟨W4, hr, h4⟩ := back (some (jump e)) .done _ (by simp) h3
      exact ⟨some (jump e), W4, hr, stop e k rfl hxk _ _ hact h4⟩
theorem C.rangeN' {S E X Jt K A : Type} {g : Operand} {ps : List Nat} {asg body : Code} {gf : FuncId} {caps : List Value} {l0 : Nat} (enc : X → List Value) (Gi : S → Jt → List HP) (Xi : S → Jt → Prop) (Ge : E → K → List HP) (Xe : E → K → Prop) (jump : E → Code) (Ga : X → A → List HP) (sx : X → A → Env)
    (step : S → X → Option (S ⊕ E)) (σ0 : S) (j0 : Jt) (r : S ⊕ E) (hl0 : ∀ L w, St B w0 (L ++ Gb) w → ∃ r, w.heap[l0]? = some (.loop r))
    (hg : s.ev g = some (.func (.func gf) #[] caps.toArray)) (hgo : GoF P gf) (hps : ∀ x, (enc x).length = ps.length) (hpb : ps.all (Nat.blt · n) = true) (hpn : ps.Nodup) (hpf : ∀ p ∈ ps, s.get p = none)
    (hx0 : Xi σ0 j0) (hG : ∀ w, St B w0 G w → St B w0 (Gi σ0 j0 ++ Gb) w)
    (hit : ∀ (Y : S ⊕ E → HP) (yv : Value), YieldOk P B w0 Gb yv enc Y step → ∀ w, St B w0 (Y (.inl σ0) :: Gb) w → Calls P gf (yv :: caps).toArray w fun e w' => e = .returned (.tuple #[]) ∧ St B w0 (Y r :: Gb) w')
    (asgn : ∀ l σ j x L, Xi σ j → C P (some l) n [] (asgQ n B w0 (sx x) (fun z => (Ga x z ++ Gi σ j) ++ (L ++ Gb))) B w0 asg (zipEnv ps (enc x) s) (Gi σ j ++ (L ++ Gb)))
    (round : ∀ l σ j x z o L G1, L ++ Gb = G1 → step σ x = some o → Xi σ j → (∀ L' w, St B w0 (L' ++ G1) w → ∃ r, w.heap[l]? = some (.loop r)) → C P (some l) n [] (roundQ B w0 Gi Xi Ge Xe jump G1 o) B w0 body (sx x z) ((Ga x z ++ Gi σ j) ++ G1))
    (done : ∀ σ j, r = .inl σ → Xi σ j → N n ds Q B w0 s (Gi σ j ++ Gb))
    (stop : ∀ e k, r = .inr e → Xe e k → C P (some l0) n ds Q B w0 (jump e) s (Ge e k ++ Gb)) :
    C P (some l0) n ds Q B w0 (.rangeFunc g ps.toArray asg body) s G :=
  C.rangeN enc Gi Xi Ge Xe jump Ga sx step σ0 j0 r hl0 hg hgo hps hpb hpn hpf hx0 hG hit asgn (fun l σ j x z o L H hx hl => round l σ j x z o L _ rfl H hx hl) done stop

/-! ### Where ways meet, behind ranges -/
def MeetD {ι : Type} (n : Nat) (B : Nat) (w0 : World) (I : ι → Env) (Gi : ι → List HP) (p : ι → Prop) (a : Act) (w : World) : Prop := ∃ ds i, p i ∧ Ok n ds (I i) a ∧ St B w0 (dblks ds :: Gi i) w
theorem N.meetD {ι : Type} {I : ι → Env} {Gi : ι → List HP} {p : ι → Prop} (i : ι) (hp : p i) (hs : Sub (I i) s) (hg : ∀ w, St B w0 G w → St B w0 (dblks ds :: Gi i) w) : N n ds (Exit.then (MeetD n B w0 I Gi p) Q) B w0 s G :=
  fun a w ha hw => ⟨ds, i, hp, ha.sub hs.get, hg w hw⟩
theorem C.joinD {ι : Type} {x y : Code} (I : ι → Env) (Gi : ι → List HP) (p : ι → Prop) (hx : C P ro n ds (Exit.then (MeetD n B w0 I Gi p) Q) B w0 x s G) (hk : ∀ ds i, p i → C P ro n ds Q B w0 y (I i) (dblks ds :: Gi i)) : C P ro n ds Q B w0 (.seq x y) s G :=
  fun a w ha hw => wpIn_seq (wpIn_mono (hx a w ha hw) fun e a w h => by
    cases e <;> first | exact h | (obtain ⟨ds, i, hp, ha, hw⟩ := h; exact hk ds i hp a w ha hw))
theorem wpList_mono : ∀ (l : List Oper) (Q1 Q2 : Exit → Act → World → Prop) (a : Act) (w : World), (∀ e a w, Q1 e a w → Q2 e a w) → wpListIn (FW ro) 0 P ops Q1 l a w → wpListIn (FW ro) 0 P ops Q2 l a w := by
  intro l
  induction l with
  | nil => intro Q1 Q2 a w hq h; exact hq _ _ _ h
  | cons o l ih =>
    intro Q1 Q2 a w hq h
    unfold wpListIn at h ⊢
    split
    · rename_i hw; rw [if_pos hw] at h
      refine ⟨h.1, ?_⟩
      have h2 := h.2
      revert h2
      generalize (o.semAt (FW ro).round a.eval).run P w = r
      intro h2
      cases r with
      | halt x w' =>
        cases x <;> first | exact h2 | exact hq _ _ _ h2
      | ok x w' =>
        cases x <;> first
          | exact h2
          | exact ih _ _ _ _ hq h2
          | (refine ⟨h2.1, h2.2.mono ?_⟩
             intro e w'' h3
             cases e with
             | returned v => exact ih _ _ _ _ hq h3
             | panicked c => exact hq _ _ _ h3
             | outgrown => obtain ⟨a, w, h⟩ := h3; exact ⟨a, w, hq _ _ _ h⟩)
          | (refine ⟨h2.1, h2.2.mono ?_⟩
             intro v w'' h3
             exact ih _ _ _ _ hq h3)
    · rename_i hw; rw [if_neg hw] at h
      exact ⟨h.1, ih _ _ _ _ hq h.2⟩
theorem C.joinBD {α R ι : Type} {x y : Code} {E : Option α} {K : α → Option R} {r : R} (H : E.bind K = some r) (I : α → ι → Env) (Gi : α → ι → List HP) (Xf : α → ι → Prop)
    (hx : ∀ o, E = some o → K o = some r → C P ro n ds (Exit.then (MeetD (ι := α × ι) n B w0 (fun i => I i.1 i.2) (fun i => Gi i.1 i.2) (fun i => K i.1 = some r ∧ Xf i.1 i.2)) Q) B w0 x s G)
    (hk : ∀ ds o j, K o = some r → Xf o j → C P ro n ds Q B w0 y (I o j) (dblks ds :: Gi o j)) : C P ro n ds Q B w0 (.seq x y) s G := by
  obtain ⟨o, h1, h2⟩ := bind_some H
  exact C.joinD _ _ _ (hx o h1 h2) fun ds i hp => hk ds i.1 i.2 hp.1 hp.2
theorem C.joinRD {α R ι : Type} {x y : Code} {E : Option (R ⊕ α)} {K : α → Option R} {r : R} (H : thn E K = some r) (I : α → ι → Env) (Gi : α → ι → List HP) (Xf : α → ι → Prop)
    (hx : ∀ o, E = some o → fin K r o → C P ro n ds (Exit.then (MeetD (ι := α × ι) n B w0 (fun i => I i.1 i.2) (fun i => Gi i.1 i.2) (fun i => K i.1 = some r ∧ Xf i.1 i.2)) Q) B w0 x s G)
    (hk : ∀ ds o j, K o = some r → Xf o j → C P ro n ds Q B w0 y (I o j) (dblks ds :: Gi o j)) : C P ro n ds Q B w0 (.seq x y) s G := by
  obtain ⟨o, h1, h2⟩ := thn_some H
  exact C.joinD _ _ _ (hx o h1 h2) fun ds i hp => hk ds i.1 i.2 hp.1 hp.2
theorem J.joinBD {α R ι : Type} {y : Code} {E : Option α} {K : α → Option R} {r : R} (H : E.bind K = some r) (I : α → ι → Env) (Gi : α → ι → List HP) (Xf : α → ι → Prop)
    (hx : ∀ o, E = some o → K o = some r → J P ro n ds ops (Exit.then (MeetD (ι := α × ι) n B w0 (fun i => I i.1 i.2) (fun i => Gi i.1 i.2) (fun i => K i.1 = some r ∧ Xf i.1 i.2)) Q) B w0 rest s G)
    (hk : ∀ ds o j, K o = some r → Xf o j → C P ro n ds Q B w0 y (I o j) (dblks ds :: Gi o j)) : J P ro n ds ops (Exit.then (y.wpIn (FW ro) 0 P Q) Q) B w0 rest s G := by
  obtain ⟨o, h1, h2⟩ := bind_some H
  intro a w ha hw
  refine wpList_mono rest _ _ a w (fun e a w h => ?_) (hx o h1 h2 a w ha hw)
  cases e <;> first | exact h | (obtain ⟨ds, i, hp, ha, hw⟩ := h; exact hk ds i.1 i.2 hp.1 hp.2 a w ha hw)
theorem C.joinND {α R ι : Type} {x : Code} {E : Option α} {K : α → Option R} {r : R} (H : E.bind K = some r) (I : α → ι → Env) (Gi : α → ι → List HP) (Xf : α → ι → Prop)
    (hx : ∀ o, E = some o → K o = some r → C P ro n ds (Exit.then (MeetD (ι := α × ι) n B w0 (fun i => I i.1 i.2) (fun i => Gi i.1 i.2) (fun i => K i.1 = some r ∧ Xf i.1 i.2)) Q) B w0 x s G)
    (hk : ∀ ds o j, K o = some r → Xf o j → N n ds Q B w0 (I o j) (dblks ds :: Gi o j)) : C P ro n ds Q B w0 x s G := by
  obtain ⟨o, h1, h2⟩ := bind_some H
  exact fun a w ha hw => wpIn_mono (hx o h1 h2 a w ha hw) fun e a w h => by
    cases e <;> first | exact h | (obtain ⟨ds, i, hp, ha, hw⟩ := h; exact hk ds i.1 i.2 hp.1 hp.2 a w ha hw)
theorem C.joinNRD {α R ι : Type} {x : Code} {E : Option (R ⊕ α)} {K : α → Option R} {r : R} (H : thn E K = some r) (I : α → ι → Env) (Gi : α → ι → List HP) (Xf : α → ι → Prop)
    (hx : ∀ o, E = some o → fin K r o → C P ro n ds (Exit.then (MeetD (ι := α × ι) n B w0 (fun i => I i.1 i.2) (fun i => Gi i.1 i.2) (fun i => K i.1 = some r ∧ Xf i.1 i.2)) Q) B w0 x s G)
    (hk : ∀ ds o j, K o = some r → Xf o j → N n ds Q B w0 (I o j) (dblks ds :: Gi o j)) : C P ro n ds Q B w0 x s G := by
  obtain ⟨o, h1, h2⟩ := thn_some H
  exact fun a w ha hw => wpIn_mono (hx o h1 h2 a w ha hw) fun e a w h => by
    cases e <;> first | exact h | (obtain ⟨ds, i, hp, ha, hw⟩ := h; exact hk ds i.1 i.2 hp.1 hp.2 a w ha hw)
def AgainD {ι : Type} (n : Nat) (B : Nat) (w0 : World) (I : ι → Env) (Gi : ι → List HP) (p : ι → Prop) (mu : ι → Nat) (m : Nat) (a : Act) (w : World) : Prop := ∃ ds j, p j ∧ mu j < m ∧ Ok n ds (I j) a ∧ St B w0 (dblks ds :: Gi j) w
theorem N.againD {ι : Type} {I : ι → Env} {Gi : ι → List HP} {p : ι → Prop} {mu : ι → Nat} {m : Nat} (j : ι) (hp : p j) (hm : mu j < m) (hs : Sub (I j) s) (hg : ∀ w, St B w0 G w → St B w0 (dblks ds :: Gi j) w) : N n ds (Exit.then (AgainD n B w0 I Gi p mu m) Q) B w0 s G :=
  fun a w ha hw => ⟨ds, j, hp, hm, ha.sub hs.get, hg w hw⟩
theorem C.loopD {ι : Type} {c : Code} (I : ι → Env) (Gi : ι → List HP) (p : ι → Prop) (mu : ι → Nat) (i : ι) (hp : p i) (hs : Sub (I i) s) (hg : ∀ w, St B w0 G w → St B w0 (dblks ds :: Gi i) w)
    (round : ∀ ds i, p i → C P ro n ds (Exit.then (AgainD n B w0 I Gi p mu (mu i)) Q) B w0 c (I i) (dblks ds :: Gi i)) : C P ro n ds Q B w0 (.loop c) s G := by
  intro a w ha hw
  refine wpIn_loop (fun a w => ∃ m i, mu i = m ∧ p i ∧ ∃ ds, Ok n ds (I i) a ∧ St B w0 (dblks ds :: Gi i) w) (fun a w => least fun m => ∃ i, mu i = m ∧ p i ∧ ∃ ds, Ok n ds (I i) a ∧ St B w0 (dblks ds :: Gi i) w)
    ⟨mu i, i, rfl, hp, ds, ha.sub hs.get, hg w hw⟩ ?_
  intro a w h
  obtain ⟨⟨i, hm, hp, ds, ha, hw⟩, _⟩ := least_spec h
  refine wpIn_mono (round ds i hp a w ha hw) fun e a' w' hq => ?_
  cases e with
  | normal =>
    obtain ⟨ds', j, hpj, hlt, haj, hwj⟩ := hq
    refine ⟨⟨mu j, j, rfl, hpj, ds', haj, hwj⟩, ?_⟩
    rw [← hm]
    exact Nat.lt_of_le_of_lt ((least_spec (S := fun m => ∃ i, mu i = m ∧ p i ∧ ∃ ds, Ok n ds (I i) a' ∧ St B w0 (dblks ds :: Gi i) w') ⟨mu j, j, rfl, hpj, ds', haj, hwj⟩).2 _ ⟨j, rfl, hpj, ds', haj, hwj⟩) hlt
  | exit id => exact hq
  | goto l => exact hq
  | ret => exact hq
  | panic c => exact hq
  | outgrown => exact hq

/-! ### Results, in slots and in cells -/
def readRV (t : Array Value) : ResultVar → Sem Value
  | .tmp k => pure (t.getD k undef)
  | .cell a ty => do loadVar ty (← asAddr (t.getD a undef))
def RV (P : Program) (n : Nat) (ds : List Deferred) (B : Nat) (w0 : World) (s : Env) (G : List HP) (rv : ResultVar) (v : Value) : Prop := ∀ a w, Ok n ds s a → St B w0 G w → (readRV a.tmps rv).run P w = .ok v w
def RVs (P : Program) (n : Nat) (ds : List Deferred) (B : Nat) (w0 : World) (s : Env) (G : List HP) : List ResultVar → List Value → Prop
  | [], [] => True
  | r :: rs, v :: vs => RV P n ds B w0 s G r v ∧ RVs P n ds B w0 s G rs vs
  | _, _ => False
theorem getD_ok {a : Act} (ha : Ok n ds s a) {k : Nat} {v : Value} (h : s.get k = some v) : a.tmps.getD k undef = v := by
  have := ha.env k v h; simp [Array.getD_eq_getD_getElem?, this]
theorem RV.tmp {k : Nat} {v : Value} (h : s.get k = some v) : RV P n ds B w0 s G (.tmp k) v := fun a w ha _ => by
  simp only [readRV, getD_ok ha h, Sem.run_pure]
theorem RV.cell {k ty g j : Nat} {t : TypeId} {L : List Value} {v : Value} {D : TypeDesc} (i : Nat) (ht : P.underlying ty = some D) (hs : scalarD D = true) (h : s.get k = some (.pointer (some ⟨g, j, none⟩))) (hi : G[i]? = some (cells g t L)) (hj : L[j]? = some v) : RV P n ds B w0 s G (.cell k ty) v := fun a w ha hw => by
  have hc := cells_cell i hi hj w hw
  simp only [readRV, getD_ok ha h, Sem.run_bind]
  simp [asAddr, loadVar, Sem.run_bind, isAgg_no ht hs, hc]
theorem RV.cellA {k ty g j : Nat} {t : TypeId} {L us : List Value} {D : TypeDesc} {sz bt : Nat} {z : Value} (i : Nat) (ht : P.underlying ty = some D) (hs : scalarD D = false) (hi' : TI P ty sz bt z) (hl : us.length = sz) (h : s.get k = some (.pointer (some ⟨g, j, none⟩))) (hi : G[i]? = some (cells g t L)) (hj : (L.drop j).take us.length = us) : RV P n ds B w0 s G (.cell k ty) (.agg us.toArray) := fun a w ha hw => by
  have hc : ∀ i' u, us[i']? = some u → w.cell? ((⟨g, j, none⟩ : Addr).add i') = some u := by
    intro i' u hu
    rw [← hj, List.getElem?_take] at hu
    split at hu
    · rw [List.getElem?_drop] at hu
      have := cells_cell i hi hu w hw
      rw [← add0 g j, add_add, add0]; exact this
    · cases hu
  have hl' := run_loadCells_list (P := P) w ⟨g, j, none⟩ us hc
  rw [hl] at hl'
  simp only [readRV, getD_ok ha h, Sem.run_bind]
  simp [asAddr, loadVar, Sem.run_bind, isAgg_yes ht hs, hi'.size, hl']
theorem run_resultsG {fn : Func} {rvs : List ResultVar} {vs : List Value} {a : Act} {w : World} (hres : fn.results = rvs.toArray) (hv : RVs P n ds B w0 s G rvs vs) (ha : Ok n ds s a) (hw : St B w0 G w) : (results fn a.tmps).run P w = .ok (tupled vs) w := by
  have hm : ∀ (rvs : List ResultVar) (vs : List Value), RVs P n ds B w0 s G rvs vs → (List.mapM (readRV a.tmps) rvs).run P w = .ok vs w := by
    intro rvs
    induction rvs with
    | nil => intro vs h; cases vs with
      | nil => simp
      | cons v r => exact h.elim
    | cons r rs ih => intro vs h; cases vs with
      | nil => exact h.elim
      | cons v vs => rw [List.mapM_cons, Sem.run_bind, h.1 a w ha hw, Result.andThen_ok, Sem.run_bind, ih vs h.2, Result.andThen_ok, Sem.run_pure]
  have e : results fn a.tmps = (do let vs ← fn.results.mapM (readRV a.tmps); pure (if h : vs.size = 1 then vs[0] else .tuple vs)) := by
    unfold results
    congr 1
  rw [e, hres, Sem.run_bind, List.mapM_toArray, Sem.run_map, hm rvs vs hv]
  simp only [Result.andThen_ok, Sem.run_pure]
  cases vs with
  | nil => simp [tupled]
  | cons v r =>
    cases r with
    | nil => simp [tupled]
    | cons u r => simp [tupled]
theorem ret_okG {fn : Func} {R : Ending → World → Prop} {rvs : List ResultVar} {vs : List Value} (hres : fn.results = rvs.toArray) (hv : RVs P n [] B w0 s G rvs vs) (hR : ∀ w, St B w0 G w → R (.returned (tupled vs)) w) :
    T n [] (bodyPost P fn R) B w0 s G := fun a w ha hw => ⟨ha.dfr, _, run_resultsG hres hv ha hw, hR w hw⟩
theorem end_okG {fn : Func} {R : Ending → World → Prop} {rvs : List ResultVar} {vs : List Value} (hres : fn.results = rvs.toArray) (hv : RVs P n [] B w0 s G rvs vs) (hR : ∀ w, St B w0 G w → R (.returned (tupled vs)) w) :
    N n [] (bodyPost P fn R) B w0 s G := fun a w ha hw => ⟨ha.dfr, _, run_resultsG hres hv ha hw, hR w hw⟩
theorem leave_okM {fn : Func} {R : Ending → World → Prop} {rvs : List ResultVar} {vs : List Value} (hres : fn.results = rvs.toArray) (hv : RVs P n ds B w0 s G' rvs vs) (hd : ∀ w, St B w0 G w → St B w0 (dblks ds :: G') w) (hR : ∀ w, St B w0 G' w → R (.returned (tupled vs)) w) {a : Act} {w : World} (ha : Ok n ds s a) (hw : St B w0 G w) :
    LeavesInM (FW none) 0 P fn a.tmps R a.defers .returning w := by
  rw [ha.dfr]
  exact leavesM (hd w hw) fun w hw => ⟨_, run_resultsG hres hv ha hw, hR w hw⟩
theorem ret_okM {fn : Func} {R : Ending → World → Prop} {rvs : List ResultVar} {vs : List Value} (G' : List HP) (hres : fn.results = rvs.toArray) (hv : RVs P n ds B w0 s G' rvs vs) (hd : ∀ w, St B w0 G w → St B w0 (dblks ds :: G') w) (hR : ∀ w, St B w0 G' w → R (.returned (tupled vs)) w) :
    T n ds (bodyPostM (FW none) 0 P fn R) B w0 s G := fun a w ha hw => leave_okM hres hv hd hR ha hw
theorem end_okM {fn : Func} {R : Ending → World → Prop} {rvs : List ResultVar} {vs : List Value} (G' : List HP) (hres : fn.results = rvs.toArray) (hv : RVs P n ds B w0 s G' rvs vs) (hd : ∀ w, St B w0 G w → St B w0 (dblks ds :: G') w) (hR : ∀ w, St B w0 G' w → R (.returned (tupled vs)) w) :
    N n ds (bodyPostM (FW none) 0 P fn R) B w0 s G := fun a w ha hw => leave_okM hres hv hd hR ha hw
theorem calls_ofM {f : FuncId} {fn : Func} {c : Code} {args : List Value} {w : World} {R : Ending → World → Prop} (hf : P.funcs[f]? = some fn) (hb : fn.body = some c) (hn : fn.ntmps = n) (hs : argsEnv 0 args = s) (hl : Nat.ble args.length n = true)
    (h : C P none n [] (bodyPostM (FW none) 0 P fn R) B w0 c s (dblks [] :: G)) (hw : St B w0 G w) : Calls P f args.toArray w R := by
  refine (callsIn_wide (n := 0)).1 (callsIn_of_wp_marks hf hb trivial ?_)
  refine h _ w ⟨?_, rfl, ?_⟩ hw.dnil
  · have := Nat.le_of_ble_eq_true hl
    simp [hn]; omega
  · intro k v hk
    subst hs
    obtain ⟨j, rfl, hj⟩ := argsEnv_get hk
    rw [Nat.zero_add]
    have : j < args.length := by
      rcases Nat.lt_or_ge j args.length with h | h
      · exact h
      · rw [List.getElem?_eq_none h] at hj; cases hj
    simp only [Array.getElem?_append, List.size_toArray, this, if_true]
    simpa using hj
end Go.Sx
