/- Own text. A walk's state is an environment of slots and a list of owned chunks; one lemma an operation. -/
import Derived.Test.YtakolnamobkkkaaSxHeap
set_option linter.unusedSimpArgs false
set_option linter.unusedVariables false
namespace Go.Sx
open Go Go.RowKit

def FW (r : Option Nat) : Fence := { fn := fun _ => True, alive := false, round := r }
theorem FW_none : FW none = Fence.wide := rfl
theorem FW_in (r : Option Nat) (l : Nat) : (FW r).inRound l = FW (some l) := rfl

abbrev Env := List (Nat × Value)
def Env.get : Env → Nat → Option Value
  | [], _ => none
  | (j, v) :: r, k => match Nat.beq j k with
    | true => some v
    | false => Env.get r k
def Env.ev (s : Env) : Operand → Option Value
  | .tmp k => s.get k
  | .const v => some v
  | .global g => some (.pointer (some ⟨g, 0, none⟩))
  | .func f => some (.func (.func f) #[] #[])
def Env.evs (s : Env) : List Operand → Option (List Value)
  | [] => some []
  | x :: r => match s.ev x with
    | some v => match s.evs r with
      | some vs => some (v :: vs)
      | none => none
    | none => none

def Env.evP (s : Env) : List (Nat × Operand) → Option (List (Nat × Value))
  | [] => some []
  | (i, x) :: r => match s.ev x with
    | some v => match s.evP r with
      | some vs => some ((i, v) :: vs)
      | none => none
    | none => none
structure Ok (n : Nat) (ds : List Deferred) (s : Env) (a : Act) : Prop where
  size : a.tmps.size = n
  dfr : a.defers = ds
  env : ∀ k v, s.get k = some v → a.tmps[k]? = some v

variable {P : Program} {ro : Option Nat} {n : Nat} {ds : List Deferred} {ops : Array Oper} {Q : Exit → Act → World → Prop} {rest : List Oper} {s s' : Env}
variable {B : Nat} {w0 : World} {G G' : List HP}

theorem Ok.ev {a : Act} (h : Ok n ds s a) {x : Operand} {v : Value} (hx : s.ev x = some v) : a.eval x = v := by
  cases x with
  | tmp k => have := h.env k v hx; simp [Act.eval, Array.getD_eq_getD_getElem?, this]
  | const u => simpa [Env.ev, Act.eval] using hx
  | global g => simpa [Env.ev, Act.eval] using hx
  | func f => simpa [Env.ev, Act.eval] using hx
theorem Ok.evs {a : Act} (h : Ok n ds s a) : ∀ {xs : List Operand} {vs : List Value}, s.evs xs = some vs → xs.map a.eval = vs
  | [], vs, hx => by simp [Env.evs] at hx; simp [hx]
  | x :: r, vs, hx => by
    simp only [Env.evs] at hx
    split at hx
    · split at hx
      · rename_i _ v hv _ vs' hvs
        cases hx
        simp [h.ev hv, Ok.evs h hvs]
      · cases hx
    · cases hx
theorem Ok.evP {a : Act} (h : Ok n ds s a) : ∀ {xs : List (Nat × Operand)} {vs : List (Nat × Value)}, s.evP xs = some vs → xs.map (fun (i, x) => (i, a.eval x)) = vs
  | [], vs, hx => by simp [Env.evP] at hx; simp [hx]
  | (i, x) :: r, vs, hx => by
    simp only [Env.evP] at hx
    split at hx
    · split at hx
      · rename_i _ v hv _ vs' hvs
        cases hx
        simp [h.ev hv, Ok.evP h hvs]
      · cases hx
    · cases hx
theorem Env.get_cons {j k : Nat} {v : Value} {s : Env} : Env.get ((j, v) :: s) k = if j = k then some v else s.get k := by
  show (match Nat.beq j k with | true => some v | false => Env.get s k) = _
  by_cases e : j = k
  · subst e; simp
  · rw [if_neg e]
    have : Nat.beq j k = false := by
      cases h : Nat.beq j k with
      | false => rfl
      | true => exact absurd (Nat.eq_of_beq_eq_true h) e
    rw [this]
theorem Ok.put {a : Act} (h : Ok n ds s a) {d : Nat} (hd : Nat.blt d n = true) (v : Value) : Ok n ds ((d, v) :: s) (a.put (some d) v) := by
  refine ⟨by simp [Act.put, h.size], h.dfr, fun k u hk => ?_⟩
  rw [Env.get_cons] at hk
  have hlt : d < n := Nat.le_of_ble_eq_true hd
  simp only [Act.put, Array.getElem?_setIfInBounds]
  split at hk
  · rename_i e; subst e; cases hk; simp [h.size, hlt]
  · rename_i e; rw [if_neg e]; exact h.env k u hk
theorem Ok.sub {a : Act} (h : Ok n ds s a) (hs : ∀ k v, s'.get k = some v → s.get k = some v) : Ok n ds s' a := ⟨h.size, h.dfr, fun k v hk => h.env k v (hs k v hk)⟩

/-- The slots of a shorter environment, looked up one by one. -/
def Sub : Env → Env → Prop
  | [], _ => True
  | (k, v) :: r, s => s.get k = some v ∧ Sub r s
theorem Sub.get : ∀ {s' s : Env}, Sub s' s → ∀ k v, s'.get k = some v → s.get k = some v
  | [], _, _, k, v, h => by simp [Env.get] at h
  | (j, u) :: r, s, hs, k, v, h => by
    rw [Env.get_cons] at h
    split at h
    · rename_i e; subst e; cases h; exact hs.1
    · exact hs.2.get k v h

/-- What is left of a region, walked from an environment and chunks. -/
def J (P : Program) (ro : Option Nat) (n : Nat) (ds : List Deferred) (ops : Array Oper) (Q : Exit → Act → World → Prop) (B : Nat) (w0 : World) (rest : List Oper) (s : Env) (G : List HP) : Prop :=
  ∀ a w, Ok n ds s a → St B w0 G w → wpListIn (FW ro) 0 P ops Q rest a w
/-- A piece of code likewise. -/
def C (P : Program) (ro : Option Nat) (n : Nat) (ds : List Deferred) (Q : Exit → Act → World → Prop) (B : Nat) (w0 : World) (c : Code) (s : Env) (G : List HP) : Prop :=
  ∀ a w, Ok n ds s a → St B w0 G w → c.wpIn (FW ro) 0 P Q a w

theorem fw_true (f : FuncId) : (FW ro).fn f := trivial
theorem sem_at {o : Oper} (r : Option Nat) (ρ : Operand → Value) (h : ∀ c, o.op ≠ .defer c) : Oper.semAt r ρ o = execOp ρ o := by
  cases r with
  | none => exact Oper.semAt_none ρ o
  | some l => exact Oper.semAt_some l ρ o h

/-- One operation that hands back a value. -/
theorem J.core {d : Nat} {op : Op} {ty : TypeId} {pos : String} {aft : Array Edge} (hd : Nat.blt d n = true) (hnd : ∀ c, op ≠ .defer c)
    (h : ∀ a w, Ok n ds s a → St B w0 G w → ∃ v w' s' G', (execOp a.eval ⟨some d, op, ty, pos, aft, none⟩).run P w = .ok (.value v) w' ∧ St B w0 G' w' ∧
      J P ro n ds ops Q B w0 rest s' G' ∧ (s' = (d, v) :: s)) : J P ro n ds ops Q B w0 (⟨some d, op, ty, pos, aft, none⟩ :: rest) s G := by
  intro a w ha hw
  obtain ⟨v, w', s', G', hr, hw', hj, rfl⟩ := h a w ha hw
  refine wpListIn_plain rfl fun K hK => ?_
  refine ⟨fun f _ => fw_true f, ?_⟩
  show Oper.uponIn _ _ _ _ _ _ _ ((Oper.semAt (FW ro).round a.eval _).run P w)
  rw [sem_at (o := ⟨some d, op, ty, pos, aft, none⟩) _ _ hnd, hr]
  exact hK _ _ (hj _ _ (ha.put hd v) hw')
/-- One that hands back nothing. -/
theorem J.coreU {op : Op} {ty : TypeId} {pos : String} {aft : Array Edge} (hnd : ∀ c, op ≠ .defer c)
    (h : ∀ a w, Ok n ds s a → St B w0 G w → ∃ w' G', (execOp a.eval ⟨none, op, ty, pos, aft, none⟩).run P w = .ok .skip w' ∧ St B w0 G' w' ∧
      J P ro n ds ops Q B w0 rest s G') : J P ro n ds ops Q B w0 (⟨none, op, ty, pos, aft, none⟩ :: rest) s G := by
  intro a w ha hw
  obtain ⟨w', G', hr, hw', hj⟩ := h a w ha hw
  refine wpListIn_plain rfl fun K hK => ?_
  refine ⟨fun f _ => fw_true f, ?_⟩
  show Oper.uponIn _ _ _ _ _ _ _ ((Oper.semAt (FW ro).round a.eval _).run P w)
  rw [sem_at (o := ⟨none, op, ty, pos, aft, none⟩) _ _ hnd, hr]
  exact hK _ _ (hj _ _ ha hw')

/-! ### Guards -/
def gval (ops : Array Oper) (s : Env) : Option (Nat × Bool) → Option Bool
  | none => some true
  | some (j, b) => match ops[j]? with
    | some o => match o.dst with
      | some d => match s.get d with
        | some (.bool t) => some (t == b)
        | some (.tuple _) => some false
        | _ => none
      | none => none
    | none => none
theorem gval_wanted {o : Oper} {a : Act} {t : Bool} (ha : Ok n ds s a) (h : gval ops s o.guard = some t) : Region.wanted o (yielded ops a.tmps) = t := by
  unfold Region.wanted
  cases hg : o.guard with
  | none => simp [gval, hg] at h; simp [h]
  | some p =>
    obtain ⟨j, b⟩ := p
    simp only [gval, hg] at h
    split at h
    · rename_i o' ho'
      split at h
      · rename_i d hd
        split at h
        · rename_i t' ht'
          cases h
          simp only [yielded, ho', Option.bind_some, hd, ha.env _ _ ht']
          cases t' <;> cases b <;> rfl
        · rename_i vs ht'
          cases h
          simp only [yielded, ho', Option.bind_some, hd, ha.env _ _ ht']
          cases b <;> rfl
        · cases h
      · cases h
    · cases h
theorem J.want {o : Oper} (hg : gval ops s o.guard = some true) (h : J P ro n ds ops Q B w0 ({ o with guard := none } :: rest) s G) : J P ro n ds ops Q B w0 (o :: rest) s G := by
  intro a w ha hw
  have h' := h a w ha hw
  have hw1 := gval_wanted ha hg
  unfold wpListIn at h' ⊢
  rw [if_pos (by simp [Region.wanted])] at h'
  rw [if_pos hw1]
  exact h'
theorem J.skip {d : Nat} {op : Op} {ty : TypeId} {pos : String} {aft : Array Edge} {gd : Option (Nat × Bool)} (hg : gval ops s gd = some false) (hd : Nat.blt d n = true)
    (h : J P ro n ds ops Q B w0 rest ((d, undef) :: s) G) : J P ro n ds ops Q B w0 (⟨some d, op, ty, pos, aft, gd⟩ :: rest) s G := by
  intro a w ha hw
  have hw1 : Region.wanted ⟨some d, op, ty, pos, aft, gd⟩ (yielded ops a.tmps) = false := gval_wanted (o := ⟨some d, op, ty, pos, aft, gd⟩) ha hg
  unfold wpListIn
  rw [hw1]
  exact ⟨fun f _ => fw_true f, h _ _ (ha.put hd undef) hw⟩
theorem J.skip0 {op : Op} {ty : TypeId} {pos : String} {aft : Array Edge} {gd : Option (Nat × Bool)} (hg : gval ops s gd = some false)
    (h : J P ro n ds ops Q B w0 rest s G) : J P ro n ds ops Q B w0 (⟨none, op, ty, pos, aft, gd⟩ :: rest) s G := by
  intro a w ha hw
  have hw1 : Region.wanted ⟨none, op, ty, pos, aft, gd⟩ (yielded ops a.tmps) = false := gval_wanted (o := ⟨none, op, ty, pos, aft, gd⟩) ha hg
  unfold wpListIn
  rw [hw1]
  exact ⟨fun f _ => fw_true f, h _ _ ha hw⟩

/-! ### Change of spelling, of order, of what is known -/
theorem J.sub (hs : Sub s' s) (h : J P ro n ds ops Q B w0 rest s' G) : J P ro n ds ops Q B w0 rest s G := fun a w ha hw => h a w (ha.sub hs.get) hw
theorem C.sub {c : Code} (hs : Sub s' s) (h : C P ro n ds Q B w0 c s' G) : C P ro n ds Q B w0 c s G := fun a w ha hw => h a w (ha.sub hs.get) hw
theorem J.as {k : Nat} {v v' : Value} (hk : s.get k = some v) (e : v = v') (h : J P ro n ds ops Q B w0 rest ((k, v') :: s) G) : J P ro n ds ops Q B w0 rest s G := by
  intro a w ha hw
  refine h a w ⟨ha.size, ha.dfr, fun j u hj => ?_⟩ hw
  rw [Env.get_cons] at hj
  split at hj
  · rename_i e'; subst e'; cases hj; subst e; exact ha.env _ _ hk
  · exact ha.env _ _ hj
theorem C.as {c : Code} {k : Nat} {v v' : Value} (hk : s.get k = some v) (e : v = v') (h : C P ro n ds Q B w0 c ((k, v') :: s) G) : C P ro n ds Q B w0 c s G := by
  intro a w ha hw
  refine h a w ⟨ha.size, ha.dfr, fun j u hj => ?_⟩ hw
  rw [Env.get_cons] at hj
  split at hj
  · rename_i e'; subst e'; cases hj; subst e; exact ha.env _ _ hk
  · exact ha.env _ _ hj
theorem J.pull {X : HP} (i : Nat) (hi : G[i]? = some X) (he : G.eraseIdx i = G') (h : J P ro n ds ops Q B w0 rest s (X :: G')) : J P ro n ds ops Q B w0 rest s G := fun a w ha hw => h a w ha (hw.pull i hi he)
theorem C.pull {c : Code} {X : HP} (i : Nat) (hi : G[i]? = some X) (he : G.eraseIdx i = G') (h : C P ro n ds Q B w0 c s (X :: G')) : C P ro n ds Q B w0 c s G := fun a w ha hw => h a w ha (hw.pull i hi he)
theorem J.imp (hg : ∀ w, St B w0 G w → St B w0 G' w) (h : J P ro n ds ops Q B w0 rest s G') : J P ro n ds ops Q B w0 rest s G := fun a w ha hw => h a w ha (hg w hw)
theorem C.imp {c : Code} (hg : ∀ w, St B w0 G w → St B w0 G' w) (h : C P ro n ds Q B w0 c s G') : C P ro n ds Q B w0 c s G := fun a w ha hw => h a w ha (hg w hw)
theorem J.drop {X : HP} (h : J P ro n ds ops Q B w0 rest s G) : J P ro n ds ops Q B w0 rest s (X :: G) := fun a w ha hw => h a w ha hw.drop
/-- A fact out of the state. -/
theorem J.know {p : Prop} (hp : ∀ w, St B w0 G w → p) (h : p → J P ro n ds ops Q B w0 rest s G) : J P ro n ds ops Q B w0 rest s G := fun a w ha hw => h (hp w hw) a w ha hw
theorem C.know {c : Code} {p : Prop} (hp : ∀ w, St B w0 G w → p) (h : p → C P ro n ds Q B w0 c s G) : C P ro n ds Q B w0 c s G := fun a w ha hw => h (hp w hw) a w ha hw

/-! ### Pure operations -/
section pureops
variable {d : Nat} {ty : TypeId} {pos : String} {aft : Array Edge} {gd : Option (Nat × Bool)}

/-- It hands back v, in whatever world. -/
def Qp (P : Program) (n : Nat) (ds : List Deferred) (o : Oper) (s : Env) (v : Value) : Prop := ∀ a w, Ok n ds s a → (execOp a.eval o).run P w = .ok (.value v) w
/-- It hands back v as long as the chunks G are owned. -/
def Qs (P : Program) (n : Nat) (ds : List Deferred) (B : Nat) (w0 : World) (o : Oper) (s : Env) (G : List HP) (v : Value) : Prop := ∀ L a w, Ok n ds s a → St B w0 (L ++ G) w → (execOp a.eval o).run P w = .ok (.value v) w
theorem Qp.toQs {o : Oper} {v : Value} (h : Qp P n ds o s v) : Qs P n ds B w0 o s G v := fun _ a w ha _ => h a w ha
def plainOp (o : Oper) : Bool := match o.op with | .select .. => false | .defer _ => false | _ => true
theorem plain_nd {o : Oper} (h : plainOp o = true) : ∀ c, o.op ≠ .defer c := by
  intro c e; simp [plainOp, e] at h
theorem J.r {o : Oper} {v : Value} (hd : o.dst = some d) (hn : Nat.blt d n = true) (hp : plainOp o = true) (hg : gval ops s o.guard = some true) (h : Qs P n ds B w0 o s G v) (k : J P ro n ds ops Q B w0 rest ((d, v) :: s) G) : J P ro n ds ops Q B w0 (o :: rest) s G := by
  obtain ⟨dst, op, ty, pos, aft, gd⟩ := o
  cases hd
  exact J.want hg (J.core hn (plain_nd hp) fun a w ha hw => ⟨v, w, _, G, h [] a w ha hw, hw, k, rfl⟩)
theorem J.p {o : Oper} {v : Value} (hd : o.dst = some d) (hn : Nat.blt d n = true) (hp : plainOp o = true) (hg : gval ops s o.guard = some true) (h : Qp P n ds o s v) (k : J P ro n ds ops Q B w0 rest ((d, v) :: s) G) : J P ro n ds ops Q B w0 (o :: rest) s G := J.r hd hn hp hg h.toQs k

theorem Y.mv {x : Operand} {v : Value} (hx : s.ev x = some v) :
    Qp P n ds ⟨some d, .move x, ty, pos, aft, gd⟩ s (v) :=
  fun a w ha => by simp [execOp, Sem.run_pure, ha.ev hx]
theorem Y.asg {x : Operand} {v : Value} (hx : s.ev x = some v) :
    Qp P n ds ⟨some d, .assign x, ty, pos, aft, gd⟩ s (v) :=
  fun a w ha => by simp [execOp, Sem.run_pure, ha.ev hx]
theorem Y.pickT {c x y : Operand} {v : Value} (hc : s.ev c = some (.bool true)) (hx : s.ev x = some v) :
    Qp P n ds ⟨some d, .pick c x y, ty, pos, aft, gd⟩ s (v) :=
  fun a w ha => by simp [execOp, Sem.run_pure, Sem.run_bind, ha.ev hx, ha.ev hc, asBool]
theorem Y.pickF {c x y : Operand} {v : Value} (hc : s.ev c = some (.bool false)) (hy : s.ev y = some v) :
    Qp P n ds ⟨some d, .pick c x y, ty, pos, aft, gd⟩ s (v) :=
  fun a w ha => by simp [execOp, Sem.run_pure, Sem.run_bind, ha.ev hy, ha.ev hc, asBool]
theorem Y.ext {x : Operand} {vs : Array Value} {i : Nat} {v : Value} (hx : s.ev x = some (.tuple vs)) (hi : vs[i]? = some v) :
    Qp P n ds ⟨some d, .extract x i, ty, pos, aft, gd⟩ s (v) :=
  fun a w ha => by simp [execOp, Instr.extract, Sem.run_pure, Sem.run_bind, ha.ev hx, hi]
/-- and, or, xor, and-not of whole numbers. -/
def bits (op : BinOp) (k : IntKind) (a b : Int) : Int :=
  match op with
  | .and => k.wrap ((BitVec.ofInt k.bits a &&& BitVec.ofInt k.bits b).toNat : Int)
  | .or => k.wrap ((BitVec.ofInt k.bits a ||| BitVec.ofInt k.bits b).toNat : Int)
  | .xor => k.wrap ((BitVec.ofInt k.bits a ^^^ BitVec.ofInt k.bits b).toNat : Int)
  | _ => k.wrap ((BitVec.ofInt k.bits a &&& ~~~ BitVec.ofInt k.bits b).toNat : Int)
/-- Operations on whole numbers that cannot panic. -/
def ibin (op : BinOp) (k : IntKind) (a b : Int) : Option Value :=
  match op with
  | .add => some (.int k (k.wrap (a + b)))
  | .sub => some (.int k (k.wrap (a - b)))
  | .mul => some (.int k (k.wrap (a * b)))
  | .and => some (.int k (bits .and k a b))
  | .or => some (.int k (bits .or k a b))
  | .xor => some (.int k (bits .xor k a b))
  | .andNot => some (.int k (bits .andNot k a b))
  | .eql => some (.bool (decide (a = b)))
  | .neq => some (.bool (decide (a ≠ b)))
  | .lss => some (.bool (decide (a < b)))
  | .leq => some (.bool (decide (a ≤ b)))
  | .gtr => some (.bool (decide (b < a)))
  | .geq => some (.bool (decide (b ≤ a)))
  | _ => none
theorem eqGuard_int (op : BinOp) (t : TypeId) (x y : Operand) (k k' : IntKind) (a b : Int) (w : World) : (eqGuard op t x y (.int k a) (.int k' b)).run P w = .ok () w := by
  unfold eqGuard; split <;> rfl
theorem eqGuard_bool (op : BinOp) (t : TypeId) (x y : Operand) (a b : Bool) (w : World) : (eqGuard op t x y (.bool a) (.bool b)).run P w = .ok () w := by
  unfold eqGuard; split <;> rfl
theorem eqGuard_string (op : BinOp) (t : TypeId) (x y : Operand) (a b : ByteArray) (w : World) : (eqGuard op t x y (.string a) (.string b)).run P w = .ok () w := by
  unfold eqGuard; split <;> rfl
theorem beqi (a b : Int) : (a == b) = decide (a = b) := by by_cases h : a = b <;> simp [h]
theorem beql (a b : List UInt8) : (a == b) = decide (a = b) := by by_cases h : a = b <;> simp [h]
theorem beqb (a b : Bool) : (a == b) = decide (a = b) := by cases a <;> cases b <;> rfl
theorem run_ibin {op : BinOp} {t : TypeId} {k : IntKind} {a b : Int} {v : Value} (h : ibin op k a b = some v) (w : World) : (binOp op t (.int k a) (.int k b)).run P w = .ok v w := by
  cases op <;> simp only [ibin, Option.some.injEq, reduceCtorEq] at h <;> subst h <;>
    simp [binOp, Op.intArith, Op.intBits, Op.intCmp, bits, Sem.run_pure, bne, beqi]
theorem Y.bin {op : BinOp} {t u : TypeId} {x y : Operand} {k : IntKind} {a b : Int} {v : Value} (hx : s.ev x = some (.int k a)) (hy : s.ev y = some (.int k b)) (hv : ibin op k a b = some v) :
    Qp P n ds ⟨some d, .binOp op t x y u, ty, pos, aft, gd⟩ s (v) :=
  fun a' w ha => by simp [execOp, Sem.run_pure, Sem.run_bind, ha.ev hx, ha.ev hy, eqGuard_int, run_ibin hv]
theorem Y.quo {t u : TypeId} {x y : Operand} {k : IntKind} {a b : Int} (hx : s.ev x = some (.int k a)) (hy : s.ev y = some (.int k b)) (hb : b ≠ 0) :
    Qp P n ds ⟨some d, .binOp .quo t x y u, ty, pos, aft, gd⟩ s (.int k (k.wrap (a.tdiv b))) :=
  fun a' w ha => by simp [execOp, Sem.run_pure, Sem.run_bind, ha.ev hx, ha.ev hy, eqGuard_int, binOp, Op.intDiv, hb]
theorem Y.rem {t u : TypeId} {x y : Operand} {k : IntKind} {a b : Int} (hx : s.ev x = some (.int k a)) (hy : s.ev y = some (.int k b)) (hb : b ≠ 0) :
    Qp P n ds ⟨some d, .binOp .rem t x y u, ty, pos, aft, gd⟩ s (.int k (a.tmod b)) :=
  fun a' w ha => by simp [execOp, Sem.run_pure, Sem.run_bind, ha.ev hx, ha.ev hy, eqGuard_int, binOp, Op.intDiv, hb]
def shl (k : IntKind) (a b : Int) : Int := k.wrap (a * 2 ^ (min b.toNat k.bits))
def shr (k : IntKind) (a b : Int) : Int := a.fdiv (2 ^ (min b.toNat k.bits))
theorem Y.shl {t u : TypeId} {x y : Operand} {k k' : IntKind} {a b : Int} (hx : s.ev x = some (.int k a)) (hy : s.ev y = some (.int k' b)) (hb : 0 ≤ b) :
    Qp P n ds ⟨some d, .binOp .shl t x y u, ty, pos, aft, gd⟩ s (.int k (Sx.shl k a b)) :=
  fun a' w ha => by simp [execOp, Sem.run_pure, Sem.run_bind, ha.ev hx, ha.ev hy, eqGuard_int, binOp, Op.shift, Int.not_lt.2 hb, Sx.shl]
theorem Y.shr {t u : TypeId} {x y : Operand} {k k' : IntKind} {a b : Int} (hx : s.ev x = some (.int k a)) (hy : s.ev y = some (.int k' b)) (hb : 0 ≤ b) :
    Qp P n ds ⟨some d, .binOp .shr t x y u, ty, pos, aft, gd⟩ s (.int k (Sx.shr k a b)) :=
  fun a' w ha => by simp [execOp, Sem.run_pure, Sem.run_bind, ha.ev hx, ha.ev hy, eqGuard_int, binOp, Op.shift, Int.not_lt.2 hb, Sx.shr]
theorem Y.notb {x : Operand} {t : TypeId} {b : Bool} (hx : s.ev x = some (.bool b)) :
    Qp P n ds ⟨some d, .unOp .not t x, ty, pos, aft, gd⟩ s (.bool (!b)) :=
  fun a w ha => by simp [execOp, Op.unary, Sem.run_pure, Sem.run_bind, ha.ev hx]
theorem Y.neg {x : Operand} {t : TypeId} {k : IntKind} {b : Int} (hx : s.ev x = some (.int k b)) :
    Qp P n ds ⟨some d, .unOp .neg t x, ty, pos, aft, gd⟩ s (.int k (k.wrap (0 - b))) :=
  fun a w ha => by simp [execOp, Op.unary, Op.intArith, Sem.run_pure, Sem.run_bind, ha.ev hx]
def compl (k : IntKind) (b : Int) : Int := bits .xor k (if k.signed = true then -1 else k.max) b
theorem Y.compl {x : Operand} {t : TypeId} {k : IntKind} {b : Int} (hx : s.ev x = some (.int k b)) :
    Qp P n ds ⟨some d, .unOp .xor t x, ty, pos, aft, gd⟩ s (.int k (Sx.compl k b)) :=
  fun a w ha => by simp [execOp, Op.unary, Op.intBits, Sem.run_pure, Sem.run_bind, ha.ev hx, Sx.compl, bits]
/-- '==', '!=' of bools and of strings. -/
theorem run_equalIn_bool (d : Nat) {t : TypeId} (ht : P.underlying t = some .bool) (a b : Bool) (w : World) : (Op.equalIn (d + 1) t (.bool a) (.bool b)).run P w = .ok (decide (a = b)) w := by
  simp [Op.equalIn, Sem.run_pure, beqb, run_underlying ht]
theorem run_equal_bool {t : TypeId} (ht : P.underlying t = some .bool) (a b : Bool) (w : World) : (Op.equal t (.bool a) (.bool b)).run P w = .ok (decide (a = b)) w :=
  run_equalIn_bool 9999 ht a b w
/-- '== nil' of what is none. -/
theorem run_equalIn_fn (d : Nat) {t : TypeId} {ps rs : Array TypeId} {vd : Bool} (ht : P.underlying t = some (.func ps rs vd)) (fn : Fn) (us vs : Array Value) (w : World) : (Op.equalIn (d + 1) t (.func fn us vs) .nilFunc).run P w = .ok false w := by
  simp [Op.equalIn, Sem.run_pure, run_underlying ht]
theorem run_equal_fn {t : TypeId} {ps rs : Array TypeId} {vd : Bool} (ht : P.underlying t = some (.func ps rs vd)) (fn : Fn) (us vs : Array Value) (w : World) : (Op.equal t (.func fn us vs) .nilFunc).run P w = .ok false w := run_equalIn_fn 9999 ht fn us vs w
theorem run_equalIn_ptr (d : Nat) {t : TypeId} {e : TypeId} (ht : P.underlying t = some (.pointer e)) (p : Addr) (w : World) : (Op.equalIn (d + 1) t (.pointer (some p)) (.pointer none)).run P w = .ok false w := by
  simp [Op.equalIn, Sem.run_pure, run_underlying ht]
theorem run_equal_ptr {t : TypeId} {e : TypeId} (ht : P.underlying t = some (.pointer e)) (p : Addr) (w : World) : (Op.equal t (.pointer (some p)) (.pointer none)).run P w = .ok false w := run_equalIn_ptr 9999 ht p w
theorem Y.eqb {t u : TypeId} {x y : Operand} {a b : Bool} (ht : P.underlying t = some .bool) (hx : s.ev x = some (.bool a)) (hy : s.ev y = some (.bool b)) :
    Qp P n ds ⟨some d, .binOp .eql t x y u, ty, pos, aft, gd⟩ s (.bool (decide (a = b))) :=
  fun a' w ha => by simp [execOp, Sem.run_pure, Sem.run_bind, ha.ev hx, ha.ev hy, eqGuard_bool, binOp, run_equal_bool ht]
theorem Y.neb {t u : TypeId} {x y : Operand} {a b : Bool} (ht : P.underlying t = some .bool) (hx : s.ev x = some (.bool a)) (hy : s.ev y = some (.bool b)) :
    Qp P n ds ⟨some d, .binOp .neq t x y u, ty, pos, aft, gd⟩ s (.bool (decide (a ≠ b))) :=
  fun a' w ha => by simp [execOp, Sem.run_pure, Sem.run_bind, ha.ev hx, ha.ev hy, eqGuard_bool, binOp, run_equal_bool ht]
theorem Y.eqfn {t u : TypeId} {x y : Operand} {ps rs : Array TypeId} {vd : Bool} {fn : Fn} {us vs : Array Value} (ht : P.underlying t = some (.func ps rs vd)) (hx : s.ev x = some (.func fn us vs)) (hy : s.ev y = some .nilFunc) :
    Qp P n ds ⟨some d, .binOp .eql t x y u, ty, pos, aft, gd⟩ s (.bool false) :=
  fun a' w ha => by simp [execOp, Sem.run_pure, Sem.run_bind, ha.ev hx, ha.ev hy, eqGuard, binOp, run_equal_fn ht]
theorem Y.eqptr {t u e : TypeId} {x y : Operand} {p : Addr} (ht : P.underlying t = some (.pointer e)) (hx : s.ev x = some (.pointer (some p))) (hy : s.ev y = some (.pointer none)) :
    Qp P n ds ⟨some d, .binOp .eql t x y u, ty, pos, aft, gd⟩ s (.bool false) :=
  fun a' w ha => by simp [execOp, Sem.run_pure, Sem.run_bind, ha.ev hx, ha.ev hy, eqGuard, binOp, run_equal_ptr ht]
theorem toList_inj {a b : ByteArray} : a.toList = b.toList ↔ a = b := by
  constructor
  · intro h
    have : a.data.toList = b.data.toList := by rwa [ByteArray.toList_eq, ByteArray.toList_eq] at h
    cases a; cases b; congr 1; exact Array.ext' this
  · rintro rfl; rfl
theorem Y.eqs {t u : TypeId} {x y : Operand} {a b : ByteArray} (hx : s.ev x = some (.string a)) (hy : s.ev y = some (.string b)) :
    Qp P n ds ⟨some d, .binOp .eql t x y u, ty, pos, aft, gd⟩ s (.bool (decide (a = b))) :=
  fun a' w ha => by simp [execOp, Sem.run_pure, Sem.run_bind, ha.ev hx, ha.ev hy, eqGuard_string, binOp, Op.stringOp, beql, toList_inj]
theorem Y.nes {t u : TypeId} {x y : Operand} {a b : ByteArray} (hx : s.ev x = some (.string a)) (hy : s.ev y = some (.string b)) :
    Qp P n ds ⟨some d, .binOp .neq t x y u, ty, pos, aft, gd⟩ s (.bool (decide (a ≠ b))) :=
  fun a' w ha => by simp [execOp, Sem.run_pure, Sem.run_bind, ha.ev hx, ha.ev hy, eqGuard_string, binOp, Op.stringOp, beql, toList_inj]
theorem Y.cat {t u : TypeId} {x y : Operand} {a b : ByteArray} (hx : s.ev x = some (.string a)) (hy : s.ev y = some (.string b)) (hb : a.size + b.size ≤ 9223372036854775807) :
    Qp P n ds ⟨some d, .binOp .add t x y u, ty, pos, aft, gd⟩ s (.string (a ++ b)) :=
  fun a' w ha => by
    have h9 : IntKind.max .i64 = 9223372036854775807 := by decide
    have : ¬ ((a.size : Int) + (b.size : Int) > IntKind.max .i64) := by rw [h9]; omega
    simp [execOp, Sem.run_pure, Sem.run_bind, ha.ev hx, ha.ev hy, eqGuard_string, binOp, Op.stringOp, h9]; omega
/-- Conversions between whole numbers. -/
theorem Y.conv {src dst : TypeId} {x : Operand} {k k' : IntKind} {a : Int} {u : TypeDesc} (hs : P.underlying src = some u) (ht : P.underlying dst = some (.int k')) (hx : s.ev x = some (.int k a)) :
    Qp P n ds ⟨some d, .convert src dst x, ty, pos, aft, gd⟩ s (.int k' (k'.wrap a)) :=
  fun a' w ha => by simp [execOp, Sem.run_pure, Sem.run_bind, ha.ev hx, convert, run_underlying hs, run_underlying ht, Conv.intToInt]
theorem Y.lenS {t ty' e : TypeId} {x : Operand} {A : Option Addr} {m c : Nat} (ht : P.underlying t = some (.slice e)) (hx : s.ev x = some (.slice A m c)) :
    Qp P n ds ⟨some d, .call { callee := .builtin .len, args := #[x], argTypes := #[t] }, ty', pos, aft, gd⟩ s (.int .i64 m) :=
  fun a' w ha => by simp [execOp, resolve, invoke, builtin, Sem.run_pure, Sem.run_bind, ha.ev hx, Builtin.len_, run_underlying ht, goInt]
theorem Y.lenT {t ty' : TypeId} {x : Operand} {a : ByteArray} (ht : P.underlying t = some .string) (hx : s.ev x = some (.string a)) :
    Qp P n ds ⟨some d, .call { callee := .builtin .len, args := #[x], argTypes := #[t] }, ty', pos, aft, gd⟩ s (.int .i64 a.size) :=
  fun a' w ha => by simp [execOp, resolve, invoke, builtin, Sem.run_pure, Sem.run_bind, ha.ev hx, Builtin.len_, run_underlying ht, goInt]
theorem Y.mkf {fn : Fn} {xs ys : Array Operand} {us vs : List Value} (hx : s.evs xs.toList = some us) (hy : s.evs ys.toList = some vs) :
    Qp P n ds ⟨some d, .makeFunc fn xs ys, ty, pos, aft, gd⟩ s (.func fn us.toArray vs.toArray) :=
  fun a' w ha => by
    have h1 := ha.evs hx
    have h2 := ha.evs hy
    have e1 : xs.map a'.eval = us.toArray := by rw [← h1]; exact Array.ext' (by simp)
    have e2 : ys.map a'.eval = vs.toArray := by rw [← h2]; exact Array.ext' (by simp)
    simp [execOp, Instr.makeFunc, Sem.run_pure, Sem.run_bind, e1, e2]
theorem Y.nilp {x : Operand} {p : Addr} (hx : s.ev x = some (.pointer (some p))) :
    Qp P n ds ⟨some d, .nilCheck x, ty, pos, aft, gd⟩ s (.pointer (some p)) :=
  fun a' w ha => by simp [execOp, Sem.run_pure, ha.ev hx]
theorem Y.mn {x y : Operand} {ts : Array TypeId} {k : IntKind} {a b : Int} (hx : s.ev x = some (.int k a)) (hy : s.ev y = some (.int k b)) :
    Qp P n ds ⟨some d, .call { callee := .builtin .min, args := #[x, y], argTypes := ts }, ty, pos, aft, gd⟩ s (.int k (min a b)) :=
  fun a' w ha => by simp [execOp, resolve, invoke, builtin, Sem.run_pure, Sem.run_bind, ha.ev hx, ha.ev hy, Builtin.min_, Builtin.min2]; rw [Int.min_def]; split <;> split <;> omega
theorem Y.mx {x y : Operand} {ts : Array TypeId} {k : IntKind} {a b : Int} (hx : s.ev x = some (.int k a)) (hy : s.ev y = some (.int k b)) :
    Qp P n ds ⟨some d, .call { callee := .builtin .max, args := #[x, y], argTypes := ts }, ty, pos, aft, gd⟩ s (.int k (max a b)) :=
  fun a' w ha => by simp [execOp, resolve, invoke, builtin, Sem.run_pure, Sem.run_bind, ha.ev hx, ha.ev hy, Builtin.max_, Builtin.max2]; rw [Int.max_def]; split <;> split <;> omega
end pureops

end Go.Sx
