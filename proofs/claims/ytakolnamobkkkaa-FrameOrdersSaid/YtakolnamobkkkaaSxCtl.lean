/- Own text. Control: sequence, branches, blocks, loops, returns, calls. -/
import Derived.Test.YtakolnamobkkkaaSxAgg
set_option linter.unusedSimpArgs false
set_option linter.unusedVariables false
namespace Go.Sx
open Go Go.RowKit
variable {P : Program} {ro : Option Nat} {n : Nat} {ds : List Deferred} {ops : Array Oper} {Q : Exit → Act → World → Prop} {rest : List Oper} {s s' : Env}
variable {B : Nat} {w0 : World} {G G' : List HP}

/-- Off the end of a piece of code; out of it by an exit; by a return. -/
def N (n : Nat) (ds : List Deferred) (Q : Exit → Act → World → Prop) (B : Nat) (w0 : World) (s : Env) (G : List HP) : Prop := ∀ a w, Ok n ds s a → St B w0 G w → Q .normal a w
def X (n : Nat) (ds : List Deferred) (Q : Exit → Act → World → Prop) (B : Nat) (w0 : World) (id : Nat) (s : Env) (G : List HP) : Prop := ∀ a w, Ok n ds s a → St B w0 G w → Q (.exit id) a w

theorem C.seq {x y : Code} (h : C P ro n ds (Exit.then (y.wpIn (FW ro) 0 P Q) Q) B w0 x s G) : C P ro n ds Q B w0 (.seq x y) s G := fun a w ha hw => wpIn_seq (h a w ha hw)
theorem C.reg {id : Nat} {l : List Oper} (h : J P ro n ds l.toArray Q B w0 l s G) : C P ro n ds Q B w0 (.region id l.toArray false) s G := fun a w ha hw => wpIn_region_lit (h a w ha hw)
theorem J.nil (h : N n ds Q B w0 s G) : J P ro n ds ops Q B w0 [] s G := fun a w ha hw => h a w ha hw
theorem N.nx {y : Code} (h : C P ro n ds Q B w0 y s G) : N n ds (Exit.then (y.wpIn (FW ro) 0 P Q) Q) B w0 s G := fun a w ha hw => h a w ha hw
theorem N.ib {id : Nat} (h : N n ds Q B w0 s G) : N n ds (Exit.inBlock id Q) B w0 s G := fun a w ha hw => h a w ha hw
theorem N.know {p : Prop} (hp : ∀ w, St B w0 G w → p) (h : p → N n ds Q B w0 s G) : N n ds Q B w0 s G := fun a w ha hw => h (hp w hw) a w ha hw
theorem N.as {k : Nat} {v v' : Value} (hk : s.get k = some v) (e : v = v') (h : N n ds Q B w0 ((k, v') :: s) G) : N n ds Q B w0 s G := by
  intro a w ha hw
  refine h a w ⟨ha.size, ha.dfr, fun j u hj => ?_⟩ hw
  rw [Env.get_cons] at hj
  split at hj
  · rename_i e'; subst e'; cases hj; subst e; exact ha.env _ _ hk
  · exact ha.env _ _ hj
theorem T_as {k : Nat} {v v' : Value} (hk : s.get k = some v) (e : v = v') (h : ∀ a w, Ok n ds ((k, v') :: s) a → St B w0 G w → Q .ret a w) : ∀ a w, Ok n ds s a → St B w0 G w → Q .ret a w := by
  intro a w ha hw
  refine h a w ⟨ha.size, ha.dfr, fun j u hj => ?_⟩ hw
  rw [Env.get_cons] at hj
  split at hj
  · rename_i e'; subst e'; cases hj; subst e; exact ha.env _ _ hk
  · exact ha.env _ _ hj
/-- A region, and what stands behind it. -/
theorem C.rs {id : Nat} {l : List Oper} {y : Code} (h : J P ro n ds l.toArray (Exit.then (y.wpIn (FW ro) 0 P Q) Q) B w0 l s G) : C P ro n ds Q B w0 (.seq (.region id l.toArray false) y) s G := C.seq (C.reg h)
theorem J.nx {y : Code} (h : C P ro n ds Q B w0 y s G) : J P ro n ds ops (Exit.then (y.wpIn (FW ro) 0 P Q) Q) B w0 [] s G := J.nil (N.nx h)
theorem C.skip (h : N n ds Q B w0 s G) : C P ro n ds Q B w0 .skip s G := fun a w ha hw => wpIn_skip (h a w ha hw)
theorem C.blk {id : Nat} {c : Code} (h : C P ro n ds (Exit.inBlock id Q) B w0 c s G) : C P ro n ds Q B w0 (.block id c) s G := fun a w ha hw => wpIn_block (h a w ha hw)
theorem C.exit {id : Nat} (h : X n ds Q B w0 id s G) : C P ro n ds Q B w0 (.exit id) s G := fun a w ha hw => wpIn_exit (h a w ha hw)
theorem X.th {id : Nat} {K : Act → World → Prop} (h : X n ds Q B w0 id s G) : X n ds (Exit.then K Q) B w0 id s G := fun a w ha hw => h a w ha hw
theorem X.hit {id : Nat} (h : N n ds Q B w0 s G) : X n ds (Exit.inBlock id Q) B w0 id s G := fun a w ha hw => by
  show (if id = id then Q .normal a w else _)
  rw [if_pos rfl]; exact h a w ha hw
theorem X.ms {id id' : Nat} (hne : Nat.beq id id' = false) (h : X n ds Q B w0 id s G) : X n ds (Exit.inBlock id' Q) B w0 id s G := fun a w ha hw => by
  show (if id = id' then Q .normal a w else Q (.exit id) a w)
  rw [if_neg (Nat.ne_of_beq_eq_false hne)]; exact h a w ha hw
/-- By a return. -/
def T (n : Nat) (ds : List Deferred) (Q : Exit → Act → World → Prop) (B : Nat) (w0 : World) (s : Env) (G : List HP) : Prop := ∀ a w, Ok n ds s a → St B w0 G w → Q .ret a w
theorem C.ret (h : T n ds Q B w0 s G) : C P ro n ds Q B w0 .ret s G := fun a w ha hw => wpIn_ret (h a w ha hw)
theorem T.th {K : Act → World → Prop} (h : T n ds Q B w0 s G) : T n ds (Exit.then K Q) B w0 s G := fun a w ha hw => h a w ha hw
theorem T.as {k : Nat} {v v' : Value} (hk : s.get k = some v) (e : v = v') (h : T n ds Q B w0 ((k, v') :: s) G) : T n ds Q B w0 s G := T_as hk e h
theorem T.ib {id : Nat} (h : T n ds Q B w0 s G) : T n ds (Exit.inBlock id Q) B w0 s G := fun a w ha hw => h a w ha hw
theorem C.at {c : Code} (hs : s = s') (hg : G = G') (h : C P ro n ds Q B w0 c s' G') : C P ro n ds Q B w0 c s G := by subst hs; subst hg; exact h
theorem J.at (hs : s = s') (hg : G = G') (h : J P ro n ds ops Q B w0 rest s' G') : J P ro n ds ops Q B w0 rest s G := by subst hs; subst hg; exact h
theorem N.at (hs : s = s') (hg : G = G') (h : N n ds Q B w0 s' G') : N n ds Q B w0 s G := by subst hs; subst hg; exact h

theorem C.condT {c : Operand} {x y : Code} (hc : s.ev c = some (.bool true)) (h : C P ro n ds Q B w0 x s G) : C P ro n ds Q B w0 (.cond c x y) s G := fun a w ha hw => wpIn_cond_true (ha.ev hc) (h a w ha hw)
theorem C.condF {c : Operand} {x y : Code} (hc : s.ev c = some (.bool false)) (h : C P ro n ds Q B w0 y s G) : C P ro n ds Q B w0 (.cond c x y) s G := fun a w ha hw => wpIn_cond_false (ha.ev hc) (h a w ha hw)
/-- A branch, beside the same branch of the function in Lean. -/
theorem C.ite {α : Type} {p : Prop} [Decidable p] {E F : α} {r : α} {c : Operand} {x y : Code} (H : (if p then E else F) = r) (hc : s.ev c = some (.bool (decide p)))
    (ht : p → E = r → C P ro n ds Q B w0 x s G) (hf : ¬ p → F = r → C P ro n ds Q B w0 y s G) : C P ro n ds Q B w0 (.cond c x y) s G := by
  by_cases hp : p
  · rw [if_pos hp] at H
    exact C.condT (by rw [hc, decide_eq_true hp]) (ht hp H)
  · rw [if_neg hp] at H
    exact C.condF (by rw [hc, decide_eq_false hp]) (hf hp H)
theorem C.iteB {α : Type} {b : Bool} {E F : α} {r : α} {c : Operand} {x y : Code} (H : (if b = true then E else F) = r) (hc : s.ev c = some (.bool b))
    (ht : b = true → E = r → C P ro n ds Q B w0 x s G) (hf : b = false → F = r → C P ro n ds Q B w0 y s G) : C P ro n ds Q B w0 (.cond c x y) s G := by
  cases b
  · exact C.condF hc (hf rfl (by simpa using H))
  · exact C.condT hc (ht rfl (by simpa using H))
/-- A split, whatever code stands there. -/
theorem split2 {α : Type} {p : Prop} [Decidable p] {E F : α} {r : α} {goal : Prop} (H : (if p then E else F) = r) (ht : p → E = r → goal) (hf : ¬ p → F = r → goal) : goal := by
  by_cases hp : p
  · rw [if_pos hp] at H; exact ht hp H
  · rw [if_neg hp] at H; exact hf hp H
theorem nt {b : Bool} (h : ¬ b = true) : b = false := by cases b with | false => rfl | true => exact absurd rfl h
/-- A guard against a panic, in the Lean function. -/
def gd {α : Type} (p : Prop) [Decidable p] (x : Option α) : Option α := if p then x else none
theorem gd_some {α : Type} {p : Prop} [Decidable p] {x : Option α} {r : α} (H : gd p x = some r) : p ∧ x = some r := by
  unfold gd at H; split at H
  · exact ⟨‹_›, H⟩
  · cases H
theorem bind_some {α β : Type} {x : Option α} {f : α → Option β} {r : β} (H : x.bind f = some r) : ∃ v, x = some v ∧ f v = some r := by
  cases x with
  | none => cases H
  | some v => exact ⟨v, rfl, H⟩

/-- Where ways meet, a loop's next round: one state of a family. -/
def Meet {ι : Type} (n : Nat) (ds : List Deferred) (B : Nat) (w0 : World) (I : ι → Env) (Gi : ι → List HP) (p : ι → Prop) (a : Act) (w : World) : Prop := ∃ i, p i ∧ Ok n ds (I i) a ∧ St B w0 (Gi i) w
theorem N.meet {ι : Type} {I : ι → Env} {Gi : ι → List HP} {p : ι → Prop} (i : ι) (hp : p i) (hs : Sub (I i) s) (hg : ∀ w, St B w0 G w → St B w0 (Gi i) w) : N n ds (Exit.then (Meet n ds B w0 I Gi p) Q) B w0 s G :=
  fun a w ha hw => ⟨i, hp, ha.sub hs.get, hg w hw⟩
theorem C.join {ι : Type} {x y : Code} (I : ι → Env) (Gi : ι → List HP) (p : ι → Prop) (hx : C P ro n ds (Exit.then (Meet n ds B w0 I Gi p) Q) B w0 x s G) (hk : ∀ i, p i → C P ro n ds Q B w0 y (I i) (Gi i)) : C P ro n ds Q B w0 (.seq x y) s G :=
  fun a w ha hw => wpIn_seq (wpIn_mono (hx a w ha hw) fun e a w h => by
    cases e <;> first | exact h | (obtain ⟨i, hp, ha, hw⟩ := h; exact hk i hp a w ha hw))
/-- The same at the end of a region. -/
theorem J.join {ι : Type} {y : Code} (I : ι → Env) (Gi : ι → List HP) (p : ι → Prop) (hx : J P ro n ds ops (Exit.then (Meet n ds B w0 I Gi p) Q) B w0 rest s G) (hk : ∀ i, p i → C P ro n ds Q B w0 y (I i) (Gi i)) :
    J P ro n ds ops (Exit.then (y.wpIn (FW ro) 0 P Q) Q) B w0 rest s G := by
  intro a w ha hw
  have h := hx a w ha hw
  have mono : ∀ (l : List Oper) (Q1 Q2 : Exit → Act → World → Prop) (a : Act) (w : World), (∀ e a w, Q1 e a w → Q2 e a w) → wpListIn (FW ro) 0 P ops Q1 l a w → wpListIn (FW ro) 0 P ops Q2 l a w := by
    intro l
    induction l with
    | nil => intro Q1 Q2 a w hq h; exact hq _ _ _ h
    | cons o l ih =>
      intro Q1 Q2 a w hq h
      unfold wpListIn at h ⊢
      split
      · rename_i hw; rw [if_pos hw] at h
        refine ⟨h.1, ?_⟩
        have h2 := h.2
        revert h2
        generalize (o.semAt (FW ro).round a.eval).run P w = r
        intro h2
        cases r with
        | halt x w' =>
          cases x <;> first | exact h2 | exact hq _ _ _ h2
        | ok x w' =>
          cases x <;> first
            | exact h2
            | exact ih _ _ _ _ hq h2
            | (refine ⟨h2.1, h2.2.mono ?_⟩
               intro e w'' h3
               cases e with
               | returned v => exact ih _ _ _ _ hq h3
               | panicked c => exact hq _ _ _ h3
               | outgrown => obtain ⟨a, w, h⟩ := h3; exact ⟨a, w, hq _ _ _ h⟩)
            | (refine ⟨h2.1, h2.2.mono ?_⟩
               intro v w'' h3
               exact ih _ _ _ _ hq h3)
      · rename_i hw; rw [if_neg hw] at h
        exact ⟨h.1, ih _ _ _ _ hq h.2⟩
  exact mono rest _ _ a w (fun e a w h => by
    cases e <;> first | exact h | (obtain ⟨i, hp, ha, hw⟩ := h; exact hk i hp a w ha hw)) h

/-- What is left behind a piece that may return early. -/
def thn {R S : Type} (x : Option (R ⊕ S)) (k : S → Option R) : Option R :=
  match x with
  | none => none
  | some (.inl r) => some r
  | some (.inr s) => k s
def fin {R S : Type} (k : S → Option R) (r : R) : R ⊕ S → Prop
  | .inl q => q = r
  | .inr s => k s = some r
theorem thn_some {R S : Type} {x : Option (R ⊕ S)} {k : S → Option R} {r : R} (H : thn x k = some r) : ∃ o, x = some o ∧ fin k r o := by
  unfold thn at H
  split at H
  · cases H
  · rename_i q; exact ⟨.inl q, rfl, Option.some.inj H⟩
  · rename_i q; exact ⟨.inr q, rfl, H⟩
theorem C.joinB {α R ι : Type} {x y : Code} {E : Option α} {K : α → Option R} {r : R} (H : E.bind K = some r) (I : α → ι → Env) (Gi : α → ι → List HP) (Xf : α → ι → Prop)
    (hx : ∀ o, E = some o → K o = some r → C P ro n ds (Exit.then (Meet (ι := α × ι) n ds B w0 (fun i => I i.1 i.2) (fun i => Gi i.1 i.2) (fun i => K i.1 = some r ∧ Xf i.1 i.2)) Q) B w0 x s G)
    (hk : ∀ o j, K o = some r → Xf o j → C P ro n ds Q B w0 y (I o j) (Gi o j)) : C P ro n ds Q B w0 (.seq x y) s G := by
  obtain ⟨o, h1, h2⟩ := bind_some H
  exact C.join _ _ _ (hx o h1 h2) fun i hp => hk i.1 i.2 hp.1 hp.2
theorem C.joinR {α R ι : Type} {x y : Code} {E : Option (R ⊕ α)} {K : α → Option R} {r : R} (H : thn E K = some r) (I : α → ι → Env) (Gi : α → ι → List HP) (Xf : α → ι → Prop)
    (hx : ∀ o, E = some o → fin K r o → C P ro n ds (Exit.then (Meet (ι := α × ι) n ds B w0 (fun i => I i.1 i.2) (fun i => Gi i.1 i.2) (fun i => K i.1 = some r ∧ Xf i.1 i.2)) Q) B w0 x s G)
    (hk : ∀ o j, K o = some r → Xf o j → C P ro n ds Q B w0 y (I o j) (Gi o j)) : C P ro n ds Q B w0 (.seq x y) s G := by
  obtain ⟨o, h1, h2⟩ := thn_some H
  exact C.join _ _ _ (hx o h1 h2) fun i hp => hk i.1 i.2 hp.1 hp.2
theorem J.joinB {α R ι : Type} {y : Code} {E : Option α} {K : α → Option R} {r : R} (H : E.bind K = some r) (I : α → ι → Env) (Gi : α → ι → List HP) (Xf : α → ι → Prop)
    (hx : ∀ o, E = some o → K o = some r → J P ro n ds ops (Exit.then (Meet (ι := α × ι) n ds B w0 (fun i => I i.1 i.2) (fun i => Gi i.1 i.2) (fun i => K i.1 = some r ∧ Xf i.1 i.2)) Q) B w0 rest s G)
    (hk : ∀ o j, K o = some r → Xf o j → C P ro n ds Q B w0 y (I o j) (Gi o j)) : J P ro n ds ops (Exit.then (y.wpIn (FW ro) 0 P Q) Q) B w0 rest s G := by
  obtain ⟨o, h1, h2⟩ := bind_some H
  exact J.join _ _ _ (hx o h1 h2) fun i hp => hk i.1 i.2 hp.1 hp.2

theorem C.joinN {α R ι : Type} {x : Code} {E : Option α} {K : α → Option R} {r : R} (H : E.bind K = some r) (I : α → ι → Env) (Gi : α → ι → List HP) (Xf : α → ι → Prop)
    (hx : ∀ o, E = some o → K o = some r → C P ro n ds (Exit.then (Meet (ι := α × ι) n ds B w0 (fun i => I i.1 i.2) (fun i => Gi i.1 i.2) (fun i => K i.1 = some r ∧ Xf i.1 i.2)) Q) B w0 x s G)
    (hk : ∀ o j, K o = some r → Xf o j → N n ds Q B w0 (I o j) (Gi o j)) : C P ro n ds Q B w0 x s G := by
  obtain ⟨o, h1, h2⟩ := bind_some H
  exact fun a w ha hw => wpIn_mono (hx o h1 h2 a w ha hw) fun e a w h => by
    cases e <;> first | exact h | (obtain ⟨i, hp, ha, hw⟩ := h; exact hk i.1 i.2 hp.1 hp.2 a w ha hw)
theorem C.joinNR {α R ι : Type} {x : Code} {E : Option (R ⊕ α)} {K : α → Option R} {r : R} (H : thn E K = some r) (I : α → ι → Env) (Gi : α → ι → List HP) (Xf : α → ι → Prop)
    (hx : ∀ o, E = some o → fin K r o → C P ro n ds (Exit.then (Meet (ι := α × ι) n ds B w0 (fun i => I i.1 i.2) (fun i => Gi i.1 i.2) (fun i => K i.1 = some r ∧ Xf i.1 i.2)) Q) B w0 x s G)
    (hk : ∀ o j, K o = some r → Xf o j → N n ds Q B w0 (I o j) (Gi o j)) : C P ro n ds Q B w0 x s G := by
  obtain ⟨o, h1, h2⟩ := thn_some H
  exact fun a w ha hw => wpIn_mono (hx o h1 h2 a w ha hw) fun e a w h => by
    cases e <;> first | exact h | (obtain ⟨i, hp, ha, hw⟩ := h; exact hk i.1 i.2 hp.1 hp.2 a w ha hw)
theorem fin_inl {R S : Type} {k : S → Option R} {r q : R} (h : fin k r (.inl q)) : q = r := h
theorem fin_inr {R S : Type} {k : S → Option R} {r : R} {s : S} (h : fin k r (.inr s)) : k s = some r := h
def Again {ι : Type} (n : Nat) (ds : List Deferred) (B : Nat) (w0 : World) (I : ι → Env) (Gi : ι → List HP) (p : ι → Prop) (mu : ι → Nat) (m : Nat) (a : Act) (w : World) : Prop := ∃ j, p j ∧ mu j < m ∧ Ok n ds (I j) a ∧ St B w0 (Gi j) w
theorem N.again {ι : Type} {I : ι → Env} {Gi : ι → List HP} {p : ι → Prop} {mu : ι → Nat} {m : Nat} (j : ι) (hp : p j) (hm : mu j < m) (hs : Sub (I j) s) (hg : ∀ w, St B w0 G w → St B w0 (Gi j) w) : N n ds (Exit.then (Again n ds B w0 I Gi p mu m) Q) B w0 s G :=
  fun a w ha hw => ⟨j, hp, hm, ha.sub hs.get, hg w hw⟩
theorem exists_min {S : Nat → Prop} (h : ∃ m, S m) : ∃ m, S m ∧ ∀ k, S k → m ≤ k := by
  obtain ⟨m, hm⟩ := h
  induction m using Nat.strongRecOn with
  | _ m ih =>
    by_cases h : ∃ k, k < m ∧ S k
    · obtain ⟨k, hk, hs⟩ := h; exact ih k hk hs
    · exact ⟨m, hm, fun k hk => Nat.le_of_not_lt fun hlt => h ⟨k, hlt, hk⟩⟩
open Classical in
noncomputable def least (S : Nat → Prop) : Nat := if h : ∃ m, S m then Classical.choose (exists_min h) else 0
theorem least_spec {S : Nat → Prop} (h : ∃ m, S m) : S (least S) ∧ ∀ k, S k → least S ≤ k := by
  unfold least; rw [dif_pos h]; exact Classical.choose_spec (exists_min h)
theorem C.loop {ι : Type} {c : Code} (I : ι → Env) (Gi : ι → List HP) (p : ι → Prop) (mu : ι → Nat) (i : ι) (hp : p i) (hs : Sub (I i) s) (hg : ∀ w, St B w0 G w → St B w0 (Gi i) w)
    (round : ∀ i, p i → C P ro n ds (Exit.then (Again n ds B w0 I Gi p mu (mu i)) Q) B w0 c (I i) (Gi i)) : C P ro n ds Q B w0 (.loop c) s G := by
  intro a w ha hw
  refine wpIn_loop (fun a w => ∃ m i, mu i = m ∧ p i ∧ Ok n ds (I i) a ∧ St B w0 (Gi i) w) (fun a w => least fun m => ∃ i, mu i = m ∧ p i ∧ Ok n ds (I i) a ∧ St B w0 (Gi i) w)
    ⟨mu i, i, rfl, hp, ha.sub hs.get, hg w hw⟩ ?_
  intro a w h
  obtain ⟨⟨i, hm, hp, ha, hw⟩, _⟩ := least_spec h
  refine wpIn_mono (round i hp a w ha hw) fun e a' w' hq => ?_
  cases e with
  | normal =>
    obtain ⟨j, hpj, hlt, haj, hwj⟩ := hq
    refine ⟨⟨mu j, j, rfl, hpj, haj, hwj⟩, ?_⟩
    rw [← hm]
    exact Nat.lt_of_le_of_lt ((least_spec (S := fun m => ∃ i, mu i = m ∧ p i ∧ Ok n ds (I i) a' ∧ St B w0 (Gi i) w') ⟨mu j, j, rfl, hpj, haj, hwj⟩).2 _ ⟨j, rfl, hpj, haj, hwj⟩) hlt
  | exit id => exact hq
  | goto l => exact hq
  | ret => exact hq
  | panic c => exact hq
  | outgrown => exact hq

/-! ### Calls, entries, returns -/
def GoF (P : Program) (f : FuncId) : Prop := ∀ args w, (callFunc f args).run P w = .ok (.enter f args) w
theorem GoF.of {f : FuncId} {fn : Func} (hf : P.funcs[f]? = some fn) (hn : (fn.name == "runtime.NumGoroutine") = false) (hb : fn.body.isNone = false) : GoF P f := by
  intro args w
  have h1 : ¬ fn.name = "runtime.NumGoroutine" := by simpa using hn
  have h2 : ¬ fn.body = none := by intro e; rw [e] at hb; simp at hb
  simp [callFunc, hf, h1, h2]
theorem calls_in {f : FuncId} {args : Array Value} {w : World} {R : Ending → World → Prop} (h : Calls P f args w R) : CallsIn (FW ro) 0 P f args w R := by
  have := (callsIn_wide (n := 0)).2 h
  cases ro with
  | none => exact this
  | some l => exact this
theorem J.call {d : Nat} {ty : TypeId} {pos : String} {aft : Array Edge} {fo : Operand} {xs : Array Operand} {ts : Array TypeId} {f : FuncId} {us cap vs : List Value} {R : Ending → World → Prop}
    (hd : Nat.blt d n = true) (hf : s.ev fo = some (.func (.func f) us.toArray cap.toArray)) (hx : s.evs xs.toList = some vs) (hgo : GoF P f)
    (hc : ∀ w, St B w0 G w → Calls P f (us ++ vs ++ cap).toArray w R)
    (k : ∀ e w', R e w' → ∃ v G', e = .returned v ∧ St B w0 G' w' ∧ J P ro n ds ops Q B w0 rest ((d, v) :: s) G') :
    J P ro n ds ops Q B w0 (⟨some d, .call { callee := .value fo, args := xs, argTypes := ts }, ty, pos, aft, none⟩ :: rest) s G := by
  intro a w ha hw
  have e1 : xs.map a.eval = vs.toArray := by rw [← ha.evs hx]; exact Array.ext' (by simp)
  refine wpListIn_plain rfl fun K hK => ?_
  refine ⟨fun f _ => fw_true f, ?_⟩
  show Oper.uponIn _ _ _ _ _ _ _ ((Oper.semAt (FW ro).round a.eval _).run P w)
  rw [sem_at (o := ⟨some d, .call { callee := .value fo, args := xs, argTypes := ts }, ty, pos, aft, none⟩) _ _ (by simp)]
  have hr : (execOp a.eval ⟨some d, .call { callee := .value fo, args := xs, argTypes := ts }, ty, pos, aft, none⟩).run P w = .ok (.enter f (us ++ vs ++ cap).toArray) w := by
    have h2 := hgo (us ++ vs ++ cap).toArray w
    simp only [execOp, resolve, Deferred.ofValue, Sem.run_bind, Sem.run_pure, ha.ev hf, e1, Result.andThen_ok, invoke, List.append_toArray, h2]
  rw [hr]
  refine ⟨by simp [FW], (calls_in (hc w hw)).mono fun e w' he => ?_⟩
  obtain ⟨v, G', rfl, hw', hj⟩ := k e w' he
  exact hK _ _ (hj _ _ (ha.put hd v) hw')

def argsEnv : Nat → List Value → Env
  | _, [] => []
  | i, v :: r => (i, v) :: argsEnv (i + 1) r
theorem argsEnv_get : ∀ {l : List Value} {i k : Nat} {v : Value}, (argsEnv i l).get k = some v → ∃ j, k = i + j ∧ l[j]? = some v
  | [], i, k, v, h => by simp [argsEnv, Env.get] at h
  | u :: r, i, k, v, h => by
    simp only [argsEnv, Env.get_cons] at h
    split at h
    · rename_i e; subst e; cases h; exact ⟨0, rfl, rfl⟩
    · obtain ⟨j, rfl, hj⟩ := argsEnv_get h
      exact ⟨j + 1, by omega, hj⟩
theorem calls_of {f : FuncId} {fn : Func} {c : Code} {args : List Value} {w : World} {R : Ending → World → Prop} (hf : P.funcs[f]? = some fn) (hb : fn.body = some c) (hn : fn.ntmps = n) (hs : argsEnv 0 args = s) (hl : Nat.ble args.length n = true)
    (h : C P none n [] (bodyPost P fn R) B w0 c s G) (hw : St B w0 G w) : Calls P f args.toArray w R := by
  refine (callsIn_wide (n := 0)).1 (callsIn_of_wp hf hb trivial ?_)
  refine h _ w ⟨?_, rfl, ?_⟩ hw
  · have := Nat.le_of_ble_eq_true hl
    simp [hn]; omega
  · intro k v hk
    subst hs
    obtain ⟨j, rfl, hj⟩ := argsEnv_get hk
    rw [Nat.zero_add]
    have : j < args.length := by
      rcases Nat.lt_or_ge j args.length with h | h
      · exact h
      · rw [List.getElem?_eq_none h] at hj; cases hj
    simp only [Array.getElem?_append, List.size_toArray, this, if_true]
    simpa using hj

def tupled : List Value → Value
  | [v] => v
  | vs => .tuple vs.toArray
theorem run_mapM_tmps {w : World} (g : ResultVar → Sem Value) (u : Nat → Value) (hg : ∀ k, (g (.tmp k)).run P w = .ok (u k) w) (ks : List Nat) : (Array.mapM g (ks.map fun k => ResultVar.tmp k).toArray).run P w = .ok (ks.map u).toArray w := by
  rw [List.mapM_toArray]
  have : ∀ l : List Nat, (List.mapM g (l.map fun k => ResultVar.tmp k)).run P w = .ok (l.map u) w := by
    intro l
    induction l with
    | nil => simp
    | cons k l ih => simp only [List.map_cons, List.mapM_cons, Sem.run_bind, ih, hg, Result.andThen_ok, Sem.run_pure]
  simp only [Sem.run_map, this, Result.andThen_ok]
theorem run_results {fn : Func} {ks : List Nat} {vs : List Value} {a : Act} (hres : fn.results = (ks.map fun k => ResultVar.tmp k).toArray) (ha : Ok n ds s a) (hv : s.evs (ks.map .tmp) = some vs) (w : World) : (results fn a.tmps).run P w = .ok (tupled vs) w := by
  have h := ha.evs hv
  unfold results
  rw [hres]
  simp only [Sem.run_bind]
  rw [run_mapM_tmps (P := P) (w := w) _ (fun k => a.tmps.getD k undef) (fun k => by simp)]
  have h' : (ks.map fun k => a.tmps.getD k undef) = vs := by rw [← h, List.map_map]; rfl
  rw [h']
  simp only [Result.andThen_ok]
  cases vs with
  | nil => simp [tupled]
  | cons v r =>
    cases r with
    | nil => simp [tupled]
    | cons u r => simp [tupled]
theorem ret_ok {fn : Func} {R : Ending → World → Prop} {ks : List Nat} {vs : List Value} (hres : fn.results = (ks.map fun k => ResultVar.tmp k).toArray) (hv : s.evs (ks.map .tmp) = some vs) (hR : ∀ w, St B w0 G w → R (.returned (tupled vs)) w) :
    T n [] (bodyPost P fn R) B w0 s G := fun a w ha hw => ⟨ha.dfr, _, run_results hres ha hv w, hR w hw⟩
theorem end_ok {fn : Func} {R : Ending → World → Prop} {ks : List Nat} {vs : List Value} (hres : fn.results = (ks.map fun k => ResultVar.tmp k).toArray) (hv : s.evs (ks.map .tmp) = some vs) (hR : ∀ w, St B w0 G w → R (.returned (tupled vs)) w) :
    N n [] (bodyPost P fn R) B w0 s G := fun a w ha hw => ⟨ha.dfr, _, run_results hres ha hv w, hR w hw⟩

end Go.Sx
