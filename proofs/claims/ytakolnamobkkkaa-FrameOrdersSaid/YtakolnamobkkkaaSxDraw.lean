/- Own text. Regions whose order of evaluation is drawn: operations that only look are carried out first, the others in their one order. -/
import Derived.Test.YtakolnamobkkkaaSxCtl
import Derived.OrdersIn
set_option linter.unusedSimpArgs false
set_option linter.unusedVariables false
namespace Go.Sx
open Go Go.RowKit
variable {P : Program} {ro : Option Nat} {n : Nat} {ds : List Deferred} {ops : Array Oper} {Q : Exit → Act → World → Prop} {rest : List Oper} {s s' : Env}
variable {B : Nat} {w0 : World} {G G' : List HP}

def noQ : Exit → Act → World → Prop := fun _ _ _ => False
/-- One operation of a region, none of whose ways out is a panic. -/
abbrev wop (P : Program) (ro : Option Nat) (ops : Array Oper) (i : Nat) (K : Act → World → Prop) (a : Act) (w : World) : Prop := wpOpIn (FW ro) 0 P ops noQ i K a w

def plainOps (ops : Array Oper) : Bool := ops.all plainOp
theorem plain_sel (h : plainOps ops = true) {i : Nat} {o : Oper} (hi : ops[i]? = some o) : (∀ cs b, o.op ≠ .select cs b) ∧ ∀ c, o.op ≠ .defer c := by
  have := Array.all_eq_true_iff_forall_mem.1 h o (Array.mem_of_getElem? hi)
  constructor
  · intro cs b e; simp [plainOp, e] at this
  · intro c e; simp [plainOp, e] at this

/-- In every world that meets S the operation hands back v and changes nothing. -/
def Yl (P : Program) (ops : Array Oper) (S : World → Prop) (o : Oper) (v : Value) (a : Act) : Prop :=
  (Region.wanted o (yielded ops a.tmps) = true ∧ ∀ w, S w → (execOp a.eval o).run P w = .ok (.value v) w) ∨
  (Region.wanted o (yielded ops a.tmps) = false ∧ v = undef)
theorem Yl.same {S : World → Prop} {o : Oper} {v : Value} {a a' : Act} (h : Yl P ops S o v a) (he : execOp a'.eval o = execOp a.eval o)
    (hw : Region.wanted o (yielded ops a'.tmps) = Region.wanted o (yielded ops a.tmps)) : Yl P ops S o v a' := by unfold Yl at *; rw [he, hw]; exact h
theorem Yl.wop {S : World → Prop} {i : Nat} {o : Oper} {v : Value} {a : Act} (hp : plainOps ops = true) (hi : ops[i]? = some o) (hy : Yl P ops S o v a) {K : Act → World → Prop} {w : World} (hS : S w) (h : K (a.put o.dst v) w) :
    wop P ro ops i K a w := by
  unfold Sx.wop wpOpIn
  simp only [hi]
  rcases hy with ⟨hw, hv⟩ | ⟨hw, rfl⟩
  · rw [if_pos hw]
    refine ⟨fun f _ => fw_true f, ?_⟩
    show Oper.uponIn _ _ _ _ _ _ _ ((Oper.semAt (FW ro).round a.eval o).run P w)
    rw [sem_at _ _ (plain_sel hp hi).2, hv w hS]
    exact h
  · rw [if_neg (by rw [hw]; simp)]
    exact ⟨fun f _ => fw_true f, h⟩
/-- Whether the one's value already stands in its slot makes no difference to the other. -/
theorem wop_put {S : World → Prop} {j : Nat} {oi oj : Oper} {v : Value} (hp : plainOps ops = true) {i : Nat} (hi : ops[i]? = some oi) (hj : ops[j]? = some oj) (hap : oi.apart ops oj = true)
    {K : Act → World → Prop} {a : Act} {w : World} (hy : Yl P ops S oi v a) (h : wop P ro ops j K (a.put oi.dst v) w) :
    wop P ro ops j (fun a' w' => Yl P ops S oi v a' ∧ K (a'.put oi.dst v) w') a w := by
  obtain ⟨h1, h2, h3⟩ := Oper.apart_spec hap
  have hsi := (plain_sel hp hi).1
  have hsj := (plain_sel hp hj).1
  have hndj := (plain_sel hp hj).2
  have keep : ∀ (a : Act), Yl P ops S oi v a → ∀ u, Yl P ops S oi v (a.put oj.dst u) := fun a hy u =>
    hy.same (execOp_put oi hsi a oj.dst u h3) (wanted_put oi a oj.dst u h3)
  unfold wop wpOpIn at *
  simp only [hj] at *
  rw [wanted_put oj a oi.dst v h1] at h
  split
  · rename_i hw
    rw [if_pos hw] at h
    refine ⟨fun f _ => fw_true f, ?_⟩
    have h' := h.2
    rw [sem_at _ _ hndj] at h' ⊢
    rw [execOp_put oj hsj a oi.dst v h1] at h'
    generalize (execOp a.eval oj).run P w = r at *
    cases r with
    | ok x w' =>
      cases x <;> simp only [Oper.uponIn] at h' ⊢
      case value u => exact ⟨keep a hy u, by rw [← Act.put_comm a v u h2]; exact h'⟩
      case skip => exact ⟨keep a hy _, by rw [← Act.put_comm a v undef h2]; exact h'⟩
      case defer d =>
        refine ⟨keep { a with defers := d :: a.defers } (hy.same rfl rfl) _, ?_⟩
        rw [← Act.put_comm _ v undef h2, ← Act.put_defers]
        exact h'
      case enter f args =>
        refine ⟨h'.1, h'.2.mono fun e w'' he => ?_⟩
        cases e with
        | returned u => exact ⟨keep a hy u, by rw [← Act.put_comm a v u h2]; exact he⟩
        | panicked c => exact he
        | outgrown => exact he
      case row row args => exact ⟨h'.1, h'.2.mono fun u w'' he => ⟨keep a hy u, by rw [← Act.put_comm a v u h2]; exact he⟩⟩
      case round l f tmps assign body =>
        refine ⟨h'.1, h'.2.mono fun e w'' he => ?_⟩
        cases e with
        | returned u => exact ⟨keep a hy u, by rw [← Act.put_comm a v u h2]; exact he⟩
        | panicked c => exact he
        | outgrown => exact he
    | halt x w' => cases x <;> simp only [Oper.uponIn] at h' ⊢ <;> exact h'.elim
  · rename_i hw
    rw [if_neg hw] at h
    exact ⟨fun f _ => fw_true f, keep a hy _, by rw [← Act.put_comm a v undef h2]; exact h.2⟩

/-- Whatever order is drawn; behind an operation of which it is asked, S holds. -/
def wpG (P : Program) (ro : Option Nat) (ops : Array Oper) (S : World → Prop) (dem : Nat → Bool) (F : Act → World → Prop) : Nat → Array Bool → Act → World → Prop
  | 0, listed, a, w => Region.ready .any ops listed = [] ∧ F a w
  | fuel + 1, listed, a, w => (Region.ready .any ops listed = [] → F a w) ∧
    ∀ i ∈ Region.ready .any ops listed, wop P ro ops i (fun a' w' => (dem i = true → S w → S w') ∧ wpG P ro ops S dem F fuel (listed.setIfInBounds i true) a' w') a w
theorem wpOpIn_quit {i : Nat} {K : Act → World → Prop} {a : Act} {w : World} (h : wop P ro ops i K a w) : wpOpIn (FW ro) 0 P ops Q i K a w := by
  unfold wop wpOpIn at *
  split
  · rename_i ho; simp only [ho] at h; exact h
  · rename_i o ho
    simp only [ho] at h
    split
    · rename_i hw; rw [if_pos hw] at h
      refine ⟨h.1, ?_⟩
      have h2 := h.2
      generalize (o.semAt (FW ro).round a.eval).run P w = r at *
      cases r with
      | ok x w' =>
        cases x <;> simp only [Oper.uponIn] at h2 ⊢ <;> first
          | exact h2
          | (refine ⟨h2.1, h2.2.mono fun e w'' he => ?_⟩
             cases e with
             | returned v => exact he
             | panicked c => exact he.elim
             | outgrown => obtain ⟨_, _, hf⟩ := he; exact hf.elim)
      | halt x w' => cases x <;> simp only [Oper.uponIn] at h2 ⊢ <;> exact h2.elim
    · rename_i hw; rw [if_neg hw] at h; exact h
theorem wpAny_of_G {S : World → Prop} {dem : Nat → Bool} : ∀ (fuel : Nat) (listed : Array Bool) (a : Act) (w : World), wpG P ro ops S dem (Q .normal) fuel listed a w → wpAnyIn (FW ro) 0 P .any ops Q fuel listed a w
  | 0, _, _, _, h => h
  | fuel + 1, _, _, _, h => ⟨h.1, fun i hi => wpOpIn_quit (wpOpIn_mono (fun a' w' h' => wpAny_of_G fuel _ a' w' h'.2) (h.2 i hi))⟩

/-! ### What is ahead of what -/
def afters (ops : Array Oper) (j : Nat) : List Nat := match ops[j]? with
  | some o => (o.after.toList.filter (Region.binds .any)).map (·.on)
  | none => []
def anc (ops : Array Oper) : Nat → Nat → List Nat
  | 0, _ => []
  | f + 1, j => afters ops j ++ (afters ops j).flatMap (anc ops f)
def Shut (ops : Array Oper) (listed : Array Bool) : Prop := ∀ j, listed.getD j false = true → ∀ k ∈ afters ops j, listed.getD k false = true
theorem anc_listed {listed : Array Bool} (hs : Shut ops listed) : ∀ (f j : Nat), (∀ k ∈ afters ops j, listed.getD k false = true) → ∀ k ∈ anc ops f j, listed.getD k false = true
  | 0, _, _, k, hk => by simp [anc] at hk
  | f + 1, j, hj, k, hk => by
    simp only [anc, List.mem_append, List.mem_flatMap] at hk
    rcases hk with hk | ⟨m, hm, hk⟩
    · exact hj k hk
    · exact anc_listed hs f m (hs m (hj m hm)) k hk
theorem ready_afters {listed : Array Bool} {j : Nat} (h : j ∈ Region.ready .any ops listed) : ∀ k ∈ afters ops j, listed.getD k false = true := by
  obtain ⟨_, o, ho, hall⟩ := mem_ready.1 h
  intro k hk
  simp only [afters, ho, List.mem_map, List.mem_filter, Array.mem_toList_iff] at hk
  obtain ⟨e, ⟨he, hb⟩, rfl⟩ := hk
  exact hall e he hb
theorem getD_true {listed : Array Bool} {i : Nat} (h : listed.getD i true = false) : listed.getD i false = false := by
  rw [Array.getD_eq_getD_getElem?] at *
  cases hl : listed[i]? with
  | none => rw [hl] at h; simp at h
  | some b => rw [hl] at h; simpa using h
theorem Shut.set {listed : Array Bool} {j : Nat} (hs : Shut ops listed) (h : j ∈ Region.ready .any ops listed) : Shut ops (listed.setIfInBounds j true) := by
  intro k hk m hm
  have step : ∀ m, listed.getD m false = true → (listed.setIfInBounds j true).getD m false = true := fun m hm => getD_set_true hm
  by_cases e : j = k
  · subst e; exact step m (ready_afters h m hm)
  · rw [getD_set_ne false e] at hk
    exact step m (hs k hk m hm)

/-- **An operation that only looks may be carried out first.** ('look': it looks at memory; then what may come ahead of it must leave S.) -/
theorem wpG_first {S : World → Prop} {dem : Nat → Bool} {F : Act → World → Prop} (hp : plainOps ops = true) {i : Nat} {oi : Oper} {v : Value} (hi : ops[i]? = some oi) (f : Nat) (look : Bool)
    (hdem : look = true → ∀ j, j < ops.size → j ≠ i → i ∉ anc ops f j → dem j = true) :
    ∀ (fuel : Nat) (listed : Array Bool) (a : Act) (w : World), Shut ops listed →
      (∀ j oj, ops[j]? = some oj → j ≠ i → listed.getD j true = false → (∀ e ∈ oj.after, Region.binds .any e = true → e.on ≠ i) → oi.apart ops oj = true) →
      i ∈ Region.ready .any ops listed → Yl P ops (fun w => look = true → S w) oi v a → (look = true → S w) →
      wpG P ro ops S dem F fuel (listed.setIfInBounds i true) (a.put oi.dst v) w → wpG P ro ops S dem F (fuel + 1) listed a w := by
  intro fuel
  induction fuel with
  | zero =>
    intro listed a w hsh _ hr hy hS H
    refine ⟨fun h => (by rw [h] at hr; cases hr), fun j hj => ?_⟩
    by_cases hji : j = i
    · subst hji; exact hy.wop hp hi hS ⟨fun _ h => h, H⟩
    · have := ready_mono hj hji
      rw [H.1] at this
      cases this
  | succ fuel ih =>
    intro listed a w hsh hfree hr hy hS H
    refine ⟨fun h => (by rw [h] at hr; cases hr), fun j hj => ?_⟩
    by_cases hji : j = i
    · subst hji; exact hy.wop hp hi hS ⟨fun _ h => h, H⟩
    · have h1 := H.2 j (ready_mono hj hji)
      obtain ⟨hjun, oj, hoj, hall⟩ := mem_ready.1 hj
      have hiun : listed.getD i false = false := getD_true (mem_ready.1 hr).1
      have hnot : ∀ e ∈ oj.after, Region.binds .any e = true → e.on ≠ i := fun e he hb heq => by
        have h1 := hall e he hb
        rw [heq, hiun] at h1; cases h1
      have hnanc : i ∉ anc ops f j := fun h => by
        have := anc_listed hsh f j (ready_afters hj) i h
        rw [hiun] at this; cases this
      have hjs : j < ops.size := (Array.getElem?_eq_some_iff.1 hoj).1
      have h2 := wop_put hp hi hoj (hfree j oj hoj hji hjun hnot) hy h1
      have hfree' : ∀ k ok, ops[k]? = some ok → k ≠ i → (listed.setIfInBounds j true).getD k true = false →
          (∀ e ∈ ok.after, Region.binds .any e = true → e.on ≠ i) → oi.apart ops ok = true := fun k ok hk hki hun hno => by
        refine hfree k ok hk hki ?_ hno
        by_cases hjk : j = k
        · subst hjk; exact hjun
        · rw [getD_set_ne true hjk] at hun; exact hun
      refine wpOpIn_mono (fun a' w' h3 => ?_) h2
      have hS' : look = true → S w' := fun hl => h3.2.1 (hdem hl j hjs hji hnanc) (hS hl)
      refine ⟨h3.2.1, ih (listed.setIfInBounds j true) a' w' (hsh.set hj) hfree' (ready_mono hr (Ne.symm hji)) h3.1 hS' ?_⟩
      rw [Array.setIfInBounds_comm _ _ hji]
      exact h3.2.2

/-! ### What is left of such a region -/
def freeB (ops : Array Oper) (ls : List Bool) (oi : Oper) (i : Nat) : Bool :=
  (List.range ops.size).all fun j => Nat.beq j i || ls.getD j true || (match ops[j]? with
    | some oj => oj.after.any (fun e => Region.binds .any e && Nat.beq e.on i) || oi.apart ops oj
    | none => true)
def dm (eff : List Nat) (j : Nat) : Bool := !eff.contains j
def demB (ops : Array Oper) (eff : List Nat) (f i : Nat) : Bool := (List.range ops.size).all fun j => Nat.beq j i || (anc ops f j).contains i || dm eff j
def SS (B : Nat) (w0 : World) (Gr : List HP) (w : World) : Prop := ∃ L, St B w0 (L ++ Gr) w
def okQ (ops : Array Oper) (ls : List Bool) (oi : Oper) (i : Nat) : Bool := plainOps ops && ((Region.ready .any ops ls.toArray).contains i && freeB ops ls oi i)
/-- ops whose numbers are in ls are done; those of eff may change what is looked at (Gr). -/
def D (P : Program) (ro : Option Nat) (n : Nat) (ds : List Deferred) (ops : Array Oper) (eff : List Nat) (Q : Exit → Act → World → Prop) (B : Nat) (w0 : World) (Gr : List HP) (fuel : Nat) (ls : List Bool) (s : Env) (G : List HP) : Prop :=
  Shut ops ls.toArray → ∀ a w, Ok n ds s a → St B w0 G w → wpG P ro ops (SS B w0 Gr) (dm eff) (Q .normal) fuel ls.toArray a w
variable {eff : List Nat} {Gr : List HP} {fuel : Nat} {ls ls' : List Bool}

theorem set_ls (i : Nat) (hls : ls.set i true = ls') : ls.toArray.setIfInBounds i true = ls'.toArray := by subst hls; simp
theorem freeB_spec {oi : Oper} {i : Nat} (h : freeB ops ls oi i = true) : ∀ j oj, ops[j]? = some oj → j ≠ i → ls.toArray.getD j true = false → (∀ e ∈ oj.after, Region.binds .any e = true → e.on ≠ i) → oi.apart ops oj = true := by
  intro j oj hj hji hl hno
  have hjs : j < ops.size := (Array.getElem?_eq_some_iff.1 hj).1
  have h1 := List.all_eq_true.1 h j (List.mem_range.2 hjs)
  have e1 : Nat.beq j i = false := by
    cases e : Nat.beq j i with
    | false => rfl
    | true => exact absurd (Nat.eq_of_beq_eq_true e) hji
  have e2 : ls.getD j true = false := by simpa [Array.getD_eq_getD_getElem?, List.getD_eq_getElem?_getD] using hl
  simp only [e1, e2, Bool.false_or, hj, Bool.or_eq_true] at h1
  rcases h1 with h1 | h1
  · rw [Array.any_eq_true'] at h1
    obtain ⟨e, he, hb⟩ := h1
    rw [Bool.and_eq_true] at hb
    exact absurd (Nat.eq_of_beq_eq_true hb.2) (hno e he hb.1)
  · exact h1
theorem demB_spec {f i : Nat} (h : demB ops eff f i = true) : ∀ j, j < ops.size → j ≠ i → i ∉ anc ops f j → dm eff j = true := by
  intro j hj hji hn
  have h1 := List.all_eq_true.1 h j (List.mem_range.2 hj)
  have e1 : Nat.beq j i = false := by
    cases e : Nat.beq j i with
    | false => rfl
    | true => exact absurd (Nat.eq_of_beq_eq_true e) hji
  have e2 : (anc ops f j).contains i = false := by
    cases e : (anc ops f j).contains i with
    | false => rfl
    | true => exact absurd (by simpa using e) hn
  rw [e1, e2] at h1
  exact h1
theorem okQ_spec {oi : Oper} {i : Nat} (h : okQ ops ls oi i = true) : plainOps ops = true ∧ i ∈ Region.ready .any ops ls.toArray ∧ freeB ops ls oi i = true := by
  unfold okQ at h
  rw [Bool.and_eq_true, Bool.and_eq_true] at h
  exact ⟨h.1, by simpa using h.2.1, h.2.2⟩

theorem D.p {oi : Oper} {d : Nat} {v : Value} (i : Nat) (hi : ops[i]? = some oi) (hd : oi.dst = some d) (hn : Nat.blt d n = true) (hg : gval ops s oi.guard = some true) (hok : okQ ops ls oi i = true) (hls : ls.set i true = ls')
    (h : Qp P n ds oi s v) (k : D P ro n ds ops eff Q B w0 Gr fuel ls' ((d, v) :: s) G) : D P ro n ds ops eff Q B w0 Gr (fuel + 1) ls s G := by
  intro hsh a w ha hw
  obtain ⟨hp, hr, hf⟩ := okQ_spec hok
  have hsh' := hsh.set hr
  rw [set_ls i hls] at hsh'
  refine wpG_first hp hi 0 false (fun e => by cases e) fuel ls.toArray a w hsh (freeB_spec hf) hr (Or.inl ⟨gval_wanted ha hg, fun w _ => h a w ha⟩) (fun e => by cases e) ?_
  rw [set_ls i hls, hd]
  exact k hsh' _ _ (ha.put hn v) hw
theorem D.r {oi : Oper} {d : Nat} {v : Value} (i f m : Nat) (hi : ops[i]? = some oi) (hd : oi.dst = some d) (hn : Nat.blt d n = true) (hg : gval ops s oi.guard = some true) (hok : okQ ops ls oi i = true) (hdem : demB ops eff f i = true) (hls : ls.set i true = ls')
    (hG : G.drop m = Gr) (h : Qs P n ds B w0 oi s Gr v) (k : D P ro n ds ops eff Q B w0 Gr fuel ls' ((d, v) :: s) G) : D P ro n ds ops eff Q B w0 Gr (fuel + 1) ls s G := by
  intro hsh a w ha hw
  obtain ⟨hp, hr, hf⟩ := okQ_spec hok
  have hsh' := hsh.set hr
  rw [set_ls i hls] at hsh'
  have hS : SS B w0 Gr w := ⟨G.take m, by rw [← hG, List.take_append_drop]; exact hw⟩
  refine wpG_first (v := v) hp hi f true (fun _ => demB_spec hdem) fuel ls.toArray a w hsh (freeB_spec hf) hr (Or.inl ⟨gval_wanted ha hg, fun w hw => ?_⟩) (fun _ => hS) ?_
  · obtain ⟨L, hL⟩ := hw rfl
    exact h L a w ha hL
  rw [set_ls i hls, hd]
  exact k hsh' _ _ (ha.put hn v) hw
theorem D.off {oi : Oper} {d : Nat} (i : Nat) (hi : ops[i]? = some oi) (hd : oi.dst = some d) (hn : Nat.blt d n = true) (hg : gval ops s oi.guard = some false) (hok : okQ ops ls oi i = true) (hls : ls.set i true = ls')
    (k : D P ro n ds ops eff Q B w0 Gr fuel ls' ((d, undef) :: s) G) : D P ro n ds ops eff Q B w0 Gr (fuel + 1) ls s G := by
  intro hsh a w ha hw
  obtain ⟨hp, hr, hf⟩ := okQ_spec hok
  have hsh' := hsh.set hr
  rw [set_ls i hls] at hsh'
  refine wpG_first hp hi 0 false (fun e => by cases e) fuel ls.toArray a w hsh (freeB_spec hf) hr (Or.inr ⟨gval_wanted ha hg, rfl⟩) (fun e => by cases e) ?_
  rw [set_ls i hls, hd]
  exact k hsh' _ _ (ha.put hn undef) hw
theorem D.off0 {oi : Oper} (i : Nat) (hi : ops[i]? = some oi) (hd : oi.dst = none) (hg : gval ops s oi.guard = some false) (hok : okQ ops ls oi i = true) (hls : ls.set i true = ls')
    (k : D P ro n ds ops eff Q B w0 Gr fuel ls' s G) : D P ro n ds ops eff Q B w0 Gr (fuel + 1) ls s G := by
  intro hsh a w ha hw
  obtain ⟨hp, hr, hf⟩ := okQ_spec hok
  have hsh' := hsh.set hr
  rw [set_ls i hls] at hsh'
  refine wpG_first hp hi 0 false (fun e => by cases e) fuel ls.toArray a w hsh (freeB_spec hf) hr (Or.inr ⟨gval_wanted ha hg, rfl⟩) (fun e => by cases e) ?_
  rw [set_ls i hls, hd]
  exact k hsh' _ _ ha hw
theorem D.nil (hr : Region.ready .any ops ls.toArray = []) (h : N n ds Q B w0 s G) : D P ro n ds ops eff Q B w0 Gr fuel ls s G := by
  intro hsh a w ha hw
  cases fuel with
  | zero => exact ⟨hr, h a w ha hw⟩
  | succ m => exact ⟨fun _ => h a w ha hw, fun i hi => by rw [hr] at hi; cases hi⟩
/-- Behind one that is carried out at its time. -/
def DQ (P : Program) (ro : Option Nat) (ops : Array Oper) (eff : List Nat) (Q : Exit → Act → World → Prop) (B : Nat) (w0 : World) (Gr : List HP) (fuel : Nat) (ls : List Bool) (i : Nat) : Exit → Act → World → Prop
  | .normal, a, w => (dm eff i = true → SS B w0 Gr w) ∧ (Shut ops ls.toArray → wpG P ro ops (SS B w0 Gr) (dm eff) (Q .normal) fuel ls.toArray a w)
  | _, _, _ => False
theorem D.backK {i : Nat} (m : Nat) (hG : G.drop m = Gr) (h : D P ro n ds ops eff Q B w0 Gr fuel ls s G) : N n ds (DQ P ro ops eff Q B w0 Gr fuel ls i) B w0 s G := fun a w ha hw =>
  ⟨fun _ => ⟨G.take m, by rw [← hG, List.take_append_drop]; exact hw⟩, fun hsh => h hsh a w ha hw⟩
theorem D.backE {i : Nat} (he : dm eff i = false) (h : D P ro n ds ops eff Q B w0 Gr fuel ls s G) : N n ds (DQ P ro ops eff Q B w0 Gr fuel ls i) B w0 s G := fun a w ha hw =>
  ⟨fun e => (by rw [he] at e; cases e), fun hsh => h hsh a w ha hw⟩
/-- One of those that may come next, whichever. -/
def DW (P : Program) (ro : Option Nat) (n : Nat) (ds : List Deferred) (ops : Array Oper) (eff : List Nat) (Q : Exit → Act → World → Prop) (B : Nat) (w0 : World) (Gr : List HP) (fuel : Nat) (ls : List Bool) (s : Env) (G : List HP) (i : Nat) : Prop :=
  i ∈ Region.ready .any ops ls.toArray → Shut ops ls.toArray → ∀ a w, Ok n ds s a → St B w0 G w → wop P ro ops i (fun a' w' => (dm eff i = true → SS B w0 Gr w → SS B w0 Gr w') ∧ wpG P ro ops (SS B w0 Gr) (dm eff) (Q .normal) fuel (ls.toArray.setIfInBounds i true) a' w') a w
theorem wop_of_list {i : Nat} {o : Oper} {R : Exit → Act → World → Prop} {K : Act → World → Prop} {a : Act} {w : World} (hi : ops[i]? = some o) (hp : ∀ e a w, R e a w → e = .normal ∧ K a w) (h : wpListIn (FW ro) 0 P ops R [o] a w) : wop P ro ops i K a w := by
  unfold wpListIn at h
  unfold Sx.wop wpOpIn
  simp only [hi]
  split
  · rename_i hw; rw [if_pos hw] at h
    refine ⟨h.1, ?_⟩
    have h2 := h.2
    revert h2
    generalize (o.semAt (FW ro).round a.eval).run P w = r
    intro h2
    cases r with
    | ok x w' =>
      cases x <;> simp only [Oper.uponIn, wpListIn] at h2 ⊢ <;> first
        | exact h2
        | exact (hp _ _ _ h2).2
        | (refine ⟨h2.1, h2.2.mono fun e w'' he => ?_⟩
           cases e with
           | returned v => exact (hp _ _ _ he).2
           | panicked c => exact absurd (hp _ _ _ he).1 (by simp)
           | outgrown => obtain ⟨a1, w1, hf⟩ := he; exact absurd (hp _ _ _ hf).1 (by simp))
        | (refine ⟨h2.1, h2.2.mono fun v w'' he => ?_⟩
           exact (hp _ _ _ he).2)
    | halt x w' => cases x <;> simp only [Oper.uponIn] at h2 ⊢ <;> first | exact h2 | exact absurd (hp _ _ _ h2).1 (by simp)
  · rename_i hw; rw [if_neg hw] at h
    exact ⟨h.1, (hp _ _ _ h.2).2⟩
theorem DW.j {oi : Oper} {i : Nat} (hi : ops[i]? = some oi) (hls : ls.set i true = ls') (h : J P ro n ds ops (DQ P ro ops eff Q B w0 Gr fuel ls' i) B w0 [oi] s G) : DW P ro n ds ops eff Q B w0 Gr fuel ls s G i := by
  intro hr hsh a w ha hw
  have hsh' := hsh.set hr
  rw [set_ls i hls] at hsh' ⊢
  refine wop_of_list hi (fun e a w hq => ?_) (h a w ha hw)
  cases e <;> first | exact hq.elim | exact ⟨rfl, fun he _ => hq.1 he, hq.2 hsh'⟩
def AllD (p : Nat → Prop) : List Nat → Prop
  | [] => True
  | i :: r => p i ∧ AllD p r
theorem AllD.all {p : Nat → Prop} : ∀ {l : List Nat}, AllD p l → ∀ i ∈ l, p i
  | _ :: _, h, i, hi => by
    rcases List.mem_cons.1 hi with rfl | hi
    · exact h.1
    · exact AllD.all h.2 i hi
theorem D.any (r : List Nat) (hr : Region.ready .any ops ls.toArray = r) (hne : r.isEmpty = false) (h : AllD (DW P ro n ds ops eff Q B w0 Gr fuel ls s G) r) : D P ro n ds ops eff Q B w0 Gr (fuel + 1) ls s G := by
  intro hsh a w ha hw
  refine ⟨fun e => ?_, fun i hi => ?_⟩
  · rw [hr] at e; subst e; simp at hne
  · exact AllD.all h i (hr ▸ hi) hi hsh a w ha hw
theorem C.drawn {id : Nat} {l : List Oper} (eff : List Nat) (Gr : List HP) (hm : P.follows .mixedOrders = true) (hls : List.replicate l.length false = ls) (hf : l.length = fuel) (h : D P ro n ds l.toArray eff Q B w0 Gr fuel ls s G) : C P ro n ds Q B w0 (.region id l.toArray true) s G := by
  intro a w ha hw
  refine wpIn_region_any hm (wpAny_of_G (S := SS B w0 Gr) (dem := dm eff) _ _ _ _ ?_)
  have e : Array.replicate l.toArray.size false = ls.toArray := by subst hls; simp
  rw [e]
  subst hf
  have hsh : Shut l.toArray ls.toArray := by
    intro j hj
    subst hls
    exfalso
    revert hj
    simp only [Array.getD_eq_getD_getElem?, List.getElem?_toArray, List.getElem?_replicate]
    split <;> simp
  exact h hsh a _ ha hw.drew

theorem D.as {k : Nat} {v v' : Value} (hk : s.get k = some v) (e : v = v') (h : D P ro n ds ops eff Q B w0 Gr fuel ls ((k, v') :: s) G) : D P ro n ds ops eff Q B w0 Gr fuel ls s G := by
  intro hsh a w ha hw
  refine h hsh a w ⟨ha.size, ha.dfr, fun j u hj => ?_⟩ hw
  rw [Env.get_cons] at hj
  split at hj
  · rename_i e'; subst e'; cases hj; subst e; exact ha.env _ _ hk
  · exact ha.env _ _ hj
theorem D.know {p : Prop} (hp : ∀ w, St B w0 G w → p) (h : p → D P ro n ds ops eff Q B w0 Gr fuel ls s G) : D P ro n ds ops eff Q B w0 Gr fuel ls s G := fun hsh a w ha hw => h (hp w hw) hsh a w ha hw

theorem D.to (hs : Sub s' s) (hg : ∀ w, St B w0 G w → St B w0 G' w) (h : D P ro n ds ops eff Q B w0 Gr fuel ls s' G') : D P ro n ds ops eff Q B w0 Gr fuel ls s G := fun hsh a w ha hw => h hsh a w (ha.sub hs.get) (hg w hw)
/-- What several orders come to, shown once. -/
theorem D.share {ι : Type} {fuel0 : Nat} {ls0 : List Bool} (I : ι → Env) (Gf : ι → List HP) (fuel' : Nat) (ls' : List Bool) (h : ∀ i, D P ro n ds ops eff Q B w0 Gr fuel' ls' (I i) (Gf i))
    (k : (∀ i, D P ro n ds ops eff Q B w0 Gr fuel' ls' (I i) (Gf i)) → D P ro n ds ops eff Q B w0 Gr fuel0 ls0 s G) : D P ro n ds ops eff Q B w0 Gr fuel0 ls0 s G := k h
end Go.Sx
