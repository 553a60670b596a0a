/- Own text. A small logic of owned blocks: what a function owns of the heap, as a list of chunks; what it must leave as it was. -/
import Derived.RangeFuncFrom
import Derived.RangeFuncLeaves
import Derived.TacticsIn
import Derived.Below
import Derived.Laws.AppendOwn
import Derived.Laws.AppendOwnNone
import Derived.Laws.MakeOwn
import Derived.KernelRfl
namespace Go.Sx
open Go Go.RowKit

/-- A part of the heap. -/
abbrev PH := Nat → Option Obj
abbrev HP := PH → Prop
def jn (h k : PH) : PH := fun b => match h b with | some o => some o | none => k b
def dj (h k : PH) : Prop := ∀ b, h b = none ∨ k b = none
def em : PH := fun _ => none
def si (g : Nat) (o : Obj) : PH := fun b => if b = g then some o else none

theorem si_self (g : Nat) (o : Obj) : si g o g = some o := by simp [si]
theorem dj_symm {h k : PH} (d : dj h k) : dj k h := fun b => (d b).symm
theorem jn_comm {h k : PH} (d : dj h k) : jn h k = jn k h := by
  funext b; unfold jn
  rcases d b with e | e
  · rw [e]; cases k b <;> rfl
  · rw [e]; cases h b <;> rfl
theorem jn_assoc (a b c : PH) : jn (jn a b) c = jn a (jn b c) := by
  funext x; unfold jn; cases a x <;> rfl
theorem jn_em (h : PH) : jn h em = h := by funext b; unfold jn em; cases h b <;> rfl
theorem em_jn (h : PH) : jn em h = h := by funext b; rfl
theorem jn_none {h k : PH} {b : Nat} : jn h k b = none ↔ h b = none ∧ k b = none := by
  unfold jn; cases h b <;> simp
theorem dj_jn {a b c : PH} : dj a (jn b c) ↔ dj a b ∧ dj a c := by
  constructor
  · intro d
    refine ⟨fun x => ?_, fun x => ?_⟩ <;> rcases d x with e | e
    · exact .inl e
    · exact .inr (jn_none.1 e).1
    · exact .inl e
    · exact .inr (jn_none.1 e).2
  · rintro ⟨d1, d2⟩ x
    rcases d1 x with e | e
    · exact .inl e
    · rcases d2 x with e' | e'
      · exact .inl e'
      · exact .inr (jn_none.2 ⟨e, e'⟩)

def star : List HP → HP
  | [], h => h = em
  | A :: r, h => ∃ h1 h2, dj h1 h2 ∧ h = jn h1 h2 ∧ A h1 ∧ star r h2

theorem star_pull {X : HP} : ∀ {G : List HP} {i : Nat} {h : PH}, G[i]? = some X → star G h → star (X :: G.eraseIdx i) h
  | [], _, _, hi, _ => by simp at hi
  | A :: r, 0, h, hi, hs => by simp at hi; subst hi; exact hs
  | A :: r, i + 1, h, hi, hs => by
    obtain ⟨h1, h2, d, rfl, hA, hr⟩ := hs
    obtain ⟨k1, k2, d', rfl, hX, hr'⟩ := star_pull (by simpa using hi) hr
    obtain ⟨da, db⟩ := dj_jn.1 d
    refine ⟨k1, jn h1 k2, dj_jn.2 ⟨dj_symm da, d'⟩, ?_, hX, h1, k2, db, rfl, hA, hr'⟩
    exact (jn_assoc h1 k1 k2).symm.trans ((congrArg (jn · k2) (jn_comm da)).trans (jn_assoc k1 h1 k2))

theorem star_append : ∀ {G G' : List HP} {h : PH}, star (G ++ G') h ↔ ∃ h1 h2, dj h1 h2 ∧ h = jn h1 h2 ∧ star G h1 ∧ star G' h2
  | [], G', h => by
    constructor
    · intro hs; exact ⟨em, h, fun _ => .inl rfl, (em_jn h).symm, rfl, hs⟩
    · rintro ⟨h1, h2, d, rfl, rfl, hs⟩; rw [em_jn]; exact hs
  | A :: r, G', h => by
    constructor
    · rintro ⟨h1, h2, d, rfl, hA, hr⟩
      obtain ⟨k1, k2, d', rfl, hs1, hs2⟩ := star_append.1 hr
      obtain ⟨da, db⟩ := dj_jn.1 d
      exact ⟨jn h1 k1, k2, dj_symm (dj_jn.2 ⟨dj_symm db, dj_symm d'⟩), (jn_assoc _ _ _).symm, ⟨h1, k1, da, rfl, hA, hs1⟩, hs2⟩
    · rintro ⟨h1, h2, d, rfl, ⟨k1, k2, d', rfl, hA, hs1⟩, hs2⟩
      obtain ⟨da, db⟩ := dj_jn.1 (dj_symm d)
      exact ⟨k1, jn k2 h2, dj_jn.2 ⟨d', dj_symm da⟩, jn_assoc _ _ _, hA, star_append.2 ⟨k2, h2, dj_symm db, rfl, hs1, hs2⟩⟩

/-- One block, known whole. -/
def blk (g : Nat) (o : Obj) : HP := fun h => h = si g o
/-- Cells that are a variable, an array, a struct: block g, of type ty. -/
def cells (g : Nat) (ty : TypeId) (L : List Value) : HP := blk g (.cells L.toArray ty (0, 0))
/-- A row that a slice of the function's own lies in: from its begin on it holds L (cell by cell); what lies behind is anything. -/
def own (e : TypeId) (sz : Nat) (A : Option Addr) (c : Nat) (L : List Value) : HP := fun h =>
  (A = none ∧ c = 0 ∧ L = [] ∧ h = em) ∨
  ∃ g cur, A = some ⟨g, 0, none⟩ ∧ h = si g (.cells cur e (0, 0)) ∧ cur.size = c * sz ∧ c ≤ maxLen ∧ L.length ≤ c * sz ∧ cur.toList.take L.length = L

structure St (B : Nat) (w0 : World) (G : List HP) (w : World) : Prop where
  os : w.os = w0.os
  tape : w.tape = w0.tape
  output : w.output = w0.output
  size : w0.heap.size ≤ w.heap.size
  hB : B ≤ w0.heap.size
  old : ∀ b, b < B → w.heap[b]? = w0.heap[b]?
  has : ∃ h, star G h ∧ ∀ b o, h b = some o → w.heap[b]? = some o ∧ B ≤ b

variable {B : Nat} {w0 w w' : World} {G G' : List HP}

theorem St.base (w : World) : St w.heap.size w [] w :=
  ⟨rfl, rfl, rfl, Nat.le_refl _, Nat.le_refl _, fun _ _ => rfl, em, rfl, fun b o h => by simp [em] at h⟩

theorem St.below (h : St w0.heap.size w0 G w) : Below w0.heap.size w0 w := ⟨h.os, h.tape, h.output, h.size, h.old⟩

theorem St.imp (h : St B w0 G w) (hs : ∀ p, star G p → star G' p) : St B w0 G' w := by
  obtain ⟨h1, h2, h3, h4, h5, h6, p, hp, hq⟩ := h
  exact ⟨h1, h2, h3, h4, h5, h6, p, hs p hp, hq⟩

theorem St.pull (i : Nat) {X : HP} (h : St B w0 G w) (hi : G[i]? = some X) (he : G.eraseIdx i = G') : St B w0 (X :: G') w := by
  subst he
  exact h.imp fun p hp => star_pull hi hp

theorem St.drop {X : HP} (h : St B w0 (X :: G) w) : St B w0 G w := by
  obtain ⟨h1, h2, h3, h4, h5, h6, p, ⟨p1, p2, d, rfl, _, hr⟩, hq⟩ := h
  refine ⟨h1, h2, h3, h4, h5, h6, p2, hr, fun b o hb => hq b o ?_⟩
  rw [jn_comm d]; unfold jn; rw [hb]

theorem star_top {L : List HP} {X : HP} {p : PH} (hs : star (L ++ X :: G) p) : ∃ q, X q ∧ ∀ b o, q b = some o → p b = some o := by
  obtain ⟨h1, h2, d, rfl, _, k1, k2, d', rfl, hX, _⟩ := star_append.1 hs
  refine ⟨k1, hX, fun b o hb => ?_⟩
  have h2b : jn k1 k2 b = some o := by unfold jn; rw [hb]
  rcases d b with e | e
  · unfold jn at h2b ⊢; rw [e]; exact h2b
  · rw [h2b] at e; cases e

theorem head_of {X : HP} (h : St B w0 (X :: G) w) : ∃ q, X q ∧ ∀ b o, q b = some o → w.heap[b]? = some o ∧ B ≤ b := by
  obtain ⟨_, _, _, _, _, _, p, hp, hq⟩ := h
  obtain ⟨q, hX, hb⟩ := star_top (L := []) hp
  exact ⟨q, hX, fun b o e => hq b o (hb b o e)⟩

/-- Some chunk of the list. -/
theorem at_of {X : HP} (i : Nat) (hi : G[i]? = some X) (h : St B w0 G w) : ∃ q, X q ∧ ∀ b o, q b = some o → w.heap[b]? = some o ∧ B ≤ b :=
  head_of (h.pull i hi rfl)

/-- The head chunk is changed, the rest of the heap stays: what the new world must keep. -/
theorem St.swap {X Y : HP} (h : St B w0 (X :: G) w) (hos : w'.os = w.os) (ht : w'.tape = w.tape) (ho : w'.output = w.output) (hsz : w.heap.size ≤ w'.heap.size)
    (hk : ∀ q, X q → (∀ b o, q b = some o → w.heap[b]? = some o ∧ B ≤ b) → ∃ q', Y q' ∧ (∀ b o, q' b = some o → w'.heap[b]? = some o ∧ B ≤ b) ∧
      (∀ b, q' b ≠ none → q b ≠ none ∨ w.heap.size ≤ b) ∧ (∀ b, b < w.heap.size → q b = none → w'.heap[b]? = w.heap[b]?)) : St B w0 (Y :: G) w' := by
  obtain ⟨h1, h2, h3, h4, h5, h6, p, ⟨p1, p2, d, rfl, hX, hr⟩, hq⟩ := h
  have hp1 : ∀ b o, p1 b = some o → w.heap[b]? = some o ∧ B ≤ b := fun b o hb => hq b o (by unfold jn; rw [hb])
  have hp2 : ∀ b o, p2 b = some o → w.heap[b]? = some o ∧ B ≤ b := fun b o hb => hq b o (by rw [jn_comm d]; unfold jn; rw [hb])
  obtain ⟨q', hY, hq1, hq2, hq3⟩ := hk p1 hX hp1
  have lt2 : ∀ b o, p2 b = some o → b < w.heap.size := fun b o hb => (Array.getElem?_eq_some_iff.1 (hp2 b o hb).1).1
  have d' : dj q' p2 := by
    intro b
    cases e : p2 b with
    | none => exact .inr rfl
    | some o =>
      left
      cases e' : q' b with
      | none => rfl
      | some o' =>
        rcases hq2 b (by rw [e']; simp) with hn | hn
        · rcases d b with x | x
          · exact absurd x hn
          · rw [e] at x; cases x
        · have := lt2 b o e; omega
  refine ⟨hos.trans h1, ht.trans h2, ho.trans h3, Nat.le_trans h4 hsz, h5, fun b hb => ?_, jn q' p2, ⟨q', p2, d', rfl, hY, hr⟩, fun b o hb => ?_⟩
  · have hbs : b < w.heap.size := by omega
    have : p1 b = none := by
      cases e : p1 b with
      | none => rfl
      | some o => have := (hp1 b o e).2; omega
    exact (hq3 b hbs this).trans (h6 b hb)
  · unfold jn at hb
    cases e : q' b with
    | some o' => rw [e] at hb; simp at hb; subst hb; exact hq1 b _ e
    | none =>
      rw [e] at hb; simp at hb
      have hl := lt2 b o hb
      have : p1 b = none := by
        rcases d b with x | x
        · exact x
        · rw [hb] at x; cases x
      exact ⟨(hq3 b hl this).trans (hp2 b o hb).1, (hp2 b o hb).2⟩

/-- A new chunk, in new blocks; the rest of the heap stays. -/
theorem St.add {Y : HP} (h : St B w0 G w) (hos : w'.os = w.os) (ht : w'.tape = w.tape) (ho : w'.output = w.output) (hsz : w.heap.size ≤ w'.heap.size)
    (hb : ∀ b, b < w.heap.size → w'.heap[b]? = w.heap[b]?)
    (hk : ∃ q', Y q' ∧ ∀ b o, q' b = some o → w'.heap[b]? = some o ∧ w.heap.size ≤ b) : St B w0 (Y :: G) w' := by
  have h' : St B w0 ((fun p => p = em) :: G) w := h.imp fun p hp => ⟨em, p, fun _ => .inl rfl, (em_jn p).symm, rfl, hp⟩
  refine h'.swap hos ht ho hsz fun q hq _ => ?_
  obtain ⟨q', hY, hq'⟩ := hk
  have hBw : B ≤ w.heap.size := Nat.le_trans h.hB h.size
  exact ⟨q', hY, fun b o e => ⟨(hq' b o e).1, Nat.le_trans hBw (hq' b o e).2⟩, fun b e => .inr (by
    cases e' : q' b with
    | none => exact absurd e' e
    | some o => exact (hq' b o e').2), fun b hlt _ => hb b hlt⟩

theorem St.keep (h : St B w0 G w) (hos : w'.os = w.os) (ht : w'.tape = w.tape) (ho : w'.output = w.output) (hsz : w.heap.size ≤ w'.heap.size)
    (hb : ∀ b, b < w.heap.size → w'.heap[b]? = w.heap[b]?) : St B w0 G w' :=
  (h.add (Y := fun p => p = em) hos ht ho hsz hb ⟨em, rfl, fun b o e => by simp [em] at e⟩).drop

theorem St.drew (h : St B w0 G w) : St B w0 G w.drew := h.keep rfl rfl rfl (Nat.le_refl _) fun _ _ => rfl

theorem St.alloc (h : St B w0 G w) (o : Obj) : St B w0 (blk w.heap.size o :: G) (w.alloc o) :=
  h.add rfl rfl rfl (by simp) (fun b hb => Below.heap_alloc w o b hb) ⟨si w.heap.size o, rfl, fun b o' e => by
    unfold si at e; split at e
    · rename_i hb; subst hb; cases e; exact ⟨World.alloc_heap_new w o, Nat.le_refl _⟩
    · cases e⟩

theorem blk_head {g : Nat} {o : Obj} (h : St B w0 (blk g o :: G) w) : w.heap[g]? = some o ∧ B ≤ g := by
  obtain ⟨q, rfl, hq⟩ := head_of h
  exact hq g o (si_self _ _)

theorem St.setBlk {g : Nat} {o o' : Obj} (h : St B w0 (blk g o :: G) w) (hos : w'.os = w.os) (ht : w'.tape = w.tape) (ho : w'.output = w.output)
    (hsz : w.heap.size ≤ w'.heap.size) (hg : w'.heap[g]? = some o') (hb : ∀ b, b < w.heap.size → b ≠ g → w'.heap[b]? = w.heap[b]?) : St B w0 (blk g o' :: G) w' := by
  have hgB := (blk_head h).2
  refine h.swap hos ht ho hsz fun q hq _ => ?_
  subst hq
  refine ⟨si g o', rfl, fun b x e => ?_, fun b e => .inl ?_, fun b hlt e => hb b hlt ?_⟩
  · unfold si at e; split at e
    · rename_i hb; subst hb; cases e; exact ⟨hg, hgB⟩
    · cases e
  · unfold si at e ⊢; split at e
    · rename_i hb; rw [if_pos hb]; simp
    · exact absurd rfl e
  · unfold si at e; split at e
    · cases e
    · assumption

/-! ### What can be read -/

/-- The cells from A on read as L. -/
def Rd (w : World) (A : Option Addr) (L : List Value) : Prop := ∀ j u, L[j]? = some u → ∃ a, A = some a ∧ w.cell? (a.add j) = some u
/-- They do as long as the chunks G are owned. -/
def RdG (B : Nat) (w0 : World) (G : List HP) (A : Option Addr) (L : List Value) : Prop := ∀ G' w, St B w0 (G' ++ G) w → Rd w A L

theorem RdG.now {A : Option Addr} {L : List Value} (h : RdG B w0 G A L) (hw : St B w0 G w) : Rd w A L := h [] w hw
theorem RdG.suf {A : Option Addr} {L : List Value} (h : RdG B w0 G A L) (K : List HP) (e : K ++ G = G') : RdG B w0 G' A L := by
  subst e
  intro G'' w hw
  exact h (G'' ++ K) w (by rwa [List.append_assoc])
theorem RdG.up {A : Option Addr} {L : List Value} {X : HP} (h : RdG B w0 G A L) : RdG B w0 (X :: G) A L := h.suf [X] rfl
theorem RdG.none_ : RdG B w0 G none [] := fun _ _ _ j u h => by simp at h

theorem add_add (a : Addr) (i j : Nat) : (a.add i).add j = a.add (i + j) := by
  unfold Addr.add
  by_cases hi : i = 0 <;> by_cases hj : j = 0 <;> simp [hi, hj]
  omega
theorem add0 (g j : Nat) : (⟨g, 0, none⟩ : Addr).add j = ⟨g, j, none⟩ := by unfold Addr.add; split <;> simp_all
theorem add_zero (a : Addr) : a.add 0 = a := by simp [Addr.add]

theorem Rd.drop {A : Option Addr} {L : List Value} (h : Rd w A L) (i : Nat) : Rd w (A.map (·.add i)) (L.drop i) := by
  intro j u hu
  rw [List.getElem?_drop] at hu
  obtain ⟨a, rfl, hc⟩ := h (i + j) u hu
  exact ⟨_, rfl, by rw [add_add]; exact hc⟩
theorem Rd.take {A : Option Addr} {L : List Value} (h : Rd w A L) (i : Nat) : Rd w A (L.take i) := by
  intro j u hu
  rw [List.getElem?_take] at hu
  split at hu
  · exact h j u hu
  · cases hu
theorem RdG.drop {A : Option Addr} {L : List Value} (h : RdG B w0 G A L) (i : Nat) : RdG B w0 G (A.map (·.add i)) (L.drop i) := fun G' w hw => (h G' w hw).drop i
theorem RdG.take {A : Option Addr} {L : List Value} (h : RdG B w0 G A L) (i : Nat) : RdG B w0 G A (L.take i) := fun G' w hw => (h G' w hw).take i

theorem cell_si {g i : Nat} {cur : Array Value} {e : TypeId} {f : Nat × Nat} (h : w.heap[g]? = some (.cells cur e f)) : w.cell? ⟨g, i, none⟩ = cur[i]? := cell_of_row w g i cur e f h

theorem rd_own {e : TypeId} {sz : Nat} {A : Option Addr} {c : Nat} {L : List Value} {q : PH} (hX : own e sz A c L q) (hq : ∀ b o, q b = some o → w.heap[b]? = some o ∧ B ≤ b) : Rd w A L := by
  rcases hX with ⟨rfl, _, rfl, _⟩ | ⟨g, cur, rfl, rfl, _, _, _, htake⟩
  · exact fun j u hu => by simp at hu
  · intro j u hu
    refine ⟨_, rfl, ?_⟩
    rw [add0, cell_si (hq g _ (si_self _ _)).1]
    rw [← htake, List.getElem?_take] at hu
    split at hu
    · simpa using hu
    · cases hu
theorem rd_cells {g : Nat} {ty : TypeId} {L : List Value} {q : PH} (hX : cells g ty L q) (hq : ∀ b o, q b = some o → w.heap[b]? = some o ∧ B ≤ b) : Rd w (some ⟨g, 0, none⟩) L := by
  obtain rfl := hX
  intro j u hu
  refine ⟨_, rfl, ?_⟩
  rw [add0, cell_si (hq g _ (si_self _ _)).1]
  simpa using hu

theorem split_at : ∀ {G : List HP} {i : Nat} {X : HP}, G[i]? = some X → ∃ L R, G = L ++ X :: R
  | [], _, _, h => by simp at h
  | A :: r, 0, X, h => by simp at h; subst h; exact ⟨[], r, rfl⟩
  | A :: r, i + 1, X, h => by
    obtain ⟨L, R, rfl⟩ := split_at (G := r) (i := i) (by simpa using h)
    exact ⟨A :: L, R, rfl⟩

theorem RdG.of {A : Option Addr} {L : List Value} {X : HP} (i : Nat) (hi : G[i]? = some X) (hr : ∀ (w : World) q, X q → (∀ b o, q b = some o → w.heap[b]? = some o ∧ B ≤ b) → Rd w A L) : RdG B w0 G A L := by
  intro G' w hw
  obtain ⟨K, R, rfl⟩ := split_at hi
  obtain ⟨_, _, _, _, _, _, p, hp, hq⟩ := hw
  obtain ⟨q, hX, hb⟩ := star_top (L := G' ++ K) (X := X) (G := R) (by rwa [List.append_assoc])
  exact hr w q hX fun b o e => hq b o (hb b o e)
theorem RdG.own {e : TypeId} {sz : Nat} {A : Option Addr} {c : Nat} {L : List Value} (i : Nat) (hi : G[i]? = some (own e sz A c L)) : RdG B w0 G A L := RdG.of i hi fun _ _ => rd_own
theorem RdG.cells {g : Nat} {ty : TypeId} {L : List Value} (i : Nat) (hi : G[i]? = some (cells g ty L)) : RdG B w0 G (some ⟨g, 0, none⟩) L := RdG.of i hi fun _ _ => rd_cells

/-- What was there when the function began, below block B. -/
theorem RdG.old {A : Option Addr} {L : List Value} (hr : Rd w0 A L) (hl : ∀ j u, L[j]? = some u → ∀ a, A = some a → (a.add j).block < B) : RdG B w0 G A L := by
  intro G' w hw j u hu
  obtain ⟨a, rfl, hc⟩ := hr j u hu
  exact ⟨a, rfl, (World.cell?_of_block (w := w0) (hw.old _ (hl j u hu a rfl))).trans hc⟩

/-! ### The kit's word for an owned row, and ours -/

theorem own_row {e : TypeId} {sz : Nat} {A : Option Addr} {c n : Nat} {L : List Value} (hl : L.length = n * sz) (hsz : 0 < sz) (h : St B w0 (own e sz A c L :: G) w) :
    w.ownsRow B e sz (.slice A n c) n L := by
  obtain ⟨q, hX, hq⟩ := head_of h
  rcases hX with ⟨rfl, rfl, rfl, _⟩ | ⟨g, cur, rfl, rfl, hs, hm, hle, ht⟩
  · have : n = 0 := by
      rcases Nat.eq_zero_or_pos n with e | e
      · exact e
      · have := Nat.mul_pos e hsz; rw [← hl] at this; simp at this
    rw [this]
    exact ⟨by simp, Or.inl (And.intro rfl rfl)⟩
  · have hgq := hq g _ (si_self _ _)
    refine ⟨hl, .inr ⟨g, c, cur, rfl, hgq.2, hgq.1, ?_, hm, hs, by rw [← hl]; exact ht⟩⟩
    exact Nat.le_of_mul_le_mul_right (by omega) hsz

theorem own_grown {e : TypeId} {sz : Nat} {A : Option Addr} {c : Nat} {L : List Value} {n m : Nat} {v' : Value} {L' : List Value} (h : St B w0 (own e sz A c L :: G) w)
    (ho : w'.ownsRow w.heap.size e sz v' m L' ∨ w'.ownsRow B e sz v' m L' ∧ (v'.ownBlock = (Value.slice A n c).ownBlock ∨ ∀ k, v'.ownBlock = some k → w.heap.size ≤ k))
    (hg : w.grownBy w' (Value.slice A n c).ownBlock) : ∃ A' c', v' = .slice A' m c' ∧ St B w0 (own e sz A' c' L' :: G) w' := by
  have hBw : B ≤ w.heap.size := Nat.le_trans h.hB h.size
  have ho' : w'.ownsRow B e sz v' m L' ∧ (v'.ownBlock = (Value.slice A n c).ownBlock ∨ ∀ k, v'.ownBlock = some k → w.heap.size ≤ k) := by
    rcases ho with ho | ho
    · refine ⟨⟨ho.1, ?_⟩, .inr fun k hk => (ho.lt k hk).1⟩
      rcases ho.2 with x | ⟨g, cap, cur, a1, a2, a3⟩
      · exact .inl x
      · exact .inr ⟨g, cap, cur, a1, Nat.le_trans hBw a2, a3⟩
    · exact ho
  obtain ⟨hrow, hblk⟩ := ho'
  have hnb : ∀ q, own e sz A c L q → ∀ b, q b = none → some b ≠ (Value.slice A n c).ownBlock := by
    intro q hX b hb
    rcases hX with ⟨rfl, _⟩ | ⟨g, cur, rfl, rfl, _⟩
    · simp [Value.ownBlock]
    · simp [Value.ownBlock]; intro e; subst e; simp [si] at hb
  rcases hrow.2 with ⟨rfl, hm0⟩ | ⟨g, cap, cur, rfl, hBg, hgg, hnc, hcm, hcs, htake⟩
  · have hL : L' = [] := List.eq_nil_of_length_eq_zero (by rw [hrow.1, hm0]; simp)
    subst hL; subst hm0
    refine ⟨none, 0, rfl, ?_⟩
    refine h.swap hg.os hg.tape hg.output hg.size fun q hX _ => ⟨em, .inl ⟨rfl, rfl, rfl, rfl⟩, fun b o e => by simp [em] at e, fun b e => absurd rfl e, fun b hb e => hg.block b hb (hnb q hX b e)⟩
  · refine ⟨some ⟨g, 0, none⟩, cap, rfl, ?_⟩
    refine h.swap hg.os hg.tape hg.output hg.size fun q hX hq => ⟨si g (.cells cur e (0, 0)), .inr ⟨g, cur, rfl, rfl, hcs, hcm, ?_, ?_⟩, ?_, ?_, fun b hb e => hg.block b hb (hnb q hX b e)⟩
    · rw [hrow.1]; exact Nat.mul_le_mul_right _ hnc
    · rw [hrow.1]; exact htake
    · intro b o e; unfold si at e; split at e
      · rename_i hb; subst hb; cases e; exact ⟨hgg, hBg⟩
      · cases e
    · intro b e
      have hbg : b = g := by
        unfold si at e; split at e
        · assumption
        · exact absurd rfl e
      subst hbg
      rcases hblk with x | x
      · left
        rcases hX with ⟨rfl, _⟩ | ⟨g', cur', rfl, rfl, _⟩
        · simp [Value.ownBlock] at x
        · simp [Value.ownBlock] at x; subst x; simp [si]
      · right; exact x b rfl

/-! ### Some chunks out of a list, in an order -/
theorem star_sel (f : Nat → HP) : ∀ (idx S : List Nat) (h : PH), idx.Nodup → (∀ i ∈ idx, i ∈ S) → star (S.map f) h → ∃ p q, dj p q ∧ h = jn p q ∧ star (idx.map f) p
  | [], S, h, _, _, _ => ⟨em, h, fun _ => .inl rfl, (em_jn h).symm, rfl⟩
  | i :: r, S, h, hn, hm, hs => by
    obtain ⟨k, hk⟩ := List.mem_iff_getElem?.1 (hm i List.mem_cons_self)
    have hk' : (S.map f)[k]? = some (f i) := by rw [List.getElem?_map, hk]; rfl
    obtain ⟨p1, p2, d, rfl, hX, hr⟩ := star_pull hk' hs
    have hn' := List.nodup_cons.1 hn
    have em' : ∀ (S : List Nat) (k : Nat), (S.map f).eraseIdx k = (S.eraseIdx k).map f := by
      intro S
      induction S with
      | nil => intro k; rfl
      | cons a S ih => intro k; cases k with
        | zero => rfl
        | succ k => simp only [List.map_cons, List.eraseIdx_cons_succ, ih k]
    rw [em'] at hr
    obtain ⟨q1, q2, d2, rfl, hq⟩ := star_sel f r (S.eraseIdx k) p2 hn'.2 (fun j hj => by
      obtain ⟨m, hm'⟩ := List.mem_iff_getElem?.1 (hm j (List.mem_cons_of_mem _ hj))
      refine List.mem_eraseIdx_iff_getElem?.2 ⟨m, ?_, hm'⟩
      intro e; subst e
      rw [hk] at hm'; cases hm'
      exact hn'.1 hj) hr
    obtain ⟨da, db⟩ := dj_jn.1 d
    exact ⟨jn p1 q1, q2, dj_symm (dj_jn.2 ⟨dj_symm db, dj_symm d2⟩), (jn_assoc _ _ _).symm, ⟨p1, q1, da, rfl, hX, hq⟩⟩
def nthC (L : List HP) (i : Nat) : HP := match L[i]? with | some X => X | none => fun h => h = em
def pickB (idx : List Nat) (n : Nat) : Bool := idx.all (Nat.blt · n) && decide idx.Nodup
theorem St.pick (idx : List Nat) (L : List HP) {Gt : List HP} (h : St B w0 (L ++ Gt) w) (hb : pickB idx L.length = true) : St B w0 (idx.map (nthC L) ++ Gt) w := by
  simp only [pickB, Bool.and_eq_true, List.all_eq_true, decide_eq_true_eq] at hb
  obtain ⟨h1, h2, h3, h4, h5, h6, p, hp, hq⟩ := h
  obtain ⟨p1, p2, d, rfl, hL, hG⟩ := star_append.1 hp
  have e : L = (List.range L.length).map (nthC L) := by
    apply List.ext_getElem?
    intro i
    rw [List.getElem?_map]
    rcases Nat.lt_or_ge i L.length with hi | hi
    · rw [List.getElem?_range hi, List.getElem?_eq_getElem hi]
      simp only [Option.map_some, nthC, List.getElem?_eq_getElem hi]
    · rw [List.getElem?_eq_none hi, List.getElem?_eq_none (by simpa using hi)]; rfl
  rw [e] at hL
  obtain ⟨q1, q2, d2, rfl, hs⟩ := star_sel (nthC L) idx _ p1 hb.2 (fun i hi => List.mem_range.2 (Nat.le_of_ble_eq_true (hb.1 i hi))) hL
  obtain ⟨da, db⟩ := dj_jn.1 (dj_symm d)
  refine ⟨h1, h2, h3, h4, h5, h6, jn q1 p2, star_append.2 ⟨q1, p2, dj_symm da, rfl, hs, hG⟩, fun b o hb => hq b o ?_⟩
  unfold jn at hb ⊢
  cases e1 : q1 b with
  | some x => rw [e1] at hb; simp at hb; subst hb; simp
  | none =>
    rw [e1] at hb; simp at hb
    have : q2 b = none := by
      rcases db b with x | x
      · rw [hb] at x; cases x
      · exact x
    simp [this, hb]
end Go.Sx
