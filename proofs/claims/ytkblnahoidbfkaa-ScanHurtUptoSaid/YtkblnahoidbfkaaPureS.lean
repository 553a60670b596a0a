/- Own text. A part has just the frames that lie in it whole; where a byte is changed, no other frame goes; the plain parts of the laws ScanPart and ScanHurt. Conditions: bytes of bounded number. -/
import Derived.Test.YtkblnahoidbfkaaPureR
import Derived.Test.YtkblnahoidbfkaaPureVE
import Derived.Test.YtkblnahoidbfkaaLift5
import Derived.Test.YtkblnahoidbfkaaLift6
set_option linter.unusedSimpArgs false
set_option linter.unusedVariables false
set_option maxRecDepth 100000
namespace Go.Proofs.Ytkblnahoidbfkaa
open Go Go.Sx

def sp (x : Fr) : T62_ := ((x.1 : Int), (x.2.1 : Int))
def sel (x : T40_) : List T62_ := if x.1 = true then [] else [(x.2.1, x.2.2)]
theorem exts_sel (len : Nat) : ∀ (l : List Fr) (a : Nat), (exts len a l).flatMap sel = l.map sp
  | [], a => by rw [exts]; split <;> simp [sel]
  | (p, n, f) :: l, a => by
    rw [exts, List.flatMap_append, List.flatMap_cons, exts_sel len l]
    split <;> simp [sel, sp]
theorem spots.l1_eq (T : List T40_) (hT : T.length ≤ 16777216) : ∀ (n i : Nat) (out : List T62_), i + n = T.length → out.length ≤ i → ∀ k, n < k → spots.l1 T k (out, (i : Int)) = some (out ++ (T.drop i).flatMap sel) := by
  intro n
  induction n with
  | zero =>
    intro i out h ho k hk
    obtain ⟨k, rfl⟩ : ∃ m, k = m + 1 := ⟨k - 1, by omega⟩
    rw [spots.l1]; simp only
    rw [if_neg (by omega), List.drop_of_length_le (by omega)]; simp
  | succ n ih =>
    intro i out h ho k hk
    obtain ⟨k, rfl⟩ : ∃ m, k = m + 1 := ⟨k - 1, by omega⟩
    rw [spots.l1]; simp only
    rw [if_pos (by omega), gd_pos (by omega), gd_pos (by omega)]
    have hi : i < T.length := by omega
    have hd : T.drop i = rd T (i : Int) :: T.drop (i + 1) := by
      rw [List.drop_eq_getElem_cons hi]; congr 1; simp [rd, List.getD, List.getElem?_eq_getElem hi]
    rw [hd, List.flatMap_cons]
    by_cases hx : (rd T (i : Int)).1 = true
    · rw [if_pos hx, Option.bind_some, w64 (by omega) (by omega), show ((i : Int) + 1) = ((i + 1 : Nat) : Int) by omega, ih (i + 1) out (by omega) (by omega) k (by omega)]
      simp [sel, hx]
    · rw [if_neg hx, gd_pos (by omega), gd_pos (by omega), gd_pos (by omega), gd_pos (by omega), gd_pos (by simp; omega), Option.bind_some, w64 (by omega) (by omega), show ((i : Int) + 1) = ((i + 1 : Nat) : Int) by omega, ih (i + 1) _ (by omega) (by simp; omega) k (by omega)]
      simp [sel, hx]
theorem spots.eq {b : List Int} (hb : Byt b) (hl : b.length ≤ 8388608) (K : Nat) (hK : 16777300 < K) {l : List Fr} (h : Frs b 0 l) : spots.f K b = some (l.map sp) := by
  have hlen := h.len (Nat.zero_le _)
  have hel := exts_len b.length l 0
  unfold spots.f
  rw [sExtents.eq hb (by omega) K (by omega) h, Option.bind_some]
  have := spots.l1_eq (exts b.length 0 l) (by omega) (exts b.length 0 l).length 0 [] (by omega) (by simp) K (by omega)
  rw [List.drop_zero, exts_sel, List.nil_append] at this
  exact bind_of this rfl
theorem has.l1_eq (L : List T62_) (hL : L.length ≤ 16777216) (x y : Int) : ∀ (n i : Nat), i + n = L.length → ∀ k, n < k → has.l1 L x y k (i : Int) = some (if (x, y) ∈ L.drop i then .inl true else .inr ()) := by
  intro n
  induction n with
  | zero =>
    intro i h k hk
    obtain ⟨k, rfl⟩ : ∃ m, k = m + 1 := ⟨k - 1, by omega⟩
    rw [has.l1, if_neg (by omega), List.drop_of_length_le (by omega), if_neg (by simp)]
  | succ n ih =>
    intro i h k hk
    obtain ⟨k, rfl⟩ : ∃ m, k = m + 1 := ⟨k - 1, by omega⟩
    have hi : i < L.length := by omega
    have hd : L.drop i = rd L (i : Int) :: L.drop (i + 1) := by
      rw [List.drop_eq_getElem_cons hi]; congr 1; simp [rd, List.getD, List.getElem?_eq_getElem hi]
    rw [has.l1, if_pos (by omega), gd_pos (by omega), gd_pos (by omega), hd]
    by_cases hx : (rd L (i : Int)).1 = x ∧ (rd L (i : Int)).2 = y
    · rw [if_pos ⟨hx.1, hx.2, trivial⟩, if_pos]
      rw [List.mem_cons]; left
      exact (Prod.ext hx.1 hx.2).symm
    · rw [if_neg (fun h => hx ⟨h.1, h.2.1⟩), w64 (by omega) (by omega), show ((i : Int) + 1) = ((i + 1 : Nat) : Int) by omega, ih (i + 1) (by omega) k (by omega)]
      have : ((x, y) ∈ rd L (i : Int) :: L.drop (i + 1)) ↔ ((x, y) ∈ L.drop (i + 1)) := by
        rw [List.mem_cons]
        constructor
        · rintro (h | h)
          · exact absurd ⟨(congrArg Prod.fst h).symm, (congrArg Prod.snd h).symm⟩ hx
          · exact h
        · exact .inr
      simp only [this]
theorem has.eq (L : List T62_) (hL : L.length ≤ 16777216) (x y : Int) (K : Nat) (hK : L.length < K) : has.f K L x y = some (decide ((x, y) ∈ L)) := by
  unfold has.f
  have := has.l1_eq L hL x y L.length 0 (by omega) K hK
  rw [List.drop_zero] at this
  by_cases h : (x, y) ∈ L
  · rw [if_pos h] at this
    rw [decide_eq_true h]
    exact thn_ofL this
  · rw [if_neg h] at this
    rw [decide_eq_false h]
    exact thn_of this rfl
theorem sp_mem {b : List Int} {l : List Fr} (hb : Byt b) (hl : b.length ≤ 8388608) (h : Frs b 0 l) {p n : Nat} {f : D14} (hf : FrAt b p n f) : ((p : Int), (n : Int)) ∈ l.map sp := List.mem_map.2 ⟨(p, n, f), h.has hb (by omega) p n f (Nat.zero_le _) hf, rfl⟩
theorem lpick.rel (c n : Int) (hc : -9223372036854775808 ≤ c ∧ c < 9223372036854775808) (hn : 0 < n) : Ans (lpick.f c n) (fun r => ∃ m : Nat, r = (m : Int) ∧ (m : Int) < n) := by
  unfold lpick.f
  refine Ans.bind (Q := fun o => 0 ≤ o) (Ans.ite (fun h => Ans.some ?_) (fun h => Ans.some (by omega))) (fun o ho => Ans.gd (by omega) (Ans.some ?_))
  · rw [w64 (n := c + 1) (by omega) (by omega), w64 (by omega) (by omega)]; omega
  · have h1 := Int.tmod_lt_of_pos o hn
    have h2 := Int.tmod_nonneg n ho
    exact ⟨(Int.tmod o n).toNat, by omega, by omega⟩

/-! ### A part -/
def inP (i j : Nat) (x : Fr) : Bool := decide (i ≤ x.1 ∧ x.1 + x.2.1 ≤ j)
def down (i : Nat) (x : Fr) : Fr := (x.1 - i, x.2.1, x.2.2)
theorem Frs.part {b : List Int} (hb : Byt b) (hl : b.length ≤ 8388608) {l : List Fr} (h : Frs b 0 l) {i j : Nat} (hij : i ≤ j) (hj : j ≤ b.length) : Frs ((b.take j).drop i) 0 ((l.filter (inP i j)).map (down i)) := by
  refine Frs.of _ 0 ?_ ?_ ?_
  · have hp := h.sorted
    rw [List.pairwise_map]
    refine (List.Pairwise.imp_of_mem (R := fun x y => x.1 < y.1) (fun {x y} hx hy hxy => ?_) (hp.filter _))
    have h1 := (List.mem_filter.1 hx).2
    have h2 := (List.mem_filter.1 hy).2
    simp only [inP, decide_eq_true_eq] at h1 h2
    simp only [down]; omega
  · intro x hx
    obtain ⟨y, hy, rfl⟩ := List.mem_map.1 hx
    obtain ⟨hy1, hy2⟩ := List.mem_filter.1 hy
    simp only [inP, decide_eq_true_eq] at hy2
    refine ⟨Nat.zero_le _, ?_⟩
    have hf := (h.mem y hy1).2
    refine FrAt.drop ?_
    show FrAt (b.take j) (i + (y.1 - i)) y.2.1 y.2.2
    rw [show i + (y.1 - i) = y.1 by omega]
    exact hf.take hy2.2
  · intro p n f _ hf
    obtain ⟨h1, h2⟩ := hf.of_drop.of_take
    refine List.mem_map.2 ⟨(i + p, n, f), List.mem_filter.2 ⟨h.has hb (by omega) _ _ _ (Nat.zero_le _) h1, ?_⟩, ?_⟩
    · simp only [inP, decide_eq_true_eq]; omega
    · simp only [down]; congr 1; omega
theorem ScanPart.l1_eq (K : Nat) (hK : 16777300 < K) (i m : Nat) (hij : i + m ≤ 16777216) (part : List T62_) (hp : part.length ≤ 16777216) (l : List Fr) (hl : l.length ≤ 8388608) (hb : ∀ x ∈ l, x.1 + x.2.1 ≤ 16777216) (hin : ∀ x ∈ l, inP i (i + m) x = true → (((x.1 : Int) - (i : Int)), (x.2.1 : Int)) ∈ part) :
    ∀ (n q c : Nat), q + n = l.length → c ≤ q → ∀ k, n < k → ScanPart.l1 K (l.map sp) (i : Int) (m : Int) part k ((c : Int), (q : Int)) = some (.inr ((c + ((l.drop q).filter (inP i (i + m))).length : Nat) : Int)) := by
  intro n
  induction n with
  | zero =>
    intro q c h hc k hk
    obtain ⟨k, rfl⟩ : ∃ m, k = m + 1 := ⟨k - 1, by omega⟩
    rw [ScanPart.l1]; simp only
    rw [if_neg (by simp; omega), List.drop_of_length_le (by omega)]; simp
  | succ n ih =>
    intro q c h hc k hk
    obtain ⟨k, rfl⟩ : ∃ m, k = m + 1 := ⟨k - 1, by omega⟩
    have hq : q < l.length := by omega
    obtain ⟨x, hx⟩ : ∃ x, x = l[q] := ⟨_, rfl⟩
    have hxm : x ∈ l := by rw [hx]; exact List.getElem_mem hq
    have hxb := hb x hxm
    have hd : l.drop q = x :: l.drop (q + 1) := by rw [List.drop_eq_getElem_cons hq, hx]
    have hr : rd (l.map sp) (q : Int) = ((x.1 : Int), (x.2.1 : Int)) := by
      have hq' : q < (l.map sp).length := by simpa using hq
      have : rd (l.map sp) (q : Int) = (l.map sp)[q] := by simp [rd, List.getD, List.getElem?_eq_getElem hq]
      rw [this, List.getElem_map, ← hx]; rfl
    have hlm : (l.map sp).length = l.length := by simp
    rw [ScanPart.l1]; simp only
    rw [hlm, if_pos (by omega), gd_pos (by omega), gd_pos (by omega), hr, hd, List.filter_cons]
    have wq : IntKind.wrap .i64 ((q : Int) + 1) = ((q + 1 : Nat) : Int) := by rw [w64 (by omega) (by omega)]; omega
    have wj : IntKind.wrap .i64 ((i : Int) + (m : Int)) = ((i + m : Nat) : Int) := by rw [w64 (by omega) (by omega)]; omega
    have we : IntKind.wrap .i64 ((x.1 : Int) + (x.2.1 : Int)) = ((x.1 + x.2.1 : Nat) : Int) := by rw [w64 (by omega) (by omega)]; omega
    simp only [wj, we]
    by_cases hin2 : inP i (i + m) x = true
    · have hin3 := hin2
      simp only [inP, decide_eq_true_eq] at hin3
      rw [if_neg (by omega), Option.bind_some, if_neg (by rw [decide_eq_true_eq]; omega), w64 (n := (x.1 : Int) - (i : Int)) (by omega) (by omega), has.eq part hp _ _ K (by omega), Option.bind_some, if_pos (decide_eq_true (hin x hxm hin2)), thn_inr, wq, w64 (by omega) (by omega), show ((c : Int) + 1) = ((c + 1 : Nat) : Int) by omega, ih (q + 1) (c + 1) (by omega) (by omega) k (by omega), if_pos hin2]
      congr 2
      rw [List.length_cons]; omega
    · have hin3 : ¬ (i ≤ x.1 ∧ x.1 + x.2.1 ≤ i + m) := by simpa [inP] using hin2
      have hc2 : (if (x.1 : Int) < (i : Int) then (some true) else (some (decide (((i + m : Nat) : Int) < ((x.1 + x.2.1 : Nat) : Int))))) = some true := by
        split
        · rfl
        · rw [decide_eq_true (by omega)]
      rw [hc2, Option.bind_some, if_pos rfl, thn_inr, wq, ih (q + 1) c (by omega) (by omega) k (by omega), if_neg hin2]
theorem Pure.ScanPart : ∀ (a0 : List Int) (a1 : Int) (a2 : Int), (∀ x ∈ a0, (Lit.int .u8 x).wf = true) → (Lit.int .i64 a1).wf = true → (Lit.int .i64 a2).wf = true → a0.length ≤ 1048576 → ∃ K, ScanPart.f K a0 a1 a2 = some true := by
  intro b a1 a2 hb w1 w2 hl
  have hb := Byt.of hb
  refine ⟨40000000, ?_⟩
  generalize hK : 40000000 = K
  have key : Ans (ScanPart.f K b a1 a2) (fun r => r = true) := by
    unfold ScanPart.f
    rw [w64 (n := (b.length : Int) + 1) (by omega) (by omega)]
    refine Ans.bind (lpick.rel a1 _ (wf64 w1) (by omega)) (fun t1 h1 => ?_)
    obtain ⟨i, rfl, hi⟩ := h1
    rw [w64 (n := (b.length : Int) - (i : Int)) (by omega) (by omega), w64 (n := (b.length : Int) - (i : Int) + 1) (by omega) (by omega)]
    refine Ans.bind (lpick.rel a2 _ (wf64 w2) (by omega)) (fun t3 h3 => ?_)
    obtain ⟨m, rfl, hm⟩ := h3
    obtain ⟨l, h⟩ := Frs.all b 0
    have hlen := h.len (Nat.zero_le _)
    have wj : IntKind.wrap .i64 ((i : Int) + (m : Int)) = ((i + m : Nat) : Int) := by rw [w64 (by omega) (by omega)]; omega
    refine Ans.bind (Q := fun q => q = l.map sp) ⟨_, spots.eq hb (by omega) K (by omega) h, rfl⟩ (fun q hq => ?_)
    subst hq
    rw [wj, Int.toNat_natCast, Int.toNat_natCast]
    refine Ans.gd (by omega) ?_
    have hp := h.part hb (by omega) (i := i) (j := i + m) (by omega) (by omega)
    have hcl : ((b.take (i + m)).drop i).length ≤ b.length := by simp; omega
    refine Ans.bind (Q := fun q => q = ((l.filter (inP i (i + m))).map (down i)).map sp) ⟨_, spots.eq ((hb.take _).drop _) (by omega) K (by omega) hp, rfl⟩ (fun q hq => ?_)
    subst hq
    refine Ans.bind (Q := fun q => q = true) ⟨true, works.eq K (by omega), rfl⟩ (fun q hq => ?_)
    subst hq
    have hfl : (l.filter (inP i (i + m))).length ≤ l.length := List.length_filter_le _ _
    have h1 := ScanPart.l1_eq K (by omega) i m (by omega) (((l.filter (inP i (i + m))).map (down i)).map sp) (by simp; omega) l (by omega) (fun x hx => by have := (h.mem x hx).2.le; omega)
      (fun x hx hin => by
        have hin3 := hin
        simp only [inP, decide_eq_true_eq] at hin3
        refine List.mem_map.2 ⟨down i x, List.mem_map.2 ⟨x, List.mem_filter.2 ⟨hx, hin⟩, rfl⟩, ?_⟩
        show (((x.1 - i : Nat) : Int), (x.2.1 : Int)) = _
        congr 1; omega)
      l.length 0 0 (by omega) (Nat.le_refl _) K (by omega)
    have h1 : ScanPart.l1 K (l.map sp) (i : Int) (m : Int) (((l.filter (inP i (i + m))).map (down i)).map sp) K (0, 0) = _ := h1
    rw [h1, thn_inr, if_pos (by simp)]
    exact Ans.some rfl
  obtain ⟨r, h, hr⟩ := key
  rw [h, hr]

/-! ### A byte changed -/
theorem seg_set (b : List Int) (i : Nat) (v : Int) (p n : Nat) (h : i < p ∨ p + n ≤ i) : ((b.set i v).take (p + n)).drop p = (b.take (p + n)).drop p := by
  apply List.ext_getElem?
  intro j
  rw [List.getElem?_drop, List.getElem?_drop, List.getElem?_take, List.getElem?_take]
  split
  · rw [List.getElem?_set_ne (by omega)]
  · rfl
theorem FrAt.set {b : List Int} {p n : Nat} {f : D14} (h : FrAt b p n f) (i : Nat) (v : Int) (hi : i < p ∨ p + n ≤ i) : FrAt (b.set i v) p n f := h.seg (by rw [List.length_set]; exact h.le.2.2) (seg_set b i v p n hi)
theorem FrAt.of_set {b : List Int} {p n : Nat} {f : D14} {i : Nat} {v : Int} (h : FrAt (b.set i v) p n f) (hi : i < p ∨ p + n ≤ i) : FrAt b p n f := h.seg (by have := h.le.2.2; rwa [List.length_set] at this) (seg_set b i v p n hi).symm
theorem rd_map {l : List Fr} {q : Nat} (hq : q < l.length) : rd (l.map sp) (q : Int) = ((l[q].1 : Int), (l[q].2.1 : Int)) := by
  have : rd (l.map sp) (q : Int) = (l.map sp)[q]'(by simpa using hq) := by simp [rd, List.getD, List.getElem?_eq_getElem hq]
  rw [this, List.getElem_map]; rfl
theorem ScanHurt.l1_eq (K : Nat) (hK : 16777300 < K) (i : Nat) (other : List T62_) (ho : other.length ≤ 16777216) (l : List Fr) (hl : l.length ≤ 8388608) (hb : ∀ x ∈ l, x.1 + x.2.1 ≤ 16777216) (hin : ∀ x ∈ l, (i < x.1 ∨ x.1 + x.2.1 ≤ i) → ((x.1 : Int), (x.2.1 : Int)) ∈ other) :
    ∀ (n q : Nat), q + n = l.length → ∀ k, n < k → ScanHurt.l1 K (l.map sp) (i : Int) other k (q : Int) = some (.inr ()) := by
  intro n
  induction n with
  | zero =>
    intro q h k hk
    obtain ⟨k, rfl⟩ : ∃ m, k = m + 1 := ⟨k - 1, by omega⟩
    rw [ScanHurt.l1, if_neg (by simp; omega)]
  | succ n ih =>
    intro q h k hk
    obtain ⟨k, rfl⟩ : ∃ m, k = m + 1 := ⟨k - 1, by omega⟩
    have hq : q < l.length := by omega
    have hr := rd_map hq
    obtain ⟨x, hx⟩ : ∃ x, x = l[q] := ⟨_, rfl⟩
    rw [← hx] at hr
    have hxm : x ∈ l := by rw [hx]; exact List.getElem_mem hq
    have hxb := hb x hxm
    have hlm : (l.map sp).length = l.length := by simp
    have we : IntKind.wrap .i64 ((x.1 : Int) + (x.2.1 : Int)) = ((x.1 + x.2.1 : Nat) : Int) := by rw [w64 (by omega) (by omega)]; omega
    have hih : ScanHurt.l1 K (l.map sp) (i : Int) other k (IntKind.wrap .i64 ((q : Int) + 1)) = some (.inr ()) := by
      rw [w64 (by omega) (by omega), show ((q : Int) + 1) = ((q + 1 : Nat) : Int) by omega]
      exact ih (q + 1) (by omega) k (by omega)
    rw [ScanHurt.l1, hlm, if_pos (by omega), gd_pos (by omega), gd_pos (by omega), hr]
    simp only [we]
    have hc : (if (x.1 : Int) ≤ (i : Int) then (gd ((0 : Int) ≤ (q : Int) ∧ (q : Int) < (l.length : Int)) (gd ((0 : Int) ≤ (q : Int) ∧ (q : Int) < (l.length : Int)) (gd ((0 : Int) ≤ (q : Int) ∧ (q : Int) < (l.length : Int)) (gd ((0 : Int) ≤ (q : Int) ∧ (q : Int) < (l.length : Int)) (some (decide ((i : Int) < ((x.1 + x.2.1 : Nat) : Int)))))))) else (some false)) = some (decide (x.1 ≤ i ∧ i < x.1 + x.2.1)) := by
      split
      · rw [gd_pos (by omega), gd_pos (by omega), gd_pos (by omega), gd_pos (by omega)]
        congr 1
        exact decide_eq_decide.2 (by omega)
      · rw [decide_eq_false (by omega)]
    rw [hc, Option.bind_some, gd_pos (by omega), gd_pos (by omega), has.eq other ho _ _ K (by omega), Option.bind_some]
    by_cases hh : x.1 ≤ i ∧ i < x.1 + x.2.1
    · rw [if_pos (decide_eq_true hh), Option.bind_some, if_neg (by simp)]
      exact hih
    · rw [if_neg (by simpa using hh), Option.bind_some, if_neg (by simp [hin x hxm (by omega)])]
      exact hih
theorem ScanHurt.l2_eq (K : Nat) (hK : 16777300 < K) (i : Nat) (other : List T62_) (ho : other.length ≤ 16777216) (l : List Fr) (hl : l.length ≤ 8388608) (hb : ∀ x ∈ l, x.1 + x.2.1 ≤ 16777216) (hin : ∀ x ∈ l, (i < x.1 ∨ x.1 + x.2.1 ≤ i) → ((x.1 : Int), (x.2.1 : Int)) ∈ other) :
    ∀ (n q : Nat), q + n = l.length → ∀ k, n < k → ScanHurt.l2 K (l.map sp) (i : Int) other k (q : Int) = some (.inr ()) := by
  intro n
  induction n with
  | zero =>
    intro q h k hk
    obtain ⟨k, rfl⟩ : ∃ m, k = m + 1 := ⟨k - 1, by omega⟩
    rw [ScanHurt.l2, if_neg (by simp; omega)]
  | succ n ih =>
    intro q h k hk
    obtain ⟨k, rfl⟩ : ∃ m, k = m + 1 := ⟨k - 1, by omega⟩
    have hq : q < l.length := by omega
    have hr := rd_map hq
    obtain ⟨x, hx⟩ : ∃ x, x = l[q] := ⟨_, rfl⟩
    rw [← hx] at hr
    have hxm : x ∈ l := by rw [hx]; exact List.getElem_mem hq
    have hxb := hb x hxm
    have hlm : (l.map sp).length = l.length := by simp
    have we : IntKind.wrap .i64 ((x.1 : Int) + (x.2.1 : Int)) = ((x.1 + x.2.1 : Nat) : Int) := by rw [w64 (by omega) (by omega)]; omega
    have hih : ScanHurt.l2 K (l.map sp) (i : Int) other k (IntKind.wrap .i64 ((q : Int) + 1)) = some (.inr ()) := by
      rw [w64 (by omega) (by omega), show ((q : Int) + 1) = ((q + 1 : Nat) : Int) by omega]
      exact ih (q + 1) (by omega) k (by omega)
    rw [ScanHurt.l2, hlm, if_pos (by omega), gd_pos (by omega), gd_pos (by omega), hr]
    simp only [we]
    have hc : (if (x.1 : Int) ≤ (i : Int) then (gd ((0 : Int) ≤ (q : Int) ∧ (q : Int) < (l.length : Int)) (gd ((0 : Int) ≤ (q : Int) ∧ (q : Int) < (l.length : Int)) (gd ((0 : Int) ≤ (q : Int) ∧ (q : Int) < (l.length : Int)) (gd ((0 : Int) ≤ (q : Int) ∧ (q : Int) < (l.length : Int)) (some (decide ((i : Int) < ((x.1 + x.2.1 : Nat) : Int)))))))) else (some false)) = some (decide (x.1 ≤ i ∧ i < x.1 + x.2.1)) := by
      split
      · rw [gd_pos (by omega), gd_pos (by omega), gd_pos (by omega), gd_pos (by omega)]
        congr 1
        exact decide_eq_decide.2 (by omega)
      · rw [decide_eq_false (by omega)]
    rw [hc, Option.bind_some, gd_pos (by omega), gd_pos (by omega), has.eq other ho _ _ K (by omega), Option.bind_some]
    by_cases hh : x.1 ≤ i ∧ i < x.1 + x.2.1
    · rw [if_pos (decide_eq_true hh), Option.bind_some, if_neg (by simp)]
      exact hih
    · rw [if_neg (by simpa using hh), Option.bind_some, if_neg (by simp [hin x hxm (by omega)])]
      exact hih
theorem xor_byt {c v : Int} (hc : 0 ≤ c ∧ c < 256) (hv : 0 ≤ v ∧ v < 256) : 0 ≤ Sx.bits .xor .u8 c v ∧ Sx.bits .xor .u8 c v < 256 := by
  obtain ⟨x, rfl⟩ : ∃ x : Nat, c = x := ⟨c.toNat, by omega⟩
  obtain ⟨y, rfl⟩ : ∃ y : Nat, v = y := ⟨v.toNat, by omega⟩
  rw [bits_xor .u8 rfl x y (show x < 256 by omega) (show y < 256 by omega)]
  have : x ^^^ y < 2 ^ 8 := Nat.xor_lt_two_pow (by omega) (by omega)
  omega
theorem Pure.ScanHurt : ∀ (a0 : List Int) (a1 : Int) (a2 : Int), (∀ x ∈ a0, (Lit.int .u8 x).wf = true) → (Lit.int .i64 a1).wf = true → (Lit.int .u8 a2).wf = true → a0.length ≤ 1048576 → ∃ K, ScanHurt.f K a0 a1 a2 = some true := by
  intro b a1 a2 hb w1 w2 hl
  have hb := Byt.of hb
  refine ⟨40000000, ?_⟩
  generalize hK : 40000000 = K
  have key : Ans (ScanHurt.f K b a1 a2) (fun r => r = true) := by
    unfold ScanHurt.f
    rw [works.eq K (by omega), Option.bind_some]
    by_cases h0 : b.length = 0
    · rw [if_pos (by omega), Option.bind_some, if_pos rfl]; exact Ans.some rfl
    rw [if_neg (by omega), Option.bind_some, if_neg (by simp)]
    refine Ans.bind (lpick.rel a1 _ (wf64 w1) (by omega)) (fun t1 h1 => ?_)
    obtain ⟨i, rfl, hi⟩ := h1
    rw [lent.eq b (by omega) K (by omega), Option.bind_some]
    simp only
    rw [gd_pos (by omega), gd_pos (by omega), gd_pos (by omega), gd_pos (by rw [List.length_set]; omega), Int.toNat_natCast]
    obtain ⟨v, hv⟩ : ∃ v, v = Sx.bits .xor .u8 (rd b (i : Int)) a2 := ⟨_, rfl⟩
    rw [← hv]
    refine Ans.ite (fun _ => Ans.some rfl) (fun _ => ?_)
    have hvb : 0 ≤ v ∧ v < 256 := by rw [hv]; exact xor_byt (hb _ (rd_mem b i (by omega))) (wf8 w2)
    have hb2 : Byt (b.set i v) := by
      intro x hx
      rcases List.mem_or_eq_of_mem_set hx with h | h
      · exact hb x h
      · rw [h]; exact hvb
    have hl2 : (b.set i v).length = b.length := List.length_set
    obtain ⟨l, h⟩ := Frs.all b 0
    obtain ⟨l2, h2⟩ := Frs.all (b.set i v) 0
    have hlen := h.len (Nat.zero_le _)
    have hlen2 := h2.len (Nat.zero_le _)
    refine Ans.bind (Q := fun q => q = l.map sp) ⟨_, spots.eq hb (by omega) K (by omega) h, rfl⟩ (fun q hq => ?_)
    subst hq
    refine Ans.bind (Q := fun q => q = l2.map sp) ⟨_, spots.eq hb2 (by omega) K (by omega) h2, rfl⟩ (fun q hq => ?_)
    subst hq
    have e1 := ScanHurt.l1_eq K (by omega) i (l2.map sp) (by simp; omega) l (by omega) (fun x hx => by have := (h.mem x hx).2.le; omega) (fun x hx hx2 => sp_mem hb2 (by omega) h2 ((h.mem x hx).2.set i v hx2)) l.length 0 (by omega) K (by omega)
    have e2 := ScanHurt.l2_eq K (by omega) i (l.map sp) (by simp; omega) l2 (by omega) (fun x hx => by have := (h2.mem x hx).2.le; omega) (fun x hx hx2 => sp_mem hb (by omega) h ((h2.mem x hx).2.of_set hx2)) l2.length 0 (by omega) K (by omega)
    have e1 : ScanHurt.l1 K (l.map sp) (i : Int) (l2.map sp) K 0 = _ := e1
    have e2 : ScanHurt.l2 K (l2.map sp) (i : Int) (l.map sp) K 0 = _ := e2
    rw [e1, thn_inr, e2, thn_inr]
    exact Ans.some rfl
  obtain ⟨r, h, hr⟩ := key
  rw [h, hr]
end Go.Proofs.Ytkblnahoidbfkaa
