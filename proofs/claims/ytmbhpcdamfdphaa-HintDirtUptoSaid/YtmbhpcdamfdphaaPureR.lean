/- Own text. The plain part of the law HintDirt. Conditions: bytes of bounded number. -/
import Derived.Test.YtmbhpcdamfdphaaPureZ
import Derived.Test.YtmbhpcdamfdphaaLift7
set_option linter.unusedSimpArgs false
set_option linter.unusedVariables false
set_option maxRecDepth 100000
namespace Go.Proofs.Ytmbhpcdamfdphaa
open Go Go.Sx

theorem cln_cons' (x : Fr) (l : List Fr) : cln (x :: l) = frm x.2.2 ++ cln l := rfl
theorem tl_iff {b : List Int} {a : Nat} {l : List Fr} (h : Frs b a l) : a ≤ b.length → (Tl b a l ↔ (a + (cln l).length = b.length ∧ ∀ x ∈ l, Rec x.2.2)) := by
  induction h with
  | nil h1 =>
    intro ha
    show _ = _ ↔ _
    simp [cln]
  | @cons a p n f l h1 h2 h3 h4 ih =>
    intro ha
    have hle := h2.le
    have hc := cln_len h4 (by omega)
    have ih := ih (by omega)
    have hn := h2.2.1
    rw [cln_cons', List.length_append]
    show (p = a ∧ FrAt b a n f ∧ Rec f ∧ Tl b (a + n) l) ↔ _
    constructor
    · rintro ⟨rfl, g1, g2, g3⟩
      obtain ⟨k1, k2⟩ := ih.1 g3
      refine ⟨by simp only; omega, fun x hx => ?_⟩
      rcases List.mem_cons.1 hx with rfl | hx
      · exact g2
      · exact k2 x hx
    · rintro ⟨g1, g2⟩
      simp only at g1
      obtain rfl : p = a := by omega
      exact ⟨rfl, h2, g2 _ List.mem_cons_self, ih.2 ⟨by omega, fun x hx => g2 x (List.mem_cons_of_mem _ hx)⟩⟩
theorem val_kind {f : D14} (h : Val f) : f.1 = 1 ∨ f.1 = 2 ∨ f.1 = 3 ∨ f.1 = 4 := by
  rcases h.2 with ⟨l, k, v, rfl, _⟩ | ⟨l, k, rfl, _⟩ | ⟨l, d, a, n, k, rfl, _⟩ | ⟨c, b, r, s, rfl, _⟩ <;> simp
theorem contains4 (K : Nat) (hK : 9 < K) (k : Int) (h : k = 1 ∨ k = 2 ∨ k = 3 ∨ k = 4) : contains.f K [1, 2, 3, 4] k = some true := by
  obtain ⟨n, rfl⟩ : ∃ n, K = n + 9 := ⟨K - 9, by omega⟩
  rcases h with rfl | rfl | rfl | rfl <;> rfl
theorem contains2 (K : Nat) (hK : 9 < K) (k : Int) (h : k = 1 ∨ k = 2 ∨ k = 3 ∨ k = 4) : contains.f K [1, 2] k = some (decide (k = 1 ∨ k = 2)) := by
  obtain ⟨n, rfl⟩ : ∃ n, K = n + 9 := ⟨K - 9, by omega⟩
  rcases h with rfl | rfl | rfl | rfl <;> rfl
theorem sRecords.gen {b : List Int} (hb : Byt b) (hl : b.length ≤ 16777216) (K : Nat) (hK : b.length + 2097400 < K) {l : List Fr} (h : Frs b 0 l) (ks kt : List Int) (hks : (if (ks.length : Int) = 0 then some [1, 2] else some ks) = some kt) (c : Int → Bool) (hc : ∀ k, k = 1 ∨ k = 2 ∨ k = 3 ∨ k = 4 → contains.f K kt k = some (c k)) : sRecords.f K b ks = some ((l.filter fun x => c x.2.2.1).map x16) := by
  unfold sRecords.f
  rw [hks, Option.bind_some]
  show (some ()).bind _ = _
  rw [Option.bind_some, sallF.eq _ hb (by omega) K hK h]
  have hlen := h.len (Nat.zero_le _)
  have hk : ∀ x ∈ l, x.2.2.1 = 1 ∨ x.2.2.1 = 2 ∨ x.2.2.1 = 3 ∨ x.2.2.1 = 4 := fun x hx => val_kind (h.mem x hx).2.1
  have fold : ∀ (st : List T84_ → T16 → Option (List T84_ ⊕ Empty)), (∀ s x, s.length ≤ 16777216 → (x.1 = 1 ∨ x.1 = 2 ∨ x.1 = 3 ∨ x.1 = 4) → st s x = some (.inl (if c x.1 = true then s ++ [x] else s))) → ∀ (L : List Fr), (∀ x ∈ L, x.2.2.1 = 1 ∨ x.2.2.1 = 2 ∨ x.2.2.1 = 3 ∨ x.2.2.1 = 4) → ∀ (s : List T84_), s.length + L.length ≤ 16777216 → foldE st s (L.map x16) = some (.inl (s ++ (L.filter fun x => c x.2.2.1).map x16)) := by
    intro st hst L
    induction L with
    | nil => intro _ s _; simp [foldE]
    | cons x L ih =>
      intro hx s hs
      rw [List.length_cons] at hs
      have hx0 := hx x List.mem_cons_self
      rw [List.map_cons, foldE_cons (hst s (x16 x) (by omega) hx0)]
      have ih := ih (fun y hy => hx y (List.mem_cons_of_mem _ hy))
      by_cases cx : c x.2.2.1 = true
      · rw [if_pos (show c (x16 x).1 = true from cx), ih _ (by simp; omega), List.filter_cons_of_pos (by simpa using cx)]
        simp
      · rw [if_neg (show ¬ c (x16 x).1 = true from cx), ih _ (by omega), List.filter_cons_of_neg (by simpa using cx)]
  rw [fold _ (fun s x hs hx => ?_) l hk [] (by simp; omega), List.nil_append]
  · rfl
  · rw [hc _ hx, Option.bind_some]
    by_cases cx : c x.1 = true
    · rw [if_pos cx, if_pos cx, gd_pos (by simp; omega)]
    · rw [if_neg cx, if_neg cx]
theorem Pure.HintDirt : ∀ (a0 : List Int), (∀ x ∈ a0, (Lit.int .u8 x).wf = true) → a0.length ≤ 1048576 → ∃ K, HintDirt.f K a0 = some true := by
  intro b hb hl
  have hb := Byt.of hb
  refine ⟨40000000, ?_⟩
  generalize hK : 40000000 = K
  obtain ⟨l, h⟩ := Frs.all b 0
  have hlen := h.len (Nat.zero_le _)
  have e4 : sRecords.f K b [1, 2, 3, 4] = some (l.map x16) := by
    have := sRecords.gen hb (by omega) K (by omega) h [1, 2, 3, 4] [1, 2, 3, 4] (by rw [if_neg (by decide)]) (fun _ => true) (fun k hk => contains4 K (by omega) k hk)
    rw [this, List.filter_eq_self.2 (by simp)]
  have e2 := sRecords.gen hb (by omega) K (by omega) h [] [1, 2] (by rw [if_pos (by rfl)]) (fun k => decide (k = 1 ∨ k = 2)) (fun k hk => contains2 K (by omega) k hk)
  have hf : (l.filter fun x => decide (x.2.2.1 = 1 ∨ x.2.2.1 = 2)).length = l.length ↔ ∀ x ∈ l, Rec x.2.2 := by
    rw [List.length_filter_eq_length_iff]
    constructor
    · intro g x hx; exact of_decide_eq_true (p := x.2.2.1 = 1 ∨ x.2.2.1 = 2) (g x hx)
    · intro g x hx; have g' : x.2.2.1 = 1 ∨ x.2.2.1 = 2 := g x hx; exact decide_eq_true g'
  have ht := tl_iff h (Nat.zero_le _)
  rw [Nat.zero_add] at ht
  unfold HintDirt.f
  rw [known.eq K (by omega), Option.bind_some]
  by_cases hT : Tl b 0 l
  · obtain ⟨g1, g2⟩ := ht.1 hT
    have hF := frm_le (val_ft (c := (l.length : Int)) (b := (b.length : Int)) (r := (l.length : Int)) (s := crcV b) (by omega) (by omega) (by omega) (crcV_lt b))
    rw [hOf.ok hb (by omega) K (by omega) hT, Option.bind_some, sClean.eq hb (by omega) K (by omega) h, Option.bind_some, e4, Option.bind_some, e2, Option.bind_some, if_neg (by omega), if_neg (by rw [List.length_map, List.length_map, hf.2 g2]; simp), Option.bind_some, if_pos (by trivial)]
    have hd : decide ((4194304 : Int) < (b.length : Int)) = false := decide_eq_false (by omega)
    rw [hd]
    have hn : (hs (l.map ptr) ++ frm (ft (l.length : Int) (b.length : Int) (l.length : Int) (crcV b))).length ≠ 0 := by rw [List.length_append]; omega
    have hn' : decide (((hs (l.map ptr) ++ frm (ft (l.length : Int) (b.length : Int) (l.length : Int) (crcV b))).length : Int) = 0) = false := decide_eq_false (by omega)
    simp only
    rw [hn', if_pos (by rfl), if_pos (by rfl)]
    rfl
  · rw [hOf.no hb (by omega) K (by omega) h hT, Option.bind_some, sClean.eq hb (by omega) K (by omega) h, Option.bind_some, e4, Option.bind_some, e2, Option.bind_some]
    have hd : (if ((cln l).length : Int) ≠ (b.length : Int) then some true else if ((l.map x16).length : Int) ≠ (((l.filter fun x => decide (x.2.2.1 = 1 ∨ x.2.2.1 = 2)).map x16).length : Int) then some true else some (decide ((4194304 : Int) < (b.length : Int)))) = some true := by
      by_cases c1 : (cln l).length = b.length
      · rw [if_neg (by omega), if_pos]
        intro g
        apply hT
        refine ht.2 ⟨c1, hf.1 ?_⟩
        rw [List.length_map, List.length_map] at g
        exact (Int.ofNat.inj g).symm
      · rw [if_pos (by omega)]
    refine bind_of hd ?_
    simp
end Go.Proofs.Ytmbhpcdamfdphaa
