/- Own text. The plain part of the law HintBack. Conditions: whole numbers in their types' bounds, bounded bulk. -/
import Derived.Test.YtmbhpcdamfdphaaPureZ
import Derived.Test.YtmbhpcdamfdphaaLift8
set_option linter.unusedSimpArgs false
set_option linter.unusedVariables false
set_option maxRecDepth 100000
namespace Go.Proofs.Ytmbhpcdamfdphaa
open Go Go.Sx

def recR (t : T50_) : D14 := (t.2.1, t.1, t.2.1, t.2.2.1, t.2.2.2, 0, 0, 0, 0, E0, 0, 0, 0, 0)
def WfR (x : T50_) : Prop := (Lit.int .u64 x.1).wf = true ∧ (Lit.int .i64 x.2.1).wf = true
def vf (t : T50_) : Bool := decide (chk (recR t) = some 0)
def mkF (t : T50_) : Fr := (0, (frm (recR t)).length, recR t)
def ra (L : List T50_) : List Fr := (L.filter vf).map mkF
theorem recR.wf {t : T50_} (h : WfR t) : Wf (recR t) := ⟨wfu64 h.1, ⟨Int.le_refl 0, by show (0 : Int) < 18446744073709551616; decide⟩, ⟨Int.le_refl 0, by show (0 : Int) < 4294967296; decide⟩⟩
theorem vf_iff {t : T50_} (h : WfR t) : vf t = true ↔ Val (recR t) := by
  unfold vf
  rw [decide_eq_true_iff]
  exact ⟨fun g => Val.of g (recR.wf h), fun g => g.1⟩
theorem recR.rec_ {t : T50_} (h : Val (recR t)) : Rec (recR t) := by
  rcases h.2 with ⟨l, k, v, e, _⟩ | ⟨l, k, e, _⟩ | ⟨l, d, a, n, k, e, _⟩ | ⟨c, b, r, s, e, _⟩
  · exact .inl (congrArg (·.1) e)
  · exact .inr (congrArg (·.1) e)
  · have h1 : t.2.1 = 3 := congrArg (·.1) e
    have h2 : t.2.1 = 0 := congrArg (·.2.2.1) e
    omega
  · have h1 : t.2.1 = 4 := congrArg (·.1) e
    have h2 : t.2.1 = 0 := congrArg (·.2.2.1) e
    omega
theorem ra_cons (t : T50_) (L : List T50_) : ra (t :: L) = if vf t = true then mkF t :: ra L else ra L := by
  unfold ra
  by_cases h : vf t = true
  · rw [if_pos h, List.filter_cons_of_pos h, List.map_cons]
  · rw [if_neg h, List.filter_cons_of_neg h]
theorem ra_app (L : List T50_) (t : T50_) : ra (L ++ [t]) = ra L ++ (if vf t = true then [mkF t] else []) := by
  unfold ra
  rw [List.filter_append, List.map_append]
  congr 1
  by_cases h : vf t = true
  · rw [if_pos h, List.filter_cons_of_pos h]; rfl
  · rw [if_neg h, List.filter_cons_of_neg h]; rfl
theorem cln_app' (l r : List Fr) : cln (l ++ r) = cln l ++ cln r := by simp [cln]
theorem ra_fine {L : List T50_} (hw : ∀ x ∈ L, WfR x) : ∀ y ∈ ra L, Val y.2.2 ∧ y.2.1 = (frm y.2.2).length ∧ Rec y.2.2 := by
  intro y hy
  obtain ⟨t, ht, rfl⟩ := List.mem_map.1 hy
  obtain ⟨h1, h2⟩ := List.mem_filter.1 ht
  have hv := (vf_iff (hw t h1)).1 h2
  exact ⟨hv, rfl, recR.rec_ hv⟩
theorem enc_recR (K : Nat) (hK : 2097200 < K) {t : T50_} (h : WfR t) : (Val (recR t) ∧ vf t = true ∧ fEncode.f K (recR t).1 (recR t).2.1 (recR t).2.2.1 (recR t).2.2.2.1 (recR t).2.2.2.2.1 (recR t).2.2.2.2.2.1 (recR t).2.2.2.2.2.2.1 (recR t).2.2.2.2.2.2.2.1 (recR t).2.2.2.2.2.2.2.2.1 (recR t).2.2.2.2.2.2.2.2.2.1 (recR t).2.2.2.2.2.2.2.2.2.2.1 (recR t).2.2.2.2.2.2.2.2.2.2.2.1 (recR t).2.2.2.2.2.2.2.2.2.2.2.2.1 (recR t).2.2.2.2.2.2.2.2.2.2.2.2.2 = some (frm (recR t), 0)) ∨ (vf t = false ∧ ∃ e : Int, e ≠ 0 ∧ fEncode.f K (recR t).1 (recR t).2.1 (recR t).2.2.1 (recR t).2.2.2.1 (recR t).2.2.2.2.1 (recR t).2.2.2.2.2.1 (recR t).2.2.2.2.2.2.1 (recR t).2.2.2.2.2.2.2.1 (recR t).2.2.2.2.2.2.2.2.1 (recR t).2.2.2.2.2.2.2.2.2.1 (recR t).2.2.2.2.2.2.2.2.2.2.1 (recR t).2.2.2.2.2.2.2.2.2.2.2.1 (recR t).2.2.2.2.2.2.2.2.2.2.2.2.1 (recR t).2.2.2.2.2.2.2.2.2.2.2.2.2 = some ([], e)) := by
  rcases encE.spec K hK _ (recR.wf h) with ⟨hv, he⟩ | ⟨hv, e, he0, he⟩
  · exact .inl ⟨hv, (vf_iff h).2 hv, he⟩
  · refine .inr ⟨?_, e, he0, he⟩
    cases c : vf t with
    | true => exact absurd ((vf_iff h).1 c) hv
    | false => rfl
theorem clean.l1_rel (K : Nat) (hK : 40000000 ≤ K) (L : List T50_) (hL : L.length ≤ 140737488355328) (hw : ∀ x ∈ L, WfR x) : ∀ (m i : Nat) (out : List Int), i + m = L.length → out = cln (ra (L.take i)) → out.length ≤ 4200400 → ∀ k, m < k →
    Ans (clean.l1 K L k (out, (i : Int))) (fun s => 4194304 < s.length ∨ (s = cln (ra L) ∧ s.length ≤ 4194304)) := by
  intro m
  induction m with
  | zero =>
    intro i out h1 h2 h3 k hk
    obtain ⟨k, rfl⟩ : ∃ q, k = q + 1 := ⟨k - 1, by omega⟩
    rw [clean.l1]; simp only
    rw [if_neg (by omega), Option.bind_some]
    rw [List.take_of_length_le (by omega)] at h2
    refine Ans.ite (fun h => by cases h) (fun _ => Ans.some ?_)
    rcases Nat.lt_or_ge 4194304 out.length with h | h
    · exact .inl h
    · exact .inr ⟨h2, h⟩
  | succ m ih =>
    intro i out h1 h2 h3 k hk
    obtain ⟨k, rfl⟩ : ∃ q, k = q + 1 := ⟨k - 1, by omega⟩
    rw [clean.l1]; simp only
    rw [if_pos (by omega), Option.bind_some]
    refine Ans.ite (fun h => ?_) (fun h => Ans.some (.inl (by have : ¬ ((out.length : Int) ≤ 4194304) := fun g => h (decide_eq_true g); omega)))
    have hlt := of_decide_eq_true h
    have wi : IntKind.wrap .i64 ((i : Int) + 1) = ((i + 1 : Nat) : Int) := by rw [w64 (by omega) (by omega)]; omega
    rw [wi, gd_pos (by omega), gd_pos (by omega)]
    have hm := rd_memT L i (by omega)
    have hwr := hw _ hm
    have htk : L.take (i + 1) = L.take i ++ [rd L (i : Int)] := by
      rw [List.take_add_one]; simp [rd, List.getD, List.getElem?_eq_getElem (show i < L.length by omega)]
    obtain ⟨t, ht⟩ : ∃ t, t = rd L (i : Int) := ⟨_, rfl⟩
    rw [← ht] at hwr htk ⊢
    refine Ans.bind (Q := fun o => o = cln (ra (L.take (i + 1))) ∧ o.length ≤ 4200400) ?_ (fun o ho => ih (i + 1) o (by omega) ho.1 ho.2 k (by omega))
    show Ans ((some (recR t)).bind _) _
    rw [Option.bind_some, htk, ra_app, cln_app', ← h2]
    rcases enc_recR K (by omega) hwr with ⟨hv, hf, he⟩ | ⟨hf, e, he0, he⟩
    · have hle := frm_le hv
      rw [he, Option.bind_some, if_pos (by trivial), gd_pos (by simp only; omega), if_pos hf]
      refine Ans.some ⟨?_, by simp only [List.length_append]; omega⟩
      simp [cln, mkF]
    · rw [he, Option.bind_some, if_neg he0, if_neg (by simp [hf])]
      exact Ans.some ⟨by simp [cln], h3⟩
theorem tl_lay (b : List Int) : ∀ (la : List Fr) (a : Nat), (∀ y ∈ la, Val y.2.2 ∧ y.2.1 = (frm y.2.2).length ∧ Rec y.2.2) → b.drop a = cln la → a ≤ b.length → Tl b a (layF a la)
  | [], a, _, h, ha => by
    have : (b.drop a).length = 0 := by rw [h]; rfl
    rw [List.length_drop] at this
    show a = b.length
    omega
  | (p, n, f) :: la, a, hf, h, ha => by
    have hx := hf _ List.mem_cons_self
    have hn : n = (frm f).length := hx.2.1
    have h' : b.drop a = frm f ++ cln la := h
    have hA := FrAt.of_drop_eq h' hx.1
    have hle := hA.le
    refine ⟨rfl, by show FrAt b a n f; rw [hn]; exact hA, hx.2.2, ?_⟩
    refine tl_lay b la (a + n) (fun y hy => hf y (List.mem_cons_of_mem _ hy)) ?_ (by rw [hn]; omega)
    rw [hn, ← List.drop_drop, h', List.drop_left]
theorem HintBack.l1_ok (K : Nat) (hK : 40000000 ≤ K) (L : List T50_) (hL : L.length ≤ 140737488355328) (hw : ∀ x ∈ L, WfR x) (s : List Int) (hb : Byt s) (hs : s.length ≤ 4194304) (l : List Fr) (hl : l.length ≤ 16777216) (hF : ∀ y ∈ l, FrAt s y.1 y.2.1 y.2.2 ∧ Rec y.2.2) : ∀ (m i a n : Nat), i + m = L.length → l.drop n = layF a (ra (L.drop i)) → n ≤ l.length → a ≤ s.length → ∀ k, m < k →
    HintBack.l1 K L (l.map ptr, 1) s k ((a : Int), (n : Int), (i : Int)) = some (.inr (l.length : Int)) := by
  intro m
  induction m with
  | zero =>
    intro i a n h1 h2 h3 h4 k hk
    obtain ⟨k, rfl⟩ : ∃ q, k = q + 1 := ⟨k - 1, by omega⟩
    have e0 : L.drop i = [] := List.drop_of_length_le (by omega)
    rw [e0] at h2
    have : (l.drop n).length = 0 := by rw [h2]; rfl
    rw [List.length_drop] at this
    rw [HintBack.l1]; simp only
    rw [if_neg (by omega), show n = l.length by omega]
  | succ m ih =>
    intro i a n h1 h2 h3 h4 k hk
    obtain ⟨k, rfl⟩ : ∃ q, k = q + 1 := ⟨k - 1, by omega⟩
    have hiL : i < L.length := by omega
    have hd : L.drop i = rd L (i : Int) :: L.drop (i + 1) := by
      rw [List.drop_eq_getElem_cons hiL]; congr 1; simp [rd, List.getD, List.getElem?_eq_getElem hiL]
    have hwr := hw _ (rd_memT L i hiL)
    have wi : IntKind.wrap .i64 ((i : Int) + 1) = ((i + 1 : Nat) : Int) := by rw [w64 (by omega) (by omega)]; omega
    rw [HintBack.l1]; simp only
    rw [if_pos (by omega), gd_pos (by omega), gd_pos (by omega), wi]
    obtain ⟨t, ht⟩ : ∃ t, t = rd L (i : Int) := ⟨_, rfl⟩
    rw [← ht] at hwr hd ⊢
    rw [hd, ra_cons] at h2
    show thn ((some (recR t)).bind _) _ = _
    rw [Option.bind_some]
    rcases enc_recR K (by omega) hwr with ⟨hv, hf, he⟩ | ⟨hf, e, he0, he⟩
    · rw [if_pos hf] at h2
      have h2 : l.drop n = (a, (frm (recR t)).length, recR t) :: layF (a + (frm (recR t)).length) (ra (L.drop (i + 1))) := h2
      obtain ⟨g1, g2, g3⟩ := drop_rdT h2
      have hmem : (a, (frm (recR t)).length, recR t) ∈ l := List.mem_of_mem_drop (by rw [h2]; exact List.mem_cons_self)
      obtain ⟨hA, hr⟩ := hF _ hmem
      simp only at hA hr
      have hle := hA.le
      have h2m : (l.map ptr).drop n = ptr (a, (frm (recR t)).length, recR t) :: (layF (a + (frm (recR t)).length) (ra (L.drop (i + 1)))).map ptr := by rw [← List.map_drop, h2, List.map_cons]
      obtain ⟨k1, k2, k3⟩ := drop_rdT h2m
      have hp : ptr (a, (frm (recR t)).length, recR t) = (t.1, t.2.1, (a : Int), ((frm (recR t)).length : Int), t.2.2.1) := rfl
      have hc := hCheck.ok hb (by omega) K (by omega) hA hr
      have wn : IntKind.wrap .i64 ((n : Int) + 1) = ((n + 1 : Nat) : Int) := by rw [w64 (by omega) (by omega)]; omega
      have wa : IntKind.wrap .i64 ((a : Int) + ((frm (recR t)).length : Int)) = ((a + (frm (recR t)).length : Nat) : Int) := by rw [w64 (by omega) (by omega)]; omega
      rw [he, Option.bind_some, if_neg (by simp), if_neg (by omega), gd_pos (by omega), gd_pos (by omega), k2, Option.bind_some]
      simp only
      rw [if_neg (by rw [hp]; simp), gd_pos (by omega), gd_pos (by omega), hc, Option.bind_some, if_pos (by trivial), thn_inr, wn, wa]
      exact ih (i + 1) _ _ (by omega) g3 (by omega) (by omega) k (by omega)
    · rw [if_neg (by simp [hf])] at h2
      rw [he, Option.bind_some, if_pos he0, thn_inr]
      exact ih (i + 1) a n (by omega) h2 h3 h4 k (by omega)
theorem Pure.HintBack : ∀ (a0 : List T50_) (a1 a2 a3 : Int), (∀ x ∈ a0, WfR x) → a0.length * 48 ≤ 140737488351232 → (Lit.int .i64 a1).wf = true → (Lit.int .i64 a2).wf = true → (Lit.int .u32 a3).wf = true → ∃ K, HintBack.f K a0 a1 a2 a3 = some true := by
  intro L p0 p1 p2 hw hl _ _ _
  refine ⟨1000000000000000, ?_⟩
  generalize hK : 1000000000000000 = K
  have key : Ans (HintBack.f K L p0 p1 p2) (fun r => r = true) := by
    unfold HintBack.f
    rw [known.eq K (by omega), Option.bind_some]
    have hcl := clean.l1_rel K (by omega) L (by omega) hw L.length 0 [] (by omega) rfl (by simp) K (by omega)
    have hcl : Ans (clean.l1 K L K ([], 0)) _ := hcl
    refine Ans.bind (Q := fun s => 4194304 < s.length ∨ (s = cln (ra L) ∧ s.length ≤ 4194304)) (by unfold clean.f; exact Ans.bind hcl (fun s hs => Ans.some hs)) (fun s hs => ?_)
    rcases hs with h | ⟨rfl, h⟩
    · rw [if_pos (by omega)]
      exact Ans.some rfl
    · have hf := ra_fine hw
      have hF := Frs.lay0 (ra L) (fun y hy => ⟨(hf y hy).1, (hf y hy).2.1⟩)
      have hT := tl_lay (cln (ra L)) (ra L) 0 hf rfl (Nat.zero_le _)
      obtain ⟨l, hle⟩ : ∃ l, l = layF 0 (ra L) := ⟨_, rfl⟩
      rw [← hle] at hF hT
      have hb : Byt (cln (ra L)) := by
        have := cln_byt hF
        have e : ∀ (r : List Fr) (k : Nat), cln (layF k r) = cln r := cln_lay
        rwa [hle, e] at this
      obtain ⟨s, hs⟩ : ∃ s, s = cln (ra L) := ⟨_, rfl⟩
      rw [← hs] at hF hT hb h ⊢
      have hll := hT.len
      have hch := Tl.ch l 0 hT
      have hV := val_ft (c := (l.length : Int)) (b := (s.length : Int)) (r := (l.length : Int)) (s := crcV s) (by omega) (by omega) (by omega) (crcV_lt s)
      have hload := fun pb pr pu => hLoad.ok (Tl.vp hT h) hV hch.1 (by rw [List.length_map]; omega) K (by rw [List.length_map]; omega) (by rw [List.length_map]) hch.2.symm (by rw [List.length_map]) pb pr pu
      rw [if_neg (by omega), hOf.ok hb h K (by omega) hT, Option.bind_some, sPrint.eq hb (by omega) K (by omega) hF, Option.bind_some]
      have hload1 := hload (s.length : Int) (l.length : Int) (crcV s)
      rw [if_pos ⟨rfl, rfl, rfl⟩] at hload1
      simp only
      rw [hload1, Option.bind_some]
      simp only
      rw [if_pos (by trivial), if_neg (by simp), if_neg (by simp), Option.bind_some, if_neg (by simp)]
      have hloop := HintBack.l1_ok K (by omega) L (by omega) hw s hb h l (by omega) (Tl.mem l 0 hT) L.length 0 0 0 (by omega) (by rw [List.drop_zero, List.drop_zero]; exact hle) (Nat.zero_le _) (Nat.zero_le _) K (by omega)
      have hloop : HintBack.l1 K L (l.map ptr, 1) s K (0, 0, 0) = _ := hloop
      rw [hloop, thn_inr, hload, Option.bind_some]
      by_cases e : (s.length : Int) = p0 ∧ (l.length : Int) = p1 ∧ crcV s = p2
      · rw [if_pos e]
        refine Ans.bind (Q := fun _ => True) (Ans.ite (fun _ => Ans.some trivial) (fun _ => Ans.some trivial)) (fun o _ => ?_)
        rw [if_pos (by simp), if_pos ⟨e.1.symm, e.2.1.symm, e.2.2.symm, trivial⟩]
        exact Ans.some rfl
      · rw [if_neg e, if_pos (by rfl), Option.bind_some, if_pos (by simp), if_neg (fun g => e ⟨g.1.symm, g.2.1.symm, g.2.2.1.symm⟩)]
        exact Ans.some (by rfl)
  obtain ⟨r, h, hr⟩ := key
  rw [h, hr]
end Go.Proofs.Ytmbhpcdamfdphaa
