/- Own text. bytes.Compare's entry: what it answers. -/
import Derived.Test.YtakolnamobkkkaaSxLib
set_option linter.unusedSimpArgs false
set_option linter.unusedVariables false
namespace Go.Sx
open Go Go.RowKit
variable {P : Program} {ro : Option Nat} {n : Nat} {ds : List Deferred} {ops : Array Oper} {Q : Exit → Act → World → Prop} {rest : List Oper} {s s' : Env}
variable {B : Nat} {w0 : World} {G G' : List HP}
def cmpB (xs ys : List Int) : Int := Extern.BytealgCompare.cmp ⟨(Lib.bytesOf xs).toArray⟩ ⟨(Lib.bytesOf ys).toArray⟩
theorem run_cmp {A A' : Option Addr} {c c' : Nat} {xs ys : List Int} {w : World} (hr : Rd w A (xs.map (Value.int .u8))) (hs : Rd w A' (ys.map (Value.int .u8))) : (Extern.BytealgCompare.compare #[.slice A xs.length c, .slice A' ys.length c']).run P w = .ok (.int .i64 (cmpB xs ys)) w := by
  change Sem.run P (do
    let x ← Extern.Bytes.bytesOf (.slice A xs.length c)
    let y ← Extern.Bytes.bytesOf (.slice A' ys.length c')
    pure (goInt (Extern.BytealgCompare.cmp x y))) w = _
  rw [Sem.run_bind, run_bytesOf hr]
  simp only [Result.andThen_ok, Sem.run_bind, run_bytesOf hs, Sem.run_pure]
  rfl
section
variable {d : Nat} {ty : TypeId} {pos : String} {aft : Array Edge} {gd : Option (Nat × Bool)}
theorem Y.cmp {fo : Operand} {xo : Array Operand} {ts : Array TypeId} {f : FuncId} {A A' : Option Addr} {c c' : Nat} {xs ys : List Int} (he : ExF P f Extern.BytealgCompare.compare) (hf : s.ev fo = some (.func (.func f) #[] #[]))
    (hx : s.evs xo.toList = some [.slice A xs.length c, .slice A' ys.length c']) (hr : RdG B w0 G A (xs.map (Value.int .u8))) (hs : RdG B w0 G A' (ys.map (Value.int .u8))) : Qs P n ds B w0 ⟨some d, .call { callee := .value fo, args := xo, argTypes := ts }, ty, pos, aft, gd⟩ s G (.int .i64 (cmpB xs ys)) :=
  Y.ext1 he hf hx fun L w hw => run_cmp (hr L w hw) (hs L w hw)
end
/-! ### The order of bytes -/
def lexU : List UInt8 → List UInt8 → Int
  | [], [] => 0
  | [], _ :: _ => -1
  | _ :: _, [] => 1
  | x :: l, y :: r => if x = y then lexU l r else if x < y then -1 else 1
theorem get_list (l : List UInt8) (i : Nat) : (⟨l.toArray⟩ : ByteArray)[i]! = l.getD i 0 := by
  by_cases h : i < l.length
  · have hs : i < (⟨l.toArray⟩ : ByteArray).size := by show i < l.toArray.size; simpa using h
    rw [getElem!_pos _ i hs]
    show l.toArray[i] = _
    simp [List.getD, List.getElem?_eq_getElem h]
  · have hs : ¬ i < (⟨l.toArray⟩ : ByteArray).size := by show ¬ i < l.toArray.size; simpa using h
    rw [getElem!_neg _ i hs]
    simp [List.getD, List.getElem?_eq_none (by omega : l.length ≤ i)]
    rfl
theorem cmp_lex : ∀ (l r : List UInt8), Extern.BytealgCompare.cmp ⟨l.toArray⟩ ⟨r.toArray⟩ = lexU l r
  | [], [] => rfl
  | [], y :: r => by
    unfold Extern.BytealgCompare.cmp
    have e : min (⟨([] : List UInt8).toArray⟩ : ByteArray).size (⟨(y :: r).toArray⟩ : ByteArray).size = 0 := by show min 0 _ = 0; omega
    rw [e]
    show (if 0 < (y :: r).toArray.size then (-1 : Int) else _) = -1
    rw [if_pos (by simp)]
  | x :: l, [] => by
    unfold Extern.BytealgCompare.cmp
    have e : min (⟨(x :: l).toArray⟩ : ByteArray).size (⟨([] : List UInt8).toArray⟩ : ByteArray).size = 0 := by show min _ 0 = 0; omega
    rw [e]
    show (if (x :: l).toArray.size < 0 then (-1 : Int) else if (x :: l).toArray.size > 0 then 1 else 0) = 1
    rw [if_neg (by omega), if_pos (by simp)]
  | x :: l, y :: r => by
    have ih := cmp_lex l r
    unfold Extern.BytealgCompare.cmp at ih ⊢
    have e : min (⟨(x :: l).toArray⟩ : ByteArray).size (⟨(y :: r).toArray⟩ : ByteArray).size = min (⟨l.toArray⟩ : ByteArray).size (⟨r.toArray⟩ : ByteArray).size + 1 := by
      show min (x :: l).toArray.size (y :: r).toArray.size = min l.toArray.size r.toArray.size + 1
      simp only [List.size_toArray, List.length_cons]; omega
    rw [e, List.range_succ_eq_map, List.find?_cons, List.find?_map]
    simp only [get_list] at ih ⊢
    by_cases h : x = y
    · subst h
      have e0 : ((x :: l).getD 0 0 != (x :: r).getD 0 0) = false := by simp
      rw [e0]
      simp only
      rw [lexU, if_pos rfl, ← ih]
      have ep : ((fun i => (x :: l).getD i 0 != (x :: r).getD i 0) ∘ Nat.succ) = fun i => l.getD i 0 != r.getD i 0 := by
        funext i; simp [List.getD]
      rw [ep]
      have es : ∀ l : List UInt8, (⟨(x :: l).toArray⟩ : ByteArray).size = (⟨l.toArray⟩ : ByteArray).size + 1 := fun l => by show (x :: l).toArray.size = l.toArray.size + 1; simp
      cases (List.range (min (⟨l.toArray⟩ : ByteArray).size (⟨r.toArray⟩ : ByteArray).size)).find? fun i => l.getD i 0 != r.getD i 0 with
      | none =>
        simp only [Option.map_none, es]
        simp only [Nat.add_lt_add_iff_right, gt_iff_lt]
      | some i => first | rfl | (simp [List.getD]; done) | (simp [List.getD]; rfl)
    · have e0 : ((x :: l).getD 0 0 != (y :: r).getD 0 0) = true := by simp [List.getD, h]
      rw [e0]
      simp only
      rw [lexU, if_neg h]
      simp [List.getD]
theorem lexU_neg : ∀ (l r : List UInt8), lexU r l = - lexU l r
  | [], [] => rfl
  | [], y :: r => rfl
  | x :: l, [] => rfl
  | x :: l, y :: r => by
    rw [lexU, lexU]
    by_cases h : x = y
    · rw [if_pos h, if_pos h.symm, lexU_neg l r]
    · rw [if_neg h, if_neg (fun e => h e.symm)]
      have h' : x.toNat ≠ y.toNat := fun e => h (UInt8.toNat_inj.1 e)
      by_cases c : x < y
      · rw [if_pos c, if_neg (by rw [UInt8.lt_iff_toNat_lt] at c ⊢; omega)]; rfl
      · rw [if_neg c, if_pos (by rw [UInt8.lt_iff_toNat_lt] at c ⊢; omega)]
theorem lexU_range : ∀ (l r : List UInt8), lexU l r = -1 ∨ lexU l r = 0 ∨ lexU l r = 1
  | [], [] => .inr (.inl rfl)
  | [], y :: r => .inl rfl
  | x :: l, [] => .inr (.inr rfl)
  | x :: l, y :: r => by
    rw [lexU]
    by_cases h : x = y
    · rw [if_pos h]; exact lexU_range l r
    · rw [if_neg h]; split <;> simp
theorem lexU_zero : ∀ (l r : List UInt8), lexU l r = 0 → l = r
  | [], [], _ => rfl
  | [], y :: r, h => by cases h
  | x :: l, [], h => by cases h
  | x :: l, y :: r, h => by
    rw [lexU] at h
    by_cases e : x = y
    · rw [if_pos e] at h; rw [e, lexU_zero l r h]
    · rw [if_neg e] at h; split at h <;> cases h
theorem lexU_trans : ∀ (a b c : List UInt8), lexU a b ≤ 0 → lexU b c ≤ 0 → lexU a c ≤ 0 ∧ (lexU a b < 0 ∨ lexU b c < 0 → lexU a c < 0)
  | [], b, [], h1, h2 => by
    cases b with
    | nil => exact ⟨by decide, by decide⟩
    | cons y b => exact absurd h2 (by show ¬ ((1 : Int) ≤ 0); decide)
  | [], b, z :: c, _, _ => ⟨by show (-1 : Int) ≤ 0; decide, fun _ => by show (-1 : Int) < 0; decide⟩
  | x :: a, [], c, h1, _ => absurd h1 (by show ¬ ((1 : Int) ≤ 0); decide)
  | x :: a, y :: b, [], _, h2 => absurd h2 (by show ¬ ((1 : Int) ≤ 0); decide)
  | x :: a, y :: b, z :: c, h1, h2 => by
    rw [lexU] at h1 h2 ⊢
    rw [show lexU (x :: a) (y :: b) = if x = y then lexU a b else if x < y then -1 else 1 from rfl, show lexU (y :: b) (z :: c) = if y = z then lexU b c else if y < z then -1 else 1 from rfl]
    have lt : ∀ p q : UInt8, p < q ↔ p.toNat < q.toNat := fun p q => UInt8.lt_iff_toNat_lt
    have ne : ∀ p q : UInt8, p = q ↔ p.toNat = q.toNat := fun p q => UInt8.toNat_inj.symm
    have ih := lexU_trans a b c
    by_cases e1 : x = y
    · subst e1
      rw [if_pos rfl] at h1
      rw [if_pos rfl]
      by_cases e2 : x = z
      · subst e2
        rw [if_pos rfl] at h2 ⊢
        rw [if_pos rfl]
        exact ih h1 h2
      · rw [if_neg e2] at h2 ⊢
        by_cases c2 : x < z
        · rw [if_pos c2]; exact ⟨by decide, fun _ => by decide⟩
        · rw [if_neg c2] at h2; exact absurd h2 (by decide)
    · rw [if_neg e1] at h1
      by_cases c1 : x < y
      · by_cases e2 : y = z
        · subst e2
          rw [if_neg e1, if_pos c1]; exact ⟨by decide, fun _ => by decide⟩
        · rw [if_neg e2] at h2
          by_cases c2 : y < z
          · rw [lt] at c1 c2
            rw [if_neg (by rw [ne]; omega), if_pos (by rw [lt]; omega)]; exact ⟨by decide, fun _ => by decide⟩
          · rw [if_neg c2] at h2; exact absurd h2 (by decide)
      · rw [if_neg c1] at h1; exact absurd h1 (by decide)
end Go.Sx
