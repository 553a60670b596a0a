/- Own text. Plain words for the functions that walks come to: guards, wraps, bytes, lists. -/
import Derived.Test.YtakolnamobkkkaaSxCtl
import Derived.Test.YtakolnamobkkkaaSxLib
set_option linter.unusedSimpArgs false
set_option linter.unusedVariables false
namespace Go.Sx
open Go Go.RowKit

theorem w64 {n : Int} (h0 : -9223372036854775808 ≤ n) (h1 : n < 9223372036854775808) : IntKind.wrap .i64 n = n := by
  simp [IntKind.wrap, IntKind.bits, IntKind.signed]; omega
theorem w8 {n : Int} (h0 : 0 ≤ n) (h1 : n < 256) : IntKind.wrap .u8 n = n := by
  simp [IntKind.wrap, IntKind.bits, IntKind.signed]; omega
theorem w32 {n : Int} (h0 : 0 ≤ n) (h1 : n < 4294967296) : IntKind.wrap .u32 n = n := by
  simp [IntKind.wrap, IntKind.bits, IntKind.signed]; omega
theorem wu64 {n : Int} (h0 : 0 ≤ n) (h1 : n < 18446744073709551616) : IntKind.wrap .u64 n = n := by
  simp [IntKind.wrap, IntKind.bits, IntKind.signed]; omega
theorem gd_pos {α : Type} {p : Prop} [Decidable p] {x : Option α} (h : p) : gd p x = x := if_pos h
theorem gd_eq {α : Type} {p : Prop} [Decidable p] {x y : Option α} (h : p) (e : x = y) : gd p x = y := (gd_pos h).trans e
@[simp] theorem thn_inl {R S : Type} (r : R) (k : S → Option R) : thn (some (.inl r)) k = some r := rfl
@[simp] theorem thn_inr {R S : Type} (x : S) (k : S → Option R) : thn (some (.inr x)) k = k x := rfl
theorem bind_of {α β : Type} {x : Option α} {v : α} {f : α → Option β} {r : Option β} (h : x = some v) (e : f v = r) : x.bind f = r := by subst h; exact e
theorem thn_of {R S : Type} {x : Option (R ⊕ S)} {v : S} {k : S → Option R} {r : Option R} (h : x = some (.inr v)) (e : k v = r) : thn x k = r := by subst h; exact e
theorem thn_ofL {R S : Type} {x : Option (R ⊕ S)} {v : R} {k : S → Option R} (h : x = some (.inl v)) : thn x k = some v := by subst h; rfl

def Byt (xs : List Int) : Prop := ∀ x ∈ xs, 0 ≤ x ∧ x < 256
theorem wf8 {x : Int} (h : (Lit.int .u8 x).wf = true) : 0 ≤ x ∧ x < 256 := by
  simp [Lit.wf, IntKind.min, IntKind.max, IntKind.bits, IntKind.signed] at h; omega
theorem wf64 {x : Int} (h : (Lit.int .i64 x).wf = true) : -9223372036854775808 ≤ x ∧ x < 9223372036854775808 := by
  simp [Lit.wf, IntKind.min, IntKind.max, IntKind.bits, IntKind.signed] at h; omega
theorem wfu64 {x : Int} (h : (Lit.int .u64 x).wf = true) : 0 ≤ x ∧ x < 18446744073709551616 := by
  simp [Lit.wf, IntKind.min, IntKind.max, IntKind.bits, IntKind.signed] at h; omega
theorem wfu32 {x : Int} (h : (Lit.int .u32 x).wf = true) : 0 ≤ x ∧ x < 4294967296 := by
  simp [Lit.wf, IntKind.min, IntKind.max, IntKind.bits, IntKind.signed] at h; omega
theorem Byt.of {xs : List Int} (h : ∀ x ∈ xs, (Lit.int .u8 x).wf = true) : Byt xs := fun x hx => wf8 (h x hx)
theorem Byt.nil : Byt [] := fun _ h => by cases h
theorem Byt.cons {x : Int} {xs : List Int} : Byt (x :: xs) ↔ (0 ≤ x ∧ x < 256) ∧ Byt xs := by simp [Byt]
theorem Byt.app {xs ys : List Int} : Byt (xs ++ ys) ↔ Byt xs ∧ Byt ys := by
  simp only [Byt, List.mem_append]
  exact ⟨fun h => ⟨fun x hx => h x (.inl hx), fun x hx => h x (.inr hx)⟩, fun h x hx => hx.elim (h.1 x) (h.2 x)⟩
theorem Byt.take {xs : List Int} (h : Byt xs) (n : Nat) : Byt (xs.take n) := fun x hx => h x (List.mem_of_mem_take hx)
theorem Byt.drop {xs : List Int} (h : Byt xs) (n : Nat) : Byt (xs.drop n) := fun x hx => h x (List.mem_of_mem_drop hx)
theorem Byt.rep {n : Nat} {c : Int} (h : 0 ≤ c ∧ c < 256) : Byt (List.replicate n c) := fun x hx => by rw [List.eq_of_mem_replicate hx]; exact h

theorem strOfNums_inj : ∀ {xs ys : List Int}, Byt xs → Byt ys → strOfNums xs = strOfNums ys → xs = ys := by
  intro xs ys hx hy h
  have h1 : (strOfNums xs).data.toList = (strOfNums ys).data.toList := by rw [h]
  rw [strOfNums_data, strOfNums_data] at h1
  revert ys
  induction xs with
  | nil => intro ys hy _ h1; cases ys with
    | nil => rfl
    | cons y r => simp at h1
  | cons x xs ih =>
    intro ys hy h h1
    cases ys with
    | nil => simp at h1
    | cons y ys =>
      simp only [List.map_cons, List.cons.injEq] at h1
      obtain ⟨⟨hx0, hx1⟩, hxs⟩ := Byt.cons.1 hx
      obtain ⟨⟨hy0, hy1⟩, hys⟩ := Byt.cons.1 hy
      have e : x = y := by
        have := congrArg UInt8.toNat h1.1
        simp only [UInt8.toNat_ofNat'] at this
        omega
      have e2 : strOfNums xs = strOfNums ys := by
        apply ByteArray.ext; apply Array.ext'; rw [strOfNums_data, strOfNums_data]; exact h1.2
      rw [e, ih hxs hys e2 h1.2]
theorem strOfNums_eq {xs ys : List Int} (hx : Byt xs) (hy : Byt ys) : (strOfNums xs = strOfNums ys) = (xs = ys) := propext ⟨strOfNums_inj hx hy, fun h => by rw [h]⟩

theorem rd_nat (xs : List Int) (i : Nat) (h : i < xs.length) : rd xs (i : Int) = xs[i] := by
  simp [rd, List.getD_eq_getElem?_getD, h]
theorem rd_mem (xs : List Int) (i : Nat) (h : i < xs.length) : rd xs (i : Int) ∈ xs := by rw [rd_nat xs i h]; exact List.getElem_mem h
theorem rd_app_left (xs ys : List Int) (i : Nat) (h : i < xs.length) : rd (xs ++ ys) (i : Int) = rd xs (i : Int) := by
  rw [rd_nat _ _ (by simp; omega), rd_nat _ _ h, List.getElem_append_left h]
theorem rd_app_right (xs ys : List Int) (i : Nat) (h0 : xs.length ≤ i) (h : i < xs.length + ys.length) : rd (xs ++ ys) (i : Int) = rd ys ((i - xs.length : Nat) : Int) := by
  rw [rd_nat _ _ (by simp; omega), rd_nat _ _ (by omega), List.getElem_append_right h0]
theorem drop_cons (xs : List Int) (i : Nat) (h : i < xs.length) : xs.drop i = rd xs (i : Int) :: xs.drop (i + 1) := by
  rw [rd_nat xs i h]; exact List.drop_eq_getElem_cons h
theorem take_snoc (xs : List Int) (i : Nat) (h : i < xs.length) : xs.take (i + 1) = xs.take i ++ [rd xs (i : Int)] := by
  rw [rd_nat xs i h]; exact (List.take_append_getElem h).symm

/-! ### Bits -/
theorem wrapU (k : IntKind) (hk : k.signed = false) (n : Int) : k.wrap n = n % (2 ^ k.bits : Int) := by
  simp [IntKind.wrap, hk]
theorem wrapU_nat (k : IntKind) (hk : k.signed = false) (a : Nat) (ha : a < 2 ^ k.bits) : k.wrap (a : Int) = (a : Int) := by
  rw [wrapU k hk]
  have : ((2 : Int) ^ k.bits) = ((2 ^ k.bits : Nat) : Int) := by simp
  rw [this, ← Int.natCast_emod, Nat.mod_eq_of_lt ha]
theorem ofInt_nat (w a : Nat) : BitVec.ofInt w (a : Int) = BitVec.ofNat w a := by simp
theorem bits_and (k : IntKind) (hk : k.signed = false) (a b : Nat) (ha : a < 2 ^ k.bits) (hb : b < 2 ^ k.bits) : bits .and k (a : Int) (b : Int) = ((a &&& b : Nat) : Int) := by
  unfold bits; simp only [ofInt_nat, BitVec.toNat_and, BitVec.toNat_ofNat, Nat.mod_eq_of_lt ha, Nat.mod_eq_of_lt hb]
  exact wrapU_nat k hk _ (Nat.lt_of_le_of_lt Nat.and_le_left ha)
theorem bits_or (k : IntKind) (hk : k.signed = false) (a b : Nat) (ha : a < 2 ^ k.bits) (hb : b < 2 ^ k.bits) : bits .or k (a : Int) (b : Int) = ((a ||| b : Nat) : Int) := by
  unfold bits; simp only [ofInt_nat, BitVec.toNat_or, BitVec.toNat_ofNat, Nat.mod_eq_of_lt ha, Nat.mod_eq_of_lt hb]
  exact wrapU_nat k hk _ (Nat.or_lt_two_pow ha hb)
theorem bits_xor (k : IntKind) (hk : k.signed = false) (a b : Nat) (ha : a < 2 ^ k.bits) (hb : b < 2 ^ k.bits) : bits .xor k (a : Int) (b : Int) = ((a ^^^ b : Nat) : Int) := by
  unfold bits; simp only [ofInt_nat, BitVec.toNat_xor, BitVec.toNat_ofNat, Nat.mod_eq_of_lt ha, Nat.mod_eq_of_lt hb]
  exact wrapU_nat k hk _ (Nat.xor_lt_two_pow ha hb)
theorem shr_nat (k : IntKind) (a b : Nat) (hb : b ≤ k.bits) : shr k (a : Int) (b : Int) = ((a / 2 ^ b : Nat) : Int) := by
  unfold shr
  rw [Int.toNat_natCast, Nat.min_eq_left hb]
  have : ((2 : Int) ^ b) = ((2 ^ b : Nat) : Int) := by simp
  rw [this, Int.fdiv_eq_ediv_of_nonneg _ (Int.natCast_nonneg _), ← Int.natCast_ediv]
theorem shl_nat (k : IntKind) (hk : k.signed = false) (a b : Nat) (hb : b ≤ k.bits) : shl k (a : Int) (b : Int) = ((a * 2 ^ b % 2 ^ k.bits : Nat) : Int) := by
  unfold shl
  rw [Int.toNat_natCast, Nat.min_eq_left hb, wrapU k hk]
  have e1 : ((2 : Int) ^ b) = ((2 ^ b : Nat) : Int) := by simp
  have e2 : ((2 : Int) ^ k.bits) = ((2 ^ k.bits : Nat) : Int) := by simp
  rw [e1, e2, ← Int.natCast_mul, ← Int.natCast_emod]
theorem or_add {a m d : Nat} (ha : a < 2 ^ m) : a ||| (d * 2 ^ m) = a + d * 2 ^ m := by
  have := Nat.two_pow_add_eq_or_of_lt ha d
  rw [Nat.mul_comm d, Nat.or_comm, ← this, Nat.add_comm]

/-! ### The first of its kind; how many there are -/
def fidx : List Int → Int → Int
  | [], _ => -1
  | x :: r, c => if x = c then 0 else if fidx r c = -1 then -1 else fidx r c + 1
theorem u8_beq {x c : Int} (hx : 0 ≤ x ∧ x < 256) (hc : 0 ≤ c ∧ c < 256) : (UInt8.ofNat x.toNat == UInt8.ofNat c.toNat) = decide (x = c) := by
  rw [Bool.eq_iff_iff, beq_iff_eq, decide_eq_true_iff]
  constructor
  · intro h
    have := congrArg UInt8.toNat h
    simp only [UInt8.toNat_ofNat'] at this
    omega
  · intro h; rw [h]
theorem idxB_eq {xs : List Int} {c : Int} (hx : Byt xs) (hc : 0 ≤ c ∧ c < 256) : idxB xs c = fidx xs c := by
  unfold idxB
  induction xs with
  | nil => rfl
  | cons x r ih =>
    obtain ⟨h1, h2⟩ := Byt.cons.1 hx
    have ih := ih h2
    simp only [Lib.bytesOf, List.map_cons] at ih ⊢
    show (if (x.toNat.toUInt8 == c.toNat.toUInt8) = true then (0 : Int) else if (Lib.indexByte _ _ == -1) = true then -1 else Lib.indexByte _ _ + 1) = fidx (x :: r) c
    rw [ih]
    have e : (x.toNat.toUInt8 == c.toNat.toUInt8) = decide (x = c) := u8_beq h1 hc
    rw [e, fidx]
    simp only [decide_eq_true_eq, beq_iff_eq]
theorem cntB_eq {xs : List Int} {c : Int} (hx : Byt xs) (hc : 0 ≤ c ∧ c < 256) : cntB xs c = (xs.count c : Nat) := by
  unfold cntB Lib.countByte
  congr 1
  induction xs with
  | nil => rfl
  | cons x r ih =>
    obtain ⟨h1, h2⟩ := Byt.cons.1 hx
    have ih := ih h2
    simp only [Lib.bytesOf, List.map_cons] at ih ⊢
    rw [List.count_cons, List.count_cons, ih]
    have e : (x.toNat.toUInt8 == c.toNat.toUInt8) = decide (x = c) := u8_beq h1 hc
    rw [e]
    simp [beq_iff_eq]
theorem fidx_spec (c : Int) : ∀ xs : List Int, (fidx xs c = -1 ∧ c ∉ xs) ∨ ∃ j : Nat, fidx xs c = j ∧ j < xs.length ∧ rd xs j = c ∧ ∀ i : Nat, i < j → rd xs i ≠ c
  | [] => .inl ⟨rfl, by simp⟩
  | x :: r => by
    rw [fidx]
    by_cases h : x = c
    · right; refine ⟨0, by simp [h], by simp, by simp [rd, h], fun i hi => by omega⟩
    · rw [if_neg h]
      rcases fidx_spec c r with ⟨h1, h2⟩ | ⟨j, h1, h2, h3, h4⟩
      · left; rw [h1]; exact ⟨rfl, by simp [h2]; exact fun e => h e.symm⟩
      · right
        rw [h1, if_neg (by omega)]
        refine ⟨j + 1, rfl, by simp; omega, ?_, fun i hi => ?_⟩
        · rw [rd_nat _ _ (by simp; omega)]; rw [rd_nat _ _ h2] at h3; simpa using h3
        · cases i with
          | zero => simpa [rd] using h
          | succ i =>
            have := h4 i (by omega)
            rw [rd_nat _ _ (by simp; omega)]; rw [rd_nat _ _ (by omega)] at this; simpa using this
end Go.Sx
