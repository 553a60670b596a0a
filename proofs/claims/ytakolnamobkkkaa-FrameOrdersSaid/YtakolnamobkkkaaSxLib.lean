/- Own text. Functions of Go's library without a body: what the model's entries answer. -/
import Derived.Test.YtakolnamobkkkaaSxDraw
import Derived.Lib.BytesEntry
import Derived.Laws.Externs
set_option linter.unusedSimpArgs false
set_option linter.unusedVariables false
namespace Go.Sx
open Go Go.RowKit
variable {P : Program} {ro : Option Nat} {n : Nat} {ds : List Deferred} {ops : Array Oper} {Q : Exit → Act → World → Prop} {rest : List Oper} {s s' : Env}
variable {B : Nat} {w0 : World} {G G' : List HP}

/-- A function without a body: the model's entry e answers. -/
def ExF (P : Program) (f : FuncId) (e : Array Value → Sem Value) : Prop := ∀ args w, (callFunc f args).run P w = ((e args).run P w).andThen fun v w' => .ok (.value v) w'
theorem ExF.of {f : FuncId} {fn : Func} {e : Array Value → Sem Value} (hf : P.funcs[f]? = some fn) (hname : (fn.name == "runtime.NumGoroutine") = false) (hb : fn.body.isNone = true) (hn : Extern.findNext fn = none) (he : Extern.find fn = some e) : ExF P f e :=
  fun args w => run_callFunc_extern hf hname hb hn he args w
theorem run_bytesOf {A : Option Addr} {c : Nat} {xs : List Int} {w : World} (hr : Rd w A (xs.map (Value.int .u8))) : (Extern.Bytes.bytesOf (.slice A xs.length c)).run P w = .ok ⟨(Lib.bytesOf xs).toArray⟩ w := by
  cases A with
  | none =>
    cases xs with
    | nil => simp [Extern.Bytes.bytesOf, Lib.bytesOf]; rfl
    | cons x r =>
      obtain ⟨a, e, _⟩ := hr 0 (.int .u8 x) rfl
      cases e
  | some a =>
    have h := Lib.run_loadBytesX (P := P) w xs a .empty (fun j x hj => by
      obtain ⟨b, e, hc⟩ := hr j (.int .u8 x) (by simp [hj])
      cases e; exact hc)
    have he : (⟨ByteArray.empty.data ++ (Lib.bytesOf xs).toArray⟩ : ByteArray) = ⟨(Lib.bytesOf xs).toArray⟩ := by
      apply ByteArray.ext
      show (#[] : Array UInt8) ++ (Lib.bytesOf xs).toArray = (Lib.bytesOf xs).toArray
      simp
    rw [he] at h
    exact h
theorem run_bytesOfS {b : ByteArray} {w : World} : (Extern.Bytes.bytesOf (.string b)).run P w = .ok b w := rfl
def idxB (xs : List Int) (c : Int) : Int := Lib.indexByte (Lib.bytesOf xs) c.toNat.toUInt8
def cntB (xs : List Int) (c : Int) : Int := Lib.countByte (Lib.bytesOf xs) c.toNat.toUInt8
theorem run_idx {A : Option Addr} {c : Nat} {xs : List Int} {w : World} {b : Int} (hr : Rd w A (xs.map (Value.int .u8))) : (Extern.BytealgIndexByte.indexByte #[.slice A xs.length c, .int .u8 b]).run P w = .ok (.int .i64 (idxB xs b)) w := by
  have hs := Lib.run_indexByteString (P := P) ⟨(Lib.bytesOf xs).toArray⟩ b w
  change Sem.run P (do
    let x ← Extern.Bytes.bytesOf (.string ⟨(Lib.bytesOf xs).toArray⟩)
    let y ← Extern.Bytes.asByte (.int .u8 b)
    match (List.range x.size).find? fun i => x[i]! == y with
    | some i => pure (goInt i)
    | none => pure (goInt (-1))) w = _ at hs
  change Sem.run P (do
    let x ← Extern.Bytes.bytesOf (.slice A xs.length c)
    let y ← Extern.Bytes.asByte (.int .u8 b)
    match (List.range x.size).find? fun i => x[i]! == y with
    | some i => pure (goInt i)
    | none => pure (goInt (-1))) w = _
  rw [Sem.run_bind, run_bytesOfS] at hs
  rw [Sem.run_bind, run_bytesOf hr]
  exact hs
theorem run_cnt {A : Option Addr} {c : Nat} {xs : List Int} {w : World} {b : Int} (hr : Rd w A (xs.map (Value.int .u8))) : (Extern.BytealgCount.count #[.slice A xs.length c, .int .u8 b]).run P w = .ok (.int .i64 (cntB xs b)) w := by
  have hs := Lib.run_countString (P := P) ⟨(Lib.bytesOf xs).toArray⟩ b w
  change Sem.run P (do
    let x ← Extern.Bytes.bytesOf (.string ⟨(Lib.bytesOf xs).toArray⟩)
    let y ← Extern.Bytes.asByte (.int .u8 b)
    pure (goInt (x.foldl (fun n x => if x == y then n + 1 else n) (0 : Nat)))) w = _ at hs
  change Sem.run P (do
    let x ← Extern.Bytes.bytesOf (.slice A xs.length c)
    let y ← Extern.Bytes.asByte (.int .u8 b)
    pure (goInt (x.foldl (fun n x => if x == y then n + 1 else n) (0 : Nat)))) w = _
  rw [Sem.run_bind, run_bytesOfS] at hs
  rw [Sem.run_bind, run_bytesOf hr]
  exact hs
section
variable {d : Nat} {ty : TypeId} {pos : String} {aft : Array Edge} {gd : Option (Nat × Bool)}
theorem Y.ext1 {fo : Operand} {xs : Array Operand} {ts : Array TypeId} {f : FuncId} {e : Array Value → Sem Value} {vs : List Value} {v : Value} (he : ExF P f e) (hf : s.ev fo = some (.func (.func f) #[] #[])) (hx : s.evs xs.toList = some vs)
    (h : ∀ L w, St B w0 (L ++ G) w → (e vs.toArray).run P w = .ok v w) : Qs P n ds B w0 ⟨some d, .call { callee := .value fo, args := xs, argTypes := ts }, ty, pos, aft, gd⟩ s G v := fun L a w ha hw => by
  have e1 : xs.map a.eval = vs.toArray := by rw [← ha.evs hx]; exact Array.ext' (by simp)
  have h2 := he vs.toArray w
  rw [h L w hw] at h2
  have e0 : (#[] : Array Value) ++ vs.toArray ++ #[] = vs.toArray := by simp
  simp only [execOp, resolve, Deferred.ofValue, Sem.run_bind, Sem.run_pure, ha.ev hf, e1, Result.andThen_ok, invoke, e0, h2]
theorem Y.idx {fo : Operand} {xo : Array Operand} {ts : Array TypeId} {f : FuncId} {A : Option Addr} {c : Nat} {xs : List Int} {b : Int} (he : ExF P f Extern.BytealgIndexByte.indexByte) (hf : s.ev fo = some (.func (.func f) #[] #[]))
    (hx : s.evs xo.toList = some [.slice A xs.length c, .int .u8 b]) (hr : RdG B w0 G A (xs.map (Value.int .u8))) : Qs P n ds B w0 ⟨some d, .call { callee := .value fo, args := xo, argTypes := ts }, ty, pos, aft, gd⟩ s G (.int .i64 (idxB xs b)) :=
  Y.ext1 he hf hx fun L w hw => run_idx (hr L w hw)
theorem Y.cnt {fo : Operand} {xo : Array Operand} {ts : Array TypeId} {f : FuncId} {A : Option Addr} {c : Nat} {xs : List Int} {b : Int} (he : ExF P f Extern.BytealgCount.count) (hf : s.ev fo = some (.func (.func f) #[] #[]))
    (hx : s.evs xo.toList = some [.slice A xs.length c, .int .u8 b]) (hr : RdG B w0 G A (xs.map (Value.int .u8))) : Qs P n ds B w0 ⟨some d, .call { callee := .value fo, args := xo, argTypes := ts }, ty, pos, aft, gd⟩ s G (.int .i64 (cntB xs b)) :=
  Y.ext1 he hf hx fun L w hw => run_cnt (hr L w hw)
end
end Go.Sx
