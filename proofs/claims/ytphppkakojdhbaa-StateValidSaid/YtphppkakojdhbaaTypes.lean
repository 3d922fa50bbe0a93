/- Go's structs, and the program. -/
import Derived.Test.YtphppkakojdhbaaWAttr
import Derived.Test.YtphppkakojdhbaaCode
import Derived.KernelRfl
set_option linter.unusedSimpArgs false
set_option linter.unusedVariables false
namespace Go.Aiv
structure Alt where
  stamp : Int
  n : Int
  flag : Bool
  text : Str
  ref : Int
def Alt.enc (x : Alt) : List D := [.int .i64 x.stamp, .int .i64 x.n, .bool x.flag, .str x.text, .int .i64 x.ref]
def Alt.wf (x : Alt) : Prop := (Lit.int .i64 x.stamp).wf = true ∧ (Lit.int .i64 x.n).wf = true ∧ True ∧ x.text.length ≤ maxLen ∧ (Lit.int .i64 x.ref).wf = true
theorem Alt.ok {xs : List Alt} : okSz 5 (xs.map Alt.enc) = true := okSz_of (f := Alt.enc) (fun _ => rfl)
theorem Alt.app {xs : List Alt} {a0 : Int} {a1 : Int} {a2 : Bool} {a3 : Str} {a4 : Int} : xs.map Alt.enc ++ [[.int .i64 a0, .int .i64 a1, .bool a2, .str a3, .int .i64 a4]] = (xs ++ [(⟨a0, a1, a2, a3, a4⟩ : Alt)]).map Alt.enc := by simp [Alt.enc]
theorem Alt.set {xs : List Alt} {i : Nat} {a0 : Int} {a1 : Int} {a2 : Bool} {a3 : Str} {a4 : Int} : (xs.map Alt.enc).set i [.int .i64 a0, .int .i64 a1, .bool a2, .str a3, .int .i64 a4] = (xs.set i (⟨a0, a1, a2, a3, a4⟩ : Alt)).map Alt.enc := by simp [Alt.enc, List.map_set]
structure Slot where
  id : Int
  field : Int
  alts : List Alt
def Slot.enc (x : Slot) : List D := [.int .i64 x.id, .int .i64 x.field, .vec (x.alts.map Alt.enc)]
def Slot.wf (x : Slot) : Prop := (Lit.int .i64 x.id).wf = true ∧ (Lit.int .i64 x.field).wf = true ∧ (x.alts.length ≤ maxLen ∧ ∀ y ∈ x.alts, (Alt.wf) y)
theorem Slot.ok {xs : List Slot} : okSz 3 (xs.map Slot.enc) = true := okSz_of (f := Slot.enc) (fun _ => rfl)
theorem Slot.app {xs : List Slot} {a0 : Int} {a1 : Int} {a2 : List Alt} : xs.map Slot.enc ++ [[.int .i64 a0, .int .i64 a1, .vec (a2.map Alt.enc)]] = (xs ++ [(⟨a0, a1, a2⟩ : Slot)]).map Slot.enc := by simp [Slot.enc]
theorem Slot.set {xs : List Slot} {i : Nat} {a0 : Int} {a1 : Int} {a2 : List Alt} : (xs.map Slot.enc).set i [.int .i64 a0, .int .i64 a1, .vec (a2.map Alt.enc)] = (xs.set i (⟨a0, a1, a2⟩ : Slot)).map Slot.enc := by simp [Slot.enc, List.map_set]
theorem Slot.app1 {xs : List Slot} {a0 : Int} {a1 : Int} : xs.map Slot.enc ++ [[.int .i64 a0, .int .i64 a1, .vec []]] = (xs ++ [(⟨a0, a1, []⟩ : Slot)]).map Slot.enc := by simp [Slot.enc]
theorem Slot.set1 {xs : List Slot} {i : Nat} {a0 : Int} {a1 : Int} : (xs.map Slot.enc).set i [.int .i64 a0, .int .i64 a1, .vec []] = (xs.set i (⟨a0, a1, []⟩ : Slot)).map Slot.enc := by simp [Slot.enc, List.map_set]
attribute [go_sem] Alt.enc Alt.ok Alt.app Alt.set Slot.enc Slot.ok Slot.app Slot.set Slot.app1 Slot.set1
end Go.Aiv

namespace Go.Aiv
def P0 : SProg := ⟨fun f => lookN f Fn.table, fun _ _ _ => none⟩
end Go.Aiv

