/- The reference: add. -/
import Derived.Test.YtpincjkjoeopkaaGreatDoorF9Mrk
set_option linter.unusedSimpArgs false
set_option linter.unusedVariables false
set_option linter.unusedSectionVars false
namespace Go.Proofs.YtpincjkjoeopkaaGreatDoor
open Go Go.Abs
set_option linter.unusedSimpArgs false
set_option linter.unusedVariables false

/-- a time -/
structure Ti where
  n : ByteArray
  m : Int
instance : Cel Ti := ⟨fun a => [.str a.n, .int .i64 a.m], 2, fun _ => rfl, fun _ => rfl, fun _ => rfl⟩
instance : Flt Ti := ⟨fun _ => rfl⟩
theorem cel_ti (e : Ti) : Cel.c e = [.str e.n, .int .i64 e.m] := rfl
theorem cel_ti_sz : Cel.sz Ti = 2 := rfl
theorem cel_ti_take (e : Ti) : List.take 2 (Cel.c e) = Cel.c e := rfl
attribute [go_sem] cel_ti_sz cel_ti_take
/-- a time is added to an ordered list -/
def addT (nm : ByteArray) (mn : Int) : List Ti → List Ti
  | [] => [⟨nm, mn⟩]
  | x :: t => if x.n.toList < nm.toList then x :: addT nm mn t else if x.n = nm then ⟨nm, x.m + mn⟩ :: t else ⟨nm, mn⟩ :: x :: t
theorem ba_toList {a b : ByteArray} (h : a.toList = b.toList) : a = b := by
  exact ba_ext h
end Go.Proofs.YtpincjkjoeopkaaGreatDoor
