/- The closed facts of the rows that hang on the program alone; how a row's closed facts come together. -/
import Derived.Test.YtheampfoedhipaaGreatDoorGw
import Derived.JoinedCond
namespace Go.Proofs.YtheampfoedhipaaGreatDoor
open Go
theorem and_mk {a b : Bool} (h : a = true) (k : b = true) : (a && b) = true := by rw [h, k]; rfl
theorem pLaidOut : laidOutB Tryz.pinned.checked.prog = true := by kernel_rfl
theorem pMapsRowed : mapsRowed Tryz.pinned.checked.prog = true := by kernel_rfl
theorem pStopsHeard : Tryz.pinned.checked.prog.stopsHeard = true := by kernel_rfl
theorem pMayEnter : Tryz.pinned.checked.prog.mayEnter = true := by kernel_rfl
theorem pLifts : (Rows.stateNothingRow.lifted == Tryz.pinned.checked.prog.liftsFinal) = true := by kernel_rfl
theorem pMake : (Tryz.pinned.checked.prog.make == some Rows.stateNothingRow.make) = true := by kernel_rfl
theorem pPlainKeys : (Rows.stateNothingRow.plainKeys == Tryz.pinned.checked.prog.plainKeys) = true := by kernel_rfl
end Go.Proofs.YtheampfoedhipaaGreatDoor
