/- Trees and machines at their beginning. -/
import Derived.Test.YtheampfoedhipaaGreatDoorBa
import Derived.Test.YtheampfoedhipaaGreatDoorProg
import Derived.Carry
import Derived.Laws.IdiomRangeMap
import Derived.WideMake
namespace Go.Proofs.YtheampfoedhipaaGreatDoor
open Go Go.RowKit
set_option maxRecDepth 100000

theorem setMap_new (w : World) (es es' : Array MapEntry) (c c' : Nat) : ({ w.alloc (.map es c) with heap := (w.alloc (.map es c)).heap.setIfInBounds w.heap.size (.map es' c') } : World) = w.alloc (.map es' c') := by
  have hp : ∀ (h : Array Obj) (x y : Obj), (h.push x).setIfInBounds h.size y = h.push y := by
    intro h x y
    apply Array.toList_inj.1
    simp
  show ({ w.alloc (.map es c) with heap := (w.heap.push (.map es c)).setIfInBounds w.heap.size (.map es' c') } : World) = _
  rw [hp]
  rfl
/-- The root as a tree keeps it. -/
abbrev rootVal : Value := .agg #[.string ⟨#[47]⟩, .string ⟨#[]⟩, .int .i64 0, .int .i64 0, .int .i64 0, .int .i64 0, .int .i64 0]
abbrev rootMap : Obj := .map #[{ key := .string ⟨#[47]⟩, val := rootVal, born := 0 }] 1
/-- The world behind tree.New: the map, then the tree. -/
abbrev treeWorld (w : World) : World := (w.alloc rootMap).alloc (.cells #[.map (some w.heap.size)] 151)
theorem treeNew_any (w : World) : Calls Tryz.prog 17 #[] w fun e w' => e = .returned (.pointer (some ⟨w.heap.size + 1, 0, none⟩)) ∧ w' = treeWorld w := by
  have hins : (Instr.mapUpdate 149 (.map (some w.heap.size)) (.string ⟨#[47]⟩) rootVal).run Tryz.prog (w.alloc (.map #[] 0)) = .ok () (w.alloc rootMap) :=
    (run_mapUpdate_first (w := w.alloc (.map #[] 0)) 149 _ _ _ 0 _ _ Tryz.underlying149 Tryz.underlying9 (heap_alloc_new w _)).trans (by rw [setMap_new])
  have hmm := @run_makeMap Tryz.prog
  go_enter Tryz.func17, Tryz.ntmps17
  go_wp2
  go_ret
  exact ⟨rfl, rfl⟩
/-- The world behind state.New. -/
abbrev machineWorld (w : World) : World := ((treeWorld w).alloc (.map #[] 0)).alloc (.cells (#[.pointer (some ⟨w.heap.size + 1, 0, none⟩), .int .i64 0] ++ Array.replicate 16 (.int .i64 0) ++ #[.map (some (w.heap.size + 2))]) 111)
theorem stateNew_any (w : World) : Calls Tryz.prog 16 #[] w fun e w' => e = .returned (.pointer (some ⟨w.heap.size + 3, 0, none⟩)) ∧ w' = machineWorld w := by
  have hmm := @run_makeMap Tryz.prog
  go_enter Tryz.func16, Tryz.ntmps16
  go_wp2_with (go_at_call 17; refine (treeNew_any _).mono ?_; rintro e w1 ⟨rfl, rfl⟩)
  go_ret
  exact ⟨rfl, rfl⟩
end Go.Proofs.YtheampfoedhipaaGreatDoor
