/- The document's machine at its beginning, and Apply at an entry that opens a session. -/
import Derived.Test.YtheampfoedhipaaGreatDoorSn6
import Derived.Test.YtheampfoedhipaaGreatDoorWr5
namespace Go.Proofs.YtheampfoedhipaaGreatDoor
open Go Go.RowKit
set_option maxRecDepth 100000

abbrev beginFn : Value := .func (.func 141) #[] #[]
theorem does_open (w : World) : Calls Tryz.prog 72 #[.int .i64 2] w fun e w' => e = .returned (.tuple #[.agg #[beginFn], .bool true]) ∧ Below w.heap.size w w' := by
  go_enter Tryz.func72, Tryz.ntmps72
  go_wp2_with (refine wpList_store0 rfl 155 (.tmp 2) (.tmp 10) rfl w.heap.size _ rfl rfl Tryz.sizeOf155 155 _ (Blk.new _ _ _) rfl (by simp [Value.oneCell']) ?_; intro w1 hx1 hg1)
  refine bodyPost_ret (res_ct rfl _ _ w.heap.size 155 _ _ _ (by simp) hx1 Tryz.underlying155 rfl (by kernel_rfl)) rfl ?_
  exact ⟨rfl, below_grown (by repeat (first | exact Below.refl _ _ | assumption | refine below_drewN ?_ _ | refine below_drew ?_ | refine below_alloc ?_ _ | refine below_set ?_ (by first | assumption | (simp; done) | (simp; omega)) _ | refine below_trans (by assumption) ?_)) hg1 (Nat.le_refl _)⟩
theorem isNumber_yes (v l : Int) (w : World) (h : l ≤ v) (h' : v ≤ 2147483647) : Calls Tryz.prog 139 #[.int .i64 v, .int .i64 l] w fun e w' => e = .returned (.bool true) ∧ w' = w := by
  go_enter Tryz.func139, Tryz.ntmps139
  go_wp2
  go_ret
  exact ⟨rfl, rfl⟩
/-- An entry that opens a session 3. -/
abbrev openEntry : Value := .agg #[.int .i64 1, .int .i64 1, .int .i64 2, .int .i64 3, .int .i64 0, .slice none 0 0]
abbrev tEntry : TypeId := 32
abbrev openCells : Array Value := #[.int .i64 1, .int .i64 1, .int .i64 2, .int .i64 3, .int .i64 0, .slice none 0 0]
theorem mayBe_open (w : World) : Calls Tryz.prog 71 #[openEntry] w fun e w' => e = .returned (.bool true) ∧ Below w.heap.size w w' := by
  go_enter Tryz.func71, Tryz.ntmps71
  go_wp2_with (first
    | (go_at_call 72; refine (does_open _).mono ?_; rintro e w1 ⟨rfl, hb1⟩; have HX := hide (by exact (Blk.new _ _ _).below hb1 : Blk w1 w.heap.size tEntry openCells); have hsz := HX.out.lt; have hb1' := (by exact below_trans (by repeat (first | exact Below.refl _ _ | assumption | refine below_drewN ?_ _ | refine below_drew ?_ | refine below_alloc ?_ _ | refine below_set ?_ (by first | assumption | (simp; done) | (simp; omega)) _ | refine below_trans (by assumption) ?_)) hb1 : Below w.heap.size w w1); clear hb1)
    | (go_at_call 139; refine (isNumber_yes _ _ _ (by decide) (by decide)).mono ?_; rintro e w2 ⟨rfl, rfl⟩)
    | (refine wpList_store0 rfl 155 (.tmp 3) (.tmp 9) rfl w1.heap.size _ rfl rfl Tryz.sizeOf155 155 _ (Blk.new _ _ _) rfl (by simp [Value.oneCell']) ?_; intro w3 hx3 hg3; have hx := (HX.out.alloc _).grown hg3 (by simp; omega); have x0 := (by exact hx.cell 0 : w3.cell? ⟨w.heap.size, 0, none⟩ = some (.int .i64 1)); have x1 := (by exact hx.cell 1 : w3.cell? ⟨w.heap.size, 1, none⟩ = some (.int .i64 1)); have x2 := (by exact hx.cell 2 : w3.cell? ⟨w.heap.size, 2, none⟩ = some (.int .i64 2)); have x3 := (by exact hx.cell 3 : w3.cell? ⟨w.heap.size, 3, none⟩ = some (.int .i64 3)); have x4 := (by exact hx.cell 4 : w3.cell? ⟨w.heap.size, 4, none⟩ = some (.int .i64 0)); have x5 := (by exact hx.cell 5 : w3.cell? ⟨w.heap.size, 5, none⟩ = some (.slice none 0 0)); have hb3 := (by exact below_grown (below_alloc hb1' _) hg3 (by omega) : Below w.heap.size w w3); clear hx hx3 hg3))
  go_ret
  exact ⟨rfl, hb3⟩
end Go.Proofs.YtheampfoedhipaaGreatDoor
