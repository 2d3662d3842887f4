/- The document's machine at its beginning. -/
import Derived.Test.YtheampfoedhipaaGreatDoorSn10
import Derived.Deep.RegionWith
namespace Go.Proofs.YtheampfoedhipaaGreatDoor
open Go Go.RowKit
set_option maxRecDepth 100000

abbrev tSlot : TypeId := 223
theorem infoSlot : (Tryz.prog.info? tSlot).map (fun i => (i.zero, i.size)) = some (some (.agg #[.int .i64 0, .bool false, .int .i64 0, .int .i64 0, .int .i64 0, .int .i64 0, .slice none 0 0]), 7) := by kernel_rfl
theorem infoSlotB : (Tryz.prog.info? tSlot).map (fun i => (i.zero, i.size, i.bytes)) = some (some (.agg #[.int .i64 0, .bool false, .int .i64 0, .int .i64 0, .int .i64 0, .int .i64 0, .slice none 0 0]), 7, 72) := by kernel_rfl
/-- The cells of sixteen empty slots. -/
abbrev slotCells : Array Value := madeCells (Value.agg #[.int .i64 0, .bool false, .int .i64 0, .int .i64 0, .int .i64 0, .int .i64 0, .slice none 0 0]).cells (16 * 7)
theorem make_slots (w : World) : (Instr.makeSlice 77 (.int .i64 16) (.int .i64 16)).run Tryz.prog w = .ok (.slice (some ⟨w.heap.size, 0, none⟩) 16 16) (w.alloc (.cells slotCells tSlot)) := by
  obtain ⟨i, hi, hz, hz1, hb⟩ := info_parts infoSlotB
  have h := run_make (P := Tryz.prog) w 77 tSlot i _ Tryz.underlying77 hi hz .i64 .i64 16 16 (by omega) (Int.le_refl _) (by rw [hb]; omega) (by omega)
  rw [hz1] at h
  exact h
theorem store3 {w : World} {g : Nat} {t : TypeId} {p q r : Value} (h : Blk w g t #[p, q, r]) (a b c : Value) :
    Blk (((w.setCell ⟨g, 0, none⟩ a).setCell ⟨g, 1, none⟩ b).setCell ⟨g, 2, none⟩ c) g t #[a, b, c] ∧
    w.grownBy (((w.setCell ⟨g, 0, none⟩ a).setCell ⟨g, 1, none⟩ b).setCell ⟨g, 2, none⟩ c) (some g) :=
  ⟨by simpa using ((h.set 0 a).set 1 b).set 2 c, ((grown_set w g 0 a).trans (grown_set _ g 1 b)).trans (grown_set _ g 2 c)⟩
abbrev tRM : TypeId := 79
theorem ref8New_any (w : World) : Calls Tryz.prog 39 #[] w fun e w' => ∃ g s, e = .returned (.agg #[.int .i64 0, .slice (some ⟨g, 0, none⟩) 1 1, .slice (some ⟨s, 0, none⟩) 16 16]) ∧ Blk w' g rFullT (encFull rootFull).toArray ∧ Blk w' s tSlot slotCells ∧ w.heap.size ≤ g ∧ w.heap.size ≤ s ∧ Below w.heap.size w w' := by
  have hms := make_slots
  go_enter Tryz.func39, Tryz.ntmps39
  go_wp2
  go_region_with (go_at_call 100; refine (refTree_new _).mono ?_; rintro e w1 ⟨g, rfl, hg, hb1, hbe1⟩; have hx := (by exact Blk.below (by first | exact Blk.new _ _ _ | exact (Blk.new _ _ _).drew | exact ((Blk.new _ _ _).drew.alloc _) | exact ((Blk.new _ _ _).alloc _).drew) hbe1 : Blk w1 w.heap.size tRM #[.int .i64 0, .slice none 0 0, .slice none 0 0]); have x0 := (by exact hx.cell 0 : w1.cell? ⟨w.heap.size, 0, none⟩ = some (.int .i64 0)); have x1 := (by exact hx.cell 1 : w1.cell? ⟨w.heap.size, 1, none⟩ = some (.slice none 0 0)); have x2 := (by exact hx.cell 2 : w1.cell? ⟨w.heap.size, 2, none⟩ = some (.slice none 0 0)); have y0 := fun o => cell_alloc o x0; have y1 := fun o => cell_alloc o x1; have y2 := fun o => cell_alloc o x2; have xf := hx.free; have yf := fun o => (hx.alloc o).free; have hwb := (by exact below_trans (by repeat (first | exact Below.refl _ _ | assumption | refine below_drewN ?_ _ | refine below_drew ?_ | refine below_alloc ?_ _ | refine below_set ?_ (by first | assumption | (simp; done) | (simp; omega)) _ | refine below_trans (by assumption) ?_)) hbe1 : Below w.heap.size w w1))
  · go_wp2
    have h3 := store3 (hx.alloc (.cells slotCells tSlot)) (.int .i64 0) (.slice (some ⟨g, 0, none⟩) 1 1) (.slice (some ⟨w1.heap.size, 0, none⟩) 16 16)
    have hxl := hx.lt
    simp at hg
    refine bodyPost_ret (res_c rfl _ _ w.heap.size tRM _ _ _ (by simp) h3.1 Tryz.underlying79 rfl (by kernel_rfl)) rfl ?_
    exact ⟨g, w1.heap.size, rfl, (hb1.alloc _).grown h3.2 (by simp; omega), (Blk.new _ _ _).grown h3.2 (by simp; omega), by omega, by omega, below_grown (below_alloc hwb _) h3.2 (Nat.le_refl _)⟩
  · go_wp2
    have hs := (by exact Blk.below (by first | exact (Blk.new1 _ _ _ _) | exact (Blk.newAt _ _ _ (by simp)) | exact (Blk.newAt _ _ _ (by simp)).drew) hbe1 : Blk w1 (w.heap.size + 1) tSlot slotCells)
    have h3 := store3 hx (.int .i64 0) (.slice (some ⟨g, 0, none⟩) 1 1) (.slice (some ⟨w.heap.size + 1, 0, none⟩) 16 16)
    have hxl := hx.lt
    simp at hg
    refine bodyPost_ret (res_c rfl _ _ w.heap.size tRM _ _ _ (by simp) h3.1 Tryz.underlying79 rfl (by kernel_rfl)) rfl ?_
    exact ⟨g, w.heap.size + 1, rfl, hb1.grown h3.2 (by simp; omega), hs.grown h3.2 (by simp), by omega, by omega, below_grown hwb h3.2 (Nat.le_refl _)⟩
end Go.Proofs.YtheampfoedhipaaGreatDoor
