/- slices.Sort at nothing; the sessions of a zero machine; the document's trees and machines at their beginning. -/
import Derived.Test.YtheampfoedhipaaGreatDoorSn5
namespace Go.Proofs.YtheampfoedhipaaGreatDoor
open Go Go.RowKit
set_option maxRecDepth 100000

theorem insertion_none (w : World) : Calls Tryz.prog 213 #[.slice none 0 0, .int .i64 0, .int .i64 0] w fun e w' => e = .returned (.tuple #[]) ∧ w' = w := by
  go_enter Tryz.func213, Tryz.ntmps213
  go_wp2
  refine wp_loop_rounds 1 ?_
  rw [rounds_succ]
  go_wp2
  first | go_end0 | refine bodyPost_ret (results_none rfl _ _ _) rfl ?_
  exact ⟨rfl, rfl⟩
theorem pdq_none (lim : Int) (w : World) : Calls Tryz.prog 177 #[.slice none 0 0, .int .i64 0, .int .i64 0, .int .i64 lim] w fun e w' => e = .returned (.tuple #[]) ∧ w' = w := by
  go_enter Tryz.func177, Tryz.ntmps177
  go_wp2
  refine wp_loop_rounds 1 ?_
  rw [rounds_succ]
  go_wp2_with (go_at_call 213; refine (insertion_none _).mono ?_; rintro e w1 ⟨rfl, rfl⟩)
  first | go_end0 | refine bodyPost_ret (results_none rfl _ _ _) rfl ?_
  exact ⟨rfl, rfl⟩
theorem len_zero (w : World) : Calls Tryz.prog 178 #[.int .u64 0] w fun e w' => (∃ x, e = .returned (.int .i64 x)) ∧ w' = w := by
  go_enter Tryz.func178, Tryz.ntmps178
  go_wp2
  go_ret
  exact ⟨⟨_, rfl⟩, rfl⟩
theorem Sort_none (w : World) : Calls Tryz.prog 115 #[.slice none 0 0] w fun e w' => e = .returned (.tuple #[]) ∧ w' = w := by
  go_enter Tryz.func115, Tryz.ntmps115
  go_wp2_with (first
    | (go_at_call 178; refine (len_zero _).mono ?_; rintro e w1 ⟨⟨x, rfl⟩, rfl⟩)
    | (go_at_call 177; refine (pdq_none _ _).mono ?_; rintro e w1 ⟨rfl, rfl⟩))
  first | go_end0 | refine bodyPost_ret (results_none rfl _ _ _) rfl ?_
  exact ⟨rfl, rfl⟩


theorem Sessions_zero (b : Nat) (w : World) (h : w.cell? ⟨b, 18, none⟩ = some (.map none)) :
    Calls Tryz.prog 54 #[.pointer (some ⟨b, 0, none⟩)] w fun e w' => e = .returned (.slice none 0 0) ∧ Below w.heap.size w w' := by
  have HR := run_range_nilMap (P := Tryz.prog) w 109 _ _ Tryz.underlying109
  have HN := run_next_nilMap (P := Tryz.prog) w 0 0 0 #[]
  go_enter Tryz.func54, Tryz.ntmps54
  go_wp2
  refine wp_loop_rounds 1 ?_
  rw [rounds_succ]
  go_wp2_with (go_at_call 115; refine (Sort_none _).mono ?_; rintro e w2 ⟨rfl, hw2⟩; obtain rfl := hw2.symm)
  go_ret
  exact ⟨rfl, (by repeat (first | exact Below.refl _ _ | assumption | refine below_drewN ?_ _ | refine below_drew ?_ | refine below_alloc ?_ _ | refine below_set ?_ (by first | assumption | (simp; done) | (simp; omega)) _ | refine below_trans (by assumption) ?_))⟩

/-- The document's root. -/
abbrev rFullT : TypeId := 221
theorem refTree_new (w : World) : Calls Tryz.prog 100 #[] w fun e w' => ∃ g, e = .returned (.agg #[.slice (some ⟨g, 0, none⟩) 1 1]) ∧ w.heap.size ≤ g ∧ Blk w' g rFullT (encFull rootFull).toArray ∧ Below w.heap.size w w' := by
  go_enter Tryz.func100, Tryz.ntmps100
  go_wp2
  refine bodyPost_ret (res_c rfl _ _ w.heap.size 76 _ _ _ (by simp) ((heap_alloc_old _ _ (by simp)).trans (heap_alloc_new _ _)) Tryz.underlying76 rfl (by kernel_rfl)) rfl ?_
  exact ⟨_, rfl, by omega, Blk.new1 _ _ _ _, (by repeat (first | exact Below.refl _ _ | assumption | refine below_drewN ?_ _ | refine below_drew ?_ | refine below_alloc ?_ _ | refine below_set ?_ (by first | assumption | (simp; done) | (simp; omega)) _ | refine below_trans (by assumption) ?_))⟩
end Go.Proofs.YtheampfoedhipaaGreatDoor
