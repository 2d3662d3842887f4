/- The hub's New beside the document's. -/
import Derived.Test.YtlhlhankonflkaaGreatDoorFc
import Derived.Test.YtlhlhankonflkaaGreatDoorMn
namespace Go.Proofs.YtlhlhankonflkaaGreatDoor
open Go Go.RowKit Go.MuLone
set_option maxRecDepth 100000

/-- What both answer: the code of New. -/
def newCode (room keep floor : Int) : Int := if room < 1 ∨ 32 < room ∨ keep < 1 ∨ 64 < keep then 1 else if floor < 0 ∨ 2147483647 < floor then 3 else 0

theorem hub_new (w : World) (o : Obj) (room keep floor : Int) (x : Value) (hr : ¬ room < 1) :
    HubAt 0 (((w.alloc o).alloc (.map #[] 0)).alloc (.cells #[.int .i32 0, .int .u32 0, .int .i64 room, .int .i64 keep, .int .i64 floor, .int .i64 floor, .slice none 0 0, x, .map (some (w.heap.size + 1))] 49)) (w.heap.size + 1 + 1) (w.heap.size + 1) room floor := by
  have hb := Blk.new1 (w.alloc o) (.map #[] 0) 49 #[.int .i32 0, .int .u32 0, .int .i64 room, .int .i64 keep, .int .i64 floor, .int .i64 floor, .slice none 0 0, x, .map (some (w.heap.size + 1))]
  rw [World.size_alloc] at hb
  refine ⟨hb.cell 0, hb.free 0, hb.cell 2, hb.cell 4, hb.cell 5, hb.cell 8, ?_, by omega, by omega⟩
  have := heap_new1 w o (.map #[] 0)
  exact (heap_alloc_old _ _ (by simp)).trans this

theorem New_arg (room keep floor : Int) (w : World) (h : room < 1 ∨ 32 < room ∨ keep < 1 ∨ 64 < keep) :
    Calls Tryz.prog 4 #[.int .i64 room, .int .i64 keep, .int .i64 floor] w fun e w' => e = .returned (.tuple #[.pointer none, .int .i64 1]) ∧ w' = w := by
  by_cases h1 : room < 1
  · go_enter Tryz.func4, Tryz.ntmps4
    go_wp2
    refine bodyPost_ret (results_tmp2 rfl _ _ _) rfl ?_
    exact ⟨rfl, rfl⟩
  by_cases h2 : 32 < room
  · go_enter Tryz.func4, Tryz.ntmps4
    go_wp2
    refine bodyPost_ret (results_tmp2 rfl _ _ _) rfl ?_
    exact ⟨rfl, rfl⟩
  by_cases h3 : keep < 1
  · go_enter Tryz.func4, Tryz.ntmps4
    go_wp2
    refine bodyPost_ret (results_tmp2 rfl _ _ _) rfl ?_
    exact ⟨rfl, rfl⟩
  have h4 : 64 < keep := by omega
  clear h
  go_enter Tryz.func4, Tryz.ntmps4
  go_wp2
  refine bodyPost_ret (results_tmp2 rfl _ _ _) rfl ?_
  exact ⟨rfl, rfl⟩
theorem New_number (room keep floor : Int) (w : World) (h1 : ¬ room < 1) (h2 : ¬ 32 < room) (h3 : ¬ keep < 1) (h4 : ¬ 64 < keep) (h : floor < 0 ∨ 2147483647 < floor) :
    Calls Tryz.prog 4 #[.int .i64 room, .int .i64 keep, .int .i64 floor] w fun e w' => e = .returned (.tuple #[.pointer none, .int .i64 3]) ∧ w' = w := by
  by_cases h5 : floor < 0
  · go_enter Tryz.func4, Tryz.ntmps4
    go_wp2
    refine bodyPost_ret (results_tmp2 rfl _ _ _) rfl ?_
    exact ⟨rfl, rfl⟩
  have h6 : 2147483647 < floor := by omega
  clear h
  go_enter Tryz.func4, Tryz.ntmps4
  go_wp2
  refine bodyPost_ret (results_tmp2 rfl _ _ _) rfl ?_
  exact ⟨rfl, rfl⟩
theorem New_ok (room keep floor : Int) (w : World) (h1 : ¬ room < 1) (h2 : ¬ 32 < room) (h3 : ¬ keep < 1) (h4 : ¬ 64 < keep) (h5 : ¬ floor < 0) (h6 : ¬ 2147483647 < floor) :
    Calls Tryz.prog 4 #[.int .i64 room, .int .i64 keep, .int .i64 floor] w fun e w' => ∃ b m, e = .returned (.tuple #[.pointer (some ⟨b, 0, none⟩), .int .i64 0]) ∧ HubAt 0 w' b m room floor ∧ w.heap.size ≤ b ∧ Below w.heap.size w w' := by
  have hmm := @run_makeMap Tryz.prog
  go_enter Tryz.func4, Tryz.ntmps4
  go_wp2
  refine bodyPost_ret (results_tmp2 rfl _ _ _) rfl ?_
  exact ⟨_, rfl, ⟨_, hub_new w _ room keep floor _ (by omega)⟩, by omega, (by repeat (first | exact Below.refl _ _ | assumption | refine below_drewN ?_ _ | refine below_drew ?_ | refine below_alloc ?_ _ | refine below_set ?_ (by first | assumption | (simp; done) | (simp; omega)) _ | refine below_trans (by assumption) ?_))⟩

/-- The document's hub. -/
abbrev refHub (a b c d : Int) : Value := .agg #[.int .i64 a, .int .i64 b, .int .i64 c, .int .i64 d, .slice none 0 0, .slice none 0 0, .bool false, .slice none 0 0]
theorem refTrie_any (w : World) : Calls Tryz.prog 10 #[] w fun e w' => e = .returned (.agg #[.bool false, .slice none 0 0]) ∧ Below w.heap.size w w' := by
  go_enter Tryz.func10, Tryz.ntmps10
  go_wp2
  refine bodyPost_ret (res_c rfl _ _ w.heap.size 30 _ _ _ (by simp) (heap_alloc_new _ _) Tryz.underlying30 rfl (by kernel_rfl)) rfl ?_
  exact ⟨rfl, (by repeat (first | exact Below.refl _ _ | assumption | refine below_drewN ?_ _ | refine below_drew ?_ | refine below_alloc ?_ _ | refine below_set ?_ (by first | assumption | (simp; done) | (simp; omega)) _ | refine below_trans (by assumption) ?_))⟩
theorem refNew_arg (room keep floor : Int) (w : World) (h : room < 1 ∨ 32 < room ∨ keep < 1 ∨ 64 < keep) :
    Calls Tryz.prog 5 #[.int .i64 room, .int .i64 keep, .int .i64 floor] w fun e w' => e = .returned (.tuple #[refHub 0 0 0 0, .int .i64 1]) ∧ Below w.heap.size w w' := by
  by_cases h1 : room < 1
  · go_enter Tryz.func5, Tryz.ntmps5
    go_wp2
    refine bodyPost_ret (res_ct rfl _ _ w.heap.size 32 _ _ _ (by simp) (heap_alloc_new _ _) Tryz.underlying32 rfl (by kernel_rfl)) rfl ?_
    exact ⟨rfl, (by repeat (first | exact Below.refl _ _ | assumption | refine below_drewN ?_ _ | refine below_drew ?_ | refine below_alloc ?_ _ | refine below_set ?_ (by first | assumption | (simp; done) | (simp; omega)) _ | refine below_trans (by assumption) ?_))⟩
  by_cases h2 : 32 < room
  · go_enter Tryz.func5, Tryz.ntmps5
    go_wp2
    refine bodyPost_ret (res_ct rfl _ _ w.heap.size 32 _ _ _ (by simp) (heap_alloc_new _ _) Tryz.underlying32 rfl (by kernel_rfl)) rfl ?_
    exact ⟨rfl, (by repeat (first | exact Below.refl _ _ | assumption | refine below_drewN ?_ _ | refine below_drew ?_ | refine below_alloc ?_ _ | refine below_set ?_ (by first | assumption | (simp; done) | (simp; omega)) _ | refine below_trans (by assumption) ?_))⟩
  by_cases h3 : keep < 1
  · go_enter Tryz.func5, Tryz.ntmps5
    go_wp2
    refine bodyPost_ret (res_ct rfl _ _ w.heap.size 32 _ _ _ (by simp) (heap_alloc_new _ _) Tryz.underlying32 rfl (by kernel_rfl)) rfl ?_
    exact ⟨rfl, (by repeat (first | exact Below.refl _ _ | assumption | refine below_drewN ?_ _ | refine below_drew ?_ | refine below_alloc ?_ _ | refine below_set ?_ (by first | assumption | (simp; done) | (simp; omega)) _ | refine below_trans (by assumption) ?_))⟩
  have h4 : 64 < keep := by omega
  clear h
  go_enter Tryz.func5, Tryz.ntmps5
  go_wp2
  refine bodyPost_ret (res_ct rfl _ _ w.heap.size 32 _ _ _ (by simp) (heap_alloc_new _ _) Tryz.underlying32 rfl (by kernel_rfl)) rfl ?_
  exact ⟨rfl, (by repeat (first | exact Below.refl _ _ | assumption | refine below_drewN ?_ _ | refine below_drew ?_ | refine below_alloc ?_ _ | refine below_set ?_ (by first | assumption | (simp; done) | (simp; omega)) _ | refine below_trans (by assumption) ?_))⟩
theorem refNew_number (room keep floor : Int) (w : World) (h1 : ¬ room < 1) (h2 : ¬ 32 < room) (h3 : ¬ keep < 1) (h4 : ¬ 64 < keep) (h : floor < 0 ∨ 2147483647 < floor) :
    Calls Tryz.prog 5 #[.int .i64 room, .int .i64 keep, .int .i64 floor] w fun e w' => e = .returned (.tuple #[refHub 0 0 0 0, .int .i64 3]) ∧ Below w.heap.size w w' := by
  by_cases h5 : floor < 0
  · go_enter Tryz.func5, Tryz.ntmps5
    go_wp2
    refine bodyPost_ret (res_ct rfl _ _ w.heap.size 32 _ _ _ (by simp) (heap_alloc_new _ _) Tryz.underlying32 rfl (by kernel_rfl)) rfl ?_
    exact ⟨rfl, (by repeat (first | exact Below.refl _ _ | assumption | refine below_drewN ?_ _ | refine below_drew ?_ | refine below_alloc ?_ _ | refine below_set ?_ (by first | assumption | (simp; done) | (simp; omega)) _ | refine below_trans (by assumption) ?_))⟩
  have h6 : 2147483647 < floor := by omega
  clear h
  go_enter Tryz.func5, Tryz.ntmps5
  go_wp2
  refine bodyPost_ret (res_ct rfl _ _ w.heap.size 32 _ _ _ (by simp) (heap_alloc_new _ _) Tryz.underlying32 rfl (by kernel_rfl)) rfl ?_
  exact ⟨rfl, (by repeat (first | exact Below.refl _ _ | assumption | refine below_drewN ?_ _ | refine below_drew ?_ | refine below_alloc ?_ _ | refine below_set ?_ (by first | assumption | (simp; done) | (simp; omega)) _ | refine below_trans (by assumption) ?_))⟩
theorem refNew_ok (room keep floor : Int) (w : World) (h1 : ¬ room < 1) (h2 : ¬ 32 < room) (h3 : ¬ keep < 1) (h4 : ¬ 64 < keep) (h5 : ¬ floor < 0) (h6 : ¬ 2147483647 < floor) :
    Calls Tryz.prog 5 #[.int .i64 room, .int .i64 keep, .int .i64 floor] w fun e w' => e = .returned (.tuple #[refHub room keep floor floor, .int .i64 0]) ∧ Below w.heap.size w w' := by
  go_enter Tryz.func5, Tryz.ntmps5
  go_wp2
  refine bodyPost_ret (res_c rfl _ _ (w.heap.size + 1) 30 _ _ _ (by simp) (heap_new1 _ _ _) Tryz.underlying30 rfl (by kernel_rfl)) rfl ?_
  go_wp2
  refine bodyPost_ret (res_ct rfl _ _ w.heap.size 32 _ _ _ (by simp) ((heap_alloc_old _ _ (by simp)).trans (heap_alloc_new _ _)) Tryz.underlying32 rfl (by kernel_rfl)) rfl ?_
  exact ⟨rfl, (by repeat (first | exact Below.refl _ _ | assumption | refine below_drewN ?_ _ | refine below_drew ?_ | refine below_alloc ?_ _ | refine below_set ?_ (by first | assumption | (simp; done) | (simp; omega)) _ | refine below_trans (by assumption) ?_))⟩
end Go.Proofs.YtlhlhankonflkaaGreatDoor
