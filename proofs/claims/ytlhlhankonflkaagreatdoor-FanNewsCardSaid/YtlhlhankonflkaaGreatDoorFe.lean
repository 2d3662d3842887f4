/- The law's own functions: nothing, machineless, FanNews. -/
import Derived.Test.YtlhlhankonflkaaGreatDoorFd
namespace Go.Proofs.YtlhlhankonflkaaGreatDoor
open Go Go.RowKit Go.MuLone
set_option maxRecDepth 100000

theorem below_machine (w : World) : Below w.heap.size w (machineWorld w) := below_alloc (below_alloc (below_alloc (below_alloc (Below.refl _ _) _) _) _) _

theorem infoWatch : (Tryz.prog.info? 64).map (fun i => (i.zero, i.bytes)) = some (some (.agg #[.int .i64 0, .string ⟨#[]⟩, .int .i64 0, .int .i64 0]), 40) := by kernel_rfl
theorem make_watches (n : Nat) (l : Int) (hl : l = n) (hn : n ≤ 100) : ∃ o, ∀ w : World, (Instr.makeSlice 55 (.int .i64 l) (.int .i64 l)).run Tryz.prog w = .ok (.slice (some ⟨w.heap.size, 0, none⟩) n n) (w.alloc o) := by
  obtain ⟨i, hi, hzz⟩ := Option.map_eq_some_iff.1 infoWatch
  simp only [Prod.mk.injEq] at hzz
  obtain ⟨hz, hb⟩ := hzz
  refine ⟨.cells (madeCells (Value.agg #[.int .i64 0, .string ⟨#[]⟩, .int .i64 0, .int .i64 0]).cells (n * i.size)) 64, fun w => ?_⟩
  have h := run_make (P := Tryz.prog) w 55 64 i _ Tryz.underlying55 hi hz .i64 .i64 l l (by omega) (Int.le_refl _) (by rw [hb]; omega) (by omega)
  subst hl
  rw [Int.toNat_natCast] at h
  exact h

set_option maxHeartbeats 2000000 in
theorem nothing_dead (h : Option Addr) (w : World) (hd : Dead w h) : Calls Tryz.prog 8 #[.pointer h] w fun e w' => e = .returned (.bool true) ∧ Below w.heap.size w w' := by
  have HD := hide hd
  clear hd
  obtain ⟨o9, hm9⟩ := make_watches 9 9 rfl (by decide)
  go_enter Tryz.func8, Tryz.ntmps8
  go_wp2_with (first
    | (go_at_call 18; refine (stateNew_any _).mono ?_; rintro e w1 ⟨rfl, hw⟩; have hb1 : Below w.heap.size w w1 := (by rw [hw]; exact below_machine w); clear hw)
    | (go_at_call 14; refine (Sessions_dead h _ (by exact HD.out.below (by repeat (first | exact Below.refl _ _ | assumption | refine below_drewN ?_ _ | refine below_drew ?_ | refine below_alloc ?_ _ | refine below_set ?_ (by first | assumption | (simp; done) | (simp; omega)) _ | refine below_trans (by assumption) ?_)))).mono ?_; rintro e w2 ⟨rfl, rfl⟩)
    | (go_at_call 13; refine (Watch_dead h _ _ _ _ _ _ _ _ (by exact HD.out.below (by repeat (first | exact Below.refl _ _ | assumption | refine below_drewN ?_ _ | refine below_drew ?_ | refine below_alloc ?_ _ | refine below_set ?_ (by first | assumption | (simp; done) | (simp; omega)) _ | refine below_trans (by assumption) ?_)))).mono ?_; rintro e w3 ⟨rfl, hb3⟩; have hb3' : Below w.heap.size w w3 := (by exact below_trans (by repeat (first | exact Below.refl _ _ | assumption | refine below_drewN ?_ _ | refine below_drew ?_ | refine below_alloc ?_ _ | refine below_set ?_ (by first | assumption | (simp; done) | (simp; omega)) _ | refine below_trans (by assumption) ?_)) hb3); clear hb3)
    | (go_at_call 19; refine (Drop_dead h _ _ (by exact HD.out.below (by repeat (first | exact Below.refl _ _ | assumption | refine below_drewN ?_ _ | refine below_drew ?_ | refine below_alloc ?_ _ | refine below_set ?_ (by first | assumption | (simp; done) | (simp; omega)) _ | refine below_trans (by assumption) ?_)))).mono ?_; rintro e w4 ⟨rfl, rfl⟩)
    | (go_at_call 20; refine (Clear_dead h _ (by exact HD.out.below (by repeat (first | exact Below.refl _ _ | assumption | refine below_drewN ?_ _ | refine below_drew ?_ | refine below_alloc ?_ _ | refine below_set ?_ (by first | assumption | (simp; done) | (simp; omega)) _ | refine below_trans (by assumption) ?_)))).mono ?_; rintro e w4 ⟨rfl, rfl⟩)
    | (go_at_call 17; refine (Next_dead h _ _ _ (by exact HD.out.below (by repeat (first | exact Below.refl _ _ | assumption | refine below_drewN ?_ _ | refine below_drew ?_ | refine below_alloc ?_ _ | refine below_set ?_ (by first | assumption | (simp; done) | (simp; omega)) _ | refine below_trans (by assumption) ?_)))).mono ?_; rintro e w4 ⟨rfl, rfl⟩)
    | (go_at_call 21; refine (Watches_dead h _ _ (by exact HD.out.below (by repeat (first | exact Below.refl _ _ | assumption | refine below_drewN ?_ _ | refine below_drew ?_ | refine below_alloc ?_ _ | refine below_set ?_ (by first | assumption | (simp; done) | (simp; omega)) _ | refine below_trans (by assumption) ?_)))).mono ?_; rintro e w4 ⟨rfl, rfl⟩)
    | (go_at_call 15; refine (Floor_dead h _ (by exact HD.out.below (by repeat (first | exact Below.refl _ _ | assumption | refine below_drewN ?_ _ | refine below_drew ?_ | refine below_alloc ?_ _ | refine below_set ?_ (by first | assumption | (simp; done) | (simp; omega)) _ | refine below_trans (by assumption) ?_)))).mono ?_; rintro e w4 ⟨rfl, rfl⟩)
    | (go_at_call 16; refine (Last_dead h _ (by exact HD.out.below (by repeat (first | exact Below.refl _ _ | assumption | refine below_drewN ?_ _ | refine below_drew ?_ | refine below_alloc ?_ _ | refine below_set ?_ (by first | assumption | (simp; done) | (simp; omega)) _ | refine below_trans (by assumption) ?_)))).mono ?_; rintro e w4 ⟨rfl, rfl⟩)
    | (go_at_call 11; refine (Commit_dead h _ _ _ _ (by exact HD.out.below (by repeat (first | exact Below.refl _ _ | assumption | refine below_drewN ?_ _ | refine below_drew ?_ | refine below_alloc ?_ _ | refine below_set ?_ (by first | assumption | (simp; done) | (simp; omega)) _ | refine below_trans (by assumption) ?_)))).mono ?_; rintro e w5 ⟨rfl, hb5⟩; have hb5' : Below w.heap.size w w5 := (by exact below_trans (by repeat (first | exact Below.refl _ _ | assumption | refine below_drewN ?_ _ | refine below_drew ?_ | refine below_alloc ?_ _ | refine below_set ?_ (by first | assumption | (simp; done) | (simp; omega)) _ | refine below_trans (by assumption) ?_)) hb5); clear hb5)
    | (go_at_call 12; refine (Resume_dead h _ _ _ _ _ _ (by exact HD.out.below (by repeat (first | exact Below.refl _ _ | assumption | refine below_drewN ?_ _ | refine below_drew ?_ | refine below_alloc ?_ _ | refine below_set ?_ (by first | assumption | (simp; done) | (simp; omega)) _ | refine below_trans (by assumption) ?_)))).mono ?_; rintro e w6 ⟨rfl, rfl⟩)
    | (go_at_call 22; refine (Unwatch_dead h _ _ _ _ (by exact HD.out.below (by repeat (first | exact Below.refl _ _ | assumption | refine below_drewN ?_ _ | refine below_drew ?_ | refine below_alloc ?_ _ | refine below_set ?_ (by first | assumption | (simp; done) | (simp; omega)) _ | refine below_trans (by assumption) ?_)))).mono ?_; rintro e w6 ⟨rfl, rfl⟩)
    | (go_at_call 23; refine (Took_dead h _ _ _ _ (by exact HD.out.below (by repeat (first | exact Below.refl _ _ | assumption | refine below_drewN ?_ _ | refine below_drew ?_ | refine below_alloc ?_ _ | refine below_set ?_ (by first | assumption | (simp; done) | (simp; omega)) _ | refine below_trans (by assumption) ?_)))).mono ?_; rintro e w6 ⟨rfl, rfl⟩))
  go_ret
  exact ⟨rfl, (by repeat (first | exact Below.refl _ _ | assumption | refine below_drewN ?_ _ | refine below_drew ?_ | refine below_alloc ?_ _ | refine below_set ?_ (by first | assumption | (simp; done) | (simp; omega)) _ | refine below_trans (by assumption) ?_))⟩

end Go.Proofs.YtlhlhankonflkaaGreatDoor
