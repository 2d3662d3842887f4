/- FanNews walked. -/
import Derived.Test.YtlhlhankonflkaaGreatDoorFf
namespace Go.Proofs.YtlhlhankonflkaaGreatDoor
open Go Go.RowKit Go.MuLone
set_option maxRecDepth 100000

theorem num_any (x : Int) (w : World) : Calls Tryz.prog 6 #[.int .i64 x] w fun e w' => e = .returned (.int .i64 x) ∧ w' = w := by
  go_enter Tryz.func6, Tryz.ntmps6
  go_wp2
  go_ret
  exact ⟨rfl, rfl⟩

theorem News_arg (room keep floor : Int) (w : World) (h : room < 1 ∨ 32 < room ∨ keep < 1 ∨ 64 < keep) :
    Calls Tryz.prog 3 #[.int .i64 room, .int .i64 keep, .int .i64 floor] w fun e w' => e = .returned (.bool true) ∧ Below w.heap.size w w' := by
  have H := hide h
  clear h
  go_enter Tryz.func3, Tryz.ntmps3
  go_wp2_with (first
    | (go_at_call 4; refine (New_arg room keep floor _ H.out).mono ?_; rintro e w1 ⟨rfl, hw1⟩; obtain rfl := hw1.symm)
    | (go_at_call 5; refine (refNew_arg room keep floor _ H.out).mono ?_; rintro e w2 ⟨rfl, hb2⟩)
    | (go_at_call 6; refine (num_any _ _).mono ?_; rintro e w3 ⟨rfl, rfl⟩)
    | (go_at_call 8; refine (nothing_dead _ _ (by first | exact .inl rfl | exact .inr ⟨_, rfl, (Blk.new _ _ _).cell 2⟩)).mono ?_; rintro e w4 ⟨rfl, hb4⟩; have hb4' := (by exact below_trans (by repeat (first | exact Below.refl _ _ | assumption | refine below_drewN ?_ _ | refine below_drew ?_ | refine below_alloc ?_ _ | refine below_set ?_ (by first | assumption | (simp; done) | (simp; omega)) _ | refine below_trans (by assumption) ?_)) hb4 : Below w.heap.size w w4); clear hb4))
  go_ret
  exact ⟨rfl, (by repeat (first | exact Below.refl _ _ | assumption | refine below_drewN ?_ _ | refine below_drew ?_ | refine below_alloc ?_ _ | refine below_set ?_ (by first | assumption | (simp; done) | (simp; omega)) _ | refine below_trans (by assumption) ?_))⟩
theorem News_number (room keep floor : Int) (w : World) (h1 : ¬ room < 1) (h2 : ¬ 32 < room) (h3 : ¬ keep < 1) (h4 : ¬ 64 < keep) (h : floor < 0 ∨ 2147483647 < floor) :
    Calls Tryz.prog 3 #[.int .i64 room, .int .i64 keep, .int .i64 floor] w fun e w' => e = .returned (.bool true) ∧ Below w.heap.size w w' := by
  have HN := hide (fun w => New_number room keep floor w h1 h2 h3 h4 h)
  have HR := hide (fun w => refNew_number room keep floor w h1 h2 h3 h4 h)
  clear h h1 h2 h3 h4
  go_enter Tryz.func3, Tryz.ntmps3
  go_wp2_with (first
    | (go_at_call 4; refine (HN.out _).mono ?_; rintro e w1 ⟨rfl, hw1⟩; obtain rfl := hw1.symm)
    | (go_at_call 5; refine (HR.out _).mono ?_; rintro e w2 ⟨rfl, hb2⟩)
    | (go_at_call 6; refine (num_any _ _).mono ?_; rintro e w3 ⟨rfl, rfl⟩)
    | (go_at_call 8; refine (nothing_dead _ _ (by first | exact .inl rfl | exact .inr ⟨_, rfl, (Blk.new _ _ _).cell 2⟩)).mono ?_; rintro e w4 ⟨rfl, hb4⟩; have hb4' := (by exact below_trans (by repeat (first | exact Below.refl _ _ | assumption | refine below_drewN ?_ _ | refine below_drew ?_ | refine below_alloc ?_ _ | refine below_set ?_ (by first | assumption | (simp; done) | (simp; omega)) _ | refine below_trans (by assumption) ?_)) hb4 : Below w.heap.size w w4); clear hb4))
  go_ret
  exact ⟨rfl, (by repeat (first | exact Below.refl _ _ | assumption | refine below_drewN ?_ _ | refine below_drew ?_ | refine below_alloc ?_ _ | refine below_set ?_ (by first | assumption | (simp; done) | (simp; omega)) _ | refine below_trans (by assumption) ?_))⟩
theorem News_ok (room keep floor : Int) (w : World) (h1 : ¬ room < 1) (h2 : ¬ 32 < room) (h3 : ¬ keep < 1) (h4 : ¬ 64 < keep) (h5 : ¬ floor < 0) (h6 : ¬ 2147483647 < floor) :
    Calls Tryz.prog 3 #[.int .i64 room, .int .i64 keep, .int .i64 floor] w fun e w' => e = .returned (.bool true) ∧ Below w.heap.size w w' := by
  have HN := hide (fun w => New_ok room keep floor w h1 h2 h3 h4 h5 h6)
  have HR := hide (fun w => refNew_ok room keep floor w h1 h2 h3 h4 h5 h6)
  have hf : -1 ≤ floor ∧ floor ≤ 2147483647 := by omega
  clear h1 h2 h3 h4 h5 h6
  go_enter Tryz.func3, Tryz.ntmps3
  go_wp2_with (first
    | (go_at_call 4; refine (HN.out _).mono ?_; rintro e w1 ⟨b, m, rfl, hh1, hbw, hb1⟩)
    | (go_at_call 5; refine (HR.out _).mono ?_; rintro e w2 ⟨rfl, hb2⟩; have hh2 := (by exact hh1.below hb2 : HubAt 0 w2 b m room floor); have hb2' := (by exact below_trans hb1 hb2 : Below w.heap.size w w2); clear hb2 hh1 hb1)
    | (go_at_call 6; refine (num_any _ _).mono ?_; rintro e w3 ⟨rfl, rfl⟩)
    | (go_at_call 7; refine (machineless_ok b m room floor _ (by exact hh2.below (below_alloc (Below.refl _ _) _)) hf).mono ?_; rintro e w3 ⟨rfl, hl3⟩; have hb3 := (by exact Below.trans (by repeat (first | exact Below.refl _ _ | assumption | refine below_drewN ?_ _ | refine below_drew ?_ | refine below_alloc ?_ _ | refine below_set ?_ (by first | assumption | (simp; done) | (simp; omega)) _ | refine below_trans (by assumption) ?_)) (hl3.below w.heap.size hbw (by have := hb2'.size; simp; omega)) : Below w.heap.size w w3); clear hl3 hh2)
    | (go_at_call 8; refine (nothing_dead _ _ (by first | exact .inl rfl | exact .inr ⟨_, rfl, (Blk.new _ _ _).cell 2⟩)).mono ?_; rintro e w4 ⟨rfl, hb4⟩; have hb4' := (by exact below_trans (by repeat (first | exact Below.refl _ _ | assumption | refine below_drewN ?_ _ | refine below_drew ?_ | refine below_alloc ?_ _ | refine below_set ?_ (by first | assumption | (simp; done) | (simp; omega)) _ | refine below_trans (by assumption) ?_)) hb4 : Below w.heap.size w w4); clear hb4))
  go_ret
  exact ⟨rfl, (by repeat (first | exact Below.refl _ _ | assumption | refine below_drewN ?_ _ | refine below_drew ?_ | refine below_alloc ?_ _ | refine below_set ?_ (by first | assumption | (simp; done) | (simp; omega)) _ | refine below_trans (by assumption) ?_))⟩
theorem FanNews_any (room keep floor : Int) (w : World) :
    Calls Tryz.prog 3 #[.int .i64 room, .int .i64 keep, .int .i64 floor] w fun e w' => e = .returned (.bool true) ∧ Below w.heap.size w w' := by
  by_cases h : room < 1 ∨ 32 < room ∨ keep < 1 ∨ 64 < keep
  · exact News_arg room keep floor w h
  by_cases h5 : floor < 0 ∨ 2147483647 < floor
  · exact News_number room keep floor w (by omega) (by omega) (by omega) (by omega) h5
  · exact News_ok room keep floor w (by omega) (by omega) (by omega) (by omega) (by omega) (by omega)
end Go.Proofs.YtlhlhankonflkaaGreatDoor
