/- The hub's methods on a hub that is none, and on a new hub. -/
import Derived.Test.YtlhlhankonflkaaGreatDoorBa
import Derived.Test.YtlhlhankonflkaaGreatDoorLk
import Derived.Test.YtlhlhankonflkaaGreatDoorRc
import Derived.Defers
import Derived.WideMake
import Derived.Laws.IdiomRangeMap
namespace Go.Proofs.YtlhlhankonflkaaGreatDoor
open Go Go.RowKit Go.MuLone
set_option maxRecDepth 100000

/-- No hub: nil, or one whose room is none. -/
def Dead (w : World) (h : Option Addr) : Prop := h = none ∨ ∃ b, h = some ⟨b, 0, none⟩ ∧ w.cell? ⟨b, 2, none⟩ = some (.int .i64 0)
theorem Dead.below {w w' : World} {h : Option Addr} (hd : Dead w h) (hb : Below w.heap.size w w') : Dead w' h :=
  hd.imp id fun ⟨b, e, hc⟩ => ⟨b, e, cell_keep hb hc⟩

theorem lives_dead (h : Option Addr) (w : World) (hd : Dead w h) : Calls Tryz.prog 24 #[.pointer h] w fun e w' => e = .returned (.bool false) ∧ w' = w := by
  rcases hd with rfl | ⟨b, rfl, hc⟩
  all_goals
    go_enter Tryz.func24, Tryz.ntmps24
    go_wp2
    go_ret
    exact ⟨rfl, rfl⟩
theorem lives_ok (b : Nat) (room : Int) (w : World) (hc : w.cell? ⟨b, 2, none⟩ = some (.int .i64 room)) (hr : 0 < room) :
    Calls Tryz.prog 24 #[.pointer (some ⟨b, 0, none⟩)] w fun e w' => e = .returned (.bool true) ∧ w' = w := by
  go_enter Tryz.func24, Tryz.ntmps24
  go_wp2
  go_ret
  exact ⟨rfl, rfl⟩

theorem Floor_dead (h : Option Addr) (w : World) (hd : Dead w h) : Calls Tryz.prog 15 #[.pointer h] w fun e w' => e = .returned (.int .i64 0) ∧ w' = w := by
  have HD := hide hd
  clear hd
  go_enter_defers Tryz.func15, Tryz.ntmps15
  go_wp2_with (go_at_call 24; refine (lives_dead h _ (by exact HD.out)).mono ?_; rintro e w1 ⟨rfl, rfl⟩)
  exact ⟨_, results_tmp rfl _ _ _, rfl, rfl⟩
theorem Last_dead (h : Option Addr) (w : World) (hd : Dead w h) : Calls Tryz.prog 16 #[.pointer h] w fun e w' => e = .returned (.int .i64 0) ∧ w' = w := by
  have HD := hide hd
  clear hd
  go_enter_defers Tryz.func16, Tryz.ntmps16
  go_wp2_with (go_at_call 24; refine (lives_dead h _ (by exact HD.out)).mono ?_; rintro e w1 ⟨rfl, rfl⟩)
  exact ⟨_, results_tmp rfl _ _ _, rfl, rfl⟩
theorem Next_dead (h : Option Addr) (s m : Int) (w : World) (hd : Dead w h) : Calls Tryz.prog 17 #[.pointer h, .int .i64 s, .int .i64 m] w fun e w' => e = .returned (.slice none 0 0) ∧ w' = w := by
  have HD := hide hd
  clear hd
  go_enter_defers Tryz.func17, Tryz.ntmps17
  go_wp2_with (go_at_call 24; refine (lives_dead h _ (by exact HD.out)).mono ?_; rintro e w1 ⟨rfl, rfl⟩)
  exact ⟨_, results_tmp rfl _ _ _, rfl, rfl⟩
theorem Watches_dead (h : Option Addr) (s : Int) (w : World) (hd : Dead w h) : Calls Tryz.prog 21 #[.pointer h, .int .i64 s] w fun e w' => e = .returned (.slice none 0 0) ∧ w' = w := by
  have HD := hide hd
  clear hd
  go_enter_defers Tryz.func21, Tryz.ntmps21
  go_wp2_with (go_at_call 24; refine (lives_dead h _ (by exact HD.out)).mono ?_; rintro e w1 ⟨rfl, rfl⟩)
  exact ⟨_, results_tmp rfl _ _ _, rfl, rfl⟩
theorem Unwatch_dead (h : Option Addr) (a b c : Int) (w : World) (hd : Dead w h) : Calls Tryz.prog 22 #[.pointer h, .int .i64 a, .int .i64 b, .int .i64 c] w fun e w' => e = .returned (.int .i64 1) ∧ w' = w := by
  have HD := hide hd
  clear hd
  go_enter_defers Tryz.func22, Tryz.ntmps22
  go_wp2_with (go_at_call 24; refine (lives_dead h _ (by exact HD.out)).mono ?_; rintro e w1 ⟨rfl, rfl⟩)
  exact ⟨_, results_tmp rfl _ _ _, rfl, rfl⟩
theorem Took_dead (h : Option Addr) (a b c : Int) (w : World) (hd : Dead w h) : Calls Tryz.prog 23 #[.pointer h, .int .i64 a, .int .i64 b, .int .i64 c] w fun e w' => e = .returned (.int .i64 1) ∧ w' = w := by
  have HD := hide hd
  clear hd
  go_enter_defers Tryz.func23, Tryz.ntmps23
  go_wp2_with (go_at_call 24; refine (lives_dead h _ (by exact HD.out)).mono ?_; rintro e w1 ⟨rfl, rfl⟩)
  exact ⟨_, results_tmp rfl _ _ _, rfl, rfl⟩
theorem Drop_dead (h : Option Addr) (s : Int) (w : World) (hd : Dead w h) : Calls Tryz.prog 19 #[.pointer h, .int .i64 s] w fun e w' => e = .returned (.tuple #[]) ∧ w' = w := by
  have HD := hide hd
  clear hd
  go_enter_defers Tryz.func19, Tryz.ntmps19
  go_wp2_with (go_at_call 24; refine (lives_dead h _ (by exact HD.out)).mono ?_; rintro e w1 ⟨rfl, rfl⟩)
  exact ⟨_, results_none rfl _ _ _, rfl, rfl⟩
theorem Clear_dead (h : Option Addr) (w : World) (hd : Dead w h) : Calls Tryz.prog 20 #[.pointer h] w fun e w' => e = .returned (.tuple #[]) ∧ w' = w := by
  have HD := hide hd
  clear hd
  go_enter_defers Tryz.func20, Tryz.ntmps20
  go_wp2_with (go_at_call 24; refine (lives_dead h _ (by exact HD.out)).mono ?_; rintro e w1 ⟨rfl, rfl⟩)
  exact ⟨_, results_none rfl _ _ _, rfl, rfl⟩
theorem Sessions_dead (h : Option Addr) (w : World) (hd : Dead w h) : Calls Tryz.prog 14 #[.pointer h] w fun e w' => e = .returned (.tuple #[.slice none 0 0, .slice none 0 0, .slice none 0 0]) ∧ w' = w := by
  have HD := hide hd
  clear hd
  go_enter_defers Tryz.func14, Tryz.ntmps14
  go_wp2_with (go_at_call 24; refine (lives_dead h _ (by exact HD.out)).mono ?_; rintro e w1 ⟨rfl, rfl⟩)
  exact ⟨_, results_tmp3 rfl _ _ _, rfl, rfl⟩
theorem Commit_dead (h : Option Addr) (st : Int) (ch : Value) (m : Option Addr) (w : World) (hd : Dead w h) : Calls Tryz.prog 11 #[.pointer h, .int .i64 st, ch, .pointer m] w fun e w' => e = .returned (.int .i64 1) ∧ Below w.heap.size w w' := by
  have HD := hide hd
  clear hd
  go_enter_defers Tryz.func11, Tryz.ntmps11
  go_wp2_with (go_at_call 24; refine (lives_dead h _ (by exact HD.out.below (by repeat (first | exact Below.refl _ _ | assumption | refine below_drewN ?_ _ | refine below_drew ?_ | refine below_alloc ?_ _ | refine below_set ?_ (by first | assumption | (simp; done) | (simp; omega)) _ | refine below_trans (by assumption) ?_)))).mono ?_; rintro e w1 ⟨rfl, rfl⟩)
  exact ⟨_, results_tmp rfl _ _ _, rfl, (by repeat (first | exact Below.refl _ _ | assumption | refine below_drewN ?_ _ | refine below_drew ?_ | refine below_alloc ?_ _ | refine below_set ?_ (by first | assumption | (simp; done) | (simp; omega)) _ | refine below_trans (by assumption) ?_))⟩
theorem Resume_dead (h : Option Addr) (a b c : Int) (l m : Value) (w : World) (hd : Dead w h) : Calls Tryz.prog 12 #[.pointer h, .int .i64 a, .int .i64 b, .int .i64 c, l, m] w fun e w' => e = .returned (.int .i64 1) ∧ w' = w := by
  have HD := hide hd
  clear hd
  go_enter_defers Tryz.func12, Tryz.ntmps12
  go_wp2_with (go_at_call 24; refine (lives_dead h _ (by exact HD.out)).mono ?_; rintro e w1 ⟨rfl, rfl⟩)
  exact ⟨_, results_tmp rfl _ _ _, rfl, rfl⟩
theorem Watch_dead (h : Option Addr) (a b i k f : Int) (p : ByteArray) (m : Value) (w : World) (hd : Dead w h) : Calls Tryz.prog 13 #[.pointer h, .int .i64 a, .int .i64 b, .agg #[.int .i64 i, .string p, .int .i64 k, .int .i64 f], m] w fun e w' => e = .returned (.tuple #[.agg #[.int .i64 0, .int .i64 0, .string ⟨#[]⟩, .int .i64 0, .slice none 0 0], .int .i64 1]) ∧ Below w.heap.size w w' := by
  have HD := hide hd
  clear hd
  go_enter_defers Tryz.func13, Tryz.ntmps13
  go_wp2_with (go_at_call 24; refine (lives_dead h _ (by exact HD.out.below (by repeat (first | exact Below.refl _ _ | assumption | refine below_drewN ?_ _ | refine below_drew ?_ | refine below_alloc ?_ _ | refine below_set ?_ (by first | assumption | (simp; done) | (simp; omega)) _ | refine below_trans (by assumption) ?_)))).mono ?_; rintro e w1 ⟨rfl, rfl⟩)
  exact ⟨_, res_ct rfl _ _ (w.heap.size + 1) 60 _ _ _ (by simp) (heap_new1 _ _ _) Tryz.underlying60 rfl (by kernel_rfl), rfl, (by repeat (first | exact Below.refl _ _ | assumption | refine below_drewN ?_ _ | refine below_drew ?_ | refine below_alloc ?_ _ | refine below_set ?_ (by first | assumption | (simp; done) | (simp; omega)) _ | refine below_trans (by assumption) ?_))⟩
end Go.Proofs.YtlhlhankonflkaaGreatDoor
