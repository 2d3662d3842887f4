/- The law's own functions: machineless. -/
import Derived.Test.YtlhlhankonflkaaGreatDoorFe
namespace Go.Proofs.YtlhlhankonflkaaGreatDoor
open Go Go.RowKit Go.MuLone
set_option maxRecDepth 100000

set_option maxHeartbeats 2000000 in
theorem machineless_ok (b m : Nat) (room floor : Int) (w : World) (h : HubAt 0 w b m room floor) (hf : -1 ≤ floor ∧ floor ≤ 2147483647) :
    Calls Tryz.prog 7 #[.pointer (some ⟨b, 0, none⟩), .int .i64 floor] w fun e w' => e = .returned (.bool true) ∧ Left b w w' := by
  have H := hide h
  clear h
  obtain ⟨o5, hm5⟩ := make_watches 5 5 rfl (by decide)
  go_enter Tryz.func7, Tryz.ntmps7
  go_wp2_with (first
    | (go_at_call 11; refine (Commit_ok b m room floor _ _ _ (by exact H.out.below (by repeat (first | exact Below.refl _ _ | assumption | refine below_drewN ?_ _ | refine below_drew ?_ | refine below_alloc ?_ _ | refine below_set ?_ (by first | assumption | (simp; done) | (simp; omega)) _ | refine below_trans (by assumption) ?_)))).mono ?_; rintro e w1 ⟨rfl, hb1⟩)
    | (go_at_call 12; refine (Resume_ok b m room floor _ _ _ _ _ _ _ (by exact H.out.below (by repeat (first | exact Below.refl _ _ | assumption | refine below_drewN ?_ _ | refine below_drew ?_ | refine below_alloc ?_ _ | refine below_set ?_ (by first | assumption | (simp; done) | (simp; omega)) _ | refine below_trans (by assumption) ?_))) (by first | exact .inl ⟨rfl, rfl, rfl⟩ | exact .inr ⟨rfl, rfl⟩)).mono ?_; rintro e w2 ⟨rfl, rfl⟩)
    | (go_at_call 13; refine (Watch_nil b m room floor _ _ _ _ _ _ _ (by exact H.out.below (by repeat (first | exact Below.refl _ _ | assumption | refine below_drewN ?_ _ | refine below_drew ?_ | refine below_alloc ?_ _ | refine below_set ?_ (by first | assumption | (simp; done) | (simp; omega)) _ | refine below_trans (by assumption) ?_)))).mono ?_; rintro e w3 ⟨rfl, hb3⟩; have hb3' : Below w.heap.size w w3 := (by exact below_trans (by repeat (first | exact Below.refl _ _ | assumption | refine below_drewN ?_ _ | refine below_drew ?_ | refine below_alloc ?_ _ | refine below_set ?_ (by first | assumption | (simp; done) | (simp; omega)) _ | refine below_trans (by assumption) ?_)) hb3); clear hb3)
    | (go_at_call 14; refine (Sessions_ok b m room floor _ (by exact H.out.below (by repeat (first | exact Below.refl _ _ | assumption | refine below_drewN ?_ _ | refine below_drew ?_ | refine below_alloc ?_ _ | refine below_set ?_ (by first | assumption | (simp; done) | (simp; omega)) _ | refine below_trans (by assumption) ?_)))).mono ?_; rintro e w4 ⟨rfl, h4, l4⟩; have l4' : Left b w w4 := (by exact (Left.of (by repeat (first | exact Below.refl _ _ | assumption | refine below_drewN ?_ _ | refine below_drew ?_ | refine below_alloc ?_ _ | refine below_set ?_ (by first | assumption | (simp; done) | (simp; omega)) _ | refine below_trans (by assumption) ?_))).trans l4); clear l4)
    | (go_at_call 15; refine (Floor_ok b m room floor _ h4).mono ?_; rintro e w5 ⟨rfl, h5, l5⟩)
    | (go_at_call 16; refine (Last_ok b m room floor _ h5).mono ?_; rintro e w6 ⟨rfl, h6, l6⟩)
    | (go_at_call 17; refine (Next_ok b m room floor _ _ _ h6).mono ?_; rintro e w7 ⟨rfl, h7, l7⟩))
  go_ret
  exact ⟨rfl, ((l4'.trans l5).trans l6).trans l7⟩
end Go.Proofs.YtlhlhankonflkaaGreatDoor
