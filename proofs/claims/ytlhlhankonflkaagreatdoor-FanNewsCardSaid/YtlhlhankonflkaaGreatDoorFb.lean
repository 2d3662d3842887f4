/- The hub's methods on a new hub that is asked without a machine. -/
import Derived.Test.YtlhlhankonflkaaGreatDoorFa
namespace Go.Proofs.YtlhlhankonflkaaGreatDoor
open Go Go.RowKit Go.MuLone
set_option maxRecDepth 100000

/-- A hub with nothing in it: its lock's word, its room, its floor (that is also the last stamp), its map of sessions. -/
structure HubAt (s : Int) (w : World) (b m : Nat) (room floor : Int) : Prop where
  lock : w.cell? ⟨b, 0, none⟩ = some (.int .i32 s)
  fz : w.frozen? ⟨b, 0, none⟩ = false
  rm : w.cell? ⟨b, 2, none⟩ = some (.int .i64 room)
  last : w.cell? ⟨b, 4, none⟩ = some (.int .i64 floor)
  fl : w.cell? ⟨b, 5, none⟩ = some (.int .i64 floor)
  ses : w.cell? ⟨b, 8, none⟩ = some (.map (some m))
  map : w.heap[m]? = some (.map #[] 0)
  pos : 0 < room
  ne : m ≠ b
theorem HubAt.ltb {s : Int} {w : World} {b m : Nat} {room floor : Int} (h : HubAt s w b m room floor) : b < w.heap.size := World.block_lt_of_cell? w _ h.lock
theorem HubAt.ltm {s : Int} {w : World} {b m : Nat} {room floor : Int} (h : HubAt s w b m room floor) : m < w.heap.size := (Array.getElem?_eq_some_iff.1 h.map).1
theorem HubAt.below {s : Int} {w w' : World} {b m : Nat} {room floor : Int} (h : HubAt s w b m room floor) (hb : Below w.heap.size w w') : HubAt s w' b m room floor :=
  ⟨cell_keep hb h.lock, ((bcell hb).2 _ _ h.ltb).trans h.fz, cell_keep hb h.rm, cell_keep hb h.last, cell_keep hb h.fl, cell_keep hb h.ses, (hb.block _ h.ltm).trans h.map, h.pos, h.ne⟩
theorem HubAt.turn {s s' : Int} {w : World} {b m : Nat} {room floor : Int} (h : HubAt s w b m room floor) : HubAt s' (w.setCell ⟨b, 0, none⟩ (.int .i32 s')) b m room floor := by
  have oth : ∀ o, o ≠ 0 → (w.setCell ⟨b, 0, none⟩ (.int .i32 s')).cell? ⟨b, o, none⟩ = w.cell? ⟨b, o, none⟩ := fun o ho => World.cell?_setCell_other _ _ _ _ (by simp [Ne.symm ho])
  exact ⟨World.cell?_setCell_same _ _ _ h.lock, by simp [h.fz], (oth 2 (by decide)).trans h.rm, (oth 4 (by decide)).trans h.last, (oth 5 (by decide)).trans h.fl, (oth 8 (by decide)).trans h.ses,
    (Below.heap_setCell w ⟨b, 0, none⟩ _ m h.ne).trans h.map, h.pos, h.ne⟩

/-- What a method leaves of the world: below the hub all stands. -/
structure Left (b : Nat) (w w' : World) : Prop where
  below : ∀ B, B ≤ b → B ≤ w.heap.size → Below B w w'
  size : w.heap.size ≤ w'.heap.size
theorem Left.refl (b : Nat) (w : World) : Left b w w := ⟨fun B _ _ => ⟨rfl, rfl, rfl, Nat.le_refl _, fun _ _ => rfl⟩, Nat.le_refl _⟩
theorem Left.trans {b : Nat} {w w1 w2 : World} (h : Left b w w1) (h' : Left b w1 w2) : Left b w w2 :=
  ⟨fun B h1 h2 => (h.below B h1 h2).trans (h'.below B h1 (Nat.le_trans h2 h.size)), Nat.le_trans h.size h'.size⟩
theorem Left.of {b : Nat} {w w' : World} (h : Below w.heap.size w w') : Left b w w' :=
  ⟨fun B _ hB => ⟨h.os, h.tape, h.output, h.size, fun i hi => h.block i (by omega)⟩, h.size⟩
theorem Left.turn (b : Nat) (w : World) (v : Value) : Left b w (w.setCell ⟨b, 0, none⟩ v) :=
  ⟨fun B hB _ => Below.setCell ⟨rfl, rfl, rfl, Nat.le_refl _, fun _ _ => rfl⟩ hB v, by simp⟩

theorem lock_hub (b m : Nat) (room floor : Int) (w : World) (h : HubAt 0 w b m room floor) :
    Calls Tryz.prog 25 #[.pointer (some ⟨b, 0, none⟩)] w fun e w' => e = .returned (.tuple #[]) ∧ HubAt 1 w' b m room floor ∧ Left b w w' ∧ w'.heap.size = w.heap.size :=
  (lock_free muLib ⟨b, 0, none⟩ w h.lock h.fz).mono fun _ _ ⟨he, hw⟩ => ⟨he, by rw [hw]; exact h.turn, by rw [hw]; exact Left.turn b w _, by rw [hw]; simp⟩
theorem unlock_hub (b m : Nat) (room floor : Int) (u : FrameMode) (w : World) (h : HubAt 1 w b m room floor) :
    CallsD Tryz.prog 26 #[.pointer (some ⟨b, 0, none⟩)] u w fun e u' w' => u' = u ∧ (e = .returned (.tuple #[]) ∧ HubAt 0 w' b m room floor ∧ Left b w w') :=
  (unlock_deferred muLib ⟨b, 0, none⟩ u w h.lock h.fz).mono fun _ _ _ ⟨hu, he, hw⟩ => ⟨hu, he, by rw [hw]; exact h.turn, by rw [hw]; exact Left.turn b w _⟩

theorem Floor_ok (b m : Nat) (room floor : Int) (w : World) (h : HubAt 0 w b m room floor) :
    Calls Tryz.prog 15 #[.pointer (some ⟨b, 0, none⟩)] w fun e w' => e = .returned (.int .i64 floor) ∧ HubAt 0 w' b m room floor ∧ Left b w w' := by
  go_enter_defers Tryz.func15, Tryz.ntmps15
  go_wp2_with (first
    | (go_at_call 24; refine (lives_ok b room _ h.rm h.pos).mono ?_; rintro e w1 ⟨rfl, rfl⟩)
    | (go_at_call 25; refine (lock_hub b m room floor _ h).mono ?_; rintro e w1 ⟨rfl, h1, hl1, hs1⟩; have c5 := h1.fl))
  refine leaves_cons (f := 26) (args := #[.pointer (some ⟨b, 0, none⟩)]) (by simp) (by simp [go_sem]) ?_
  refine (unlock_hub b m room floor .returning _ h1).mono ?_
  rintro e u' w2 ⟨rfl, rfl, h2, hl2⟩
  exact ⟨_, results_tmp rfl _ _ _, rfl, h2, hl1.trans hl2⟩
theorem Last_ok (b m : Nat) (room floor : Int) (w : World) (h : HubAt 0 w b m room floor) :
    Calls Tryz.prog 16 #[.pointer (some ⟨b, 0, none⟩)] w fun e w' => e = .returned (.int .i64 floor) ∧ HubAt 0 w' b m room floor ∧ Left b w w' := by
  go_enter_defers Tryz.func16, Tryz.ntmps16
  go_wp2_with (first
    | (go_at_call 24; refine (lives_ok b room _ h.rm h.pos).mono ?_; rintro e w1 ⟨rfl, rfl⟩)
    | (go_at_call 25; refine (lock_hub b m room floor _ h).mono ?_; rintro e w1 ⟨rfl, h1, hl1, hs1⟩; have c5 := h1.last))
  refine leaves_cons (f := 26) (args := #[.pointer (some ⟨b, 0, none⟩)]) (by simp) (by simp [go_sem]) ?_
  refine (unlock_hub b m room floor .returning _ h1).mono ?_
  rintro e u' w2 ⟨rfl, rfl, h2, hl2⟩
  exact ⟨_, results_tmp rfl _ _ _, rfl, h2, hl1.trans hl2⟩

theorem Commit_ok (b m : Nat) (room floor st : Int) (ch : Value) (w : World) (h : HubAt 0 w b m room floor) :
    Calls Tryz.prog 11 #[.pointer (some ⟨b, 0, none⟩), .int .i64 st, ch, .pointer none] w fun e w' => e = .returned (.int .i64 1) ∧ Below w.heap.size w w' := by
  have H := hide h
  have hp := h.pos
  have hz := h.ltb
  clear h
  go_enter_defers Tryz.func11, Tryz.ntmps11
  go_wp2_with (go_at_call 24; refine (lives_ok b room _ (by exact cell_keep (by repeat (first | exact Below.refl _ _ | assumption | refine below_drewN ?_ _ | refine below_drew ?_ | refine below_alloc ?_ _ | refine below_set ?_ (by first | assumption | (simp; done) | (simp; omega)) _ | refine below_trans (by assumption) ?_)) H.out.rm) hp).mono ?_; rintro e w1 ⟨rfl, rfl⟩)
  exact ⟨_, results_tmp rfl _ _ _, rfl, (by repeat (first | exact Below.refl _ _ | assumption | refine below_drewN ?_ _ | refine below_drew ?_ | refine below_alloc ?_ _ | refine below_set ?_ (by first | assumption | (simp; done) | (simp; omega)) _ | refine below_trans (by assumption) ?_))⟩
theorem Resume_nil (b m : Nat) (room floor s c f : Int) (w : World) (h : HubAt 0 w b m room floor) :
    Calls Tryz.prog 12 #[.pointer (some ⟨b, 0, none⟩), .int .i64 s, .int .i64 c, .int .i64 f, .slice none 0 0, .pointer none] w fun e w' => e = .returned (.int .i64 1) ∧ w' = w := by
  have H := hide h
  have hp := h.pos
  clear h
  go_enter_defers Tryz.func12, Tryz.ntmps12
  go_wp2_with (go_at_call 24; refine (lives_ok b room _ H.out.rm hp).mono ?_; rintro e w1 ⟨rfl, rfl⟩)
  exact ⟨_, results_tmp rfl _ _ _, rfl, rfl⟩
theorem Resume_five (b m : Nat) (room floor s c f : Int) (a : Option Addr) (w : World) (h : HubAt 0 w b m room floor) :
    Calls Tryz.prog 12 #[.pointer (some ⟨b, 0, none⟩), .int .i64 s, .int .i64 c, .int .i64 f, .slice a 5 5, .pointer none] w fun e w' => e = .returned (.int .i64 2) ∧ w' = w := by
  have H := hide h
  have hp := h.pos
  clear h
  go_enter_defers Tryz.func12, Tryz.ntmps12
  go_wp2_with (go_at_call 24; refine (lives_ok b room _ H.out.rm hp).mono ?_; rintro e w1 ⟨rfl, rfl⟩)
  exact ⟨_, results_tmp rfl _ _ _, rfl, rfl⟩
theorem Resume_ok (b m : Nat) (room floor s c f : Int) (a : Option Addr) (n k : Nat) (w : World) (h : HubAt 0 w b m room floor) (hn : (a = none ∧ n = 0 ∧ k = 0) ∨ n = 5 ∧ k = 5) :
    Calls Tryz.prog 12 #[.pointer (some ⟨b, 0, none⟩), .int .i64 s, .int .i64 c, .int .i64 f, .slice a n k, .pointer none] w fun e w' => e = .returned (.int .i64 (if n = 0 then 1 else 2)) ∧ w' = w := by
  rcases hn with ⟨rfl, rfl, rfl⟩ | ⟨rfl, rfl⟩
  · exact Resume_nil b m room floor s c f w h
  · exact Resume_five b m room floor s c f a w h
theorem Watch_nil (b m : Nat) (room floor s c i k f : Int) (p : ByteArray) (w : World) (h : HubAt 0 w b m room floor) :
    Calls Tryz.prog 13 #[.pointer (some ⟨b, 0, none⟩), .int .i64 s, .int .i64 c, .agg #[.int .i64 i, .string p, .int .i64 k, .int .i64 f], .pointer none] w fun e w' =>
      e = .returned (.tuple #[.agg #[.int .i64 0, .int .i64 0, .string ⟨#[]⟩, .int .i64 0, .slice none 0 0], .int .i64 1]) ∧ Below w.heap.size w w' := by
  have H := hide h
  have hp := h.pos
  clear h
  go_enter_defers Tryz.func13, Tryz.ntmps13
  go_wp2_with (go_at_call 24; refine (lives_ok b room _ (by exact cell_keep (by repeat (first | exact Below.refl _ _ | assumption | refine below_drewN ?_ _ | refine below_drew ?_ | refine below_alloc ?_ _ | refine below_set ?_ (by first | assumption | (simp; done) | (simp; omega)) _ | refine below_trans (by assumption) ?_)) H.out.rm) hp).mono ?_; rintro e w1 ⟨rfl, rfl⟩)
  exact ⟨_, res_ct rfl _ _ (w.heap.size + 1) 60 _ _ _ (by simp) (heap_new1 _ _ _) Tryz.underlying60 rfl (by kernel_rfl), rfl, (by repeat (first | exact Below.refl _ _ | assumption | refine below_drewN ?_ _ | refine below_drew ?_ | refine below_alloc ?_ _ | refine below_set ?_ (by first | assumption | (simp; done) | (simp; omega)) _ | refine below_trans (by assumption) ?_))⟩
end Go.Proofs.YtlhlhankonflkaaGreatDoor
