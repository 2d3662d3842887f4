/- Sessions and Next of a new hub. -/
import Derived.Test.YtlhlhankonflkaaGreatDoorFb
import Derived.Maps.Keyed
namespace Go.Proofs.YtlhlhankonflkaaGreatDoor
open Go Go.RowKit Go.MuLone
set_option maxRecDepth 100000

theorem run_lookup_empty {P : Program} {w : World} (t k e : TypeId) {q : IntKind} {m c : Nat} {x : Int} {z : Value} (ht : P.underlying t = some (.map k e)) (hk : P.underlying k = some (.int q)) (hb : w.heap[m]? = some (.map #[] c))
    (hz : (zeroValue e).run P w = .ok z w) : (Instr.lookup t (.map (some m)) (.int q x) false).run P w = .ok z w := by
  have hf : Instr.findNow (.int q) (.int q x) ([] : List MapEntry) 0 = some none := rfl
  have hc : (Instr.checkKey true 10000 k (.int q x)).run P w = .ok () w := MapKept.run_checkKey (k := .int q x) hk (by simp [MapKept.IsKey]) true 9999
  simp [Instr.lookup, run_underlying ht, MapKept.run_getObj_map hb, hc, MapKept.run_findKey hk hf, hz, Result.andThen]

theorem insertion_none (w : World) : Calls Tryz.prog 123 #[.slice none 0 0, .int .i64 0, .int .i64 0] w fun e w' => e = .returned (.tuple #[]) ∧ w' = w := by
  go_enter Tryz.func123, Tryz.ntmps123
  go_wp2
  refine wp_loop_rounds 1 ?_
  rw [rounds_succ]
  go_wp2
  first | go_end0 | refine bodyPost_ret (results_none rfl _ _ _) rfl ?_
  exact ⟨rfl, rfl⟩
theorem pdq_none (lim : Int) (w : World) : Calls Tryz.prog 86 #[.slice none 0 0, .int .i64 0, .int .i64 0, .int .i64 lim] w fun e w' => e = .returned (.tuple #[]) ∧ w' = w := by
  go_enter Tryz.func86, Tryz.ntmps86
  go_wp2
  refine wp_loop_rounds 1 ?_
  rw [rounds_succ]
  go_wp2_with (go_at_call 123; refine (insertion_none _).mono ?_; rintro e w1 ⟨rfl, rfl⟩)
  first | go_end0 | refine bodyPost_ret (results_none rfl _ _ _) rfl ?_
  exact ⟨rfl, rfl⟩
theorem len_zero (w : World) : Calls Tryz.prog 87 #[.int .u64 0] w fun e w' => (∃ x, e = .returned (.int .i64 x)) ∧ w' = w := by
  go_enter Tryz.func87, Tryz.ntmps87
  go_wp2
  go_ret
  exact ⟨⟨_, rfl⟩, rfl⟩
theorem Sort_none (w : World) : Calls Tryz.prog 44 #[.slice none 0 0] w fun e w' => e = .returned (.tuple #[]) ∧ w' = w := by
  go_enter Tryz.func44, Tryz.ntmps44
  go_wp2_with (first
    | (go_at_call 87; refine (len_zero _).mono ?_; rintro e w1 ⟨⟨x, rfl⟩, rfl⟩)
    | (go_at_call 86; refine (pdq_none _ _).mono ?_; rintro e w1 ⟨rfl, rfl⟩))
  first | go_end0 | refine bodyPost_ret (results_none rfl _ _ _) rfl ?_
  exact ⟨rfl, rfl⟩

theorem Next_none (x : Int) (w : World) : Calls Tryz.prog 46 #[.pointer none, .int .i64 x] w fun e w' => e = .returned (.slice none 0 0) ∧ w' = w := by
  go_enter_defers Tryz.func46, Tryz.ntmps46
  go_wp2
  exact ⟨_, results_tmp rfl _ _ _, rfl, rfl⟩
theorem Next_ok (b m : Nat) (room floor s x : Int) (w : World) (h : HubAt 0 w b m room floor) :
    Calls Tryz.prog 17 #[.pointer (some ⟨b, 0, none⟩), .int .i64 s, .int .i64 x] w fun e w' => e = .returned (.slice none 0 0) ∧ HubAt 0 w' b m room floor ∧ Left b w w' := by
  have HL := fun (w1 : World) (hm : w1.heap[m]? = some (.map #[] 0)) => run_lookup_empty (P := Tryz.prog) (x := s) 47 3 _ Tryz.underlying47 Tryz.underlying3 hm (Tryz.zeroValue100 w1)
  have hfd : ∀ w, (Instr.field 100 (.agg #[.int .i64 0, .pointer none]) 1).run Tryz.prog w = .ok (.pointer none) w := fun w => by
    simp [Instr.field, Tryz.runUnderlying100, go_sem, part, asAgg, Tryz.isAgg98, Tryz.sizeOf98]
  go_enter_defers Tryz.func17, Tryz.ntmps17
  go_wp2_with (first
    | (go_at_call 24; refine (lives_ok b room _ h.rm h.pos).mono ?_; rintro e w1 ⟨rfl, rfl⟩)
    | (go_at_call 25; refine (lock_hub b m room floor _ h).mono ?_; rintro e w1 ⟨rfl, h1, hl1, -⟩; have c8 := h1.ses; have cm := HL _ h1.map)
    | (go_at_call 46; refine (Next_none x _).mono ?_; rintro e w2 ⟨rfl, rfl⟩))
  refine leaves_cons (f := 26) (args := #[.pointer (some ⟨b, 0, none⟩)]) (by simp) (by simp [go_sem]) ?_
  refine (unlock_hub b m room floor .returning _ h1).mono ?_
  rintro e u' w2 ⟨rfl, rfl, h2, hl2⟩
  exact ⟨_, results_tmp rfl _ _ _, rfl, h2, hl1.trans hl2⟩
theorem Sessions_ok (b m : Nat) (room floor : Int) (w : World) (h : HubAt 0 w b m room floor) :
    Calls Tryz.prog 14 #[.pointer (some ⟨b, 0, none⟩)] w fun e w' => e = .returned (.tuple #[.slice none 0 0, .slice none 0 0, .slice none 0 0]) ∧ HubAt 0 w' b m room floor ∧ Left b w w' := by
  have HR := fun (w1 : World) (hm : w1.heap[m]? = some (.map #[] 0)) => run_range_map (P := Tryz.prog) w1 47 _ _ m #[] 0 Tryz.underlying47 hm
  have HN := fun (w1 : World) (hm : w1.heap[m]? = some (.map #[] 0)) => (run_next_map (P := Tryz.prog) w1 0 m 0 0 #[] #[] 0 hm (by simp) (Nat.le_refl _)).resolve_right (by rintro ⟨e, he, _⟩; simp [leftOf] at he)
  go_enter_defers Tryz.func14, Tryz.ntmps14
  go_wp2_with (first
    | (go_at_call 24; refine (lives_ok b room _ h.rm h.pos).mono ?_; rintro e w1 ⟨rfl, rfl⟩)
    | (go_at_call 25; refine (lock_hub b m room floor _ h).mono ?_; rintro e w1 ⟨rfl, h1, hl1, -⟩; have c8 := h1.ses; have cm := HR _ h1.map; have cn := (HN _ h1.map).2))
  refine wp_loop_rounds 1 ?_
  rw [rounds_succ]
  go_wp2_with (first
    | (go_at_call 44; refine (Sort_none _).mono ?_; rintro e w2 ⟨rfl, rfl⟩))
  refine wp_loop_rounds 1 ?_
  rw [rounds_succ]
  go_wp2
  have hb : Below w1.heap.size w1 (w1.alloc (Obj.mapIter (some m) 0 #[] 0)) := below_alloc (Below.refl _ _) _
  refine leaves_cons (f := 26) (args := #[.pointer (some ⟨b, 0, none⟩)]) (by simp) (by simp [go_sem]) ?_
  refine (unlock_hub b m room floor .returning _ (h1.below hb)).mono ?_
  rintro e u' w2 ⟨rfl, rfl, h2, hl2⟩
  exact ⟨_, results_tmp3 rfl _ _ _, rfl, h2, (hl1.trans (Left.of hb)).trans hl2⟩
end Go.Proofs.YtlhlhankonflkaaGreatDoor
