/- A tree with the root alone: none, Nodes. -/
import Derived.Test.YtheampfoedhipaaGreatDoorAk
import Derived.Test.YtheampfoedhipaaGreatDoorMn
import Derived.Test.YtheampfoedhipaaGreatDoorRc
import Derived.Test.YtheampfoedhipaaGreatDoorPw
import Derived.Maps.RangeRun
import Derived.Maps.AppendAt
namespace Go.Proofs.YtheampfoedhipaaGreatDoor
open Go Go.RowKit
set_option maxRecDepth 100000

abbrev tFull : TypeId := 148
abbrev rootEntry : MapEntry := { key := .string ⟨#[47]⟩, val := rootVal, born := 0 }
theorem setBlock_new (w : World) (o o' : Obj) : ChangeMaps.setBlock (w.alloc o) w.heap.size o' = w.alloc o' := by
  have hp : ∀ (h : Array Obj) (x y : Obj), (h.push x).setIfInBounds h.size y = h.push y := by
    intro h x y
    apply Array.toList_inj.1
    simp
  show ({ w.alloc o with heap := (w.heap.push o).setIfInBounds w.heap.size o' } : World) = _
  rw [hp]
  rfl
/-- The first step of a range over the root's map. -/
theorem next_root (w : World) (m : Nat) (hm : w.heap[m]? = some rootMap) :
    (Instr.next (.pointer (some ⟨w.heap.size, 0, none⟩)) false 0).run Tryz.prog (w.alloc (.mapIter (some m) 1 #[] 1)) = .ok (.tuple #[.bool true, .string ⟨#[47]⟩, rootVal]) (w.alloc (.mapIter (some m) 1 #[0] 1)) := by
  have hlt : m < w.heap.size := (Array.getElem?_eq_some_iff.1 hm).1
  simp only [Instr.next, getObj, Sem.run_bind, Sem.run, heap_alloc_new, (heap_alloc_old w _ hlt).trans hm, Result.andThen]
  simp [choose, Sem.run, Question.forced, run_setObj_at (heap_alloc_new w _), setBlock_new]
theorem entry_root (w : World) (m : Nat) (hm : w.heap[m]? = some rootMap) :
    (Instr.entry (.pointer (some ⟨w.heap.size, 0, none⟩))).run Tryz.prog (w.alloc (.mapIter (some m) 1 #[0] 1)) = .ok (.tuple #[.string ⟨#[47]⟩, rootVal]) (w.alloc (.mapIter (some m) 1 #[0] 1)) := by
  have hlt : m < w.heap.size := (Array.getElem?_eq_some_iff.1 hm).1
  exact run_entry_at _ _ m 1 #[] #[rootEntry] 1 rootEntry (heap_alloc_new w _) ((heap_alloc_old w _ hlt).trans hm) (by simp) (by simp)
/-- The last step. -/
theorem next_root_end (w : World) (it m : Nat) (hm : w.heap[m]? = some rootMap) (hi : w.heap[it]? = some (.mapIter (some m) 1 #[0] 1)) :
    (Instr.next (.pointer (some ⟨it, 0, none⟩)) false 0).run Tryz.prog w = .ok (.tuple #[.bool false]) w :=
  ((run_next_at (P := Tryz.prog) w 0 it m 1 1 #[0] #[rootEntry] 1 hi hm (by simp) (Nat.le_refl _)).resolve_right (by rintro ⟨e, he, _⟩; simp [leftOf] at he)).2

theorem none_root (t m : Nat) (w : World) (hc : w.cell? ⟨t, 0, none⟩ = some (.map (some m))) :
    Calls Tryz.prog 74 #[.pointer (some ⟨t, 0, none⟩)] w fun e w' => e = .returned (.bool false) ∧ w' = w := by
  have h1 := fun w => run_eql_map_nil (P := Tryz.prog) w 149 _ _ (some m) Tryz.underlying149
  go_enter Tryz.func74, Tryz.ntmps74
  go_wp2
  go_ret
  exact ⟨rfl, rfl⟩

theorem insertionCmp_one (v g : Value) (w : World) : Calls Tryz.prog 260 #[v, .int .i64 0, .int .i64 1, g] w fun e w' => e = .returned (.tuple #[]) ∧ w' = w := by
  go_enter Tryz.func260, Tryz.ntmps260
  go_wp2
  refine wp_loop_rounds 1 ?_
  rw [rounds_succ]
  go_wp2
  first | go_end0 | refine bodyPost_ret (results_none rfl _ _ _) rfl ?_
  exact ⟨rfl, rfl⟩
theorem pdqCmp_one (v g : Value) (lim : Int) (w : World) : Calls Tryz.prog 234 #[v, .int .i64 0, .int .i64 1, .int .i64 lim, g] w fun e w' => e = .returned (.tuple #[]) ∧ w' = w := by
  go_enter Tryz.func234, Tryz.ntmps234
  go_wp2
  refine wp_loop_rounds 1 ?_
  rw [rounds_succ]
  go_wp2_with (go_at_call 260; refine (insertionCmp_one _ _ _).mono ?_; rintro e w1 ⟨rfl, rfl⟩)
  first | go_end0 | refine bodyPost_ret (results_none rfl _ _ _) rfl ?_
  exact ⟨rfl, rfl⟩
theorem len_one (w : World) : Calls Tryz.prog 178 #[.int .u64 1] w fun e w' => (∃ x, e = .returned (.int .i64 x)) ∧ w' = w := by
  go_enter Tryz.func178, Tryz.ntmps178
  go_wp2
  go_ret
  exact ⟨⟨_, rfl⟩, rfl⟩
theorem SortFunc_one (a : Option Addr) (c : Nat) (g : Value) (w : World) : Calls Tryz.prog 195 #[.slice a 1 c, g] w fun e w' => e = .returned (.tuple #[]) ∧ w' = w := by
  go_enter Tryz.func195, Tryz.ntmps195
  go_wp2_with (first
    | (go_at_call 178; refine (len_one _).mono ?_; rintro e w1 ⟨⟨x, rfl⟩, rfl⟩)
    | (go_at_call 234; refine (pdqCmp_one _ _ _ _).mono ?_; rintro e w1 ⟨rfl, rfl⟩))
  first | go_end0 | refine bodyPost_ret (results_none rfl _ _ _) rfl ?_
  exact ⟨rfl, rfl⟩
theorem inOrder_one (a : Option Addr) (c : Nat) (w : World) : Calls Tryz.prog 153 #[.slice a 1 c] w fun e w' => e = .returned (.slice a 1 c) ∧ w' = w := by
  go_enter Tryz.func153, Tryz.ntmps153
  go_wp2_with (go_at_call 195; refine (SortFunc_one _ _ _ _).mono ?_; rintro e w1 ⟨rfl, rfl⟩)
  go_ret
  exact ⟨rfl, rfl⟩

/-- The root. -/
abbrev rootFull : Full := ⟨[47], [], 0, 0, 0, 0, 0⟩
theorem Blk.newAt (w : World) (t : TypeId) (cs : Array Value) {g : Nat} (hg : g = w.heap.size) : Blk (w.alloc (.cells cs t)) g t cs := by subst hg; exact Blk.new w t cs
theorem Blk.news {w : World} {g : Nat} {t : TypeId} {cs : Array Value} (h : Blk w g t cs) : ∀ j u, cs.toList[j]? = some u → w.cell? ((⟨g, 0, none⟩ : Addr).add j) = some u := by
  intro j u hu
  rw [show (⟨g, 0, none⟩ : Addr).add j = ⟨g, j, none⟩ by unfold Addr.add; split <;> simp_all, h.cell]
  simpa using hu
theorem infoFull : (Tryz.prog.info? tFull).map (fun i => (i.zero, i.size, i.bytes)) = some (some (.agg #[.string ⟨#[]⟩, .string ⟨#[]⟩, .int .i64 0, .int .i64 0, .int .i64 0, .int .i64 0, .int .i64 0]), 7, 72) := by kernel_rfl
theorem Nodes_root (t m : Nat) (w : World) (hm : w.heap[m]? = some rootMap) (hc : w.cell? ⟨t, 0, none⟩ = some (.map (some m))) :
    Calls Tryz.prog 78 #[.pointer (some ⟨t, 0, none⟩)] w fun e w' => ∃ v, e = .returned v ∧ Own tFull 7 encFull w' w.heap.size v [rootFull] ∧ Below w.heap.size w w' := by
  have hr := run_range_map (P := Tryz.prog) w 149 _ _ m #[rootEntry] 1 Tryz.underlying149 hm
  have hn := next_root w m hm
  have he := entry_root w m hm
  have hlm : m < w.heap.size := (Array.getElem?_eq_some_iff.1 hm).1
  have hlt : t < w.heap.size := World.block_lt_of_cell? w _ hc
  obtain ⟨i0, hi0, hzz⟩ := Option.map_eq_some_iff.1 infoFull
  simp only [Prod.mk.injEq] at hzz
  obtain ⟨hz0, hz1, hz2⟩ := hzz
  have HM := hide hm; have HC := hide hc
  clear hm hc
  go_enter Tryz.func78, Tryz.ntmps78
  go_wp2_with (go_at_call 74; refine (none_root t m _ HC.out).mono ?_; rintro e w1 ⟨rfl, hw1⟩; obtain rfl := hw1.symm; have hc := HC.out)
  refine wp_loop_rounds 2 ?_
  rw [rounds_succ]
  go_wp2_with (at_builtin; refine wpList_append_own_at _ rfl (.tmp 17) (.tmp 19) _ rfl w.heap.size tFull i0 _ 7 72 Tryz.underlying165 hi0 hz0 hz1 hz2 rfl (by omega) (.slice none 0 0) 0 [] rfl ⟨rfl, .inl ⟨rfl, rfl⟩⟩ ⟨w.heap.size + 1 + 1, 0, none⟩ 1 1 (encFull rootFull) rfl rfl (Blk.newAt _ _ _ (by simp)).news (by simp [encFull, Value.oneCell']) (by simp [maxLen]) (by omega) (by simp; omega) ?_; intro v1 w2 hown1 hg1 _ hat1; have HO1 := hide hown1; clear hown1)
  have hb : Below w.heap.size w w2 := Below.grown (by repeat (first | exact Below.refl _ _ | assumption | refine below_drewN ?_ _ | refine below_drew ?_ | refine below_alloc ?_ _ | refine below_set ?_ (by first | assumption | (simp; done) | (simp; omega)) _ | refine below_trans (by assumption) ?_)) hg1 (by simp; omega) (by simp [Value.ownBlock])
  have hm2 := (hb.block m hlm).trans HM.out
  have hi2 : w2.heap[w.heap.size]? = some (.mapIter (some m) 1 #[0] 1) :=
    (hg1.block _ (by simp; omega) (by simp [Value.ownBlock])).trans ((heap_alloc_old _ _ (by simp; omega)).trans ((heap_alloc_old _ _ (by simp)).trans (heap_alloc_new _ _)))
  have ho : Own tFull 7 encFull w2 w.heap.size v1 [rootFull] := HO1.out
  clear hg1 hat1 hr hn he HO1
  have HO := hide ho
  obtain ⟨X, c, hv⟩ := ho.len
  clear ho
  simp only [List.length_cons, List.length_nil, Nat.zero_add] at hv
  subst hv
  have hn2 := next_root_end w2 _ m hm2 hi2
  rw [rounds_succ]
  go_wp2_with (go_at_call 153; refine (inOrder_one _ _ _).mono ?_; rintro e w3 ⟨rfl, rfl⟩)
  go_ret
  exact ⟨_, rfl, HO.out, hb⟩
end Go.Proofs.YtheampfoedhipaaGreatDoor
