/- A tree with the root alone: Part. -/
import Derived.Test.YtheampfoedhipaaGreatDoorSn1
import Derived.Test.YtheampfoedhipaaGreatDoorPw5
import Derived.Test.YtheampfoedhipaaGreatDoorSw4
namespace Go.Proofs.YtheampfoedhipaaGreatDoor
open Go Go.RowKit
set_option maxRecDepth 100000

theorem Parse_is (s : Str) (l : List Str) (c : Int) (w : World) (hg : Gl w) (h : parse s = (l, c)) :
    Calls Tryz.prog 146 #[.string (B s)] w fun e w' => ∃ v, e = .returned (.tuple #[v, .int .i64 c]) ∧ Rd 1 encStr w' v l ∧ Below w.heap.size w w' :=
  (Parse_any (B s) w hg).mono fun e w' ⟨v, he, hr, hb⟩ => by rw [B_list, h] at he hr; exact ⟨v, he, hr, hb⟩
theorem Covers_is (k : Int) (a : Str) (c : Int) (b : Str) (r : Bool) (w : World) (hg : Gl w) (h : covers k a c b = r) :
    Calls Tryz.prog 88 #[.int .i64 k, .string (B a), .int .i64 c, .string (B b)] w fun e w' => e = .returned (.bool r) ∧ Below w.heap.size w w' :=
  (Covers_any k (B a) c (B b) w hg).mono fun e w' ⟨he, hb⟩ => by rw [B_list, B_list, h] at he; exact ⟨he, hb⟩
/-- What Nodes tells, cell by cell. -/
theorem root_cells {w : World} {base : Nat} {v : Value} (h : Own tFull 7 encFull w base v [rootFull]) : ∃ g c, v = .slice (some ⟨g, 0, none⟩) 1 c ∧ g < w.heap.size ∧
    (w.cell? ⟨g, 0, none⟩ = some (.string ⟨#[47]⟩) ∧ w.cell? ⟨g, 1, none⟩ = some (.string ⟨#[]⟩) ∧ w.cell? ⟨g, 2, none⟩ = some (.int .i64 0) ∧ w.cell? ⟨g, 3, none⟩ = some (.int .i64 0) ∧ w.cell? ⟨g, 4, none⟩ = some (.int .i64 0) ∧ w.cell? ⟨g, 5, none⟩ = some (.int .i64 0) ∧ w.cell? ⟨g, 6, none⟩ = some (.int .i64 0)) := by
  obtain ⟨g, cap, cur, rfl, hb, hg, hc, hm, hs, ht⟩ := h.form (by
    intro e; obtain ⟨X, c, hv⟩ := h.len; rw [hv] at e; injection e with e1 e2 e3; simp at e2)
  have hall : ∀ i, i < 7 → w.cell? ⟨g, i, none⟩ = (encFull rootFull)[i]? := fun i hi => by
    rw [hg.cell, ← Array.getElem?_toList]
    have := congrArg (·[i]?) ht
    simp only [flat, List.flatMap_cons, List.flatMap_nil, List.append_nil, List.length_cons, List.length_nil, Nat.zero_add, Nat.one_mul] at this
    rw [List.getElem?_take, if_pos hi] at this
    exact this
  exact ⟨g, cap, rfl, hg.lt, hall 0 (by omega), hall 1 (by omega), hall 2 (by omega), hall 3 (by omega), hall 4 (by omega), hall 5 (by omega), hall 6 (by omega)⟩

theorem Part_out (t m : Nat) (w : World) (hgl : Gl w) (hm : w.heap[m]? = some rootMap) (hc : w.cell? ⟨t, 0, none⟩ = some (.map (some m))) :
    Calls Tryz.prog 83 #[.pointer (some ⟨t, 0, none⟩), .string ⟨#[47, 97]⟩, .int .i64 1] w fun e w' => e = .returned (.tuple #[.slice none 0 0, .int .i64 0]) ∧ Below w.heap.size w w' := by
  have HG := hide hgl; have HM := hide hm; have HC := hide hc
  have hlm : m < w.heap.size := (Array.getElem?_eq_some_iff.1 hm).1
  clear hm hc hgl
  go_enter Tryz.func83, Tryz.ntmps83
  go_wp2_with (first
    | (go_at_call 74; refine (none_root t m _ HC.out).mono ?_; rintro e w1 ⟨rfl, hw1⟩; obtain rfl := hw1.symm)
    | (go_at_call 146; refine (Parse_is [47, 97] [[97]] 0 _ HG.out (by decide)).mono ?_; rintro e w2 ⟨v2, rfl, -, hb2⟩)
    | (go_at_call 78; refine (Nodes_root t m _ ((hb2.block m hlm).trans HM.out) (by exact cell_keep hb2 HC.out)).mono ?_; rintro e w3 ⟨v3, rfl, ho3, hb3⟩; obtain ⟨g, c, rfl, hg3, c0, c1, c2, c3, c4, c5, c6⟩ := root_cells ho3; have hb3' := below_trans hb2 hb3; clear hb3 hb2 ho3))
  refine wp_loop_rounds 2 ?_
  rw [rounds_succ]
  go_wp2_with (go_at_call 88; refine (Covers_is 1 [47, 97] 1 [47] false _ (by exact HG.out.below (by repeat (first | exact Below.refl _ _ | assumption | refine below_drewN ?_ _ | refine below_drew ?_ | refine below_alloc ?_ _ | refine below_set ?_ (by first | assumption | (simp; done) | (simp; omega)) _ | refine below_trans (by assumption) ?_))) (by decide)).mono ?_; rintro e w4 ⟨rfl, hb4⟩; have hb4' : Below w.heap.size w w4 := (by exact below_trans (by repeat (first | exact Below.refl _ _ | assumption | refine below_drewN ?_ _ | refine below_drew ?_ | refine below_alloc ?_ _ | refine below_set ?_ (by first | assumption | (simp; done) | (simp; omega)) _ | refine below_trans (by assumption) ?_)) hb4); clear hb4)
  rw [rounds_succ]
  go_wp2
  refine bodyPost_ret (results_tmp2 rfl _ _ _) rfl ?_
  exact ⟨rfl, hb4'⟩

abbrev rootSeen : Seen := ⟨[47], [], 0⟩
theorem Part_sub (t m : Nat) (w : World) (hgl : Gl w) (hm : w.heap[m]? = some rootMap) (hc : w.cell? ⟨t, 0, none⟩ = some (.map (some m))) :
    Calls Tryz.prog 83 #[.pointer (some ⟨t, 0, none⟩), .string ⟨#[47]⟩, .int .i64 3] w fun e w' => (∃ v, e = .returned (.tuple #[v, .int .i64 0]) ∧ Own tSeen 3 encSeen w' w.heap.size v [rootSeen]) ∧ Below w.heap.size w w' := by
  have HG := hide hgl; have HM := hide hm; have HC := hide hc
  have hlm : m < w.heap.size := (Array.getElem?_eq_some_iff.1 hm).1
  obtain ⟨i0, hi0, hz0, hz1, hz2⟩ := info_parts infoSeen
  clear hm hc hgl
  go_enter Tryz.func83, Tryz.ntmps83
  go_wp2_with (first
    | (go_at_call 74; refine (none_root t m _ HC.out).mono ?_; rintro e w1 ⟨rfl, hw1⟩; obtain rfl := hw1.symm)
    | (go_at_call 146; refine (Parse_is [47] [] 0 _ HG.out (by decide)).mono ?_; rintro e w2 ⟨v2, rfl, -, hb2⟩)
    | (go_at_call 78; refine (Nodes_root t m _ ((hb2.block m hlm).trans HM.out) (by exact cell_keep hb2 HC.out)).mono ?_; rintro e w3 ⟨v3, rfl, ho3, hb3⟩; obtain ⟨g, c, rfl, hg3, c0, c1, c2, c3, c4, c5, c6⟩ := root_cells ho3; have hb3' := below_trans hb2 hb3; clear hb3 hb2 ho3))
  refine wp_loop_rounds 2 ?_
  rw [rounds_succ]
  go_wp2_with (first
    | (go_at_call 88; refine (Covers_is 3 [47] 1 [47] true _ (by exact HG.out.below (by repeat (first | exact Below.refl _ _ | assumption | refine below_drewN ?_ _ | refine below_drew ?_ | refine below_alloc ?_ _ | refine below_set ?_ (by first | assumption | (simp; done) | (simp; omega)) _ | refine below_trans (by assumption) ?_))) (by decide)).mono ?_; rintro e w4 ⟨rfl, hb4⟩; have hx4 := (by exact (Blk.new _ _ _).below hb4 : Blk w4 w3.heap.size tFull (encFull rootFull).toArray); have x0 := (by exact hx4.cell 0 : w4.cell? ⟨w3.heap.size, 0, none⟩ = some (.string ⟨#[47]⟩)); have x1 := (by exact hx4.cell 1 : w4.cell? ⟨w3.heap.size, 1, none⟩ = some (.string ⟨#[]⟩)); have x2 := (by exact hx4.cell 2 : w4.cell? ⟨w3.heap.size, 2, none⟩ = some (.int .i64 0)); have hb4' : Below w.heap.size w w4 := (by exact below_trans (by repeat (first | exact Below.refl _ _ | assumption | refine below_drewN ?_ _ | refine below_drew ?_ | refine below_alloc ?_ _ | refine below_set ?_ (by first | assumption | (simp; done) | (simp; omega)) _ | refine below_trans (by assumption) ?_)) hb4); clear hb4 hx4)
    | (at_builtin; refine wpList_append_own_at _ rfl (.tmp 54) (.tmp 56) _ rfl w.heap.size tSeen i0 _ 3 40 Tryz.underlying54 hi0 hz0 hz1 hz2 rfl (by omega) (.slice none 0 0) 0 [] rfl ⟨rfl, .inl ⟨rfl, rfl⟩⟩ ⟨w4.heap.size + 1, 0, none⟩ 1 1 (encSeen rootSeen) rfl rfl (Blk.newAt _ _ _ (by simp)).news (by simp [encSeen, Value.oneCell']) (by simp [maxLen]) (by omega) (by have := hb4'.size; simp; omega) ?_; intro v5 w5 hown5 hg5 _ _; have HO5 := hide hown5; clear hown5))
  have hb : Below w.heap.size w w5 := Below.grown (by repeat (first | exact Below.refl _ _ | assumption | refine below_drewN ?_ _ | refine below_drew ?_ | refine below_alloc ?_ _ | refine below_set ?_ (by first | assumption | (simp; done) | (simp; omega)) _ | refine below_trans (by assumption) ?_)) hg5 (by have := hb4'.size; simp; omega) (by simp [Value.ownBlock])
  rw [rounds_succ]
  go_wp2
  refine bodyPost_ret (results_tmp2 rfl _ _ _) rfl ?_
  exact ⟨⟨_, rfl, HO5.out⟩, hb⟩
end Go.Proofs.YtheampfoedhipaaGreatDoor
