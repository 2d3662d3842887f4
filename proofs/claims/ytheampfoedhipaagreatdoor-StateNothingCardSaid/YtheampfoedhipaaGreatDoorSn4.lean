/- A machine's Part where the tree has the root alone. -/
import Derived.Test.YtheampfoedhipaaGreatDoorSn3
import Derived.Deep.RegionWith
namespace Go.Proofs.YtheampfoedhipaaGreatDoor
open Go Go.RowKit
set_option maxRecDepth 100000

theorem grown_set (w : World) (g i : Nat) (u : Value) : w.grownBy (w.setCell ⟨g, i, none⟩ u) (some g) :=
  ⟨rfl, rfl, rfl, by simp, fun j _ hne => Below.heap_setCell w ⟨g, i, none⟩ u j (by intro e; exact hne (by rw [e]))⟩
theorem store4 {w : World} {g : Nat} {t : TypeId} {p q r s : Value} (h : Blk w g t #[p, q, r, s]) (a b c d : Value) :
    Blk ((((w.setCell ⟨g, 0, none⟩ a).setCell ⟨g, 1, none⟩ b).setCell ⟨g, 2, none⟩ c).setCell ⟨g, 3, none⟩ d) g t #[a, b, c, d] ∧
    w.grownBy ((((w.setCell ⟨g, 0, none⟩ a).setCell ⟨g, 1, none⟩ b).setCell ⟨g, 2, none⟩ c).setCell ⟨g, 3, none⟩ d) (some g) :=
  ⟨by simpa using (((h.set 0 a).set 1 b).set 2 c).set 3 d, (((grown_set w g 0 a).trans (grown_set _ g 1 b)).trans (grown_set _ g 2 c)).trans (grown_set _ g 3 d)⟩
theorem PartSays.below {t : Nat} {s : Str} {k : Int} {l : List Seen} {w w' : World} (h : PartSays t s k l w) (hb : Below w.heap.size w w') : PartSays t s k l w' :=
  fun w2 hb2 => h w2 (below_trans hb hb2)
theorem says_sub (t m : Nat) (w : World) (hgl : Gl w) (hm : w.heap[m]? = some rootMap) (hc : w.cell? ⟨t, 0, none⟩ = some (.map (some m))) : PartSays t [47] 3 [rootSeen] w :=
  fun w2 hb => Part_sub t m w2 (hgl.below hb) ((hb.block m (Array.getElem?_eq_some_iff.1 hm).1).trans hm) (cell_keep hb hc)
theorem says_out (t m : Nat) (w : World) (hgl : Gl w) (hm : w.heap[m]? = some rootMap) (hc : w.cell? ⟨t, 0, none⟩ = some (.map (some m))) : PartSays t [47, 97] 1 [] w :=
  fun w2 hb => (Part_out t m w2 (hgl.below hb) ((hb.block m (Array.getElem?_eq_some_iff.1 hm).1).trans hm) (cell_keep hb hc)).mono fun _ _ ⟨he, hb'⟩ => ⟨⟨_, he, Own.nil⟩, hb'⟩

theorem nodes_tree (b t : Nat) (w : World) (hc : w.cell? ⟨b, 0, none⟩ = some (.pointer (some ⟨t, 0, none⟩))) :
    Calls Tryz.prog 80 #[.pointer (some ⟨b, 0, none⟩)] w fun e w' => e = .returned (.pointer (some ⟨t, 0, none⟩)) ∧ w' = w := by
  go_enter Tryz.func80, Tryz.ntmps80
  go_wp2
  go_ret
  exact ⟨rfl, rfl⟩
theorem nodes_zero (b : Nat) (w : World) (hc : w.cell? ⟨b, 0, none⟩ = some (.pointer none)) :
    Calls Tryz.prog 80 #[.pointer (some ⟨b, 0, none⟩)] w fun e w' => e = .returned (.pointer (some ⟨w.heap.size + 1, 0, none⟩)) ∧ w' = treeWorld w := by
  go_enter Tryz.func80, Tryz.ntmps80
  go_wp2_with (go_at_call 17; refine (treeNew_any _).mono ?_; rintro e w1 ⟨rfl, rfl⟩)
  go_ret
  exact ⟨rfl, rfl⟩
theorem MPart_tree (b t : Nat) (st : Int) (s : Str) (k : Int) (l : List Seen) (w : World) (hgl : Gl w) (h0 : w.cell? ⟨b, 0, none⟩ = some (.pointer (some ⟨t, 0, none⟩))) (h1 : w.cell? ⟨b, 1, none⟩ = some (.int .i64 st))
    (hst : 0 ≤ st ∧ st ≤ 2147483647) (hs : placeOk s = true) (hk : kindOk k = true) (hp : PartSays t s k l w) :
    Calls Tryz.prog 26 #[.pointer (some ⟨b, 0, none⟩), .string (B s), .int .i64 k] w fun e w' => (∃ v, e = .returned (.tuple #[.agg #[.int .i64 st, .string (B s), .int .i64 k, v], .int .i64 0]) ∧ Own tSeen 3 encSeen w' w.heap.size v l) ∧ Below w.heap.size w w' := by
  have hc : ∀ w1, w1 = w ∨ (∃ n, w1 = w.drewN n) → True := fun _ _ => trivial
  have hlb : b < w.heap.size := World.block_lt_of_cell? w _ h0
  have HT := hide (fun W hW (h : Below w.heap.size w W) => Take_is t st s k l W (hgl.below h) hst hs hk (hp.below h) : ∀ W, True → Below w.heap.size w W → _)
  have HN := hide (fun W (h : Below w.heap.size w W) => nodes_tree b t W (cell_keep h h0))
  clear hgl hst hs hk hp hc
  go_enter Tryz.func26, Tryz.ntmps26
  go_wp2
  go_region_with (first
    | (go_at_call 80; refine (HN.out _ (by exact (by repeat (first | exact Below.refl _ _ | assumption | refine below_drewN ?_ _ | refine below_drew ?_ | refine below_alloc ?_ _ | refine below_set ?_ (by first | assumption | (simp; done) | (simp; omega)) _ | refine below_trans (by assumption) ?_)))).mono ?_; rintro e w1 ⟨rfl, rfl⟩)
    | (go_at_call 27; refine (HT.out _ trivial (by exact (by repeat (first | exact Below.refl _ _ | assumption | refine below_drewN ?_ _ | refine below_drew ?_ | refine below_alloc ?_ _ | refine below_set ?_ (by first | assumption | (simp; done) | (simp; omega)) _ | refine below_trans (by assumption) ?_)))).mono ?_; rintro e w3 ⟨⟨v, rfl, ho⟩, hb3⟩; obtain ⟨X, c, rfl⟩ := ho.len; have hx3 := (by exact Blk.below (by first | exact Blk.new _ _ _ | exact (Blk.new _ _ _).drew | exact (Blk.new _ _ _).drewN _) hb3 : Blk w3 w.heap.size tShot_ #[.int .i64 0, .string ⟨#[]⟩, .int .i64 0, .slice none 0 0]); have x0 := (by exact hx3.cell 0 : w3.cell? ⟨w.heap.size, 0, none⟩ = some (.int .i64 0)); have x1 := (by exact hx3.cell 1 : w3.cell? ⟨w.heap.size, 1, none⟩ = some (.string ⟨#[]⟩)); have x2 := (by exact hx3.cell 2 : w3.cell? ⟨w.heap.size, 2, none⟩ = some (.int .i64 0)); have x3 := (by exact hx3.cell 3 : w3.cell? ⟨w.heap.size, 3, none⟩ = some (.slice none 0 0)); have xf := hx3.free; have hb3' := (by exact below_trans (by repeat (first | exact Below.refl _ _ | assumption | refine below_drewN ?_ _ | refine below_drew ?_ | refine below_alloc ?_ _ | refine below_set ?_ (by first | assumption | (simp; done) | (simp; omega)) _ | refine below_trans (by assumption) ?_)) hb3 : Below w.heap.size w w3)))
  all_goals
    go_wp2
    have hs4 := store4 hx3 (.int .i64 st) (.string (B s)) (.int .i64 k) (.slice X l.length c)
    refine bodyPost_ret (res_ct rfl _ _ w.heap.size tShot_ _ _ _ (by simp [Act.put]) hs4.1 Tryz.underlying56 rfl (by kernel_rfl)) rfl ?_
    exact ⟨⟨.slice X l.length c, by simp [Act.put], (ho.grown hs4.2 (by simp)).lower (by simp)⟩, below_grown hb3' hs4.2 (Nat.le_refl _)⟩

/-- The root's tree lies at t. -/
def RootAt (w : World) (t : Nat) : Prop := ∃ m, w.heap[m]? = some rootMap ∧ w.cell? ⟨t, 0, none⟩ = some (.map (some m))
theorem RootAt.below {w w' : World} {t : Nat} (h : RootAt w t) (hb : Below w.heap.size w w') : RootAt w' t := by
  obtain ⟨m, hm, hc⟩ := h
  exact ⟨m, (hb.block m (Array.getElem?_eq_some_iff.1 hm).1).trans hm, cell_keep hb hc⟩
theorem below_tree (w : World) : Below w.heap.size w (treeWorld w) := below_alloc (below_alloc (Below.refl _ _) _) _
theorem root_new (w : World) : RootAt (treeWorld w) (w.heap.size + 1) :=
  ⟨w.heap.size, (heap_alloc_old _ _ (by simp)).trans (heap_alloc_new _ _), (Blk.new1 w rootMap 151 #[.map (some w.heap.size)]).cell 0⟩
theorem nodes_fresh (b : Nat) (w : World) (hc : w.cell? ⟨b, 0, none⟩ = some (.pointer none)) :
    Calls Tryz.prog 80 #[.pointer (some ⟨b, 0, none⟩)] w fun e w' => ∃ t, e = .returned (.pointer (some ⟨t, 0, none⟩)) ∧ RootAt w' t ∧ Below w.heap.size w w' :=
  (nodes_zero b w hc).mono fun _ _ ⟨he, hw⟩ => ⟨_, he, by rw [hw]; exact root_new w, by rw [hw]; exact below_tree w⟩
/-- What Part answers at the root's tree. -/
def Says (s : Str) (k : Int) (l : List Seen) : Prop := ∀ t w, Gl w → RootAt w t → PartSays t s k l w
theorem Says.sub : Says [47] 3 [rootSeen] := fun t w hg ⟨m, hm, hc⟩ => says_sub t m w hg hm hc
theorem Says.out : Says [47, 97] 1 [] := fun t w hg ⟨m, hm, hc⟩ => says_out t m w hg hm hc

theorem MPart_zero (b : Nat) (st : Int) (s : Str) (k : Int) (l : List Seen) (w : World) (hgl : Gl w) (h0 : w.cell? ⟨b, 0, none⟩ = some (.pointer none)) (h1 : w.cell? ⟨b, 1, none⟩ = some (.int .i64 st))
    (hst : 0 ≤ st ∧ st ≤ 2147483647) (hs : placeOk s = true) (hk : kindOk k = true) (hp : Says s k l) :
    Calls Tryz.prog 26 #[.pointer (some ⟨b, 0, none⟩), .string (B s), .int .i64 k] w fun e w' => (∃ v, e = .returned (.tuple #[.agg #[.int .i64 st, .string (B s), .int .i64 k, v], .int .i64 0]) ∧ Own tSeen 3 encSeen w' w.heap.size v l) ∧ Below w.heap.size w w' := by
  have hlb : b < w.heap.size := World.block_lt_of_cell? w _ h0
  have HT := hide (fun t W (hr : RootAt W t) (h : Below w.heap.size w W) => Take_is t st s k l W (hgl.below h) hst hs hk (hp t W (hgl.below h) hr) : ∀ t W, RootAt W t → Below w.heap.size w W → _)
  have HN := hide (fun W (h : Below w.heap.size w W) => nodes_fresh b W (cell_keep h h0))
  have HC := hide h1
  clear hgl hst hs hk hp
  go_enter Tryz.func26, Tryz.ntmps26
  go_wp2
  go_region_with (first
    | (go_at_call 80; refine (HN.out _ (by exact (by repeat (first | exact Below.refl _ _ | assumption | refine below_drewN ?_ _ | refine below_drew ?_ | refine below_alloc ?_ _ | refine below_set ?_ (by first | assumption | (simp; done) | (simp; omega)) _ | refine below_trans (by assumption) ?_)))).mono ?_; rintro e w1 ⟨t, rfl, hr1, hb1⟩; have hz1 := hb1.size; have hx1 := (by exact Blk.below (by first | exact Blk.new _ _ _ | exact (Blk.new _ _ _).drew | exact (Blk.new _ _ _).drewN _) hb1 : Blk w1 w.heap.size tShot_ #[.int .i64 0, .string ⟨#[]⟩, .int .i64 0, .slice none 0 0]); have hb1' := (by exact below_trans (by repeat (first | exact Below.refl _ _ | assumption | refine below_drewN ?_ _ | refine below_drew ?_ | refine below_alloc ?_ _ | refine below_set ?_ (by first | assumption | (simp; done) | (simp; omega)) _ | refine below_trans (by assumption) ?_)) hb1 : Below w.heap.size w w1); have h1' := (by exact cell_keep hb1' HC.out : w1.cell? ⟨b, 1, none⟩ = some (.int .i64 st)); clear hb1)
    | (go_at_call 27; refine (HT.out _ _ (by exact hr1.below (by first | exact Below.refl _ _ | exact (Below.refl _ _).drew)) (by exact (by repeat (first | exact Below.refl _ _ | assumption | refine below_drewN ?_ _ | refine below_drew ?_ | refine below_alloc ?_ _ | refine below_set ?_ (by first | assumption | (simp; done) | (simp; omega)) _ | refine below_trans (by assumption) ?_)))).mono ?_; rintro e w3 ⟨⟨v, rfl, ho⟩, hb3⟩; obtain ⟨X, c, rfl⟩ := ho.len; have hx3 := (by exact Blk.below (by first | exact hx1 | exact hx1.drew | exact hx1.drewN _) hb3 : Blk w3 w.heap.size tShot_ #[.int .i64 0, .string ⟨#[]⟩, .int .i64 0, .slice none 0 0]); have x0 := (by exact hx3.cell 0 : w3.cell? ⟨w.heap.size, 0, none⟩ = some (.int .i64 0)); have x1 := (by exact hx3.cell 1 : w3.cell? ⟨w.heap.size, 1, none⟩ = some (.string ⟨#[]⟩)); have x2 := (by exact hx3.cell 2 : w3.cell? ⟨w.heap.size, 2, none⟩ = some (.int .i64 0)); have x3 := (by exact hx3.cell 3 : w3.cell? ⟨w.heap.size, 3, none⟩ = some (.slice none 0 0)); have xf := hx3.free; have hb3' := (by exact below_trans (by repeat (first | exact Below.refl _ _ | assumption | refine below_drewN ?_ _ | refine below_drew ?_ | refine below_alloc ?_ _ | refine below_set ?_ (by first | assumption | (simp; done) | (simp; omega)) _ | refine below_trans (by assumption) ?_)) hb3 : Below w.heap.size w w3)))
  all_goals
    go_wp2
    have hs4 := store4 hx3 (.int .i64 st) (.string (B s)) (.int .i64 k) (.slice X l.length c)
    have hlw := hx1.lt
    refine bodyPost_ret (res_ct rfl _ _ w.heap.size tShot_ _ _ _ (by simp [Act.put]) hs4.1 Tryz.underlying56 rfl (by kernel_rfl)) rfl ?_
    exact ⟨⟨.slice X l.length c, by simp [Act.put], (ho.grown hs4.2 (by first | exact hlw | (simp; done) | (simp; omega))).lower (by first | omega | (simp; omega))⟩, below_grown hb3' hs4.2 (Nat.le_refl _)⟩
end Go.Proofs.YtheampfoedhipaaGreatDoor
