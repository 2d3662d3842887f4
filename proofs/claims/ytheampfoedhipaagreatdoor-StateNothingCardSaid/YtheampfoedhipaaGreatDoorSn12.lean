/- StateNothing: the walk. -/
import Derived.Test.YtheampfoedhipaaGreatDoorFr2
namespace Go.Proofs.YtheampfoedhipaaGreatDoor
open Go Go.RowKit
set_option maxRecDepth 100000

abbrev tOp : TypeId := 123
theorem infoOpB : (Tryz.prog.info? tOp).map (fun i => (i.zero, i.size, i.bytes)) = some (some (.agg #[.int .i64 0, .string ⟨#[]⟩, .string ⟨#[]⟩, .int .i64 0, .int .i64 0]), 5, 56) := by kernel_rfl
abbrev opCells : Array Value := madeCells (Value.agg #[.int .i64 0, .string ⟨#[]⟩, .string ⟨#[]⟩, .int .i64 0, .int .i64 0]).cells (5 * 5)
theorem make_ops (w : World) : (Instr.makeSlice 30 (.int .i64 5) (.int .i64 5)).run Tryz.prog w = .ok (.slice (some ⟨w.heap.size, 0, none⟩) 5 5) (w.alloc (.cells opCells tOp)) := by
  obtain ⟨i, hi, hz, hz1, hb⟩ := info_parts infoOpB
  have h := run_make (P := Tryz.prog) w 30 tOp i _ Tryz.underlying30 hi hz .i64 .i64 5 5 (by omega) (Int.le_refl _) (by rw [hb]; omega) (by omega)
  rw [hz1] at h
  exact h
theorem zeroMachine_at (i : Nat) (h : i < 16) : zeroMachine[2 + i]? = some (.int .i64 0) := by
  have h : i = 0 ∨ i = 1 ∨ i = 2 ∨ i = 3 ∨ i = 4 ∨ i = 5 ∨ i = 6 ∨ i = 7 ∨ i = 8 ∨ i = 9 ∨ i = 10 ∨ i = 11 ∨ i = 12 ∨ i = 13 ∨ i = 14 ∨ i = 15 := by omega
  rcases h with rfl | rfl | rfl | rfl | rfl | rfl | rfl | rfl | rfl | rfl | rfl | rfl | rfl | rfl | rfl | rfl <;> rfl
theorem Freeze_z (b : Nat) (w : World) (hz : Blk w b tMach zeroMachine) :
    Calls Tryz.prog 55 #[.pointer (some ⟨b, 0, none⟩)] w fun e w' => e = .returned (.string (B (frozenHead ++ slotBytes 16))) ∧ Below w.heap.size w w' :=
  Freeze_zero b w (hz.cell 0) (hz.cell 1) (fun i hi => (hz.cell (2 + i)).trans (zeroMachine_at i hi)) (hz.cell 18)
theorem machine_cells (t m : Nat) : (#[Value.pointer (some ⟨t, 0, none⟩), .int .i64 0] ++ Array.replicate 16 (.int .i64 0) ++ #[.map (some m)])[0]? = some (Value.pointer (some ⟨t, 0, none⟩)) ∧ (#[Value.pointer (some ⟨t, 0, none⟩), .int .i64 0] ++ Array.replicate 16 (.int .i64 0) ++ #[.map (some m)])[1]? = some (Value.int .i64 0) := by
  constructor <;> simp
theorem New_world (w : World) : (∃ b t, b = w.heap.size + 3 ∧ (machineWorld w).cell? ⟨b, 0, none⟩ = some (.pointer (some ⟨t, 0, none⟩)) ∧ (machineWorld w).cell? ⟨b, 1, none⟩ = some (.int .i64 0) ∧ RootAt (machineWorld w) t) ∧ Below w.heap.size w (machineWorld w) := by
  obtain ⟨T, hT⟩ : ∃ T, T = treeWorld w := ⟨_, rfl⟩
  have hr := root_new w
  have hbt := below_tree w
  have hsz : T.heap.size = w.heap.size + 2 := by rw [hT]; simp
  rw [← hT] at hr hbt
  obtain ⟨cs, hcs⟩ : ∃ cs, cs = (#[Value.pointer (some ⟨w.heap.size + 1, 0, none⟩), .int .i64 0] ++ Array.replicate 16 (.int .i64 0) ++ #[.map (some (w.heap.size + 2))]) := ⟨_, rfl⟩
  obtain ⟨m0, m1⟩ := machine_cells (w.heap.size + 1) (w.heap.size + 2)
  rw [← hcs] at m0 m1
  have hM : machineWorld w = (T.alloc (.map #[] 0)).alloc (.cells cs tMach) := by rw [hcs, hT]
  rw [hM]
  have hb := Blk.newAt (T.alloc (.map #[] 0)) tMach cs (g := w.heap.size + 3) (by simp [hsz])
  exact ⟨⟨w.heap.size + 3, w.heap.size + 1, rfl, (hb.cell 0).trans m0, (hb.cell 1).trans m1, hr.below (below_alloc (below_alloc (Below.refl _ _) _) _)⟩, below_alloc (below_alloc hbt _) _⟩
theorem New_facts (w : World) : Calls Tryz.prog 16 #[] w fun e w' => ∃ b t, e = .returned (.pointer (some ⟨b, 0, none⟩)) ∧ w'.cell? ⟨b, 0, none⟩ = some (.pointer (some ⟨t, 0, none⟩)) ∧ w'.cell? ⟨b, 1, none⟩ = some (.int .i64 0) ∧ RootAt w' t ∧ Below w.heap.size w w' :=
  (stateNew_any w).mono fun e w' ⟨he, hw⟩ => by
    obtain ⟨⟨b, t, hb, h1, h2, h3⟩, h4⟩ := New_world w
    rw [← hw] at h1 h2 h3 h4
    exact ⟨b, t, by rw [he, hb], h1, h2, h3, h4⟩
/-- The one node that a part of the root's tree has. -/
theorem seen_cells {w : World} {base : Nat} {v : Value} (h : Own tSeen 3 encSeen w base v [rootSeen]) : ∃ g c, v = .slice (some ⟨g, 0, none⟩) 1 c ∧ g < w.heap.size ∧ base ≤ g ∧ (∃ cur, Blk w g tSeen cur) ∧
    (w.cell? ⟨g, 0, none⟩ = some (.string ⟨#[47]⟩) ∧ w.cell? ⟨g, 1, none⟩ = some (.string ⟨#[]⟩) ∧ w.cell? ⟨g, 2, none⟩ = some (.int .i64 0)) := by
  obtain ⟨g, cap, cur, rfl, hb, hg, hc, hm, hs, ht⟩ := h.form (by
    intro e; obtain ⟨X, c, hv⟩ := h.len; rw [hv] at e; injection e with e1 e2 e3; simp at e2)
  have hall : ∀ i, i < 3 → w.cell? ⟨g, i, none⟩ = (encSeen rootSeen)[i]? := fun i hi => by
    rw [hg.cell, ← Array.getElem?_toList]
    have := congrArg (·[i]?) ht
    simp only [flat, List.flatMap_cons, List.flatMap_nil, List.append_nil, List.length_cons, List.length_nil, Nat.zero_add, Nat.one_mul] at this
    rw [List.getElem?_take, if_pos hi] at this
    exact this
  exact ⟨g, cap, rfl, hg.lt, hb, ⟨cur, hg⟩, hall 0 (by omega), hall 1 (by omega), hall 2 (by omega)⟩
theorem Part0_sub (b : Nat) (w : World) (hgl : Gl w) (hb : Blk w b tMach zeroMachine) :
    Calls Tryz.prog 26 #[.pointer (some ⟨b, 0, none⟩), .string ⟨#[47]⟩, .int .i64 3] w fun e w' => (∃ g c, e = .returned (.tuple #[.agg #[.int .i64 0, .string ⟨#[47]⟩, .int .i64 3, .slice (some ⟨g, 0, none⟩) 1 c], .int .i64 0]) ∧ (w'.cell? ⟨g, 0, none⟩ = some (.string ⟨#[47]⟩) ∧ w'.cell? ⟨g, 1, none⟩ = some (.string ⟨#[]⟩) ∧ w'.cell? ⟨g, 2, none⟩ = some (.int .i64 0))) ∧ Below w.heap.size w w' :=
  (MPart_zero b 0 [47] 3 [rootSeen] w hgl (hb.cell 0) (hb.cell 1) (by decide) (by decide) (by decide) Says.sub).mono fun e w' ⟨⟨v, he, ho⟩, h⟩ => by
    obtain ⟨g, c, rfl, -, -, -, hc⟩ := seen_cells ho
    exact ⟨⟨g, c, he, hc⟩, h⟩
theorem Part0_out (b : Nat) (w : World) (hgl : Gl w) (hb : Blk w b tMach zeroMachine) :
    Calls Tryz.prog 26 #[.pointer (some ⟨b, 0, none⟩), .string ⟨#[47, 97]⟩, .int .i64 1] w fun e w' => (∃ X c, e = .returned (.tuple #[.agg #[.int .i64 0, .string ⟨#[47, 97]⟩, .int .i64 1, .slice X 0 c], .int .i64 0])) ∧ Below w.heap.size w w' :=
  (MPart_zero b 0 [47, 97] 1 [] w hgl (hb.cell 0) (hb.cell 1) (by decide) (by decide) (by decide) Says.out).mono fun e w' ⟨⟨v, he, ho⟩, h⟩ => by
    obtain ⟨X, c, rfl⟩ := ho.len
    exact ⟨⟨X, c, he⟩, h⟩
theorem Part1_sub (b t : Nat) (st : Int) (w : World) (hgl : Gl w) (h0 : w.cell? ⟨b, 0, none⟩ = some (.pointer (some ⟨t, 0, none⟩))) (h1 : w.cell? ⟨b, 1, none⟩ = some (.int .i64 st)) (hst : 0 ≤ st ∧ st ≤ 2147483647) (hr : RootAt w t) :
    Calls Tryz.prog 26 #[.pointer (some ⟨b, 0, none⟩), .string ⟨#[47]⟩, .int .i64 3] w fun e w' => (∃ g c, e = .returned (.tuple #[.agg #[.int .i64 st, .string ⟨#[47]⟩, .int .i64 3, .slice (some ⟨g, 0, none⟩) 1 c], .int .i64 0]) ∧ (w'.cell? ⟨g, 0, none⟩ = some (.string ⟨#[47]⟩) ∧ w'.cell? ⟨g, 1, none⟩ = some (.string ⟨#[]⟩) ∧ w'.cell? ⟨g, 2, none⟩ = some (.int .i64 0))) ∧ Below w.heap.size w w' :=
  (MPart_tree b t st [47] 3 [rootSeen] w hgl h0 h1 hst (by decide) (by decide) (Says.sub t w hgl hr)).mono fun e w' ⟨⟨v, he, ho⟩, h⟩ => by
    obtain ⟨g, c, rfl, -, -, -, hc⟩ := seen_cells ho
    exact ⟨⟨g, c, he, hc⟩, h⟩
theorem Part1_out (b t : Nat) (w : World) (hgl : Gl w) (h0 : w.cell? ⟨b, 0, none⟩ = some (.pointer (some ⟨t, 0, none⟩))) (h1 : w.cell? ⟨b, 1, none⟩ = some (.int .i64 0)) (hr : RootAt w t) :
    Calls Tryz.prog 26 #[.pointer (some ⟨b, 0, none⟩), .string ⟨#[47, 97]⟩, .int .i64 1] w fun e w' => (∃ X c, e = .returned (.tuple #[.agg #[.int .i64 0, .string ⟨#[47, 97]⟩, .int .i64 1, .slice X 0 c], .int .i64 0])) ∧ Below w.heap.size w w' :=
  (MPart_tree b t 0 [47, 97] 1 [] w hgl h0 h1 (by decide) (by decide) (by decide) (Says.out t w hgl hr)).mono fun e w' ⟨⟨v, he, ho⟩, h⟩ => by
    obtain ⟨X, c, rfl⟩ := ho.len
    exact ⟨⟨X, c, he⟩, h⟩
attribute [local go_sem high] eqSeen0
/-- What is known while the zero machines are asked. -/
structure Kn (w : World) (k p1 p2 g1 c1 g2 c2 : Nat) (W : World) : Prop where
  z : Blk W w.heap.size tMach zeroMachine
  r : Blk W k tReply #[.int .i64 0, .int .i64 0, .int .i64 0, .slice none 0 0]
  s1 : Blk W p1 tShot_ #[.int .i64 0, .string ⟨#[47]⟩, .int .i64 3, .slice (some ⟨g1, 0, none⟩) 1 c1]
  s2 : Blk W p2 tShot_ #[.int .i64 0, .string ⟨#[47]⟩, .int .i64 3, .slice (some ⟨g2, 0, none⟩) 1 c2]
  x : W.cell? ⟨g1, 0, none⟩ = some (.string ⟨#[47]⟩) ∧ W.cell? ⟨g1, 1, none⟩ = some (.string ⟨#[]⟩) ∧ W.cell? ⟨g1, 2, none⟩ = some (.int .i64 0)
  y : W.cell? ⟨g2, 0, none⟩ = some (.string ⟨#[47]⟩) ∧ W.cell? ⟨g2, 1, none⟩ = some (.string ⟨#[]⟩) ∧ W.cell? ⟨g2, 2, none⟩ = some (.int .i64 0)
  b : Below w.heap.size w W
theorem Kn.below {w W W' : World} {k p1 p2 g1 c1 g2 c2 : Nat} (h : Kn w k p1 p2 g1 c1 g2 c2 W) (hb : Below W.heap.size W W') : Kn w k p1 p2 g1 c1 g2 c2 W' :=
  ⟨h.z.below hb, h.r.below hb, h.s1.below hb, h.s2.below hb, ⟨cell_keep hb h.x.1, cell_keep hb h.x.2.1, cell_keep hb h.x.2.2⟩, ⟨cell_keep hb h.y.1, cell_keep hb h.y.2.1, cell_keep hb h.y.2.2⟩, below_trans h.b hb⟩
theorem Kn.alloc {w W : World} {k p1 p2 g1 c1 g2 c2 : Nat} (h : Kn w k p1 p2 g1 c1 g2 c2 W) (o : Obj) : Kn w k p1 p2 g1 c1 g2 c2 (W.alloc o) := h.below (below_alloc (Below.refl _ _) _)
set_option maxHeartbeats 4000000 in
theorem StateNothing_any (w : World) (hg : Gl w) :
    Calls Tryz.prog 10 #[] w fun e w' => e = .returned (.bool true) ∧ Below w.heap.size w w' := by
  have HG := hide hg
  clear hg
  have hmo := make_ops
  go_enter Tryz.func10, Tryz.ntmps10
  go_upto_region 4 with (first
    | (go_at_call 19; refine (Apply_nil _ _ _ _ _ _ _ _ _).mono ?_; rintro e w1 ⟨rfl, hb1⟩; have HZ1 := (by exact hide (Blk.below (by repeat (first | exact Blk.new _ _ _ | assumption | exact (by assumption : Hid _).out | refine Blk.alloc ?_ _ | refine Blk.drew ?_ | refine Blk.drewN ?_ _)) hb1) : Hid (Blk w1 w.heap.size tMach zeroMachine)); have hB1 := (by exact below_trans (by repeat (first | exact Below.refl _ _ | assumption | refine below_drewN ?_ _ | refine below_drew ?_ | refine below_alloc ?_ _ | refine below_set ?_ (by first | assumption | (simp; done) | (simp; omega)) _ | refine below_trans (by assumption) ?_)) hb1 : Below w.heap.size w w1); clear hb1))
  go_upto_region 5 with (first
    | (go_at_call 19; refine (Apply_nil _ _ _ _ _ _ _ _ _).mono ?_; rintro e w2 ⟨rfl, hb2⟩; have HZ2 := (by exact hide (Blk.below (by repeat (first | exact Blk.new _ _ _ | assumption | exact (by assumption : Hid _).out | refine Blk.alloc ?_ _ | refine Blk.drew ?_ | refine Blk.drewN ?_ _)) hb2) : Hid (Blk w2 w.heap.size tMach zeroMachine)); have hB2 := (by exact below_trans (by repeat (first | exact Below.refl _ _ | assumption | refine below_drewN ?_ _ | refine below_drew ?_ | refine below_alloc ?_ _ | refine below_set ?_ (by first | assumption | (simp; done) | (simp; omega)) _ | refine below_trans (by assumption) ?_)) hb2 : Below w.heap.size w w2); clear hb2))
  go_upto_region 6 with (first
    | (go_at_call 52; refine (Kept_nil _).mono ?_; rintro e w3 ⟨rfl, hb3⟩; have HZ3 := (by exact hide (Blk.below (by repeat (first | exact Blk.new _ _ _ | assumption | exact (by assumption : Hid _).out | refine Blk.alloc ?_ _ | refine Blk.drew ?_ | refine Blk.drewN ?_ _)) hb3) : Hid (Blk w3 w.heap.size tMach zeroMachine)); have hB3 := (by exact below_trans (by repeat (first | exact Below.refl _ _ | assumption | refine below_drewN ?_ _ | refine below_drew ?_ | refine below_alloc ?_ _ | refine below_set ?_ (by first | assumption | (simp; done) | (simp; omega)) _ | refine below_trans (by assumption) ?_)) hb3 : Below w.heap.size w w3); clear hb3))
  go_upto_region 7 with (first
    | (go_at_call 26; refine (MPart_nil _ _ _).mono ?_; rintro e w4 ⟨rfl, hb4⟩; have HZ4 := (by exact hide (Blk.below (by repeat (first | exact Blk.new _ _ _ | assumption | exact (by assumption : Hid _).out | refine Blk.alloc ?_ _ | refine Blk.drew ?_ | refine Blk.drewN ?_ _)) hb4) : Hid (Blk w4 w.heap.size tMach zeroMachine)); have hB4 := (by exact below_trans (by repeat (first | exact Below.refl _ _ | assumption | refine below_drewN ?_ _ | refine below_drew ?_ | refine below_alloc ?_ _ | refine below_set ?_ (by first | assumption | (simp; done) | (simp; omega)) _ | refine below_trans (by assumption) ?_)) hb4 : Below w.heap.size w w4); clear hb4))
  go_upto_region 9 with (first
    | (go_at_call 18; refine (Last_nil _).mono ?_; rintro e w5 ⟨rfl, rfl⟩)
    | (go_at_call 53; refine (Newest_nil _).mono ?_; rintro e w5 ⟨rfl, rfl⟩)
    | (go_at_call 54; refine (Sessions_nil _).mono ?_; rintro e w5 ⟨rfl, rfl⟩)
    | (go_at_call 55; refine (Freeze_nil _).mono ?_; rintro e w5 ⟨rfl, rfl⟩))
  go_upto_region 10 with (first
    | (go_at_call 39; refine (ref8New_any _).mono ?_; rintro e w6 ⟨g, s, rfl, hbg, hbs, hlg, hls, hb6⟩; have HZ6 := (by exact hide (Blk.below (by repeat (first | exact Blk.new _ _ _ | assumption | exact (by assumption : Hid _).out | refine Blk.alloc ?_ _ | refine Blk.drew ?_ | refine Blk.drewN ?_ _)) hb6) : Hid (Blk w6 w.heap.size tMach zeroMachine)); have hB6 := (by exact below_trans (by repeat (first | exact Below.refl _ _ | assumption | refine below_drewN ?_ _ | refine below_drew ?_ | refine below_alloc ?_ _ | refine below_set ?_ (by first | assumption | (simp; done) | (simp; omega)) _ | refine below_trans (by assumption) ?_)) hb6 : Below w.heap.size w w6); have HGG := hide hbg; have HSS := hide hbs; clear hb6 hbg hbs))
  have hr := (by exact Blk.new w6 tRM #[.int .i64 0, .slice (some ⟨g, 0, none⟩) 1 1, .slice (some ⟨s, 0, none⟩) 16 16])
  have HR := hide hr
  have r0 := (by exact hr.cell 0 : (w6.alloc (.cells #[.int .i64 0, .slice (some ⟨g, 0, none⟩) 1 1, .slice (some ⟨s, 0, none⟩) 16 16] tRM)).cell? ⟨w6.heap.size, 0, none⟩ = some (.int .i64 0))
  have r1 := (by exact hr.cell 1 : (w6.alloc (.cells #[.int .i64 0, .slice (some ⟨g, 0, none⟩) 1 1, .slice (some ⟨s, 0, none⟩) 16 16] tRM)).cell? ⟨w6.heap.size, 1, none⟩ = some (.slice (some ⟨g, 0, none⟩) 1 1))
  have r2 := (by exact hr.cell 2 : (w6.alloc (.cells #[.int .i64 0, .slice (some ⟨g, 0, none⟩) 1 1, .slice (some ⟨s, 0, none⟩) 16 16] tRM)).cell? ⟨w6.heap.size, 2, none⟩ = some (.slice (some ⟨s, 0, none⟩) 16 16))
  have HZ7 := (by exact hide (HZ6.out.alloc _) : Hid (Blk (w6.alloc (.cells #[.int .i64 0, .slice (some ⟨g, 0, none⟩) 1 1, .slice (some ⟨s, 0, none⟩) 16 16] tRM)) w.heap.size tMach zeroMachine))
  have HG7 := hide (HGG.out.alloc (.cells #[.int .i64 0, .slice (some ⟨g, 0, none⟩) 1 1, .slice (some ⟨s, 0, none⟩) 16 16] tRM))
  have HS7 := hide (HSS.out.alloc (.cells #[.int .i64 0, .slice (some ⟨g, 0, none⟩) 1 1, .slice (some ⟨s, 0, none⟩) 16 16] tRM))
  have hB7 := (by exact below_alloc hB6 _ : Below w.heap.size w (w6.alloc (.cells #[.int .i64 0, .slice (some ⟨g, 0, none⟩) 1 1, .slice (some ⟨s, 0, none⟩) 16 16] tRM)))
  generalize (w6.alloc (.cells #[.int .i64 0, .slice (some ⟨g, 0, none⟩) 1 1, .slice (some ⟨s, 0, none⟩) 16 16] tRM)) = X at hr HR r0 r1 r2 HZ7 HG7 HS7 hB7 ⊢
  clear HZ1 HZ2 HZ3 HZ4 HZ6 HGG HSS
  obtain ⟨S, hS⟩ : ∃ S, S = frozenHead ++ slotBytes 16 := ⟨_, rfl⟩
  have HFZ : Hid (∀ W, Blk W w.heap.size tMach zeroMachine → Calls Tryz.prog 55 #[.pointer (some ⟨w.heap.size, 0, none⟩)] W fun e w' => e = .returned (.string (B S)) ∧ Below W.heap.size W w') := hide fun W h => by rw [hS]; exact Freeze_z _ W h
  have HFR : Hid (∀ W, Blk W g rFullT (encFull rootFull).toArray → Blk W s tSlot slotCells → Calls Tryz.prog 56 #[.agg #[.int .i64 0, .slice (some ⟨g, 0, none⟩) 1 1, .slice (some ⟨s, 0, none⟩) 16 16]] W fun e w' => e = .returned (.string (B S)) ∧ Below W.heap.size W w') := hide fun W h1 h2 => by rw [hS]; exact refFreeze_new g s W h1 h2
  clear hS
  go_region_held3 (fun w' => w'.cell? ⟨w6.heap.size, 0, none⟩ = some (.int .i64 0) ∧ w'.cell? ⟨w6.heap.size, 1, none⟩ = some (.slice (some ⟨g, 0, none⟩) 1 1) ∧ w'.cell? ⟨w6.heap.size, 2, none⟩ = some (.slice (some ⟨s, 0, none⟩) 16 16))
    (first | exact ⟨u0, u1, u2⟩ | exact ⟨t0, t1, t2⟩ | exact ⟨s0, s1, s2⟩ | exact ⟨r0, r1, r2⟩ | go_keep)
    (first
      | (go_at_call 55; refine (HFZ.out _ (by exact HZ7.out)).mono ?_; rintro e w8 ⟨rfl, hb8⟩; have hX8 := (by exact (below_drew (Below.refl _ _)).trans (show Below X.heap.size X.drew w8 from hb8) : Below X.heap.size X w8); clear hb8; have hr8 := HR.out.below hX8; have s0 := (by exact hr8.cell 0 : w8.cell? ⟨w6.heap.size, 0, none⟩ = some (.int .i64 0)); have s1 := (by exact hr8.cell 1 : w8.cell? ⟨w6.heap.size, 1, none⟩ = some (.slice (some ⟨g, 0, none⟩) 1 1)); have s2 := (by exact hr8.cell 2 : w8.cell? ⟨w6.heap.size, 2, none⟩ = some (.slice (some ⟨s, 0, none⟩) 16 16)))
      | (go_at_call 56; refine (HFR.out _ (by exact HG7.out.below hX8) (by exact HS7.out.below hX8)).mono ?_; rintro e w9 ⟨rfl, hb9⟩; have hX9 := below_trans hX8 hb9; have hr9 := HR.out.below hX9; have t0 := (by exact hr9.cell 0 : w9.cell? ⟨w6.heap.size, 0, none⟩ = some (.int .i64 0)); have t1 := (by exact hr9.cell 1 : w9.cell? ⟨w6.heap.size, 1, none⟩ = some (.slice (some ⟨g, 0, none⟩) 1 1)); have t2 := (by exact hr9.cell 2 : w9.cell? ⟨w6.heap.size, 2, none⟩ = some (.slice (some ⟨s, 0, none⟩) 16 16)); have HZ9 := hide (HZ7.out.below hX9))
      | (go_at_call 18; refine (Last_at w.heap.size 0 _ (by exact HZ9.out.cell 1)).mono ?_; rintro e w10 ⟨rfl, hw10⟩; obtain rfl := hw10.symm)
      | (go_at_call 54; refine (Sessions_zero w.heap.size _ (by exact HZ9.out.cell 18)).mono ?_; rintro e w11 ⟨rfl, hb11⟩; have hX11 := below_trans hX9 hb11; have hr11 := HR.out.below hX11; have u0 := (by exact hr11.cell 0 : w11.cell? ⟨w6.heap.size, 0, none⟩ = some (.int .i64 0)); have u1 := (by exact hr11.cell 1 : w11.cell? ⟨w6.heap.size, 1, none⟩ = some (.slice (some ⟨g, 0, none⟩) 1 1)); have u2 := (by exact hr11.cell 2 : w11.cell? ⟨w6.heap.size, 2, none⟩ = some (.slice (some ⟨s, 0, none⟩) 16 16))))
  have HZ11 := hide (HZ9.out.below hb11)
  have hB11 := below_trans hB7 hX11
  clear HZ7 HG7 HS7 HR hr r0 r1 r2 s0 s1 s2 t0 t1 t2 u0 u1 u2 hr8 hr9 hr11 HFZ HFR hX8 hX9 hX11 hb9 hb11 HZ9 hB7
  go_upto_region 14 with (first
    | (go_at_call 52; refine (Kept_zero w11.heap.size _ (by exact (Blk.new _ _ _).cell 18)).mono ?_; rintro e w12 ⟨rfl, hb12⟩; have HZ12 := (by exact hide (Blk.below (by repeat (first | exact Blk.new _ _ _ | assumption | exact (by assumption : Hid _).out | refine Blk.alloc ?_ _ | refine Blk.drew ?_ | refine Blk.drewN ?_ _)) hb12) : Hid (Blk w12 w.heap.size tMach zeroMachine)); have hB12 := (by exact below_trans (by repeat (first | exact Below.refl _ _ | assumption | refine below_drewN ?_ _ | refine below_drew ?_ | refine below_alloc ?_ _ | refine below_set ?_ (by first | assumption | (simp; done) | (simp; omega)) _ | refine below_trans (by assumption) ?_)) hb12 : Below w.heap.size w w12); clear hb12))
  have HK12 := hide (by exact Blk.new _ _ _ : Blk (w12.alloc (.cells #[.int .i64 0, .int .i64 0, .int .i64 0, .slice none 0 0] tReply)) w12.heap.size tReply #[.int .i64 0, .int .i64 0, .int .i64 0, .slice none 0 0])
  have HZ12a := hide (by exact HZ12.out.alloc _ : Blk (w12.alloc (.cells #[.int .i64 0, .int .i64 0, .int .i64 0, .slice none 0 0] tReply)) w.heap.size tMach zeroMachine)
  have hB12a := (by exact below_alloc hB12 _ : Below w.heap.size w (w12.alloc (.cells #[.int .i64 0, .int .i64 0, .int .i64 0, .slice none 0 0] tReply)))
  obtain ⟨k, hk⟩ : ∃ k, k = w12.heap.size := ⟨_, rfl⟩
  rw [← hk] at HK12 ⊢
  generalize (w12.alloc (.cells #[.int .i64 0, .int .i64 0, .int .i64 0, .slice none 0 0] tReply)) = Y at HK12 HZ12a hB12a ⊢
  clear HZ12 HZ11 hk
  go_upto_region 16 with (first
    | (go_at_call 26; refine (Part0_sub Y.heap.size _ (by exact HG.out.below (by repeat (first | exact Below.refl _ _ | assumption | refine below_drewN ?_ _ | refine below_drew ?_ | refine below_alloc ?_ _ | refine below_set ?_ (by first | assumption | (simp; done) | (simp; omega)) _ | refine below_trans (by assumption) ?_))) (by exact Blk.new _ _ _)).mono ?_; rintro e w13 ⟨⟨g1, c1, rfl, hx0, hx1, hx2⟩, hb13⟩; have HZ13 := (by exact hide (Blk.below (HZ12a.out.alloc _) hb13) : Hid (Blk w13 w.heap.size tMach zeroMachine)); have HK13 := (by exact hide (Blk.below (HK12.out.alloc _) hb13) : Hid (Blk w13 k tReply #[.int .i64 0, .int .i64 0, .int .i64 0, .slice none 0 0])); have hB13 := (by exact below_trans (by repeat (first | exact Below.refl _ _ | assumption | refine below_drewN ?_ _ | refine below_drew ?_ | refine below_alloc ?_ _ | refine below_set ?_ (by first | assumption | (simp; done) | (simp; omega)) _ | refine below_trans (by assumption) ?_)) hb13 : Below w.heap.size w w13); clear hb13))
  go_upto_region 17 with (first
    | (go_at_call 16; refine (New_facts _).mono ?_; rintro e w14 ⟨b14, t14, rfl, hn0, hn1, hnr, hb14⟩; have HZ14 := (by exact hide (Blk.below (HZ13.out.alloc _) hb14) : Hid (Blk w14 w.heap.size tMach zeroMachine)); have HK14 := (by exact hide (Blk.below (HK13.out.alloc _) hb14) : Hid (Blk w14 k tReply #[.int .i64 0, .int .i64 0, .int .i64 0, .slice none 0 0])); have HP14 := (by exact hide (Blk.below (Blk.new _ _ _) hb14) : Hid (Blk w14 w13.heap.size tShot_ #[.int .i64 0, .string ⟨#[47]⟩, .int .i64 3, .slice (some ⟨g1, 0, none⟩) 1 c1])); have hB14 := (by exact below_trans (by repeat (first | exact Below.refl _ _ | assumption | refine below_drewN ?_ _ | refine below_drew ?_ | refine below_alloc ?_ _ | refine below_set ?_ (by first | assumption | (simp; done) | (simp; omega)) _ | refine below_trans (by assumption) ?_)) hb14 : Below w.heap.size w w14); have hx0 := (by exact cell_keep hb14 (cell_alloc _ hx0)); have hx1 := (by exact cell_keep hb14 (cell_alloc _ hx1)); have hx2 := (by exact cell_keep hb14 (cell_alloc _ hx2)); clear hb14)
    | (go_at_call 26; refine (Part1_sub b14 t14 0 _ (by exact HG.out.below hB14) hn0 hn1 (by decide) hnr).mono ?_; rintro e w15 ⟨⟨g2, c2, rfl, hy0, hy1, hy2⟩, hb15⟩; have HZ15 := (by exact hide (Blk.below HZ14.out hb15) : Hid (Blk w15 w.heap.size tMach zeroMachine)); have HK15 := (by exact hide (Blk.below HK14.out hb15) : Hid (Blk w15 k tReply #[.int .i64 0, .int .i64 0, .int .i64 0, .slice none 0 0])); have HP15 := (by exact hide (Blk.below HP14.out hb15) : Hid (Blk w15 w13.heap.size tShot_ #[.int .i64 0, .string ⟨#[47]⟩, .int .i64 3, .slice (some ⟨g1, 0, none⟩) 1 c1])); have hB15 := (by exact below_trans hB14 hb15 : Below w.heap.size w w15); have hx0 := (by exact cell_keep hb15 hx0); have hx1 := (by exact cell_keep hb15 hx1); have hx2 := (by exact cell_keep hb15 hx2); clear hb15 hn0 hn1 hnr))
  obtain ⟨p1, hp1⟩ : ∃ p, p = w13.heap.size := ⟨_, rfl⟩
  obtain ⟨p2, hp2⟩ : ∃ p, p = w15.heap.size := ⟨_, rfl⟩
  rw [← hp1] at HP15
  have HV := hide (by exact ⟨HZ15.out.alloc _, HK15.out.alloc _, HP15.out.alloc _, Blk.newAt _ _ _ hp2, ⟨cell_alloc _ hx0, cell_alloc _ hx1, cell_alloc _ hx2⟩, ⟨cell_alloc _ hy0, cell_alloc _ hy1, cell_alloc _ hy2⟩, below_alloc hB15 _⟩ : Kn w k p1 p2 g1 c1 g2 c2 (w15.alloc (.cells #[.int .i64 0, .string ⟨#[47]⟩, .int .i64 3, .slice (some ⟨g2, 0, none⟩) 1 c2] tShot_)))
  rw [← hp1, ← hp2]
  generalize (w15.alloc (.cells #[.int .i64 0, .string ⟨#[47]⟩, .int .i64 3, .slice (some ⟨g2, 0, none⟩) 1 c2] tShot_)) = V at HV ⊢
  clear HZ15 HK15 HP15 HZ14 HK14 HP14 HZ13 HK13 HZ12a HK12 hx0 hx1 hx2 hy0 hy1 hy2 hp1 hp2 hB1 hB2 hB3 hB4 hB6 hB11 hB12 hB12a hB13 hB14 hB15
  go_upto_region 19 with (first
    | (go_at_call 26; refine (Part0_out V.heap.size _ (by exact HG.out.below (HV.out.alloc _).b) (by exact Blk.new _ _ _)).mono ?_; rintro e w16 ⟨⟨X16, c16, rfl⟩, hb16⟩; have H16 := hide ((HV.out.alloc _).below hb16); clear hb16))
  go_upto_region 20 with (first
    | (go_at_call 16; refine (New_facts _).mono ?_; rintro e w17 ⟨b17, t17, rfl, hn0, hn1, hnr, hb17⟩; have H17 := hide ((H16.out.alloc _).below hb17); clear hb17)
    | (go_at_call 26; refine (Part1_out b17 t17 _ (by exact HG.out.below H17.out.b) hn0 hn1 hnr).mono ?_; rintro e w18 ⟨⟨X18, c18, rfl⟩, hb18⟩; have H18 := hide (H17.out.below hb18); clear hb18 hn0 hn1 hnr))
  have HU := hide (H18.out.alloc (.cells #[.int .i64 0, .string ⟨#[47, 97]⟩, .int .i64 1, .slice X18 0 c18] tShot_))
  generalize (w18.alloc (.cells #[.int .i64 0, .string ⟨#[47, 97]⟩, .int .i64 1, .slice X18 0 c18] tShot_)) = U at HU ⊢
  go_upto_region 21 with fail
  have HT := hide (HU.out.alloc (.cells zeroMachine tMach))
  have n5 := (by exact (Blk.new U tMach zeroMachine).cell 5 : (U.alloc (.cells zeroMachine tMach)).cell? ⟨U.heap.size, 5, none⟩ = some (.int .i64 0))
  change Code.wp Tryz.prog _ _ _ (U.alloc (.cells zeroMachine tMach))
  generalize (U.alloc (.cells zeroMachine tMach)) = T at HT n5 ⊢
  have e0 := (by exact HT.out.r.cell 0 : T.cell? ⟨k, 0, none⟩ = some (.int .i64 0))
  have e1 := (by exact HT.out.r.cell 1 : T.cell? ⟨k, 1, none⟩ = some (.int .i64 0))
  have e3 := (by exact HT.out.r.cell 3 : T.cell? ⟨k, 3, none⟩ = some (.slice none 0 0))
  go_upto_region 23 with (first
    | (go_at_call 53; refine (Newest_at U.heap.size 0 _ n5).mono ?_; rintro e w19 ⟨rfl, hw19⟩; obtain rfl := hw19.symm))
  clear e0 e1 e3 n5
  have a0 := (by exact HT.out.s1.cell 0 : T.cell? ⟨p1, 0, none⟩ = some (.int .i64 0))
  have a1 := (by exact HT.out.s1.cell 1 : T.cell? ⟨p1, 1, none⟩ = some (.string ⟨#[47]⟩))
  have a2 := (by exact HT.out.s1.cell 2 : T.cell? ⟨p1, 2, none⟩ = some (.int .i64 3))
  have a3 := (by exact HT.out.s1.cell 3 : T.cell? ⟨p1, 3, none⟩ = some (.slice (some ⟨g1, 0, none⟩) 1 c1))
  have b3 := (by exact HT.out.s2.cell 3 : T.cell? ⟨p2, 3, none⟩ = some (.slice (some ⟨g2, 0, none⟩) 1 c2))
  obtain ⟨x0, x1, x2⟩ := HT.out.x
  obtain ⟨y0, y1, y2⟩ := HT.out.y
  go_quiet (fail)
  have HR := hide (by exact HT.out.below (below_drewN (Below.refl _ _) _) : Kn w k p1 p2 g1 c1 g2 c2 (T.drewN nq))
  generalize T.drewN nq = R at HR ⊢
  clear HT a0 a1 a2 a3 b3 x0 x1 x2 y0 y1 y2
  have hzl := HR.out.b.size
  go_upto_region 26 with (first
    | (go_at_call 19; refine (Apply_open w.heap.size _ (by exact HR.out.z)).mono ?_; rintro e w20 ⟨rfl, d5, d1, ⟨t20, d0, dr⟩, hg20⟩; have hB20 := (by exact below_grown HR.out.b hg20 (Nat.le_refl _) : Below w.heap.size w w20); clear hg20))
  go_upto_region 27 with (first
    | (go_at_call 26; refine (Part1_sub w.heap.size t20 1 _ (by exact HG.out.below hB20) d0 d1 (by decide) dr).mono ?_; rintro e w21 ⟨⟨g21, c21, rfl, -, -, -⟩, hb21⟩; have hB21 := below_trans hB20 hb21; have e5 := (by exact cell_keep hb21 d5); clear hb21 d0 d1 d5 dr))
  have f5 := (by exact cell_alloc (.cells #[.int .i64 1, .string ⟨#[47]⟩, .int .i64 3, .slice (some ⟨g21, 0, none⟩) 1 c21] tShot_) e5)
  go_wp2_with (first
    | (go_at_call 53; refine (Newest_at w.heap.size 3 _ f5).mono ?_; rintro e w22 ⟨rfl, hw22⟩; obtain rfl := hw22.symm))
  go_ret
  exact ⟨rfl, (by repeat (first | exact Below.refl _ _ | assumption | refine below_drewN ?_ _ | refine below_drew ?_ | refine below_alloc ?_ _ | refine below_set ?_ (by first | assumption | (simp; done) | (simp; omega)) _ | refine below_trans (by assumption) ?_))⟩
end Go.Proofs.YtheampfoedhipaaGreatDoor
