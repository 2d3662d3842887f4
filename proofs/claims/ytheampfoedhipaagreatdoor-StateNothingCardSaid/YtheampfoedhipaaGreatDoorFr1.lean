/- Freeze of a zero machine. -/
import Derived.Test.YtheampfoedhipaaGreatDoorWr5
import Derived.Test.YtheampfoedhipaaGreatDoorSn6
import Derived.Laws.IdiomStrings
namespace Go.Proofs.YtheampfoedhipaaGreatDoor
open Go Go.RowKit
set_option maxRecDepth 100000

abbrev zeros16 : Array Value := #[.int .i64 0, .int .i64 0, .int .i64 0, .int .i64 0, .int .i64 0, .int .i64 0, .int .i64 0, .int .i64 0, .int .i64 0, .int .i64 0, .int .i64 0, .int .i64 0, .int .i64 0, .int .i64 0, .int .i64 0, .int .i64 0]
theorem zeros16_at (n : Nat) (hn : n < 16) : zeros16[n]? = some (.int .i64 0) := by
  have h : n = 0 ∨ n = 1 ∨ n = 2 ∨ n = 3 ∨ n = 4 ∨ n = 5 ∨ n = 6 ∨ n = 7 ∨ n = 8 ∨ n = 9 ∨ n = 10 ∨ n = 11 ∨ n = 12 ∨ n = 13 ∨ n = 14 ∨ n = 15 := by omega
  rcases h with rfl | rfl | rfl | rfl | rfl | rfl | rfl | rfl | rfl | rfl | rfl | rfl | rfl | rfl | rfl | rfl <;> rfl
theorem index_zero (n : Nat) (hn : n < 16) (w : World) : (Instr.index 108 (.agg zeros16) (.int .i64 n)).run Tryz.prog w = .ok (.int .i64 0) w := by
  have h := zeros16_at n hn
  simp at h
  simp [Instr.index, Tryz.runUnderlying108, go_sem, hn]
  exact (List.getElem?_eq_some_iff.1 h).2
theorem truth_false (w : World) : Calls Tryz.prog 118 #[.bool false] w fun e w' => e = .returned (.int .i64 0) ∧ w' = w := by
  go_enter Tryz.func118, Tryz.ntmps118
  go_wp2
  go_ret
  exact ⟨rfl, rfl⟩

theorem OwnB.conv {w : World} {v : Value} {s : Str} (h : OwnB w v s) (hl : 0 < s.length) : ∃ g c, v = .slice (some ⟨g, 0, none⟩) s.length c ∧
    (convert 67 9 (.slice (some ⟨g, 0, none⟩) s.length c)).run Tryz.prog w = .ok (.string (B s)) w := by
  obtain ⟨g, c, rfl, _, hc⟩ := h.form hl
  exact ⟨g, c, rfl, run_convert_bytes_back (P := Tryz.prog) w 67 9 tU8 ⟨g, 0, none⟩ c s Tryz.underlying67 Tryz.underlying5 Tryz.underlying9 (fun j hj => hc j _ (by simp [List.getElem?_eq_getElem hj]))⟩
/-- All other blocks stand. -/
def Keeps (w w' : World) (p : Nat) : Prop := ∀ g t cs, Blk w g t cs → g ≠ p → t ≠ tU8 → Blk w' g t cs
theorem text_k (p : Nat) (v' : Value) (S t : Str) (w : World) (hw : WAt tWr w p v' S) (ht : t.length < 128) (hs : S.length ≤ 4000) :
    Calls Tryz.prog 117 #[.pointer (some ⟨p, 0, none⟩), .string (B t)] w fun e w' => e = .returned (.tuple #[]) ∧ ∃ v2, WAt tWr w' p v2 (S ++ textBytes t) ∧ Wrt w w' p v' v2 ∧ Keeps w w' p :=
  (text_small p v' S t w hw ht hs).mono fun _ _ ⟨he, v2, h1, h2⟩ => ⟨he, v2, h1, h2, fun _ _ _ hb hp ht => hb.wrt h2 hw.own hp ht⟩
theorem numbers_k (p g c : Nat) (v : Value) (s : Str) (l : List Nat) (w : World) (hw : WAt tWr w p v s) (hg : Blk w g 3 (numVals l)) (hl : ∀ n ∈ l, n < 128) (hll : l.length ≤ 8) (hlc : l.length ≤ c) (hs : s.length ≤ 4000) :
    Calls Tryz.prog 116 #[.pointer (some ⟨p, 0, none⟩), .slice (some ⟨g, 0, none⟩) l.length c] w fun e w' => e = .returned (.tuple #[]) ∧ ∃ v', WAt tWr w' p v' (s ++ numBytes l) ∧ Wrt w w' p v v' ∧ Keeps w w' p :=
  (numbers_small p g c v s l w hw hg hl hll hlc hs).mono fun _ _ ⟨he, v2, h1, h2⟩ => ⟨he, v2, h1, h2, fun _ _ _ hb hp ht => hb.wrt h2 hw.own hp ht⟩

/-- What a zero machine freezes to, ahead of the slots. -/
abbrev frozenHead : Str := [0, 1] ++ [1, 47] ++ [0] ++ [0, 0, 0, 0, 0]
/-- The bytes of so many empty slots. -/
def slotBytes : Nat → Str
  | 0 => []
  | n + 1 => slotBytes n ++ [0, 0, 0]
theorem slotBytes_len (n : Nat) : (slotBytes n).length = n * 3 := by
  induction n with
  | zero => rfl
  | succ n ih => simp [slotBytes, ih]; omega
abbrev zeroMachine : Array Value := #[.pointer none, .int .i64 0] ++ zeros16 ++ #[.map none]

set_option maxHeartbeats 2000000 in
theorem Freeze_zero (b : Nat) (w : World) (h0 : w.cell? ⟨b, 0, none⟩ = some (.pointer none)) (h1 : w.cell? ⟨b, 1, none⟩ = some (.int .i64 0)) (hz : ∀ i, i < 16 → w.cell? ⟨b, 2 + i, none⟩ = some (.int .i64 0)) (h18 : w.cell? ⟨b, 18, none⟩ = some (.map none)) :
    Calls Tryz.prog 55 #[.pointer (some ⟨b, 0, none⟩)] w fun e w' => e = .returned (.string (B (frozenHead ++ slotBytes 16))) ∧ Below w.heap.size w w' := by
  have hlb : b < w.heap.size := World.block_lt_of_cell? w _ h0
  have HZ := hide hz; have H0 := hide h0; have H1 := hide h1; have H18 := hide h18
  clear hz h0 h1 h18
  go_enter Tryz.func55, Tryz.ntmps55
  go_wp2_with (first
    | (go_at_call 80; refine (nodes_fresh b _ (by exact cell_keep (by repeat (first | exact Below.refl _ _ | assumption | refine below_drewN ?_ _ | refine below_drew ?_ | refine below_alloc ?_ _ | refine below_set ?_ (by first | assumption | (simp; done) | (simp; omega)) _ | refine below_trans (by assumption) ?_)) H0.out)).mono ?_; rintro e w1 ⟨t, rfl, hr1, hb1⟩; have hp1 := hide (by exact ⟨(Blk.new _ _ _).below hb1, OwnB.nil _⟩ : WAt tWr w1 w.heap.size (.slice none 0 0) []); have hb1' := (by exact below_trans (by repeat (first | exact Below.refl _ _ | assumption | refine below_drewN ?_ _ | refine below_drew ?_ | refine below_alloc ?_ _ | refine below_set ?_ (by first | assumption | (simp; done) | (simp; omega)) _ | refine below_trans (by assumption) ?_)) hb1 : Below w.heap.size w w1); clear hb1)
    | (go_at_call 78; obtain ⟨m, hm, hc⟩ := hr1; refine (Nodes_root t m _ hm hc).mono ?_; rintro e w2 ⟨v2, rfl, ho2, hb2⟩; obtain ⟨g, c, rfl, hg2, c0, c1, c2, c3, c4, c5, c6⟩ := root_cells ho2; have hp2 := hide (hp1.out.below hb2); have hb2' := below_trans hb1' hb2; have hgp := (ho2.lt rfl).1; have hpl := hp1.out.blk.lt; have ch := (by exact cell_keep hb2' H1.out : w2.cell? ⟨b, 1, none⟩ = some (.int .i64 0)); clear hb2 ho2)
    | (go_at_call 116; refine (numbers_small w.heap.size w2.heap.size 2 _ [] [0, 1] _ (by exact hp2.out.below (below_alloc (Below.refl _ _) _)) (by exact Blk.newAt _ _ _ rfl) (by decide) (by decide) (by decide) (by decide)).mono ?_; rintro e w3 ⟨rfl, v3, hp3', hw3⟩; have hp3 := hide hp3'; have hf3 := hide ((Wrt.of w.heap.size (.slice none 0 0) (below_alloc (Below.refl w2.heap.size w2) _)).trans hw3); clear hw3 hp3'))
  have d0 := hf3.out.cell c0 (by simp; omega)
  have d1 := hf3.out.cell c1 (by simp; omega)
  have d2 := hf3.out.cell c2 (by simp; omega)
  have d3 := hf3.out.cell c3 (by simp; omega)
  have d4 := hf3.out.cell c4 (by simp; omega)
  have d5 := hf3.out.cell c5 (by simp; omega)
  have d6 := hf3.out.cell c6 (by simp; omega)
  clear c0 c1 c2 c3 c4 c5 c6 ch
  have hne3 : w3.heap.size ≠ w.heap.size := by have := hp3.out.blk.lt; omega
  refine wp_loop_rounds 2 ?_
  rw [rounds_succ]
  go_wp2_with (first
    | (go_at_call 117; refine (text_k w.heap.size _ _ _ _ (by first | exact hp4.out | exact hp3.out.below (below_alloc (Below.refl _ _) _)) (by decide) (by decide)).mono ?_; rintro e w4 ⟨rfl, v4, hq4, hw4, hk4⟩; have hx4 := (by first | exact hk4 _ _ _ hx4.out hne3 (by decide) | exact hk4 _ _ _ (Blk.new _ _ _) hne3 (by decide) : Blk w4 w3.heap.size tFull (encFull rootFull).toArray); have e0 := (by exact hx4.cell 0 : w4.cell? ⟨w3.heap.size, 0, none⟩ = some (.string ⟨#[47]⟩)); have e1 := (by exact hx4.cell 1 : w4.cell? ⟨w3.heap.size, 1, none⟩ = some (.string ⟨#[]⟩)); have e2 := (by exact hx4.cell 2 : w4.cell? ⟨w3.heap.size, 2, none⟩ = some (.int .i64 0)); have e3 := (by exact hx4.cell 3 : w4.cell? ⟨w3.heap.size, 3, none⟩ = some (.int .i64 0)); have e4 := (by exact hx4.cell 4 : w4.cell? ⟨w3.heap.size, 4, none⟩ = some (.int .i64 0)); have e5 := (by exact hx4.cell 5 : w4.cell? ⟨w3.heap.size, 5, none⟩ = some (.int .i64 0)); have e6 := (by exact hx4.cell 6 : w4.cell? ⟨w3.heap.size, 6, none⟩ = some (.int .i64 0)); have hx4 := hide hx4; have hf4 := (by first | exact hide (hf4.out.trans hw4) | exact hide ((hf3.out.trans (Wrt.of _ _ (below_alloc (Below.refl _ _) _))).trans hw4) : Hid (Wrt w2 w4 w.heap.size (.slice none 0 0) v4)); have hp4 := hide hq4; clear hq4 hw4 hk4)
    | (go_at_call 116; refine (numbers_k w.heap.size _ 5 _ _ [0, 0, 0, 0, 0] _ (by exact hp4.out.below (below_alloc (Below.refl _ _) _)) (by exact Blk.newAt _ _ _ rfl) (by decide) (by decide) (by decide) (by decide)).mono ?_; rintro e w5 ⟨rfl, v5, hq5, hw5, -⟩; have hf5 := (by exact hide ((hf4.out.trans (Wrt.of _ _ (below_alloc (Below.refl _ _) _))).trans hw5) : Hid (Wrt w2 w5 w.heap.size (.slice none 0 0) v5)); have hp5 := hide hq5; clear hq5 hw5))
  rw [rounds_succ]
  have hcell : ∀ a u, w.cell? ⟨b, a, none⟩ = some u → w5.cell? ⟨b, a, none⟩ = some u := fun a u h => hf5.out.cell (cell_keep hb2' h) (by simp; omega)
  have z0 := (by exact hcell 2 _ (HZ.out 0 (by decide)) : w5.cell? ⟨b, 2, none⟩ = some (.int .i64 0))
  have z1 := (by exact hcell 3 _ (HZ.out 1 (by decide)) : w5.cell? ⟨b, 3, none⟩ = some (.int .i64 0))
  have z2 := (by exact hcell 4 _ (HZ.out 2 (by decide)) : w5.cell? ⟨b, 4, none⟩ = some (.int .i64 0))
  have z3 := (by exact hcell 5 _ (HZ.out 3 (by decide)) : w5.cell? ⟨b, 5, none⟩ = some (.int .i64 0))
  have z4 := (by exact hcell 6 _ (HZ.out 4 (by decide)) : w5.cell? ⟨b, 6, none⟩ = some (.int .i64 0))
  have z5 := (by exact hcell 7 _ (HZ.out 5 (by decide)) : w5.cell? ⟨b, 7, none⟩ = some (.int .i64 0))
  have z6 := (by exact hcell 8 _ (HZ.out 6 (by decide)) : w5.cell? ⟨b, 8, none⟩ = some (.int .i64 0))
  have z7 := (by exact hcell 9 _ (HZ.out 7 (by decide)) : w5.cell? ⟨b, 9, none⟩ = some (.int .i64 0))
  have z8 := (by exact hcell 10 _ (HZ.out 8 (by decide)) : w5.cell? ⟨b, 10, none⟩ = some (.int .i64 0))
  have z9 := (by exact hcell 11 _ (HZ.out 9 (by decide)) : w5.cell? ⟨b, 11, none⟩ = some (.int .i64 0))
  have z10 := (by exact hcell 12 _ (HZ.out 10 (by decide)) : w5.cell? ⟨b, 12, none⟩ = some (.int .i64 0))
  have z11 := (by exact hcell 13 _ (HZ.out 11 (by decide)) : w5.cell? ⟨b, 13, none⟩ = some (.int .i64 0))
  have z12 := (by exact hcell 14 _ (HZ.out 12 (by decide)) : w5.cell? ⟨b, 14, none⟩ = some (.int .i64 0))
  have z13 := (by exact hcell 15 _ (HZ.out 13 (by decide)) : w5.cell? ⟨b, 15, none⟩ = some (.int .i64 0))
  have z14 := (by exact hcell 16 _ (HZ.out 14 (by decide)) : w5.cell? ⟨b, 16, none⟩ = some (.int .i64 0))
  have z15 := (by exact hcell 17 _ (HZ.out 15 (by decide)) : w5.cell? ⟨b, 17, none⟩ = some (.int .i64 0))
  clear d0 d1 d2 d3 d4 d5 d6 hx4 hf4 hp4 hf3 hp3 hp1 hb1' hm hc
  have hp5' : Hid (WAt tWr w5 w.heap.size v5 (frozenHead ++ slotBytes 0)) := hide (by have := hp5.out; simpa [slotBytes, numBytes, textBytes] using this)
  have HCL : Hid (∀ wr v, Wrt w2 wr w.heap.size (.slice none 0 0) v → wr.cell? ⟨b, 18, none⟩ = some (.map none)) := hide fun wr v h => h.cell (cell_keep hb2' H18.out) (by simp; omega)
  have HL := fun (w1 : World) => run_lookup_none (P := Tryz.prog) (x := 0) 109 3 _ Tryz.underlying109 Tryz.underlying3 (Tryz.zeroValue208 w1)
  go_wp2
  clear z0 z1 z2 z3 z4 z5 z6 z7 z8 z9 z10 z11 z12 z13 z14 z15 hcell
  go_loopg [8, 9, 10, 59] 16 (fun gk _ _ _ i wr => ∃ n : Nat, ∃ v' : Value, gk = 16 - n ∧ n ≤ 16 ∧ i = .int .i64 n ∧ Hid (WAt tWr wr w.heap.size v' (frozenHead ++ slotBytes n)) ∧ Hid (Wrt w2 wr w.heap.size (.slice none 0 0) v'))
  case atStart => exact ⟨0, v5, rfl, by decide, rfl, hp5', hf5⟩
  case round =>
    obtain ⟨n, v', hgk, hn, rfl, hpn, hfn⟩ := hrel
    have HGK := hide hgk
    clear hgk
    have c18 := HCL.out wr v' hfn.out
    have hplw := hpn.out.blk.lt
    by_cases hlt : n < 16
    · have hix := index_zero n hlt
      have hwrap : IntKind.i64.wrap ((n : Int) + 1) = (n : Int) + 1 := by simp [IntKind.wrap, IntKind.bits, IntKind.signed]; omega
      go_wp2
      have hnek : wr.heap.size ≠ w.heap.size := by omega
      go_region_with (first
        | (go_at_call 118; refine (truth_false _).mono ?_; rintro e w6 ⟨rfl, rfl⟩)
        | (go_at_call 116; refine (numbers_k w.heap.size _ 3 _ _ [0, 0, 0] _ (by exact hpn.out.below (by repeat (first | exact Below.refl _ _ | assumption | refine below_drewN ?_ _ | refine below_drew ?_ | refine below_alloc ?_ _ | refine below_set ?_ (by first | assumption | (simp; done) | (simp; omega)) _ | refine below_trans (by assumption) ?_))) (by exact Blk.newAt _ _ _ (by simp)) (by decide) (by decide) (by decide) (by simp [slotBytes_len]; omega)).mono ?_; rintro e w7 ⟨rfl, v7, hq7, hw7, hk7⟩; have hx7 := (by exact hk7 _ _ _ (by exact Blk.alloc (by first | exact Blk.new _ _ _ | exact (Blk.new _ _ _).drew | exact (Blk.new _ _ _).drewN _) _) hnek (by decide) : Blk w7 wr.heap.size 208 #[.int .i64 0, .int .i64 0, .int .i64 0, .int .i64 0, .slice none 0 0]); have y0 := (by exact hx7.cell 0 : w7.cell? ⟨wr.heap.size, 0, none⟩ = some (.int .i64 0)); have hf7 := (by exact hide ((hfn.out.trans (Wrt.of _ _ (by repeat (first | exact Below.refl _ _ | assumption | refine below_drewN ?_ _ | refine below_drew ?_ | refine below_alloc ?_ _ | refine below_set ?_ (by first | assumption | (simp; done) | (simp; omega)) _ | refine below_trans (by assumption) ?_)))).trans hw7) : Hid (Wrt w2 w7 w.heap.size (.slice none 0 0) v7)); have hp7 := hide hq7; clear hx7 hw7 hk7 hq7))
      all_goals
        go_wp2
        go_roundg (16 - (n + 1))
        case rel => exact ⟨n + 1, v7, rfl, by omega, by go_num, hide (by have := hp7.out; simpa [slotBytes, numBytes] using this), hf7⟩
        case measure => have := HGK.out; omega
    · have hn16 : n = 16 := by omega
      subst hn16
      obtain ⟨S, hS⟩ : ∃ S, S = frozenHead ++ slotBytes 16 := ⟨_, rfl⟩
      have hSl : 0 < S.length := by rw [hS]; simp
      rw [← hS] at hpn
      have HS := hide hS
      have hcv := hpn.out.blk.cell 0
      obtain ⟨g9, c9, rfl, hconv⟩ := hpn.out.own.conv hSl
      have hcv' : wr.cell? ⟨w.heap.size, 0, none⟩ = some (.slice (some ⟨g9, 0, none⟩) S.length c9) := hcv
      clear hcv hS
      go_wp2
      go_ret
      exact ⟨by rw [← HS.out]; rfl, hfn.out.below hb2' (Nat.le_refl _)⟩
end Go.Proofs.YtheampfoedhipaaGreatDoor
