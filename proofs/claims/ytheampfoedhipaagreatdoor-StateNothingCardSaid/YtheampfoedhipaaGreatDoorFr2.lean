/- The document's Freeze of its machine at the beginning. -/
import Derived.Test.YtheampfoedhipaaGreatDoorSn11
import Derived.Deep.RegionHeld3
namespace Go.Proofs.YtheampfoedhipaaGreatDoor
open Go Go.RowKit
set_option maxRecDepth 100000

abbrev slotZ : Array Value := #[.int .i64 0, .bool false, .int .i64 0, .int .i64 0, .int .i64 0, .int .i64 0, .slice none 0 0]
theorem slot_at (k i : Nat) (hk : k < 16) (hi : i < 7) : slotCells[k * 7 + i]? = some (slotZ[i]!) := by
  have hz : (Value.agg #[.int .i64 0, .bool false, .int .i64 0, .int .i64 0, .int .i64 0, .int .i64 0, .slice none 0 0]).cells = slotZ := rfl
  have hm : (k * 7 + i) % 7 = i := by omega
  simp only [slotCells, madeCells, hz]
  rw [Array.getElem?_map, Array.getElem?_range, if_pos (by omega)]
  simp only [Option.map_some]
  rw [show slotZ.size = 7 from rfl, hm]
theorem slot_cells {w : World} {s : Nat} (h : Blk w s tSlot slotCells) (k : Nat) (hk : k < 16) :
    w.cell? ⟨s, k * 7, none⟩ = some (.int .i64 0) ∧ w.cell? ⟨s, k * 7 + 1, none⟩ = some (.bool false) ∧ w.cell? ⟨s, k * 7 + 2, none⟩ = some (.int .i64 0) ∧ w.cell? ⟨s, k * 7 + 3, none⟩ = some (.int .i64 0) ∧ w.cell? ⟨s, k * 7 + 4, none⟩ = some (.int .i64 0) ∧ w.cell? ⟨s, k * 7 + 5, none⟩ = some (.int .i64 0) ∧ w.cell? ⟨s, k * 7 + 6, none⟩ = some (.slice none 0 0) :=
  ⟨(h.cell _).trans (slot_at k 0 hk (by omega)), (h.cell _).trans (slot_at k 1 hk (by omega)), (h.cell _).trans (slot_at k 2 hk (by omega)), (h.cell _).trans (slot_at k 3 hk (by omega)), (h.cell _).trans (slot_at k 4 hk (by omega)), (h.cell _).trans (slot_at k 5 hk (by omega)), (h.cell _).trans (slot_at k 6 hk (by omega))⟩
theorem num_k (p g c : Nat) (v : Value) (s : Str) (l : List Nat) (w : World) (hw : WAt tPg w p v s) (hg : Blk w g 3 (numVals l)) (hl : ∀ n ∈ l, n < 128) (hll : l.length ≤ 8) (hs : s.length ≤ 2000) :
    Calls Tryz.prog 121 #[.pointer (some ⟨p, 0, none⟩), .slice (some ⟨g, 0, none⟩) l.length c] w fun e w' => e = .returned (.tuple #[]) ∧ ∃ v', WAt tPg w' p v' (s ++ numBytes l) ∧ Wrt w w' p v v' ∧ Keeps w w' p :=
  (num_small p g c v s l w hw hg hl hll hs).mono fun _ _ ⟨he, v2, h1, h2⟩ => ⟨he, v2, h1, h2, fun _ _ _ hb hp ht => hb.wrt h2 hw.own hp ht⟩
theorem txt_k (p g c : Nat) (v : Value) (s : Str) (l : List Str) (w : World) (hw : WAt tPg w p v s) (hg : Blk w g 9 (textVals l)) (hl : ∀ n ∈ l, n.length < 128) (hll : l.length ≤ 8) (hs : s.length ≤ 2000) :
    Calls Tryz.prog 122 #[.pointer (some ⟨p, 0, none⟩), .slice (some ⟨g, 0, none⟩) l.length c] w fun e w' => e = .returned (.tuple #[]) ∧ ∃ v', WAt tPg w' p v' (s ++ textsBytes l) ∧ Wrt w w' p v v' ∧ Keeps w w' p :=
  (txt_small p g c v s l w hw hg hl hll hs).mono fun _ _ ⟨he, v2, h1, h2⟩ => ⟨he, v2, h1, h2, fun _ _ _ hb hp ht => hb.wrt h2 hw.own hp ht⟩
theorem rroot_cells {w : World} {base : Nat} {v : Value} (h : Own rFullT 7 encFull w base v [rootFull]) : ∃ g c, v = .slice (some ⟨g, 0, none⟩) 1 c ∧ g < w.heap.size ∧
    (w.cell? ⟨g, 0, none⟩ = some (.string ⟨#[47]⟩) ∧ w.cell? ⟨g, 1, none⟩ = some (.string ⟨#[]⟩) ∧ w.cell? ⟨g, 2, none⟩ = some (.int .i64 0) ∧ w.cell? ⟨g, 3, none⟩ = some (.int .i64 0) ∧ w.cell? ⟨g, 4, none⟩ = some (.int .i64 0) ∧ w.cell? ⟨g, 5, none⟩ = some (.int .i64 0) ∧ w.cell? ⟨g, 6, none⟩ = some (.int .i64 0)) := by
  obtain ⟨g, cap, cur, rfl, hb, hg, hc, hm, hs, ht⟩ := h.form (by
    intro e; obtain ⟨X, c, hv⟩ := h.len; rw [hv] at e; injection e with e1 e2 e3; simp at e2)
  have hall : ∀ i, i < 7 → w.cell? ⟨g, i, none⟩ = (encFull rootFull)[i]? := fun i hi => by
    rw [hg.cell, ← Array.getElem?_toList]
    have := congrArg (·[i]?) ht
    simp only [flat, List.flatMap_cons, List.flatMap_nil, List.append_nil, List.length_cons, List.length_nil, Nat.zero_add, Nat.one_mul] at this
    rw [List.getElem?_take, if_pos hi] at this
    exact this
  exact ⟨g, cap, rfl, hg.lt, hall 0 (by omega), hall 1 (by omega), hall 2 (by omega), hall 3 (by omega), hall 4 (by omega), hall 5 (by omega), hall 6 (by omega)⟩

set_option maxHeartbeats 2000000 in
theorem refFreeze_new (g s : Nat) (w : World) (hg : Blk w g rFullT (encFull rootFull).toArray) (hs : Blk w s tSlot slotCells) :
    Calls Tryz.prog 56 #[.agg #[.int .i64 0, .slice (some ⟨g, 0, none⟩) 1 1, .slice (some ⟨s, 0, none⟩) 16 16]] w fun e w' => e = .returned (.string (B (frozenHead ++ slotBytes 16))) ∧ Below w.heap.size w w' := by
  have hlg := hg.lt
  have hls := hs.lt
  have HG := hide hg; have HS0 := hide hs
  clear hg hs
  go_enter Tryz.func56, Tryz.ntmps56
  go_wp2_with (first
    | (go_at_call 120; refine (refNodes_root g _ (by exact HG.out.below (by repeat (first | exact Below.refl _ _ | assumption | refine below_drewN ?_ _ | refine below_drew ?_ | refine below_alloc ?_ _ | refine below_set ?_ (by first | assumption | (simp; done) | (simp; omega)) _ | refine below_trans (by assumption) ?_)))).mono ?_; rintro e w2 ⟨v2, rfl, ho2, hb2⟩; obtain ⟨g2, c, rfl, hg2, c0, c1, c2, c3, c4, c5, c6⟩ := rroot_cells ho2; have hm2 := hide (by exact Blk.below ((Blk.new _ _ _).alloc _) hb2 : Blk w2 w.heap.size tRM #[.int .i64 0, .slice (some ⟨g, 0, none⟩) 1 1, .slice (some ⟨s, 0, none⟩) 16 16]); have hp2 := hide (by exact ⟨(Blk.new1 _ _ _ _).below hb2, OwnB.nil _⟩ : WAt tPg w2 (w.heap.size + 1) (.slice none 0 0) []); have hb2' := (by exact below_trans (by repeat (first | exact Below.refl _ _ | assumption | refine below_drewN ?_ _ | refine below_drew ?_ | refine below_alloc ?_ _ | refine below_set ?_ (by first | assumption | (simp; done) | (simp; omega)) _ | refine below_trans (by assumption) ?_)) hb2 : Below w.heap.size w w2); have hgp := (ho2.lt rfl).1; simp only [World.size_alloc] at hgp; have hpl := hp2.out.blk.lt; have ch := (by exact hm2.out.cell 0 : w2.cell? ⟨w.heap.size, 0, none⟩ = some (.int .i64 0)); clear hb2 ho2)
    | (go_at_call 121; refine (num_k (w.heap.size + 1) w2.heap.size 2 _ [] [0, 1] _ (by exact hp2.out.below (below_alloc (Below.refl _ _) _)) (by exact Blk.newAt _ _ _ rfl) (by decide) (by decide) (by decide)).mono ?_; rintro e w3 ⟨rfl, v3, hp3', hw3, hk3⟩; have hp3 := hide hp3'; have hf3 := hide ((Wrt.of (w.heap.size + 1) (.slice none 0 0) (below_alloc (Below.refl w2.heap.size w2) _)).trans hw3); clear hw3 hp3' hk3))
  have HC : Hid (∀ wr v, Wrt w2 wr (w.heap.size + 1) (.slice none 0 0) v → wr.cell? ⟨g2, 0, none⟩ = some (.string ⟨#[47]⟩) ∧ wr.cell? ⟨g2, 1, none⟩ = some (.string ⟨#[]⟩) ∧ wr.cell? ⟨g2, 2, none⟩ = some (.int .i64 0) ∧ wr.cell? ⟨g2, 3, none⟩ = some (.int .i64 0) ∧ wr.cell? ⟨g2, 4, none⟩ = some (.int .i64 0) ∧ wr.cell? ⟨g2, 5, none⟩ = some (.int .i64 0) ∧ wr.cell? ⟨g2, 6, none⟩ = some (.int .i64 0)) := hide fun wr v h => ⟨h.cell c0 (by simp; omega), h.cell c1 (by simp; omega), h.cell c2 (by simp; omega), h.cell c3 (by simp; omega), h.cell c4 (by simp; omega), h.cell c5 (by simp; omega), h.cell c6 (by simp; omega)⟩
  obtain ⟨d0, d1, d2, d3, d4, d5, d6⟩ := HC.out _ _ hf3.out
  clear c0 c1 c2 c3 c4 c5 c6 ch
  have hne3 : w3.heap.size ≠ w.heap.size + 1 := by have := hp3.out.blk.lt; omega
  refine wp_loop_rounds 2 ?_
  rw [rounds_succ]
  go_wp2
  go_region_held3 (fun w' => w'.cell? ⟨g2, 0, none⟩ = some (.string ⟨#[47]⟩) ∧ w'.cell? ⟨g2, 1, none⟩ = some (.string ⟨#[]⟩)) (first | exact ⟨e0, e1⟩ | go_keep) (first | (go_at_call 122; refine (txt_k (w.heap.size + 1) w3.heap.size 2 _ _ [[47], []] _ (by exact hp3.out.below (by repeat (first | exact Below.refl _ _ | assumption | refine below_drewN ?_ _ | refine below_drew ?_ | refine below_alloc ?_ _ | refine below_set ?_ (by first | assumption | (simp; done) | (simp; omega)) _ | refine below_trans (by assumption) ?_))) (by first | exact Blk.new _ _ _ | exact (Blk.new _ _ _).drew | exact (Blk.new _ _ _).drewN _ | exact Blk.newAt _ _ _ rfl) (by decide) (by decide) (by decide)).mono ?_; rintro e w4 ⟨rfl, v4, hq4, hw4, -⟩; have hf4 := (by exact hide ((hf3.out.trans (Wrt.of _ _ (by repeat (first | exact Below.refl _ _ | assumption | refine below_drewN ?_ _ | refine below_drew ?_ | refine below_alloc ?_ _ | refine below_set ?_ (by first | assumption | (simp; done) | (simp; omega)) _ | refine below_trans (by assumption) ?_)))).trans hw4) : Hid (Wrt w2 w4 (w.heap.size + 1) (.slice none 0 0) v4)); obtain ⟨e0, e1, e2, e3, e4, e5, e6⟩ := HC.out _ _ hf4.out; have hp4 := hide hq4; clear hq4 hw4))
  go_wp2
  go_region_held3 (fun w' => w'.cell? ⟨g2, 2, none⟩ = some (.int .i64 0) ∧ w'.cell? ⟨g2, 3, none⟩ = some (.int .i64 0) ∧ w'.cell? ⟨g2, 4, none⟩ = some (.int .i64 0) ∧ w'.cell? ⟨g2, 5, none⟩ = some (.int .i64 0) ∧ w'.cell? ⟨g2, 6, none⟩ = some (.int .i64 0)) (first | exact ⟨f2, f3, f4, f5, f6⟩ | go_keep) (first | (go_at_call 121; refine (num_k (w.heap.size + 1) w4.heap.size 5 _ _ [0, 0, 0, 0, 0] _ (by exact hp4.out.below (by repeat (first | exact Below.refl _ _ | assumption | refine below_drewN ?_ _ | refine below_drew ?_ | refine below_alloc ?_ _ | refine below_set ?_ (by first | assumption | (simp; done) | (simp; omega)) _ | refine below_trans (by assumption) ?_))) (by first | exact Blk.new _ _ _ | exact (Blk.new _ _ _).drew | exact (Blk.new _ _ _).drewN _ | exact Blk.newAt _ _ _ rfl) (by decide) (by decide) (by decide)).mono ?_; rintro e w5 ⟨rfl, v5, hq5, hw5, -⟩; have hf5 := (by exact hide ((hf4.out.trans (Wrt.of _ _ (by repeat (first | exact Below.refl _ _ | assumption | refine below_drewN ?_ _ | refine below_drew ?_ | refine below_alloc ?_ _ | refine below_set ?_ (by first | assumption | (simp; done) | (simp; omega)) _ | refine below_trans (by assumption) ?_)))).trans hw5) : Hid (Wrt w2 w5 (w.heap.size + 1) (.slice none 0 0) v5)); have hp5 := (by exact hide (by have := hq5; simpa [slotBytes, numBytes, textBytes, textsBytes] using this) : Hid (WAt tPg w5 (w.heap.size + 1) v5 (frozenHead ++ slotBytes 0))); obtain ⟨f0, f1, f2, f3, f4, f5, f6⟩ := HC.out _ _ hf5.out; clear hq5 hw5))
  have HM : Hid (∀ wr v, Wrt w2 wr (w.heap.size + 1) (.slice none 0 0) v → wr.cell? ⟨w.heap.size, 2, none⟩ = some (.slice (some ⟨s, 0, none⟩) 16 16)) := hide fun wr v h => h.cell (hm2.out.cell 2) (by simp)
  have HS1 : Hid (∀ wr v k, k < 16 → Wrt w2 wr (w.heap.size + 1) (.slice none 0 0) v → wr.cell? ⟨s, k * 7, none⟩ = some (.int .i64 0) ∧ wr.cell? ⟨s, k * 7 + 1, none⟩ = some (.bool false) ∧ wr.cell? ⟨s, k * 7 + 2, none⟩ = some (.int .i64 0) ∧ wr.cell? ⟨s, k * 7 + 3, none⟩ = some (.int .i64 0) ∧ wr.cell? ⟨s, k * 7 + 4, none⟩ = some (.int .i64 0) ∧ wr.cell? ⟨s, k * 7 + 5, none⟩ = some (.int .i64 0) ∧ wr.cell? ⟨s, k * 7 + 6, none⟩ = some (.slice none 0 0)) := hide fun wr v k hk h => by
    obtain ⟨z0, z1, z2, z3, z4, z5, z6⟩ := slot_cells (HS0.out.below hb2') k hk
    exact ⟨h.cell z0 (by simp; omega), h.cell z1 (by simp; omega), h.cell z2 (by simp; omega), h.cell z3 (by simp; omega), h.cell z4 (by simp; omega), h.cell z5 (by simp; omega), h.cell z6 (by simp; omega)⟩
  clear d0 d1 d2 d3 d4 d5 d6 e0 e1 e2 e3 e4 e5 e6 f0 f1 f2 f3 f4 f5 f6 hf4 hp4 hf3 hp3
  go_wp2
  rw [rounds_succ]
  go_wp2
  go_loopg [6, 7, 8] 16 (fun gk k _ _ wr => ∃ n : Nat, ∃ v' : Value, gk = 16 - n ∧ n ≤ 16 ∧ k = .int .i64 n ∧ Hid (WAt tPg wr (w.heap.size + 1) v' (frozenHead ++ slotBytes n)) ∧ Hid (Wrt w2 wr (w.heap.size + 1) (.slice none 0 0) v'))
  case atStart => exact ⟨0, v5, rfl, by decide, rfl, hp5, hf5⟩
  case round =>
    obtain ⟨n, v', hgk, hn, rfl, hpn, hfn⟩ := hrel
    have HGK := hide hgk
    clear hgk
    have hplw := hpn.out.blk.lt
    by_cases hlt : n < 16
    · have cM := HM.out wr v' hfn.out
      obtain ⟨z0, z1, z2, z3, z4, z5, z6⟩ := HS1.out wr v' n hlt hfn.out
      have hwrap : IntKind.i64.wrap ((n : Int) + 1) = (n : Int) + 1 := by simp [IntKind.wrap, IntKind.bits, IntKind.signed]; omega
      have hnek : wr.heap.size ≠ w.heap.size + 1 := by omega
      go_wp2_with (go_at_call 121; refine (num_k (w.heap.size + 1) (wr.heap.size + 1) 3 _ _ [0, 0, 0] _ (by exact hpn.out.below (by repeat (first | exact Below.refl _ _ | assumption | refine below_drewN ?_ _ | refine below_drew ?_ | refine below_alloc ?_ _ | refine below_set ?_ (by first | assumption | (simp; done) | (simp; omega)) _ | refine below_trans (by assumption) ?_))) (by exact Blk.newAt _ _ _ (by simp)) (by decide) (by decide) (by simp [slotBytes_len]; omega)).mono ?_; rintro e w7 ⟨rfl, v7, hq7, hw7, hk7⟩; have hx7 := (by exact hk7 _ _ _ (by exact Blk.alloc (Blk.new _ _ _) _) hnek (by decide) : Blk w7 wr.heap.size tSlot #[.int .i64 0, .bool false, .int .i64 0, .int .i64 0, .int .i64 0, .int .i64 0, .slice none 0 0]); have y2 := (by exact hx7.cell 2 : w7.cell? ⟨wr.heap.size, 2, none⟩ = some (.int .i64 0)); have hf7 := (by exact hide ((hfn.out.trans (Wrt.of _ _ (by repeat (first | exact Below.refl _ _ | assumption | refine below_drewN ?_ _ | refine below_drew ?_ | refine below_alloc ?_ _ | refine below_set ?_ (by first | assumption | (simp; done) | (simp; omega)) _ | refine below_trans (by assumption) ?_)))).trans hw7) : Hid (Wrt w2 w7 (w.heap.size + 1) (.slice none 0 0) v7)); have hp7 := hide hq7; clear hx7 hw7 hk7 hq7)
      go_roundg (16 - (n + 1))
      case rel => exact ⟨n + 1, v7, rfl, by omega, by go_num, hide (by have := hp7.out; simpa [slotBytes, numBytes] using this), hf7⟩
      case measure => have := HGK.out; omega
    · have hn16 : n = 16 := by omega
      subst hn16
      obtain ⟨S, hS⟩ : ∃ S, S = frozenHead ++ slotBytes 16 := ⟨_, rfl⟩
      have hSl : 0 < S.length := by rw [hS]; simp
      rw [← hS] at hpn
      have HSS := hide hS
      have hcv := hpn.out.blk.cell 0
      obtain ⟨g9, c9, rfl, hconv⟩ := hpn.out.own.conv hSl
      have hcv' : wr.cell? ⟨w.heap.size + 1, 0, none⟩ = some (.slice (some ⟨g9, 0, none⟩) S.length c9) := hcv
      clear hcv hS
      go_wp2
      go_ret
      exact ⟨by rw [← HSS.out]; rfl, hfn.out.below hb2' (by omega)⟩
end Go.Proofs.YtheampfoedhipaaGreatDoor
