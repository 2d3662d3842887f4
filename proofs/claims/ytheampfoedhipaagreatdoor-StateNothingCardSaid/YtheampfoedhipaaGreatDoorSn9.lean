/- Apply at an entry that opens a session of a zero machine. -/
import Derived.Test.YtheampfoedhipaaGreatDoorSn8
namespace Go.Proofs.YtheampfoedhipaaGreatDoor
open Go Go.RowKit
set_option maxRecDepth 100000

theorem RootAt.grown {w w' : World} {t b : Nat} {T : TypeId} {cs : Array Value} (h : RootAt w t) (hg : w.grownBy w' (some b)) (hb : Blk w b T cs) (hne : t ≠ b) : RootAt w' t := by
  obtain ⟨m, hm, hc⟩ := h
  refine ⟨m, (hg.block m (Array.getElem?_eq_some_iff.1 hm).1 ?_).trans hm, (World.cell?_of_block (hg.block t (World.block_lt_of_cell? w _ hc) (by simp [hne]))).trans hc⟩
  intro e
  injection e with e
  subst e
  unfold Blk at hb
  rw [hm] at hb
  cases hb
theorem Apply_open (b : Nat) (w : World) (hb : Blk w b tMach zeroMachine) :
    Calls Tryz.prog 19 #[.pointer (some ⟨b, 0, none⟩), openEntry] w fun e w' => e = .returned (.tuple #[.agg #[.int .i64 1, .int .i64 0, .int .i64 0, .slice none 0 0], .slice none 0 0, .int .i64 0]) ∧
      w'.cell? ⟨b, 5, none⟩ = some (.int .i64 3) ∧ w'.cell? ⟨b, 1, none⟩ = some (.int .i64 1) ∧ (∃ t, w'.cell? ⟨b, 0, none⟩ = some (.pointer (some ⟨t, 0, none⟩)) ∧ RootAt w' t) ∧ w.grownBy w' (some b) := by
  have hlb := hb.lt
  have c0 : w.cell? ⟨b, 0, none⟩ = some (.pointer none) := hb.cell 0
  have c1 : w.cell? ⟨b, 1, none⟩ = some (.int .i64 0) := hb.cell 1
  have HB := hide hb
  clear hb
  go_enter Tryz.func19, Tryz.ntmps19
  go_wp2_with (first
    | (go_at_call 71; refine (mayBe_open _).mono ?_; rintro e w1 ⟨rfl, hb1⟩; have hb1' := (by exact below_trans (by repeat (first | exact Below.refl _ _ | assumption | refine below_drewN ?_ _ | refine below_drew ?_ | refine below_alloc ?_ _ | refine below_set ?_ (by first | assumption | (simp; done) | (simp; omega)) _ | refine below_trans (by assumption) ?_)) hb1 : Below w.heap.size w w1); have hx1 := (by exact ((Blk.new _ _ _).alloc _).below hb1 : Blk w1 w.heap.size tEntry openCells); have hr1 := (by exact (Blk.new1 _ _ _ _).below hb1 : Blk w1 (w.heap.size + 1) tReply #[.int .i64 0, .int .i64 0, .int .i64 0, .slice none 0 0]); have x0 := (by exact hx1.cell 0 : w1.cell? ⟨w.heap.size, 0, none⟩ = some (.int .i64 1)); have b0 := (by exact cell_keep hb1' c0 : w1.cell? ⟨b, 0, none⟩ = some (.pointer none)); have b1 := (by exact cell_keep hb1' c1 : w1.cell? ⟨b, 1, none⟩ = some (.int .i64 0))))
  go_region
  have hbd : Below w.heap.size w w1.drew := below_drew hb1'
  have hxd := hx1.drew
  have hrd := hr1.drew
  generalize w1.drew = X at hbd hxd hrd ⊢
  clear hb1 hb1' hx1 hr1 x0 b0 b1
  have hB := HB.out.below hbd
  have b0 : X.cell? ⟨b, 0, none⟩ = some (.pointer none) := hB.cell 0
  have x0 : X.cell? ⟨w.heap.size, 0, none⟩ = some (.int .i64 1) := hxd.cell 0
  have hmm := @run_makeMap Tryz.prog
  go_wp2_with (go_at_call 17; refine (treeNew_any _).mono ?_; rintro e w2 ⟨rfl, hw2⟩; have hr2 := (by rw [hw2]; exact root_new X : RootAt w2 (X.heap.size + 1)); have hb2 := (by rw [hw2]; exact below_tree X : Below X.heap.size X w2); clear hw2; have hV := (hB.below hb2).alloc (.map #[] 0); have v0 := (by exact hV.cell 0 : (w2.alloc (.map #[] 0)).cell? ⟨b, 0, none⟩ = some (.pointer none)); have v1 := (by exact hV.cell 1 : (w2.alloc (.map #[] 0)).cell? ⟨b, 1, none⟩ = some (.int .i64 0)); have v18 := (by exact hV.cell 18 : (w2.alloc (.map #[] 0)).cell? ⟨b, 18, none⟩ = some (.map none)); have vf := hV.free; have ve := ((hxd.below hb2).alloc (.map #[] 0)); have ve0 := (by exact ve.cell 0 : (w2.alloc (.map #[] 0)).cell? ⟨w.heap.size, 0, none⟩ = some (.int .i64 1)); have ve2 := (by exact ve.cell 2 : (w2.alloc (.map #[] 0)).cell? ⟨w.heap.size, 2, none⟩ = some (.int .i64 2)); have hneb : w.heap.size ≠ b := (by omega); have hneb' : b ≠ w.heap.size := (by omega))
  obtain ⟨tr, htr⟩ : ∃ tr, tr = X.heap.size + 1 := ⟨_, rfl⟩
  rw [← htr] at hr2 ⊢
  have hYb := ((hV.set 0 (.pointer (some ⟨tr, 0, none⟩))).set 18 (.map (some w2.heap.size))).set 1 (.int .i64 1)
  have hgY : (w2.alloc (.map #[] 0)).grownBy ((((w2.alloc (.map #[] 0)).setCell ⟨b, 0, none⟩ (.pointer (some ⟨tr, 0, none⟩))).setCell ⟨b, 18, none⟩ (.map (some w2.heap.size))).setCell ⟨b, 1, none⟩ (.int .i64 1)) (some b) := ((grown_set (w2.alloc (.map #[] 0)) b 0 _).trans (grown_set _ b 18 _)).trans (grown_set _ b 1 _)
  generalize ((((w2.alloc (.map #[] 0)).setCell ⟨b, 0, none⟩ (.pointer (some ⟨tr, 0, none⟩))).setCell ⟨b, 18, none⟩ (.map (some w2.heap.size))).setCell ⟨b, 1, none⟩ (.int .i64 1)) = Y at hYb hgY ⊢
  have hzX := hbd.size
  have hz2 := hb2.size
  have hYe := ve.grown hgY (by simp [hneb])
  have hYr := ((hrd.below hb2).alloc (.map #[] 0)).grown hgY (by simp; omega)
  have hYm : Y.heap[w2.heap.size]? = some (.map #[] 0) := (hgY.block _ (by simp) (by simp; omega)).trans (heap_alloc_new _ _)
  have hYt : RootAt Y tr := (hr2.below (below_alloc (Below.refl _ _) _)).grown hgY hV (by omega)
  have hbY : b < Y.heap.size := hYb.lt
  refine (does_open Y).mono ?_
  rintro e w3 ⟨rfl, hb3⟩
  have hwe := hYe.below hb3
  have hwb := hYb.below hb3
  have hwr := hYr.below hb3
  have hz3 := hb3.size
  have hYlt := hYe.lt
  have hYrlt := hYr.lt
  have hYmlt := (Array.getElem?_eq_some_iff.1 hYm).1
  have hrdlt := hrd.lt
  go_wp2_with (first
    | (refine wpList_store0 rfl 155 (.tmp 7) (.tmp 63) rfl w3.heap.size _ rfl rfl Tryz.sizeOf155 155 _ (Blk.new _ _ _) rfl (by simp [Value.oneCell']) ?_; intro w4 hx4 hg4; have d0 := (by exact hx4.cell 0 : w4.cell? ⟨w3.heap.size, 0, none⟩ = some beginFn); have hee := (hwe.alloc _).grown hg4 (by simp; omega); have e0 := (by exact hee.cell 0 : w4.cell? ⟨w.heap.size, 0, none⟩ = some (.int .i64 1)); have e1 := (by exact hee.cell 1 : w4.cell? ⟨w.heap.size, 1, none⟩ = some (.int .i64 1)); have e2 := (by exact hee.cell 2 : w4.cell? ⟨w.heap.size, 2, none⟩ = some (.int .i64 2)); have e3 := (by exact hee.cell 3 : w4.cell? ⟨w.heap.size, 3, none⟩ = some (.int .i64 3)); have e4 := (by exact hee.cell 4 : w4.cell? ⟨w.heap.size, 4, none⟩ = some (.int .i64 0)); have e5 := (by exact hee.cell 5 : w4.cell? ⟨w.heap.size, 5, none⟩ = some (.slice none 0 0))))
  have hbb := (hwb.alloc (.cells #[.nilFunc] 155)).grown hg4 (by simp; omega)
  have hrr := (hwr.alloc (.cells #[.nilFunc] 155)).grown hg4 (by have := hwr.lt; simp; omega)
  have hmm4 : w4.heap[w2.heap.size]? = some (.map #[] 0) :=
    (hg4.block _ (by have := (Array.getElem?_eq_some_iff.1 hYm).1; simp; omega) (by have := (Array.getElem?_eq_some_iff.1 hYm).1; simp; omega)).trans ((heap_alloc_old _ _ (by have := (Array.getElem?_eq_some_iff.1 hYm).1; omega)).trans ((hb3.block _ (Array.getElem?_eq_some_iff.1 hYm).1).trans hYm))
  refine (begin_walk b w2.heap.size w4 (by exact hbb.cell 5) (hbb.free 5) (by exact hbb.cell 18) hmm4 (by omega)).mono ?_
  rintro e w5 ⟨rfl, hos, htape, hout, hsz, hc5, hci, hblk⟩
  have hr5 : Blk w5 (w.heap.size + 1) tReply #[.int .i64 0, .int .i64 0, .int .i64 0, .slice none 0 0] := (hblk _ hrr.lt (by omega) (by omega)).trans hrr
  have hr5lt := hr5.lt
  go_wp2_with (refine wpList_store0 rfl tReply (.tmp 4) (.tmp 73) rfl (w.heap.size + 1) _ rfl rfl Tryz.sizeOf39 tReply _ (hr5.alloc _) rfl (by simp [Value.oneCell']) ?_; intro w6 hx6 hg6)
  refine bodyPost_ret (res_ctt rfl _ _ (w.heap.size + 1) tReply _ _ _ (by simp) hx6 Tryz.underlying39 rfl (by kernel_rfl)) rfl ?_
  have hlb4 := hbb.lt
  have h65 : ∀ g, g < w5.heap.size → g ≠ w.heap.size + 1 → w6.heap[g]? = w5.heap[g]? := fun g hg hne => (hg6.block g (by simp; omega) (by simp [hne])).trans (heap_alloc_old _ _ hg)
  have hcb : ∀ i, w6.cell? ⟨b, i, none⟩ = w5.cell? ⟨b, i, none⟩ := fun i => World.cell?_of_block (h65 b (by omega) (by omega))
  have h64 : ∀ g, g < w3.heap.size → g ≠ b → g ≠ w2.heap.size → g ≠ w.heap.size + 1 → w6.heap[g]? = w3.heap[g]? := fun g hg h1 h2 h3 => by
    have hz4 := hg4.size
    simp only [World.size_alloc] at hz4
    exact (h65 g (by omega) h3).trans ((hblk g (by omega) h1 h2).trans ((hg4.block g (by simp; omega) (by simp; omega)).trans (heap_alloc_old _ _ hg)))
  have hRt : RootAt w6 tr := by
    obtain ⟨m0, hm0, hc0⟩ := hYt.below hb3
    have htl := World.block_lt_of_cell? w3 _ hc0
    have hml := (Array.getElem?_eq_some_iff.1 hm0).1
    refine ⟨m0, (h64 m0 hml ?_ ?_ ?_).trans hm0, (World.cell?_of_block (h64 tr htl (by omega) ?_ (by omega))).trans hc0⟩
    · rintro rfl; unfold Blk at hwb; rw [hm0] at hwb; cases hwb
    · rintro rfl; have := (hb3.block _ hYmlt).trans hYm; rw [hm0] at this; cases this
    · rintro rfl; unfold Blk at hwr; rw [hm0] at hwr; cases hwr
    · rintro rfl; have := (hb3.block _ hYmlt).trans hYm; simp [World.cell?, this] at hc0
  have hz4 := hg4.size
  simp only [World.size_alloc] at hz4
  have hz6 := hg6.size
  simp only [World.size_alloc] at hz6
  have hzY := hgY.size
  simp only [World.size_alloc] at hzY
  refine ⟨rfl, (hcb 5).trans hc5, (hcb 1).trans ((hci 1 (by decide)).trans (hbb.cell 1)), ⟨tr, (hcb 0).trans ((hci 0 (by decide)).trans (hbb.cell 0)), hRt⟩, ?_⟩
  refine ⟨hg6.os.trans (hos.trans (hg4.os.trans (hb3.os.trans (hgY.os.trans (hb2.os.trans hbd.os))))), hg6.tape.trans (htape.trans (hg4.tape.trans (hb3.tape.trans (hgY.tape.trans (hb2.tape.trans hbd.tape))))), hg6.output.trans (hout.trans (hg4.output.trans (hb3.output.trans (hgY.output.trans (hb2.output.trans hbd.output))))), by omega, fun g hg hne => ?_⟩
  have hgb : g ≠ b := by intro e; exact hne (by rw [e])
  exact (h64 g (by omega) hgb (by omega) (by omega)).trans ((hb3.block g (by omega)).trans ((hgY.block g (by simp; omega) hne).trans ((heap_alloc_old _ _ (by omega)).trans ((hb2.block g (by omega)).trans (hbd.block g hg)))))
end Go.Proofs.YtheampfoedhipaaGreatDoor
