/- Apply at an entry that opens a session of a zero machine. -/
import Derived.Test.YtheampfoedhipaaGreatDoorSn7
import Derived.Test.YtheampfoedhipaaGreatDoorFr1
namespace Go.Proofs.YtheampfoedhipaaGreatDoor
open Go Go.RowKit
set_option maxRecDepth 100000

theorem run_lookup_made {P : Program} {w : World} (t k e : TypeId) {q : IntKind} {m c : Nat} {x : Int} {z : Value} (ht : P.underlying t = some (.map k e)) (hk : P.underlying k = some (.int q)) (hb : w.heap[m]? = some (.map #[] c))
    (hz : (zeroValue e).run P w = .ok z w) : (Instr.lookup t (.map (some m)) (.int q x) true).run P w = .ok (.tuple #[z, .bool false]) w := by
  have hf : Instr.findNow (.int q) (.int q x) ([] : List MapEntry) 0 = some none := rfl
  have hc : (Instr.checkKey true 10000 k (.int q x)).run P w = .ok () w := MapKept.run_checkKey (k := .int q x) hk (by simp [MapKept.IsKey]) true 9999
  simp [Instr.lookup, run_underlying ht, MapKept.run_getObj_map hb, hc, MapKept.run_findKey hk hf, hz, Result.andThen]
theorem run_mapUpdate_int {P : Program} {w : World} (mty kt et : TypeId) (r clock : Nat) {q : IntKind} (x : Int) (val : Value) (hm : P.underlying mty = some (.map kt et)) (hk : P.underlying kt = some (.int q)) (hb : w.heap[r]? = some (.map #[] clock)) :
    (Instr.mapUpdate mty (.map (some r)) (.int q x) val).run P w = .ok () { w with heap := w.heap.setIfInBounds r (.map #[{ key := .int q x, val := val, born := clock }] (clock + 1)) } := by
  have hf : Instr.findNow (.int q) (.int q x) ([] : List MapEntry) 0 = some none := rfl
  have hc : (Instr.checkKey false 10000 kt (.int q x)).run P w = .ok () w := MapKept.run_checkKey (k := .int q x) hk (by simp [MapKept.IsKey]) false 9999
  simp [Instr.mapUpdate, run_underlying hm, MapKept.run_getObj_map hb, hc, MapKept.run_findKey hk hf, MapKept.run_setObj_map _ hb, Result.andThen]
theorem run_mapUpdate_u {P : Program} {w : World} (mty kt et : TypeId) (r clock : Nat) {q : IntKind} (x : Int) (val : Value) (hm : P.underlying mty = some (.map kt et)) (hk : P.underlying kt = some (.int q)) (hb : w.heap[r]? = some (.map #[] clock)) :
    ∃ U : World, (Instr.mapUpdate mty (.map (some r)) (.int q x) val).run P w = .ok () U ∧ w.grownBy U (some r) :=
  ⟨_, run_mapUpdate_int mty kt et r clock x val hm hk hb, ⟨rfl, rfl, rfl, by simp, fun i _ hne => Array.getElem?_setIfInBounds_ne (by intro e; exact hne (by rw [e]))⟩⟩
abbrev tMach : TypeId := 111

theorem begin_walk (b m : Nat) (w : World) (h5 : w.cell? ⟨b, 5, none⟩ = some (.int .i64 0)) (f5 : w.frozen? ⟨b, 5, none⟩ = false) (h18 : w.cell? ⟨b, 18, none⟩ = some (.map (some m))) (hm : w.heap[m]? = some (.map #[] 0)) (hmb : m ≠ b) :
    Calls Tryz.prog 141 #[.pointer (some ⟨b, 0, none⟩), openEntry] w fun e w' => e = .returned (.tuple #[.agg #[.int .i64 1, .int .i64 0, .int .i64 0, .slice none 0 0], .slice none 0 0]) ∧
      w'.os = w.os ∧ w'.tape = w.tape ∧ w'.output = w.output ∧ w.heap.size ≤ w'.heap.size ∧ w'.cell? ⟨b, 5, none⟩ = some (.int .i64 3) ∧ (∀ i, i ≠ 5 → w'.cell? ⟨b, i, none⟩ = w.cell? ⟨b, i, none⟩) ∧ (∀ g, g < w.heap.size → g ≠ b → g ≠ m → w'.heap[g]? = w.heap[g]?) := by
  have hlb : b < w.heap.size := World.block_lt_of_cell? w _ h5
  have hlm : m < w.heap.size := (Array.getElem?_eq_some_iff.1 hm).1
  have HL := fun (w1 : World) (x : Int) (h : w1.heap[m]? = some (.map #[] 0)) => run_lookup_made (P := Tryz.prog) (x := x) 109 3 _ Tryz.underlying109 Tryz.underlying3 h (Tryz.zeroValue208 w1)
  go_enter Tryz.func141, Tryz.ntmps141
  go_wp2
  go_region
  go_wp2
  have hbX : Below w.heap.size w ((w.alloc (.cells openCells tEntry)).alloc (.cells #[.int .i64 0, .int .i64 0, .int .i64 0, .slice none 0 0] tReply)).drew := (by exact (by repeat (first | exact Below.refl _ _ | assumption | refine below_drewN ?_ _ | refine below_drew ?_ | refine below_alloc ?_ _ | refine below_set ?_ (by first | assumption | (simp; done) | (simp; omega)) _ | refine below_trans (by assumption) ?_)))
  have hxe : Blk ((w.alloc (.cells openCells tEntry)).alloc (.cells #[.int .i64 0, .int .i64 0, .int .i64 0, .slice none 0 0] tReply)).drew w.heap.size tEntry openCells := ((Blk.new _ _ _).alloc _).drew
  have hxr : Blk ((w.alloc (.cells openCells tEntry)).alloc (.cells #[.int .i64 0, .int .i64 0, .int .i64 0, .slice none 0 0] tReply)).drew (w.heap.size + 1) tReply #[.int .i64 0, .int .i64 0, .int .i64 0, .slice none 0 0] := (Blk.new1 _ _ _ _).drew
  generalize ((w.alloc (.cells openCells tEntry)).alloc (.cells #[.int .i64 0, .int .i64 0, .int .i64 0, .slice none 0 0] tReply)).drew = X at hbX hxe hxr ⊢
  have x18 := cell_keep hbX h18
  have x5 := cell_keep hbX h5
  have xf5 : X.frozen? ⟨b, 5, none⟩ = false := ((bcell hbX).2 _ _ hlb).trans f5
  have xm := (hbX.block m hlm).trans hm
  have e3 : X.cell? ⟨w.heap.size, 3, none⟩ = some (.int .i64 3) := hxe.cell 3
  have e0 : X.cell? ⟨w.heap.size, 0, none⟩ = some (.int .i64 1) := hxe.cell 0
  have l1 := HL X.drew 3 xm
  have l2 := fun o => HL (X.alloc o).drew 3 ((heap_alloc_old X o (Array.getElem?_eq_some_iff.1 xm).1).trans xm)
  have y18 := fun o => cell_alloc o x18
  have y3 := fun o => cell_alloc o e3
  go_region
  have hXe := hxe
  have hXr := hxr
  have hbY : Below X.heap.size X (X.alloc (.cells #[.int .i64 0, .int .i64 0, .int .i64 0, .int .i64 0, .slice none 0 0] 208)).drew := (by exact (by repeat (first | exact Below.refl _ _ | assumption | refine below_drewN ?_ _ | refine below_drew ?_ | refine below_alloc ?_ _ | refine below_set ?_ (by first | assumption | (simp; done) | (simp; omega)) _ | refine below_trans (by assumption) ?_)))
  have hwY := below_trans hbX hbY
  have heY := hXe.below hbY
  have hrY := hXr.below hbY
  generalize (X.alloc (.cells #[.int .i64 0, .int .i64 0, .int .i64 0, .int .i64 0, .slice none 0 0] 208)).drew = Y at hbY hwY heY hrY ⊢
  have hYe := heY
  have hYr := hrY
  clear hbY
  have hbY := hwY
  have Y18 := cell_keep hbY h18
  have Y5 := cell_keep hbY h5
  have Yf5 : Y.frozen? ⟨b, 5, none⟩ = false := ((bcell hbY).2 _ _ hlb).trans f5
  have Ym := (hbY.block m hlm).trans hm
  have Ye3 : Y.cell? ⟨w.heap.size, 3, none⟩ = some (.int .i64 3) := hYe.cell 3
  have Ye0 : Y.cell? ⟨w.heap.size, 0, none⟩ = some (.int .i64 1) := hYe.cell 0
  clear l1 l2 y18 y3 x18 x5 xf5 xm e3 e0 hxe hxr
  go_wp2
  go_region
  go_wp2
  have l1 := HL Y.drew.drew 0 Ym
  have l2 := fun o => HL (Y.alloc o).drew.drew 0 ((heap_alloc_old Y o (Array.getElem?_eq_some_iff.1 Ym).1).trans Ym)
  have y18 := fun o => cell_alloc o Y18
  have y5 := fun o => cell_alloc o Y5
  go_region
  have hbZ : Below Y.heap.size Y (Y.alloc (.cells #[.int .i64 0, .int .i64 0, .int .i64 0, .int .i64 0, .slice none 0 0] 208)).drew.drew := (by exact (by repeat (first | exact Below.refl _ _ | assumption | refine below_drewN ?_ _ | refine below_drew ?_ | refine below_alloc ?_ _ | refine below_set ?_ (by first | assumption | (simp; done) | (simp; omega)) _ | refine below_trans (by assumption) ?_)))
  have hwZ := below_trans hbY hbZ
  have heZ := hYe.below hbZ
  have hrZ := hYr.below hbZ
  generalize (Y.alloc (.cells #[.int .i64 0, .int .i64 0, .int .i64 0, .int .i64 0, .slice none 0 0] 208)).drew.drew = Z at hbZ hwZ heZ hrZ ⊢
  have hZe := heZ
  have hZr := hrZ
  clear hbZ
  have hbZ := hwZ
  have Z18 := cell_keep hbZ h18
  have Z5 := cell_keep hbZ h5
  have Zf5 : Z.frozen? ⟨b, 5, none⟩ = false := ((bcell hbZ).2 _ _ hlb).trans f5
  have Zm := (hbZ.block m hlm).trans hm
  have Ze3 : Z.cell? ⟨w.heap.size, 3, none⟩ = some (.int .i64 3) := hZe.cell 3
  have Ze0 : Z.cell? ⟨w.heap.size, 0, none⟩ = some (.int .i64 1) := hZe.cell 0
  clear l1 l2 y18 y5 Y18 Y5 Yf5 Ym Ye3 Ye0
  go_wp2
  have hV18 : (Z.setCell ⟨b, 5, none⟩ (.int .i64 3)).cell? ⟨b, 18, none⟩ = some (.map (some m)) := (World.cell?_setCell_other _ _ _ _ (by simp)).trans Z18
  have hVm : (Z.setCell ⟨b, 5, none⟩ (.int .i64 3)).heap[m]? = some (.map #[] 0) := (Below.heap_setCell Z ⟨b, 5, none⟩ _ m hmb).trans Zm
  have hVe := hZe.far (p := ⟨b, 5, none⟩) (by simp; omega) (.int .i64 3)
  have hVr := hZr.far (p := ⟨b, 5, none⟩) (by simp; omega) (.int .i64 3)
  have V3 : (Z.setCell ⟨b, 5, none⟩ (.int .i64 3)).cell? ⟨w.heap.size, 3, none⟩ = some (.int .i64 3) := hVe.cell 3
  obtain ⟨U, hup, hgU⟩ := run_mapUpdate_u (P := Tryz.prog) (w := (Z.setCell ⟨b, 5, none⟩ (.int .i64 3)).drew) 109 3 _ m 0 3 (.agg #[.int .i64 0, .int .i64 0, .int .i64 0, .int .i64 0, .slice none 0 0]) Tryz.underlying109 Tryz.underlying3 hVm
  go_region
  have hUe : Blk U w.heap.size tEntry openCells := hVe.drew.grown hgU (by simp; omega)
  have hUr : Blk U (w.heap.size + 1) tReply #[.int .i64 0, .int .i64 0, .int .i64 0, .slice none 0 0] := hVr.drew.grown hgU (by simp; omega)
  have U0 : U.cell? ⟨w.heap.size, 0, none⟩ = some (.int .i64 1) := hUe.cell 0
  go_wp2_with (refine wpList_store0 rfl tReply (.tmp 4) (.tmp 66) rfl (w.heap.size + 1) _ rfl rfl Tryz.sizeOf39 tReply _ hUr rfl (by simp [Value.oneCell']) ?_; intro w9 hx9 hg9)
  refine bodyPost_ret (res_ct rfl _ _ (w.heap.size + 1) tReply _ _ _ (by simp) hx9 Tryz.underlying39 rfl (by kernel_rfl)) rfl ?_
  have hblk : ∀ g, g < w.heap.size → g ≠ m → w9.heap[g]? = (Z.setCell ⟨b, 5, none⟩ (.int .i64 3)).heap[g]? := fun g hg hm' =>
    (hg9.block g (by have := hUe.lt; omega) (by simp; omega)).trans (hgU.block g (by have := hbZ.size; simp; omega) (by simp [hm']))
  have hcl : ∀ i, w9.cell? ⟨b, i, none⟩ = (Z.setCell ⟨b, 5, none⟩ (.int .i64 3)).cell? ⟨b, i, none⟩ := fun i => World.cell?_of_block (hblk b hlb (by omega))
  refine ⟨rfl, hg9.os.trans (hgU.os.trans hbZ.os), hg9.tape.trans (hgU.tape.trans hbZ.tape), hg9.output.trans (hgU.output.trans hbZ.output), by have := hUe.lt; have := hg9.size; omega, (hcl 5).trans (World.cell?_setCell_same _ _ _ Z5), fun i hi => (hcl i).trans ((World.cell?_setCell_other _ _ _ _ (by simp <;> omega)).trans ((bcell hbZ).1 b i hlb)), fun g hg hgb hgm => (hblk g hg hgm).trans ((Below.heap_setCell Z ⟨b, 5, none⟩ _ g hgb).trans (hbZ.block g hg))⟩
end Go.Proofs.YtheampfoedhipaaGreatDoor
