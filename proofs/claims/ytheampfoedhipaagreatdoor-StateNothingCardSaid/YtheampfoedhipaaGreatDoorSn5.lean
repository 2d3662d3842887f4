/- A machine that is none, and a zero one. -/
import Derived.Test.YtheampfoedhipaaGreatDoorSn4
import Derived.Maps.Keyed
namespace Go.Proofs.YtheampfoedhipaaGreatDoor
open Go Go.RowKit
set_option maxRecDepth 100000

abbrev zReply : Value := .agg #[.int .i64 0, .int .i64 0, .int .i64 0, .slice none 0 0]
abbrev tReply : TypeId := 39
theorem Last_nil (w : World) : Calls Tryz.prog 18 #[.pointer none] w fun e w' => e = .returned (.int .i64 0) ∧ w' = w := by
  go_enter Tryz.func18, Tryz.ntmps18
  go_wp2
  go_ret
  exact ⟨rfl, rfl⟩
theorem Last_at (b : Nat) (n : Int) (w : World) (h1 : w.cell? ⟨b, 1, none⟩ = some (.int .i64 n)) : Calls Tryz.prog 18 #[.pointer (some ⟨b, 0, none⟩)] w fun e w' => e = .returned (.int .i64 n) ∧ w' = w := by
  go_enter Tryz.func18, Tryz.ntmps18
  go_wp2
  go_ret
  exact ⟨rfl, rfl⟩
theorem Newest_nil (w : World) : Calls Tryz.prog 53 #[.pointer none, .int .i64 3] w fun e w' => e = .returned (.int .i64 0) ∧ w' = w := by
  go_enter Tryz.func53, Tryz.ntmps53
  go_wp2
  go_ret
  exact ⟨rfl, rfl⟩
theorem Newest_at (b : Nat) (n : Int) (w : World) (h : w.cell? ⟨b, 5, none⟩ = some (.int .i64 n)) : Calls Tryz.prog 53 #[.pointer (some ⟨b, 0, none⟩), .int .i64 3] w fun e w' => e = .returned (.int .i64 n) ∧ w' = w := by
  go_enter Tryz.func53, Tryz.ntmps53
  go_wp2
  go_ret
  exact ⟨rfl, rfl⟩
theorem Sessions_nil (w : World) : Calls Tryz.prog 54 #[.pointer none] w fun e w' => e = .returned (.slice none 0 0) ∧ w' = w := by
  go_enter Tryz.func54, Tryz.ntmps54
  go_wp2
  go_ret
  exact ⟨rfl, rfl⟩
theorem Freeze_nil (w : World) : Calls Tryz.prog 55 #[.pointer none] w fun e w' => e = .returned (.string ⟨#[]⟩) ∧ w' = w := by
  go_enter Tryz.func55, Tryz.ntmps55
  go_wp2
  go_ret
  exact ⟨rfl, rfl⟩
theorem MPart_nil (s : ByteArray) (k : Int) (w : World) : Calls Tryz.prog 26 #[.pointer none, .string s, .int .i64 k] w fun e w' => e = .returned (.tuple #[.agg #[.int .i64 0, .string ⟨#[]⟩, .int .i64 0, .slice none 0 0], .int .i64 1]) ∧ Below w.heap.size w w' := by
  go_enter Tryz.func26, Tryz.ntmps26
  go_wp2
  refine bodyPost_ret (res_ct rfl _ _ w.heap.size tShot_ _ _ _ (by simp) (heap_alloc_new _ _) Tryz.underlying56 rfl (by kernel_rfl)) rfl ?_
  exact ⟨rfl, (by repeat (first | exact Below.refl _ _ | assumption | refine below_drewN ?_ _ | refine below_drew ?_ | refine below_alloc ?_ _ | refine below_set ?_ (by first | assumption | (simp; done) | (simp; omega)) _ | refine below_trans (by assumption) ?_))⟩
theorem res_tct {P : Program} {fn : Func} {a p u : Tmp} {ty : TypeId} (h : fn.results = #[.tmp a, .cell p ty, .tmp u]) (tmps : Array Value) (w : World) (g : Nat) (t : TypeId) (cs : Array Value) (fr : Nat × Nat) (d : TypeDesc)
    (hp : tmps.getD p undef = .pointer (some ⟨g, 0, none⟩)) (hg : w.heap[g]? = some (.cells cs t fr))
    (hu : P.underlying ty = some d) (hd : (match d with | .struct _ | .array _ _ => true | _ => false) = true) (hi : (P.info? ty).map (·.size) = some cs.size) :
    (results fn tmps).run P w = .ok (.tuple #[tmps.getD a undef, .agg cs, tmps.getD u undef]) w := by
  have hp' : tmps[p]?.getD undef = .pointer (some ⟨g, 0, none⟩) := by simpa using hp
  simp [results, h, hp', asAddr, run_loadVar_row w g t ty cs fr d hg hu hd hi]
theorem res_ctt {P : Program} {fn : Func} {p a u : Tmp} {ty : TypeId} (h : fn.results = #[.cell p ty, .tmp a, .tmp u]) (tmps : Array Value) (w : World) (g : Nat) (t : TypeId) (cs : Array Value) (fr : Nat × Nat) (d : TypeDesc)
    (hp : tmps.getD p undef = .pointer (some ⟨g, 0, none⟩)) (hg : w.heap[g]? = some (.cells cs t fr))
    (hu : P.underlying ty = some d) (hd : (match d with | .struct _ | .array _ _ => true | _ => false) = true) (hi : (P.info? ty).map (·.size) = some cs.size) :
    (results fn tmps).run P w = .ok (.tuple #[.agg cs, tmps.getD a undef, tmps.getD u undef]) w := by
  have hp' : tmps[p]?.getD undef = .pointer (some ⟨g, 0, none⟩) := by simpa using hp
  simp [results, h, hp', asAddr, run_loadVar_row w g t ty cs fr d hg hu hd hi]
theorem Kept_nil (w : World) : Calls Tryz.prog 52 #[.pointer none, .int .i64 3] w fun e w' => e = .returned (.tuple #[.int .i64 0, zReply, .int .i64 81]) ∧ Below w.heap.size w w' := by
  go_enter Tryz.func52, Tryz.ntmps52
  go_wp2
  refine bodyPost_ret (res_tct rfl _ _ w.heap.size tReply _ _ _ (by simp) (heap_alloc_new _ _) Tryz.underlying39 rfl (by kernel_rfl)) rfl ?_
  exact ⟨rfl, (by repeat (first | exact Below.refl _ _ | assumption | refine below_drewN ?_ _ | refine below_drew ?_ | refine below_alloc ?_ _ | refine below_set ?_ (by first | assumption | (simp; done) | (simp; omega)) _ | refine below_trans (by assumption) ?_))⟩
theorem Apply_nil (e0 e1 e2 e3 e4 : Int) (X : Option Addr) (n c : Nat) (w : World) : Calls Tryz.prog 19 #[.pointer none, .agg #[.int .i64 e0, .int .i64 e1, .int .i64 e2, .int .i64 e3, .int .i64 e4, .slice X n c]] w fun e w' => e = .returned (.tuple #[zReply, .slice none 0 0, .int .i64 1]) ∧ Below w.heap.size w w' := by
  go_enter Tryz.func19, Tryz.ntmps19
  go_wp2
  refine bodyPost_ret (res_ctt rfl _ _ (w.heap.size + 1) tReply _ _ _ (by simp) (heap_new1 _ _ _) Tryz.underlying39 rfl (by kernel_rfl)) rfl ?_
  exact ⟨rfl, (by repeat (first | exact Below.refl _ _ | assumption | refine below_drewN ?_ _ | refine below_drew ?_ | refine below_alloc ?_ _ | refine below_set ?_ (by first | assumption | (simp; done) | (simp; omega)) _ | refine below_trans (by assumption) ?_))⟩

theorem run_lookup_none {P : Program} {w : World} (t k e : TypeId) {q : IntKind} {x : Int} {z : Value} (ht : P.underlying t = some (.map k e)) (hk : P.underlying k = some (.int q))
    (hz : (zeroValue e).run P w = .ok z w) : (Instr.lookup t (.map none) (.int q x) true).run P w = .ok (.tuple #[z, .bool false]) w := by
  have hf : Instr.findNow (.int q) (.int q x) ([] : List MapEntry) 0 = some none := rfl
  have hc : (Instr.checkKey true 10000 k (.int q x)).run P w = .ok () w := MapKept.run_checkKey (k := .int q x) hk (by simp [MapKept.IsKey]) true 9999
  simp [Instr.lookup, run_underlying ht, hc, MapKept.run_findKey hk hf, hz, Result.andThen]
theorem Kept_zero (b : Nat) (w : World) (h : w.cell? ⟨b, 18, none⟩ = some (.map none)) : Calls Tryz.prog 52 #[.pointer (some ⟨b, 0, none⟩), .int .i64 3] w fun e w' => e = .returned (.tuple #[.int .i64 0, zReply, .int .i64 81]) ∧ Below w.heap.size w w' := by
  have hlb : b < w.heap.size := World.block_lt_of_cell? w _ h
  have HL := fun (w1 : World) => run_lookup_none (P := Tryz.prog) (x := 3) 109 3 _ Tryz.underlying109 Tryz.underlying3 (Tryz.zeroValue208 w1)
  go_enter Tryz.func52, Tryz.ntmps52
  go_wp2
  refine bodyPost_ret (res_tct rfl _ _ w.heap.size tReply _ _ _ (by simp) ((heap_alloc_old _ _ (by simp)).trans (heap_alloc_new _ _)) Tryz.underlying39 rfl (by kernel_rfl)) rfl ?_
  exact ⟨rfl, (by repeat (first | exact Below.refl _ _ | assumption | refine below_drewN ?_ _ | refine below_drew ?_ | refine below_alloc ?_ _ | refine below_set ?_ (by first | assumption | (simp; done) | (simp; omega)) _ | refine below_trans (by assumption) ?_))⟩
end Go.Proofs.YtheampfoedhipaaGreatDoor
