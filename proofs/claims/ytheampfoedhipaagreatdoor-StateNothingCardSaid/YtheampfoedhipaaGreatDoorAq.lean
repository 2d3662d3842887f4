/- copy and append over blocks of the call's own, for records of k cells. -/
import Derived.Test.YtheampfoedhipaaGreatDoorBa
import Derived.Lib.AppendZeros
import Derived.Laws.CopyOwn
import Derived.Laws.IdiomCopy
import Derived.Lib.Overlaps
import Derived.Deep.RegionLaw
namespace Go.Proofs.YtheampfoedhipaaGreatDoor
open Go Go.RowKit
section
variable {P : Program}
def spl (cur : Array Value) (o : Nat) (cs : List Value) : Array Value := (cur.toList.take o ++ cs ++ cur.toList.drop (o + cs.length)).toArray
theorem spl_size {cur : Array Value} {o : Nat} {cs : List Value} (h : o + cs.length ≤ cur.size) : (spl cur o cs).size = cur.size := by
  simp [spl]; omega
theorem spl_in {cur : Array Value} {o : Nat} {cs : List Value} (h : o + cs.length ≤ cur.size) {j : Nat} (hj : j < cs.length) : (spl cur o cs)[o + j]? = cs[j]? := by
  have hz : cur.toList.length = cur.size := Array.length_toList
  have hl : (cur.toList.take o).length = o := by rw [List.length_take]; omega
  simp only [spl, List.getElem?_toArray, List.append_assoc]
  rw [List.getElem?_append_right (by omega), hl, Nat.add_sub_cancel_left, List.getElem?_append_left hj]
theorem spl_lo {cur : Array Value} {o : Nat} {cs : List Value} {j : Nat} (hj : j < o) : (spl cur o cs)[j]? = cur[j]? ∨ cur.size ≤ j := by
  by_cases h : j < cur.size
  · left
    simp only [spl, List.getElem?_toArray, List.append_assoc]
    rw [List.getElem?_append_left (by simp; omega), List.getElem?_take, if_pos hj, Array.getElem?_toList]
  · right; omega
theorem spl_hi {cur : Array Value} {o : Nat} {cs : List Value} (h : o + cs.length ≤ cur.size) {j : Nat} (hj : o + cs.length ≤ j) : (spl cur o cs)[j]? = cur[j]? := by
  have hz : cur.toList.length = cur.size := Array.length_toList
  have hl : (cur.toList.take o ++ cs).length = o + cs.length := by rw [List.length_append, List.length_take]; omega
  simp only [spl, List.getElem?_toArray]
  rw [List.getElem?_append_right (by omega), hl, List.getElem?_drop, Array.getElem?_toList]
  congr 1; omega
theorem Blk.setRow {w : World} {g : Nat} {t : TypeId} {cs : Array Value} (h : Blk w g t cs) (ds : Array Value) : Blk (w.setRow g ds) g t ds := setRow_heap w g cs ds t (0, 0) h
theorem Blk.setRow_far {w : World} {g g' : Nat} {t : TypeId} {cs : Array Value} (h : Blk w g t cs) (hne : g ≠ g') (ds : Array Value) : Blk (w.setRow g' ds) g t cs := (setRow_other w g' g ds hne).trans h
theorem below_setRow' {w w1 : World} (h : Below w.heap.size w w1) {g : Nat} (hg : w.heap.size ≤ g) (ds : Array Value) : Below w.heap.size w (w1.setRow g ds) := below_setRow h hg ds
theorem grown_setRow {w : World} {g : Nat} (ds : Array Value) : w.grownBy (w.setRow g ds) (some g) :=
  ⟨rfl, rfl, rfl, by simp [World.setRow], fun k _ hne => setRow_other w g k ds (fun e => hne (by rw [e]))⟩

theorem run_copyK (w : World) (dT sT ty elem : TypeId) (k g o dLen dCap : Nat) (a : Addr) (sLen sCap : Nat) (cur : Array Value) (t : TypeId) (cs : List Value)
    (hu : P.underlying dT = some (.slice elem)) (hs : (P.info? elem).map (·.size) = some k)
    (hg : Blk w g t cur) (hn : cs.length = Nat.min sLen dLen * k)
    (hsrc : ∀ j v, cs[j]? = some v → w.cell? (a.add j) = some v) (hfit : o + cs.length ≤ cur.size) (h1 : ∀ v ∈ cs, v.oneCell' = true) :
    (Builtin.copy_ #[dT, sT] ty #[.slice (some ⟨g, o, none⟩) dLen dCap, .slice (some a) sLen sCap]).run P w =
      .ok (goInt (Nat.min sLen dLen)) (w.setRow g (spl cur o cs)) := by
  have hl := run_loadCells_list (P := P) w a cs hsrc
  have hst := run_storeCells_at P g o t cs 0 cur w hg (by simpa using hfit) h1
  cases hq : P.info? elem with
  | none => simp [hq] at hs
  | some i =>
    have hi : i.size = k := by simpa [hq] using hs
    simp [Builtin.copy_, run_underlying hu, Builtin.lenOf, Builtin.firstCells, sizeOf, typeInfo, hq, hi, ← hn, hl, hst, spl]
theorem wp_copy_run (w : World) {o : Oper} {a : Act} {K : Act → World → Prop} {Q : Exit → Act → World → Prop} (d s : Operand) (t t' : TypeId)
    (ho : o.op = .call { callee := .builtin .copy, args := #[d, s], argTypes := #[t, t'] }) (v u : Value) (hd : a.eval d = v) (hs : a.eval s = u) {v' : Value} {w' : World}
    (hr : (Builtin.copy_ #[t, t'] o.type #[v, u]).run P w = .ok v' w') (h : K (a.put o.dst v') w') : o.wp P a w K Q := by
  unfold Oper.wp execOp
  simp only [ho, resolve, invoke, builtin, Sem.run_bind, Sem.run_pure, Result.andThen_ok, List.map_toArray, List.map_cons, List.map_nil, hd, hs, hr]
  exact h
theorem wpList_copy_run (w : World) {ops : Array Oper} {rest : List Oper} {o : Oper} {a : Act} {Q : Exit → Act → World → Prop} (hgd : o.guard = none) (d s : Operand) (t t' : TypeId)
    (ho : o.op = .call { callee := .builtin .copy, args := #[d, s], argTypes := #[t, t'] }) (v u : Value) (hd : a.eval d = v) (hs : a.eval s = u) {v' : Value} {w' : World}
    (hr : (Builtin.copy_ #[t, t'] o.type #[v, u]).run P w = .ok v' w') (h : wpList P ops Q rest (a.put o.dst v') w') : wpList P ops Q (o :: rest) a w :=
  wpList_plain hgd fun _ hK => wp_copy_run w d s t t' ho v u hd hs hr (hK _ _ h)
theorem step_copy_run {ops : Array Oper} {o : Oper} {a : Act} {w : World} {K : Act → World → Prop} {Q : Exit → Act → World → Prop} {E : Prop}
    (hg : o.guard = none) (d x : Operand) (dT sT : TypeId) (hop : o.op = Op.call { callee := Callee.builtin Builtin.copy, args := #[d, x], argTypes := #[dT, sT] })
    (v u : Value) (hd : a.eval d = v) (hx : a.eval x = u) {v' : Value} {w' : World} (hr : (Builtin.copy_ #[dT, sT] o.type #[v, u]).run P w = .ok v' w') (hK : K (a.put o.dst v') w') :
    if Region.wanted o (yielded ops a.tmps) = true then Oper.wp P o a w K Q else E := by
  have hw : Region.wanted o (yielded ops a.tmps) = true := by simp [Region.wanted, hg]
  rw [if_pos hw]
  unfold Oper.wp
  simp [execOp, hop, resolve, invoke, builtin, hd, hx, hr, Result.andThen]
  exact hK

/-- 'append(s[:n], make([]T, m)...)' where there is no room: a new row. -/
theorem run_append_zeros_grow (w : World) (t tn ty e : TypeId) (i : TypeInfo) (z : Value) (kn : IntKind) (k bytes : Nat) (ht : P.underlying t = some (.slice e)) (htn : P.underlying tn = some (.int kn)) (hi : P.info? e = some i) (hz : i.zero = some z)
    (hk : i.size = k) (hb : i.bytes = bytes) (hk0 : 0 < k) (a : Addr) (n c m : Nat) (hm : 0 < m) (hc : c < n + m) (hbig : (n + m) * bytes ≤ 140737488355328) (h63 : n + m ≤ 4611686018427387904) (cs : List Value) (hl : cs.length = n * k)
    (hcs : ∀ j v, cs[j]? = some v → w.cell? (a.add j) = some v) :
    (Builtin.append_ #[t, tn] ty #[.slice (some a) n c, .int .i64 m]).run P w =
      .ok (.slice (some ⟨w.heap.size, 0, none⟩) (n + m) (grownCap w (n + m) c e)) (w.drew.alloc (.cells (cs.toArray ++ Builtin.zeroCells z.cells m ++ Builtin.zeroCells z.cells (grownCap w (n + m) c e - (n + m))) e)) := by
  subst hk; subst hb
  have hl' := run_loadCells_list (P := P) w.drew a cs hcs
  have hw : IntKind.i64.wrap (m : Int) = m := by rw [IntKind.wrap_i64]; omega
  have hneg : ¬ ((m : Int) < 0) := by omega
  have h48i : ¬ (281474976710656 < (m : Int) * (i.bytes : Int)) := by
    rw [← Int.natCast_mul]
    have : m * i.bytes ≤ (n + m) * i.bytes := Nat.mul_le_mul_right _ (by omega)
    omega
  have hroom : ¬ (n + m ≤ c) := by omega
  have hns : ¬ (m * i.size = 0) := Nat.mul_ne_zero (by omega) (by omega)
  have h48 : ¬ (281474976710656 < Builtin.nextslicecap (n + m) c * i.bytes) := by have := growslice_fits hc hbig; omega
  have h63' : ¬ (9223372036854775807 < ((n : Int) + (m : Int))) := by omega
  rw [hl] at hl'
  simp [Builtin.append_, run_underlying ht, run_underlying htn, sizeOf, typeInfo, zeroValue, hi, hz, asInt, asIntOf, hw, hneg, hns, h63', h48, h48i, hroom, Builtin.firstCells, hl', Question.forced, newRow, grownCap]
end
end Go.Proofs.YtheampfoedhipaaGreatDoor
