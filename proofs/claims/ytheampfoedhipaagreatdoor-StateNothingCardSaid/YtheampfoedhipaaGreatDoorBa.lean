/- Small words that all walks use: hidden facts, quiet calls behind draws, reading of rows. -/
import Derived.WalkKit
import Derived.KernelRfl
import Derived.Below
import Derived.Outline
import Derived.WalkSpells
import Derived.WalkLawsBesides
import Derived.Deep.QuietTactic
import Derived.BigQuiet
import Derived.Lib.Hide
import Derived.Deep.DeepFit
import Derived.Deep.DeepCutAuto
import Derived.Deep.Draws
import Derived.Deep.AppendLies
import Derived.Maps.AppendAt
import Derived.OwnWalk
import Derived.Laws.StructEq
import Derived.Test.YtheampfoedhipaaGreatDoorDt
namespace Go.Proofs.YtheampfoedhipaaGreatDoor
open Go Go.RowKit

theorem hide {p : Prop} (h : p) : Hid p := h

theorem quiet_add {P : Program} {f : FuncId} {args : Array Value} {w : World} {a n : Nat} {v : Value}
    (h : Calls P f args (w.drewN (a + n)) fun e w' => e = .returned v ∧ ∃ m, w' = (w.drewN (a + n)).drewN m) :
    Calls P f args (w.drewN (a + n)) fun e w'' => e = .returned v ∧ ∃ m, w'' = w.drewN (a + m) :=
  h.mono fun _ _ ⟨he, m, hm⟩ => ⟨he, n + m, by rw [hm, World.drewN_drewN, Nat.add_assoc]⟩
theorem quiet_one {P : Program} {f : FuncId} {args : Array Value} {w : World} {n : Nat} {v : Value}
    (h : Calls P f args (w.drewN n) fun e w' => e = .returned v ∧ ∃ m, w' = (w.drewN n).drewN m) :
    Calls P f args (w.drewN n) fun e w'' => e = .returned v ∧ ∃ m, w'' = w.drewN m :=
  h.mono fun _ _ ⟨he, m, hm⟩ => ⟨he, n + m, by rw [hm, World.drewN_drewN]⟩
theorem ret_int {k : IntKind} {a b : Int} (h : a = b) : Ending.returned (.int k a) = .returned (.int k b) := by rw [h]
theorem ret_bool {a b : Bool} (h : a = b) : Ending.returned (.bool a) = .returned (.bool b) := by rw [h]

/-- A text as the model holds it. -/
abbrev B (s : Str) : ByteArray := ⟨s.toArray⟩
theorem B_size (s : Str) : (B s).size = s.length := by simp [ByteArray.size]
theorem B_of (a : ByteArray) : B a.data.toList = a := by cases a; simp
theorem B_list (s : Str) : (B s).data.toList = s := by simp
theorem toList_data (a : ByteArray) : a.toList = a.data.toList := ByteArray.toList_eq a

/-! Rows that are read: 'Rd k enc w v l': the slice value v reads, in w, as the list l of records of k cells. -/
section
variable {α : Type} {k : Nat} {enc : α → List Value} {w w' : World} {v : Value} {l : List α}
def RowAt (k : Nat) (enc : α → List Value) (w : World) (g o : Nat) (l : List α) : Prop :=
  ∀ j x, l[j]? = some x → ∀ i u, (enc x)[i]? = some u → w.cell? ⟨g, o + j * k + i, none⟩ = some u
def Rd (k : Nat) (enc : α → List Value) (w : World) (v : Value) (l : List α) : Prop :=
  ∃ A c, v = .slice A l.length c ∧ l.length ≤ c ∧ c ≤ 9223372036854775807 ∧ (0 < l.length → ∃ g o, A = some ⟨g, o, none⟩ ∧ g < w.heap.size ∧ RowAt k enc w g o l)
theorem RowAt.keep {g o : Nat} (h : RowAt k enc w g o l) (hk : ∀ i, w'.cell? ⟨g, i, none⟩ = w.cell? ⟨g, i, none⟩) : RowAt k enc w' g o l :=
  fun j x hx i u hu => (hk _).trans (h j x hx i u hu)
theorem Rd.keep (h : Rd k enc w v l) (hs : w.heap.size ≤ w'.heap.size) (hk : ∀ g, g < w.heap.size → w'.heap[g]? = w.heap[g]?) : Rd k enc w' v l := by
  obtain ⟨A, c, rfl, h1, h2, h3⟩ := h
  refine ⟨A, c, rfl, h1, h2, fun hn => ?_⟩
  obtain ⟨g, o, rfl, hg, hr⟩ := h3 hn
  exact ⟨g, o, rfl, by omega, hr.keep fun i => World.cell?_of_block (w := w) (hk g hg)⟩
theorem Rd.below (h : Rd k enc w v l) (hb : Below w.heap.size w w') : Rd k enc w' v l := h.keep hb.size fun g hg => hb.block g hg
theorem Rd.nil : Rd k enc w (.slice none 0 0) ([] : List α) := ⟨none, 0, rfl, Nat.le_refl _, by omega, fun h => absurd h (by simp)⟩
theorem RowAt.at_ {g o : Nat} (h : RowAt k enc w g o l) {j : Nat} (hj : j < l.length) (i : Nat) {u : Value} (hu : (enc l[j])[i]? = some u) : w.cell? ⟨g, o + j * k + i, none⟩ = some u :=
  h j _ (List.getElem?_eq_getElem hj) i u hu
theorem RowAt.at0 {g o : Nat} (h : RowAt k enc w g o l) {j : Nat} (hj : j < l.length) {u : Value} (hu : (enc l[j])[0]? = some u) : w.cell? ⟨g, o + j * k, none⟩ = some u :=
  h j _ (List.getElem?_eq_getElem hj) 0 u hu
end

/-! '==' of structs. -/
section
variable {P : Program} {d : Nat} {xs ys : Array Value} {f : Field} {fs : List Field} {a b : Value} {r s : Bool} {w : World}
theorem eqf_last (hn : (f.name == "_") = false) (ha : (part f.type xs f.offset).run P w = .ok a w) (hb : (part f.type ys f.offset).run P w = .ok b w) (he : (Op.equalIn d f.type a b).run P w = .ok r w) : (Op.eqFields d xs ys [f]).run P w = .ok r w := by
  have hn' : f.name ≠ "_" := by simpa using hn
  simp only [Op.eqFields, if_pos hn', Sem.run_bind, ha, hb, he, Result.andThen_ok]
  cases r <;> simp
theorem eqf_cons (hn : (f.name == "_") = false) (ha : (part f.type xs f.offset).run P w = .ok a w) (hb : (part f.type ys f.offset).run P w = .ok b w) (he : (Op.equalIn d f.type a b).run P w = .ok r w) (hr : (Op.eqFields d xs ys fs).run P w = .ok s w) : (Op.eqFields d xs ys (f :: fs)).run P w = .ok (r && s) w := by
  have hn' : f.name ≠ "_" := by simpa using hn
  rw [Op.eqFields]
  simp only [if_pos hn', Sem.run_bind, ha, hb, he, Result.andThen_ok]
  cases r
  · simp
  · simpa using hr
theorem eqA_of {t : TypeId} {fs : Array Field} (hu : P.underlying t = some (.struct fs)) (hp : P.stoodInHeld t = false) (h : (Op.eqFields d xs ys fs.toList).run P w = .ok r w) : (Op.equalIn (d + 1) t (.agg xs) (.agg ys)).run P w = .ok r w := by
  have hf : P.fieldsOf t = fs := by simp [Program.fieldsOf, hu]
  rw [run_equalIn_struct (P := P) w d t xs ys (by rw [hf]; exact hu) hp, hf]
  exact h
end
theorem dec_and (p q : Prop) [Decidable p] [Decidable q] : (decide p && decide q) = decide (p ∧ q) := by simp

/-! How records lie in cells. -/
def encStr (s : Str) : List Value := [.string (B s)]
def encInt (n : Int) : List Value := [.int .i64 n]
def encSeen (x : Seen) : List Value := [.string (B x.place), .string (B x.data), .int .i64 x.version]
def encChange (x : Change) : List Value := [.int .i64 x.kind, .string (B x.place), .string (B x.data), .int .i64 x.version]
def encOp (x : Op_) : List Value := [.int .i64 x.kind, .string (B x.place), .string (B x.data), .int .i64 x.version, .int .i64 x.flags]
def encFull (x : Full) : List Value := [.string (B x.place), .string (B x.data), .int .i64 x.version, .int .i64 x.made, .int .i64 x.changed, .int .i64 x.owner, .int .i64 x.counter]

/-! Below: what a call makes of the world. -/
theorem below_drewN {b : Nat} {w w1 : World} (h : Below b w w1) (n : Nat) : Below b w (w1.drewN n) := ⟨h.os, h.tape, h.output, h.size, h.block⟩
theorem below_drew {b : Nat} {w w1 : World} (h : Below b w w1) : Below b w w1.drew := ⟨h.os, h.tape, h.output, h.size, h.block⟩
theorem below_alloc {w w1 : World} (h : Below w.heap.size w w1) (o : Obj) : Below w.heap.size w (w1.alloc o) := h.alloc h.size o
theorem below_set {w w1 : World} (h : Below w.heap.size w w1) {p : Addr} (hp : w.heap.size ≤ p.block) (u : Value) : Below w.heap.size w (w1.setCell p u) := h.setCell hp u
theorem below_trans {w w1 w2 : World} (h : Below w.heap.size w w1) (h2 : Below w1.heap.size w1 w2) : Below w.heap.size w w2 :=
  h.trans (h2.mono h.size)
theorem bcell {W w1 : World} (hb : Below W.heap.size W w1) : (∀ b o, b < W.heap.size → w1.cell? ⟨b, o, none⟩ = W.cell? ⟨b, o, none⟩) ∧ (∀ b o, b < W.heap.size → w1.frozen? ⟨b, o, none⟩ = W.frozen? ⟨b, o, none⟩) :=
  ⟨fun b o h => hb.cell (p := ⟨b, o, none⟩) h, fun b o h => hb.frozen (p := ⟨b, o, none⟩) h⟩
theorem cell_keep {w w1 : World} (hb : Below w.heap.size w w1) {a : Addr} {v : Value} (hc : w.cell? a = some v) : w1.cell? a = some v := (hb.cell (World.block_lt_of_cell? w a hc)).trans hc
theorem cell_alloc {w : World} {a : Addr} {v : Value} (o : Obj) (hc : w.cell? a = some v) : (w.alloc o).cell? a = some v := cell_keep (below_alloc (Below.refl _ _) o) hc

/-! A block of the call's own, known whole. -/
def Blk (w : World) (g : Nat) (t : TypeId) (cs : Array Value) : Prop := w.heap[g]? = some (.cells cs t (0, 0))
section
variable {w w' : World} {g : Nat} {t : TypeId} {cs : Array Value}
theorem Blk.lt (h : Blk w g t cs) : g < w.heap.size := (Array.getElem?_eq_some_iff.1 h).1
theorem Blk.cell (h : Blk w g t cs) (i : Nat) : w.cell? ⟨g, i, none⟩ = cs[i]? := cell_of_row w g i cs t (0, 0) h
theorem Blk.free (h : Blk w g t cs) (i : Nat) : w.frozen? ⟨g, i, none⟩ = false := by
  unfold Blk at h; simp [World.frozen?, h]
theorem Blk.new (w : World) (t : TypeId) (cs : Array Value) : Blk (w.alloc (.cells cs t)) w.heap.size t cs := heap_alloc_new w _
theorem Blk.new1 (w : World) (o : Obj) (t : TypeId) (cs : Array Value) : Blk ((w.alloc o).alloc (.cells cs t)) (w.heap.size + 1) t cs := by
  have h := Blk.new (w.alloc o) t cs
  rwa [show (w.alloc o).heap.size = w.heap.size + 1 by simp] at h
theorem Blk.drewN (h : Blk w g t cs) (n : Nat) : Blk (w.drewN n) g t cs := h
theorem Blk.drew (h : Blk w g t cs) : Blk w.drew g t cs := h
theorem Blk.alloc (h : Blk w g t cs) (o : Obj) : Blk (w.alloc o) g t cs := (Below.heap_alloc w o g h.lt).trans h
theorem Blk.set (h : Blk w g t cs) (i : Nat) (u : Value) : Blk (w.setCell ⟨g, i, none⟩ u) g t (cs.setIfInBounds i u) := by
  unfold Blk at h ⊢; simp [World.setCell, Array.getElem?_modify, h]
theorem Blk.far (h : Blk w g t cs) {p : Addr} (hp : g ≠ p.block) (u : Value) : Blk (w.setCell p u) g t cs := (Below.heap_setCell w p u g hp).trans h
theorem Blk.below (h : Blk w g t cs) (hb : Below w.heap.size w w') : Blk w' g t cs := (hb.block g h.lt).trans h
end
end Go.Proofs.YtheampfoedhipaaGreatDoor
