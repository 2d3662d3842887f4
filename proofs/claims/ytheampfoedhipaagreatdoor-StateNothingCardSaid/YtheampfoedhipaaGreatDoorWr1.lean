/- Writers: bytes put one behind another into a struct's slice. -/
import Derived.Test.YtheampfoedhipaaGreatDoorAi
import Derived.Test.YtheampfoedhipaaGreatDoorAk
import Derived.Test.YtheampfoedhipaaGreatDoorRc
namespace Go.Proofs.YtheampfoedhipaaGreatDoor
open Go Go.RowKit
set_option maxRecDepth 100000

abbrev tU8 : TypeId := 5
abbrev byteVals (s : Str) : List Value := s.map fun b => Value.int .u8 (b.toNat : Int)
/-- A row of bytes of the call's own. -/
def OwnB (w : World) (v : Value) (s : Str) : Prop := w.ownsRow 0 tU8 1 v s.length (byteVals s)
theorem OwnB.nil (w : World) : OwnB w (.slice none 0 0) [] := ⟨rfl, .inl ⟨rfl, rfl⟩⟩
theorem OwnB.keep {w w' : World} {v : Value} {s : Str} (h : OwnB w v s) (hk : ∀ g, v.ownBlock = some g → w'.heap[g]? = w.heap[g]?) : OwnB w' v s := by
  obtain ⟨h1, ⟨rfl, h2⟩ | ⟨g, cap, cur, rfl, hb, hg, hc, hm, hs, ht⟩⟩ := h
  · exact ⟨h1, .inl ⟨rfl, h2⟩⟩
  · exact ⟨h1, .inr ⟨g, cap, cur, rfl, hb, (hk g rfl).trans hg, hc, hm, hs, ht⟩⟩
theorem OwnB.blk {w : World} {v : Value} {s : Str} (h : OwnB w v s) {g : Nat} (hg : v.ownBlock = some g) : ∃ cur, Blk w g tU8 cur := by
  obtain ⟨h1, ⟨rfl, h2⟩ | ⟨g', cap, cur, rfl, hb, hg', hc, hm, hs, ht⟩⟩ := h
  · cases hg
  · injection hg with hg; subst hg; exact ⟨cur, hg'⟩
theorem OwnB.lt {w : World} {v : Value} {s : Str} (h : OwnB w v s) {g : Nat} (hg : v.ownBlock = some g) : g < w.heap.size := (h.blk hg).elim fun _ hb => hb.lt
theorem OwnB.below {w w' : World} {v : Value} {s : Str} (h : OwnB w v s) (hb : Below w.heap.size w w') : OwnB w' v s := h.keep fun _ hg => hb.block _ (h.lt hg)
theorem OwnB.form {w : World} {v : Value} {s : Str} (h : OwnB w v s) (hl : 0 < s.length) : ∃ g cap, v = .slice (some ⟨g, 0, none⟩) s.length cap ∧ g < w.heap.size ∧ ∀ j u, (byteVals s)[j]? = some u → w.cell? ((⟨g, 0, none⟩ : Addr).add j) = some u := by
  obtain ⟨h1, ⟨rfl, h2⟩ | ⟨g, cap, cur, rfl, hb, hg, hc, hm, hs, ht⟩⟩ := h
  · omega
  · refine ⟨g, cap, rfl, Blk.lt hg, fun j u hu => ?_⟩
    have hj : j < s.length := by
      have := (List.getElem?_eq_some_iff.1 hu).1
      simpa using this
    rw [show (⟨g, 0, none⟩ : Addr).add j = ⟨g, j, none⟩ by unfold Addr.add; split <;> simp_all, Blk.cell hg, ← Array.getElem?_toList]
    rw [← ht, List.getElem?_take, if_pos (by omega)] at hu
    exact hu
theorem byteVals_one (s : Str) : ∀ u ∈ byteVals s, u.oneCell' = true := by
  intro u hu
  obtain ⟨b, _, rfl⟩ := List.mem_map.1 hu
  rfl

/-- What a writer's call leaves: all blocks but the writer's and the row's; the row stays or is new. -/
structure Wrt (w w' : World) (p : Nat) (v v' : Value) : Prop where
  os : w'.os = w.os
  tape : w'.tape = w.tape
  output : w'.output = w.output
  size : w.heap.size ≤ w'.heap.size
  block : ∀ i, i < w.heap.size → i ≠ p → some i ≠ v.ownBlock → w'.heap[i]? = w.heap[i]?
  row : v'.ownBlock = v.ownBlock ∨ ∃ g, v'.ownBlock = some g ∧ w.heap.size ≤ g
theorem Wrt.of {w w' : World} (p : Nat) (v : Value) (h : Below w.heap.size w w') : Wrt w w' p v v := ⟨h.os, h.tape, h.output, h.size, fun i hi _ _ => h.block i hi, .inl rfl⟩
theorem Wrt.trans {w w1 w2 : World} {p : Nat} {v v1 v2 : Value} (h : Wrt w w1 p v v1) (k : Wrt w1 w2 p v1 v2) : Wrt w w2 p v v2 := by
  refine ⟨k.os.trans h.os, k.tape.trans h.tape, k.output.trans h.output, Nat.le_trans h.size k.size, fun i hi hp hv => ?_, ?_⟩
  · refine (k.block i (Nat.lt_of_lt_of_le hi h.size) hp ?_).trans (h.block i hi hp hv)
    rcases h.row with e | ⟨g, e, hg⟩
    · rw [e]; exact hv
    · rw [e]; intro e'; injection e' with e'; omega
  · rcases k.row with e | ⟨g, e, hg⟩
    · rw [e]; exact h.row
    · exact .inr ⟨g, e, Nat.le_trans h.size hg⟩
/-- A writer at p: its slice v holds the bytes s. -/
structure WAt (T : TypeId) (w : World) (p : Nat) (v : Value) (s : Str) : Prop where
  blk : Blk w p T #[v]
  own : OwnB w v s
theorem WAt.below {T : TypeId} {w w' : World} {p : Nat} {v : Value} {s : Str} (h : WAt T w p v s) (hb : Below w.heap.size w w') : WAt T w' p v s := ⟨h.blk.below hb, h.own.below hb⟩
theorem WAt.ne {T : TypeId} {w : World} {p : Nat} {v : Value} {s : Str} (h : WAt T w p v s) (hT : T ≠ tU8) : some p ≠ v.ownBlock := by
  intro e
  obtain ⟨cur, hb⟩ := h.own.blk e.symm
  exact Blk.ne_ h.blk hb hT rfl
/-- Another block stands through a writer's call. -/
theorem Blk.wrt {w w' : World} {p g : Nat} {v v' : Value} {s : Str} {t : TypeId} {cs : Array Value} (h : Blk w g t cs) (hw : Wrt w w' p v v') (ho : OwnB w v s) (hp : g ≠ p) (ht : t ≠ tU8) : Blk w' g t cs :=
  (hw.block g h.lt hp (by intro e; obtain ⟨cur, hb⟩ := ho.blk e.symm; exact Blk.ne_ h hb ht rfl)).trans h
/-- The append's world with the writer's store behind it. -/
theorem WAt.put {T : TypeId} {w w1 : World} {p : Nat} {v v1 : Value} {s s1 : Str} (h : WAt T w p v s) (hT : T ≠ tU8) (hg : w.grownBy w1 v.ownBlock) (ho : OwnB w1 v1 s1) (hat : v1.ownBlock = v.ownBlock ∨ v1.ownBlock = some w.heap.size) :
    WAt T (w1.setCell ⟨p, 0, none⟩ v1) p v1 s1 ∧ Wrt w (w1.setCell ⟨p, 0, none⟩ v1) p v v1 := by
  have hb1 : Blk w1 p T #[v] := h.blk.grown hg (h.ne hT)
  have hne : some p ≠ v1.ownBlock := by
    intro e
    obtain ⟨cur, hb⟩ := ho.blk e.symm
    exact Blk.ne_ hb1 hb hT rfl
  refine ⟨⟨by simpa using hb1.set 0 v1, ho.keep fun g hg' => Below.heap_setCell w1 ⟨p, 0, none⟩ v1 g (by intro e; exact hne (by rw [hg', e]))⟩, ⟨hg.os, hg.tape, hg.output, by simpa using hg.size, fun i hi hp hv => (Below.heap_setCell w1 ⟨p, 0, none⟩ v1 i hp).trans (hg.block i hi hv), ?_⟩⟩
  rcases hat with e | e
  · exact .inl e
  · exact .inr ⟨_, e, Nat.le_refl _⟩
theorem Wrt.keep {w w' : World} {p : Nat} {v' : Value} (h : Wrt w w' p (.slice none 0 0) v') {i : Nat} (hi : i < w.heap.size) (hp : i ≠ p) : w'.heap[i]? = w.heap[i]? := h.block i hi hp (by simp [Value.ownBlock])
theorem Wrt.cell {w w' : World} {p : Nat} {v' : Value} (h : Wrt w w' p (.slice none 0 0) v') {a : Addr} {u : Value} (hc : w.cell? a = some u) (hp : a.block ≠ p) : w'.cell? a = some u :=
  (World.cell?_of_block (h.keep (World.block_lt_of_cell? w a hc) hp)).trans hc
theorem Wrt.below {w w2 w' : World} {p : Nat} {v' : Value} (h : Wrt w2 w' p (.slice none 0 0) v') (hb : Below w.heap.size w w2) (hp : w.heap.size ≤ p) : Below w.heap.size w w' :=
  ⟨h.os.trans hb.os, h.tape.trans hb.tape, h.output.trans hb.output, Nat.le_trans hb.size h.size, fun i hi => (h.keep (Nat.lt_of_lt_of_le hi hb.size) (by omega)).trans (hb.block i hi)⟩
end Go.Proofs.YtheampfoedhipaaGreatDoor
