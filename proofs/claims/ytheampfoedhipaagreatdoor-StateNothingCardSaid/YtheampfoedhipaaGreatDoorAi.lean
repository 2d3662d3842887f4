/- slices.Insert at nodes: a row of the call's own. -/
import Derived.Test.YtheampfoedhipaaGreatDoorAq
import Derived.Test.YtheampfoedhipaaGreatDoorProg
import Derived.Laws.Externs
namespace Go.Proofs.YtheampfoedhipaaGreatDoor
open Go Go.RowKit
set_option maxRecDepth 100000

abbrev tSeen : TypeId := 94
abbrev tSeens : TypeId := 54
def flat {α : Type} (enc : α → List Value) (l : List α) : List Value := l.flatMap enc
theorem flat_len {α : Type} {enc : α → List Value} {k : Nat} (hk : ∀ x, (enc x).length = k) (l : List α) : (flat enc l).length = l.length * k := by
  induction l with
  | nil => simp [flat]
  | cons x l ih => simp only [flat, List.flatMap_cons, List.length_append, List.length_cons] at ih ⊢; rw [ih, hk, Nat.succ_mul]; omega
theorem flat_take {α : Type} {enc : α → List Value} {k : Nat} (hk : ∀ x, (enc x).length = k) (l : List α) (i : Nat) : (flat enc l).take (i * k) = flat enc (l.take i) := by
  induction l generalizing i with
  | nil => simp [flat]
  | cons x l ih =>
    cases i with
    | zero => simp [flat]
    | succ i =>
      simp only [flat, List.flatMap_cons, List.take_succ_cons] at ih ⊢
      rw [List.take_append, hk, ← ih i, List.take_of_length_le (by rw [hk]; rw [Nat.succ_mul]; omega), show (i + 1) * k - k = i * k by rw [Nat.succ_mul]; omega]
theorem flat_drop {α : Type} {enc : α → List Value} {k : Nat} (hk : ∀ x, (enc x).length = k) (l : List α) (i : Nat) : (flat enc l).drop (i * k) = flat enc (l.drop i) := by
  induction l generalizing i with
  | nil => simp [flat]
  | cons x l ih =>
    cases i with
    | zero => simp [flat]
    | succ i =>
      simp only [flat, List.flatMap_cons, List.drop_succ_cons] at ih ⊢
      rw [List.drop_append, hk, ← ih i, List.drop_eq_nil_of_le (by rw [hk, Nat.succ_mul]; omega), show (i + 1) * k - k = i * k by rw [Nat.succ_mul]; omega]
      rfl
theorem flat_append {α : Type} {enc : α → List Value} (l m : List α) : flat enc (l ++ m) = flat enc l ++ flat enc m := by simp [flat]
theorem flat_one {α : Type} {enc : α → List Value} (x : α) : flat enc [x] = enc x := by simp [flat]
theorem flat_mem {α : Type} {enc : α → List Value} (h1 : ∀ x, ∀ v ∈ enc x, v.oneCell' = true) (l : List α) : ∀ v ∈ flat enc l, v.oneCell' = true := by
  intro v hv
  obtain ⟨x, _, hx⟩ := List.mem_flatMap.1 hv
  exact h1 x v hx
theorem flat_at {α : Type} {enc : α → List Value} {k : Nat} (hk : ∀ x, (enc x).length = k) (l : List α) {j : Nat} (hj : j < l.length) {i : Nat} (hi : i < k) : (flat enc l)[j * k + i]? = (enc l[j])[i]? := by
  rw [← List.getElem?_drop, flat_drop hk, List.drop_eq_getElem_cons hj]
  simp only [flat, List.flatMap_cons]
  rw [List.getElem?_append_left (by rw [hk]; exact hi)]

/-- A row of records of the call's own, from block base on. -/
def Own {α : Type} (E k : Nat) (enc : α → List Value) (w : World) (base : Nat) (v : Value) (l : List α) : Prop := w.ownsRow base E k v l.length (flat enc l)
section
variable {α : Type} {E k : Nat} {enc : α → List Value} {w w' : World} {base : Nat} {v : Value} {l : List α}
theorem Own.rd (h : Own E k enc w base v l) (hk : ∀ x, (enc x).length = k) (_hk0 : 0 < k) : Rd k enc w v l := by
  obtain ⟨h1, ⟨rfl, h2⟩ | ⟨g, cap, cur, rfl, hb, hg, hc, hm, hs, ht⟩⟩ := h
  · have : l = [] := List.eq_nil_of_length_eq_zero h2
    subst this; exact Rd.nil
  · refine ⟨_, cap, rfl, hc, by simpa [maxLen] using hm, fun hn => ⟨g, 0, rfl, (Array.getElem?_eq_some_iff.1 hg).1, fun j x hx i u hu => ?_⟩⟩
    have hj : j < l.length := (List.getElem?_eq_some_iff.1 hx).1
    have hxe : l[j] = x := by have := List.getElem?_eq_getElem hj; rw [hx] at this; exact (Option.some.inj this).symm
    have hi : i < k := by rw [← hk x]; exact (List.getElem?_eq_some_iff.1 hu).1
    rw [cell_of_row w g _ cur E (0, 0) hg, Nat.zero_add]
    have hat := flat_at hk l hj hi
    rw [hxe, hu, ← ht] at hat
    have hlt : j * k + i < l.length * k := by
      have : (j + 1) * k ≤ l.length * k := Nat.mul_le_mul_right _ hj
      rw [Nat.succ_mul] at this; omega
    rw [List.getElem?_take, if_pos hlt, Array.getElem?_toList] at hat
    exact hat
theorem Own.nil : Own E k enc w base (.slice none 0 0) ([] : List α) := ⟨by simp [flat], .inl ⟨rfl, rfl⟩⟩
theorem Own.keep (h : Own E k enc w base v l) (hk : ∀ g, v.ownBlock = some g → w'.heap[g]? = w.heap[g]?) : Own E k enc w' base v l := by
  obtain ⟨h1, ⟨rfl, h2⟩ | ⟨g, cap, cur, rfl, hb, hg, hc, hm, hs, ht⟩⟩ := h
  · exact ⟨h1, .inl ⟨rfl, h2⟩⟩
  · exact ⟨h1, .inr ⟨g, cap, cur, rfl, hb, (hk g rfl).trans hg, hc, hm, hs, ht⟩⟩
theorem Own.lt (h : Own E k enc w base v l) {g : Nat} (hg : v.ownBlock = some g) : base ≤ g ∧ g < w.heap.size := World.ownsRow.lt h g hg
theorem Own.below (h : Own E k enc w base v l) (hb : Below w.heap.size w w') : Own E k enc w' base v l := h.keep fun _ hg => hb.block _ (h.lt hg).2
theorem Own.form (h : Own E k enc w base v l) (hl : v ≠ .slice none 0 0) : ∃ g cap cur, v = .slice (some ⟨g, 0, none⟩) l.length cap ∧ base ≤ g ∧ Blk w g E cur ∧ l.length ≤ cap ∧ cap ≤ 9223372036854775807 ∧ cur.size = cap * k ∧ cur.toList.take (l.length * k) = flat enc l := by
  obtain ⟨_, ⟨h, _⟩ | ⟨g, cap, cur, h1, h2, h3, h4, h5, h6, h7⟩⟩ := h
  · exact absurd h hl
  · exact ⟨g, cap, cur, h1, h2, h3, h4, by simpa [maxLen] using h5, h6, h7⟩
theorem Own.mk {g cap : Nat} {cur : Array Value} (hk : ∀ x, (enc x).length = k) (hb : base ≤ g) (hg : Blk w g E cur) (hc : l.length ≤ cap) (hm : cap ≤ 9223372036854775807) (hs : cur.size = cap * k) (ht : cur.toList.take (l.length * k) = flat enc l) : Own E k enc w base (.slice (some ⟨g, 0, none⟩) l.length cap) l :=
  ⟨flat_len hk l, .inr ⟨g, cap, cur, rfl, hb, hg, hc, by simpa [maxLen] using hm, hs, ht⟩⟩
theorem Own.len (h : Own E k enc w base v l) : ∃ X c, v = .slice X l.length c := by
  obtain ⟨_, ⟨h, h0⟩ | ⟨g, cap, cur, h, _⟩⟩ := h
  · exact ⟨none, 0, by rw [h, h0]⟩
  · exact ⟨_, cap, h⟩
end
theorem encSeen_len (x : Seen) : (encSeen x).length = 3 := rfl
theorem encSeen_one (x : Seen) : ∀ v ∈ encSeen x, v.oneCell' = true := by
  intro v hv
  simp only [encSeen, List.mem_cons, List.mem_nil_iff, or_false] at hv
  rcases hv with rfl | rfl | rfl <;> rfl

/-! The cells behind the two ways to make room. -/
theorem take_spl_shift {cur : Array Value} {L e : List Value} {n i k cap : Nat} (hs : cur.size = cap * k) (ht : cur.toList.take (n * k) = L) (hL : L.length = n * k) (he : e.length = k) (hi : i ≤ n) (hc : n + 1 ≤ cap) :
    (spl (spl cur ((i + 1) * k) (L.drop (i * k))) (i * k) e).toList.take ((n + 1) * k) = L.take (i * k) ++ e ++ L.drop (i * k) := by
  have hik : i * k ≤ n * k := Nat.mul_le_mul_right _ hi
  have hck : (n + 1) * k ≤ cap * k := Nat.mul_le_mul_right _ hc
  have hd : (L.drop (i * k)).length = n * k - i * k := by rw [List.length_drop, hL]
  have e1 : (i + 1) * k = i * k + k := Nat.succ_mul _ _
  have e2 : (n + 1) * k = n * k + k := Nat.succ_mul _ _
  have f1 : (i + 1) * k + (L.drop (i * k)).length ≤ cur.size := by rw [hd, hs]; omega
  have s1 := spl_size f1
  have f2 : i * k + e.length ≤ (spl cur ((i + 1) * k) (L.drop (i * k))).size := by rw [s1, he]; omega
  have s2 := spl_size f2
  apply List.ext_getElem?
  intro j
  rw [List.getElem?_take]
  by_cases hj : j < (n + 1) * k
  · rw [if_pos hj, Array.getElem?_toList]
    by_cases h1 : j < i * k
    · have h3 := (spl_lo (cs := e) (cur := spl cur ((i + 1) * k) (L.drop (i * k))) h1).resolve_right (by rw [s1, hs]; omega)
      have h4 := (spl_lo (cs := L.drop (i * k)) (cur := cur) (show j < (i + 1) * k by omega)).resolve_right (by rw [hs]; omega)
      rw [h3, h4, List.append_assoc, List.getElem?_append_left (by rw [List.length_take, hL]; omega), List.getElem?_take, if_pos h1, ← ht, List.getElem?_take, if_pos (by omega), Array.getElem?_toList]
    · by_cases h2 : j < i * k + k
      · have := spl_in f2 (j := j - i * k) (by omega)
        rw [show i * k + (j - i * k) = j by omega] at this
        rw [this, List.append_assoc, List.getElem?_append_right (by rw [List.length_take, hL]; omega), List.length_take, hL, Nat.min_eq_left hik, List.getElem?_append_left (by omega)]
      · have h3 := spl_hi f2 (j := j) (by omega)
        have h4 := spl_in f1 (j := j - (i + 1) * k) (by omega)
        rw [show (i + 1) * k + (j - (i + 1) * k) = j by omega] at h4
        rw [h3, h4, List.getElem?_append_right (by rw [List.length_append, List.length_take, hL]; omega), List.length_append, List.length_take, hL, Nat.min_eq_left hik, he, e1]
  · rw [if_neg hj, List.getElem?_eq_none (by simp only [List.length_append, List.length_take, hL, hd, he]; omega)]
theorem take_spl_new {cur : Array Value} {L e : List Value} {n i k cap : Nat} (hs : cur.size = cap * k) (ht : cur.toList.take (i * k) = L.take (i * k)) (hL : L.length = n * k) (he : e.length = k) (hi : i ≤ n) (hc : n + 1 ≤ cap) :
    (spl (spl cur (i * k) e) ((i + 1) * k) (L.drop (i * k))).toList.take ((n + 1) * k) = L.take (i * k) ++ e ++ L.drop (i * k) := by
  have hik : i * k ≤ n * k := Nat.mul_le_mul_right _ hi
  have hck : (n + 1) * k ≤ cap * k := Nat.mul_le_mul_right _ hc
  have hd : (L.drop (i * k)).length = n * k - i * k := by rw [List.length_drop, hL]
  have e1 : (i + 1) * k = i * k + k := Nat.succ_mul _ _
  have e2 : (n + 1) * k = n * k + k := Nat.succ_mul _ _
  have f1 : i * k + e.length ≤ cur.size := by rw [he, hs]; omega
  have s1 := spl_size f1
  have f2 : (i + 1) * k + (L.drop (i * k)).length ≤ (spl cur (i * k) e).size := by rw [s1, hd, hs]; omega
  apply List.ext_getElem?
  intro j
  rw [List.getElem?_take]
  by_cases hj : j < (n + 1) * k
  · rw [if_pos hj, Array.getElem?_toList]
    by_cases h1 : j < i * k
    · have h3 := (spl_lo (cs := L.drop (i * k)) (cur := spl cur (i * k) e) (show j < (i + 1) * k by omega)).resolve_right (by rw [s1, hs]; omega)
      have h4 := (spl_lo (cs := e) (cur := cur) h1).resolve_right (by rw [hs]; omega)
      rw [h3, h4, List.append_assoc, List.getElem?_append_left (by rw [List.length_take, hL]; omega), ← ht, List.getElem?_take, if_pos h1, Array.getElem?_toList]
    · by_cases h2 : j < i * k + k
      · have h3 := (spl_lo (cs := L.drop (i * k)) (cur := spl cur (i * k) e) (show j < (i + 1) * k by omega)).resolve_right (by rw [s1, hs]; omega)
        have := spl_in f1 (j := j - i * k) (by omega)
        rw [show i * k + (j - i * k) = j by omega] at this
        rw [h3, this, List.append_assoc, List.getElem?_append_right (by rw [List.length_take, hL]; omega), List.length_take, hL, Nat.min_eq_left hik, List.getElem?_append_left (by omega)]
      · have h4 := spl_in f2 (j := j - (i + 1) * k) (by omega)
        rw [show (i + 1) * k + (j - (i + 1) * k) = j by omega] at h4
        rw [h4, List.getElem?_append_right (by rw [List.length_append, List.length_take, hL]; omega), List.length_append, List.length_take, hL, Nat.min_eq_left hik, he, e1]
  · rw [if_neg hj, List.getElem?_eq_none (by simp only [List.length_append, List.length_take, hL, hd, he]; omega)]
end Go.Proofs.YtheampfoedhipaaGreatDoor
