/- Shots, in plain Lean. -/
import Derived.Test.YtheampfoedhipaaGreatDoorPq
import Derived.Test.YtheampfoedhipaaGreatDoorPo
namespace Go.Proofs.YtheampfoedhipaaGreatDoor

theorem parent_ok {l : List Str} (h : IsPath l) (hl : l ≠ []) : parent (placed l) = (placed l.dropLast, 0) := by
  unfold parent; rw [parse_placed h, if_neg (by simp), if_neg hl]
theorem parent_root : parent [47] = ([], 47) := by decide
theorem parent_take {l : List Str} (h : IsPath l) {j : Nat} (hj : j + 1 ≤ l.length) : parent (placed (l.take (j + 1))) = (placed (l.take j), 0) := by
  rw [parent_ok (h.take _) (by intro e; have := congrArg List.length e; rw [List.length_take, List.length_nil] at this; omega), List.dropLast_eq_take, List.length_take, List.take_take, Nat.min_eq_left hj, Nat.add_sub_cancel, Nat.min_eq_left (Nat.le_succ j)]

/-- is the first place below the other one; is that its parent -/
def isBelow (low high : Str) : Bool × Bool :=
  ((List.range (parse low).1.length).any fun k => placed ((parse low).1.take k) == high, decide ((parse low).1.length ≠ 0) && placed ((parse low).1.take ((parse low).1.length - 1)) == high)
theorem isBelow_no {low high : Str} (h : ∀ i, i < (parse low).1.length → placed ((parse low).1.take i) ≠ high) : isBelow low high = (false, false) := by
  unfold isBelow
  have h1 : ((List.range (parse low).1.length).any fun k => placed ((parse low).1.take k) == high) = false := by
    rw [List.any_eq_false]; intro k hk; simp; exact h k (List.mem_range.1 hk)
  rw [h1]
  by_cases h0 : (parse low).1.length = 0
  · simp [h0]
  · have := h ((parse low).1.length - 1) (by omega)
    have h2 : (placed ((parse low).1.take ((parse low).1.length - 1)) == high) = false := by simpa using this
    rw [h2]; simp
theorem isBelow_yes {low high : Str} (j : Nat) (hp : IsPath (parse low).1) (hj : j < (parse low).1.length) (h : placed ((parse low).1.take j) = high) : isBelow low high = (true, decide (j + 1 = (parse low).1.length)) := by
  unfold isBelow
  have h1 : ((List.range (parse low).1.length).any fun k => placed ((parse low).1.take k) == high) = true := by
    rw [List.any_eq_true]; exact ⟨j, List.mem_range.2 hj, by simpa using h⟩
  rw [h1]
  congr 1
  rw [Bool.eq_iff_iff]
  simp only [Bool.and_eq_true, decide_eq_true_eq, beq_iff_eq]
  constructor
  · rintro ⟨_, e⟩
    have := placed_inj (hp.take _) (hp.take _) (e.trans h.symm)
    have := congrArg List.length this
    rw [List.length_take, List.length_take] at this; omega
  · intro e
    exact ⟨by omega, by rw [show (parse low).1.length - 1 = j by omega]; exact h⟩

def bare (x : Seen) : Bool := x.data.isEmpty && x.version == 0
/-- may the i-th node of a shot stand where it does -/
def belongs (s : Shot) (i : Nat) : Bool :=
  match s.nodes[i]? with
  | none => false
  | some n =>
    if i = 0 then n.place == s.place && (s.kind != 2 || bare n)
    else if 0 ≤ ord ((s.nodes[i - 1]?.map (·.place)).getD []) n.place then false
    else if s.kind = 2 then (isBelow n.place s.place).2 && bare n
    else if s.kind = 3 then (isBelow n.place s.place).1 && hasAt Seen.place (s.nodes.take i) (parent n.place).1
    else false
def nodeOk (s : Shot) (i : Nat) : Bool :=
  match s.nodes[i]? with
  | none => false
  | some n => placeOk n.place && (fitsP n.data n.version && belongs s i)
def shotOk (s : Shot) : Bool :=
  decide (0 ≤ s.stamp) && decide (s.stamp ≤ 2147483647) && placeOk s.place && kindOk s.kind && decide (s.nodes.length ≤ 64) && !(s.nodes.isEmpty && s.place == [47]) && (List.range s.nodes.length).all (nodeOk s)
def check (s : Shot) : Int := if shotOk s then 0 else 51
theorem belongs_at {s : Shot} {i : Nat} (h : i < s.nodes.length) (h0 : i ≠ 0) : belongs s i = if 0 ≤ ord (s.nodes[i - 1]'(by omega)).place s.nodes[i].place then false
    else if s.kind = 2 then (isBelow s.nodes[i].place s.place).2 && bare s.nodes[i]
    else if s.kind = 3 then (isBelow s.nodes[i].place s.place).1 && hasAt Seen.place (s.nodes.take i) (parent s.nodes[i].place).1
    else false := by
  unfold belongs
  rw [List.getElem?_eq_getElem h, List.getElem?_eq_getElem (show i - 1 < s.nodes.length by omega)]
  simp only [if_neg h0]; rfl
theorem belongs_0 {s : Shot} (h : 0 < s.nodes.length) : belongs s 0 = (s.nodes[0].place == s.place && (s.kind != 2 || bare s.nodes[0])) := by
  unfold belongs
  rw [List.getElem?_eq_getElem h]; rfl
theorem belongs_up {s : Shot} {i : Nat} (h : i < s.nodes.length) (h0 : i ≠ 0) (hb : belongs s i = true) : ord (s.nodes[i - 1]'(by omega)).place s.nodes[i].place < 0 := by
  rw [belongs_at h h0] at hb
  split at hb
  · cases hb
  · omega
theorem nodeOk_at {s : Shot} {i : Nat} (h : i < s.nodes.length) : nodeOk s i = (placeOk s.nodes[i].place && (fitsP s.nodes[i].data s.nodes[i].version && belongs s i)) := by
  unfold nodeOk; rw [List.getElem?_eq_getElem h]
theorem rising_steps {α : Type} {f : α → Str} (l : List α) (h : ∀ i (hi : i + 1 < l.length), ord (f (l[i]'(by omega))) (f l[i + 1]) < 0) : Rising f l := by
  induction l with
  | nil => exact List.Pairwise.nil
  | cons x l ih =>
    have ih' := ih (fun i hi => h (i + 1) (by simp; omega))
    refine List.pairwise_cons.2 ⟨fun y hy => ?_, ih'⟩
    cases l with
    | nil => cases hy
    | cons z l =>
      have h0 := h 0 (by simp)
      rcases List.mem_cons.1 hy with rfl | hy
      · exact h0
      · exact ord_trans h0 ((List.pairwise_cons.1 ih').1 y hy)
theorem rising_take {s : Shot} {i : Nat} (hi : i ≤ s.nodes.length) (h : ∀ j, j < i → nodeOk s j = true) : Rising Seen.place (s.nodes.take i) := by
  apply rising_steps
  intro j hj
  rw [List.length_take] at hj
  have hn := h (j + 1) (by omega)
  rw [nodeOk_at (by omega), Bool.and_eq_true, Bool.and_eq_true] at hn
  have := belongs_up (s := s) (i := j + 1) (by omega) (by omega) hn.2.2
  rw [List.getElem_take, List.getElem_take]; exact this
theorem check_no {s : Shot} (h : ¬ (0 ≤ s.stamp) ∨ ¬ (s.stamp ≤ 2147483647) ∨ placeOk s.place = false ∨ kindOk s.kind = false ∨ ¬ (s.nodes.length ≤ 64) ∨ (s.nodes = [] ∧ s.place = [47]) ∨ ∃ i, i < s.nodes.length ∧ nodeOk s i = false) : check s = 51 := by
  have : shotOk s = false := by
    unfold shotOk
    rcases h with h | h | h | h | h | ⟨h, h'⟩ | ⟨i, hi, h⟩
    · simp [h]
    · simp [h]
    · simp [h]
    · simp [h]
    · simp [h]
    · simp [h, h']
    · have : (List.range s.nodes.length).all (nodeOk s) = false := by
        rw [List.all_eq_false]; exact ⟨i, List.mem_range.2 hi, by simp [h]⟩
      simp [this]
  unfold check; rw [this]; rfl
theorem check_yes {s : Shot} (h1 : 0 ≤ s.stamp) (h2 : s.stamp ≤ 2147483647) (h3 : placeOk s.place = true) (h4 : kindOk s.kind = true) (h5 : s.nodes.length ≤ 64) (h6 : ¬ (s.nodes = [] ∧ s.place = [47])) (h7 : ∀ i, i < s.nodes.length → nodeOk s i = true) : check s = 0 := by
  have : shotOk s = true := by
    unfold shotOk
    have h7' : (List.range s.nodes.length).all (nodeOk s) = true := by
      rw [List.all_eq_true]; intro i hi; exact h7 i (List.mem_range.1 hi)
    have h6' : (s.nodes.isEmpty && s.place == [47]) = false := by
      rw [Bool.eq_false_iff]; intro h; apply h6; simpa using h
    simp only [h3, h4, h6', h7', decide_eq_true h1, decide_eq_true h2, decide_eq_true h5]; rfl
  unfold check; rw [this]; rfl
theorem check_ok {s : Shot} (h : check s = 0) : shotOk s = true := by
  unfold check at h; split at h
  · assumption
  · simp at h
theorem check_two (s : Shot) : check s = 0 ∨ check s = 51 := by unfold check; split <;> simp
theorem shotOk_parts {s : Shot} (h : shotOk s = true) : 0 ≤ s.stamp ∧ s.stamp ≤ 2147483647 ∧ placeOk s.place = true ∧ kindOk s.kind = true ∧ s.nodes.length ≤ 64 ∧ ¬ (s.nodes = [] ∧ s.place = [47]) ∧ ∀ i, i < s.nodes.length → nodeOk s i = true := by
  unfold shotOk at h
  simp only [Bool.and_eq_true, decide_eq_true_eq, List.all_eq_true, List.mem_range, Bool.not_eq_true', Bool.and_eq_false_iff] at h
  obtain ⟨⟨⟨⟨⟨⟨h1, h2⟩, h3⟩, h4⟩, h5⟩, h6⟩, h7⟩ := h
  refine ⟨h1, h2, h3, h4, h5, ?_, h7⟩
  rintro ⟨e1, e2⟩
  rcases h6 with h | h
  · rw [e1] at h; simp at h
  · rw [e2] at h; simp at h

/-- the node that a change leaves in a shot of that kind -/
def nodeOf (k : Int) (c : Change) : Seen := if k = 2 then ⟨c.place, [], 0⟩ else ⟨c.place, c.data, c.version⟩
/-- one change that the shot's watch covers -/
def foldOne (s : Shot) (c : Change) : Option (List Seen) :=
  let i := lowerB Seen.place s.nodes c.place
  let there := hasAt Seen.place s.nodes c.place
  if c.kind = 1 then
    if there || (c.place != s.place && !hasAt Seen.place s.nodes (parent c.place).1) || !fitsP c.data c.version || s.nodes.length == 64 then none
    else some (s.nodes.take i ++ [nodeOf s.kind c] ++ s.nodes.drop i)
  else if c.kind = 2 then
    if !there || !fitsP c.data c.version then none else some (s.nodes.set i (nodeOf s.kind c))
  else
    if !there || c.place == [47] then none
    else if (s.nodes[i + 1]?.map fun x => (isBelow x.place c.place).1) == some true then none
    else some (s.nodes.take i ++ s.nodes.drop (i + 1))
end Go.Proofs.YtheampfoedhipaaGreatDoor
