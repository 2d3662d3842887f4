/- Places and lists of names: one is the other. -/
import Derived.Test.YtheampfoedhipaaGreatDoorPc
namespace Go.Proofs.YtheampfoedhipaaGreatDoor
open Go

theorem isName_le {x : Str} (h : isName x = true) : x.length ≤ 16 := by
  simp only [isName, Bool.and_eq_true, decide_eq_true_eq] at h; exact h.1.1.1.2
theorem isName_ne {x : Str} (h : isName x = true) : x ≠ [] := by
  rintro rfl; simp [isName] at h
theorem isName_slash {x : Str} (h : isName x = true) : (47 : UInt8) ∉ x := by
  intro hm
  simp only [isName, Bool.and_eq_true, List.all_eq_true] at h
  have := h.2 _ hm
  exact absurd this (by decide)
theorem joined_cuts (s : Str) : joined (cuts s) = s := by
  induction s with
  | nil => rfl
  | cons c s ih =>
    unfold cuts
    split
    · rename_i h; subst h
      have hne := cuts_ne s
      cases hc : cuts s with
      | nil => exact absurd hc hne
      | cons x l => rw [hc] at ih; show [] ++ 47 :: joined (x :: l) = _; rw [ih]; rfl
    · cases hc : cuts s with
      | nil => exact absurd hc (cuts_ne s)
      | cons x l =>
        rw [hc] at ih
        cases l with
        | nil => simp only [joined] at ih ⊢; rw [ih]
        | cons y l => simp only [joined, List.cons_append] at ih ⊢; rw [ih]
theorem cuts_joined : ∀ (l : List Str), l ≠ [] → (∀ x ∈ l, (47 : UInt8) ∉ x) → cuts (joined l) = l
  | [], h, _ => absurd rfl h
  | [x], _, h => cuts_no x (h x (by simp))
  | x :: y :: l, _, h => by
    rw [joined, cuts_first x _ (h x (by simp)), cuts_joined (y :: l) (by simp) (fun z hz => h z (List.mem_cons_of_mem _ hz))]
theorem joined_len : ∀ (l : List Str), (∀ x ∈ l, x.length ≤ 16) → (joined l).length ≤ 17 * l.length
  | [], _ => by simp [joined]
  | [x], h => by have := h x (by simp); simp [joined]; omega
  | x :: y :: l, h => by
    have h1 := h x (by simp)
    have h2 := joined_len (y :: l) (fun z hz => h z (List.mem_cons_of_mem _ hz))
    simp only [joined, List.length_append, List.length_cons] at h2 ⊢; omega
theorem joined_len1 (l : List Str) (hl : l ≠ []) (h : ∀ x ∈ l, x.length ≤ 16) : (joined l).length + 1 ≤ 17 * l.length := by
  induction l with
  | nil => exact absurd rfl hl
  | cons x l ih =>
    have h1 := h x (by simp)
    cases l with
    | nil => simp [joined]; omega
    | cons y l =>
      have h2 := ih (by simp) (fun z hz => h z (List.mem_cons_of_mem _ hz))
      simp only [joined, List.length_append, List.length_cons] at h2 ⊢; omega

/-- A list of names that makes a place. -/
def IsPath (l : List Str) : Prop := l.length ≤ 6 ∧ ∀ x ∈ l, isName x = true
instance (l : List Str) : Decidable (IsPath l) := by unfold IsPath; infer_instance

theorem parse_cons (r : Str) (h1 : (47 :: r).length ≤ 102) (h2 : r ≠ []) : parse (47 :: r) = if (cuts r).length > 6 then ([], 10) else if (cuts r).all isName then (cuts r, 0) else ([], 10) := by
  unfold parse; rw [if_neg (by omega), if_neg (by simpa using h2)]; rfl
theorem parse_code (s : Str) : (parse s).2 = 0 ∨ (parse s).2 = 2 ∨ (parse s).2 = 10 := by
  unfold parse
  split
  · simp
  · split
    · simp
    · split
      · split
        · simp
        · split <;> simp
      · simp
theorem parse_bad {s : Str} (h : (parse s).2 ≠ 0) : (parse s).1 = [] := by
  unfold parse at h ⊢
  split
  · rfl
  · split
    · rfl
    · rename_i h1 h2
      rw [if_neg h1, if_neg h2] at h
      split
      · rename_i r
        split
        · rfl
        · rename_i h3
          split
          · rename_i h4; exfalso; apply h; show (if (cuts r).length > 6 then (([], 10) : List Str × Int) else if (cuts r).all isName = true then (cuts r, 0) else ([], 10)).2 = 0; rw [if_neg h3, if_pos h4]
          · rfl
      · rfl
theorem parse_path {s : Str} (h : (parse s).2 = 0) : IsPath (parse s).1 ∧ placed (parse s).1 = s := by
  by_cases h1 : s.length > 102
  · unfold parse at h; rw [if_pos h1] at h; simp at h
  by_cases h2 : s = [47]
  · subst h2; exact ⟨⟨by decide, by intro x hx; cases hx⟩, rfl⟩
  cases s with
  | nil => simp [parse] at h
  | cons c r =>
    by_cases hc : c = 47
    · subst hc
      have hr : r ≠ [] := by rintro rfl; exact h2 rfl
      have hp := parse_cons r (by omega) hr
      rw [hp] at h ⊢
      split at h
      · simp at h
      · rename_i h3
        split at h
        · rename_i h4
          rw [if_neg h3, if_pos h4]
          exact ⟨⟨by show (cuts r).length ≤ 6; omega, by simpa [List.all_eq_true] using h4⟩, by show 47 :: joined (cuts r) = _; rw [joined_cuts]⟩
        · simp at h
    · exfalso
      have : parse (c :: r) = ([], 10) := by
        unfold parse; rw [if_neg h1, if_neg h2]
        split
        · rename_i heq; injection heq with e _; exact absurd e hc
        · rfl
      rw [this] at h; simp at h
theorem placed_len {l : List Str} (h : IsPath l) : (placed l).length ≤ 102 := by
  by_cases hl : l = []
  · subst hl; decide
  · have := joined_len1 l hl (fun x hx => isName_le (h.2 x hx))
    have := h.1
    simp only [placed, List.length_cons]; omega
theorem joined_ne {l : List Str} (hl : l ≠ []) (h : IsPath l) : joined l ≠ [] := by
  cases l with
  | nil => exact absurd rfl hl
  | cons x l =>
    have := isName_ne (h.2 x (by simp))
    cases l with
    | nil => simpa [joined] using this
    | cons y l => simp [joined]
theorem parse_placed {l : List Str} (h : IsPath l) : parse (placed l) = (l, 0) := by
  by_cases hl : l = []
  · subst hl; rfl
  · have hc : cuts (joined l) = l := cuts_joined l hl (fun x hx => isName_slash (h.2 x hx))
    rw [placed, parse_cons _ (placed_len h) (joined_ne hl h), hc, if_neg (by have := h.1; omega), if_pos (by rw [List.all_eq_true]; exact h.2)]
theorem parse_len {s : Str} (h : (parse s).2 = 0) : s.length ≤ 102 := by
  have := parse_path h
  rw [← this.2]; exact placed_len this.1
theorem placed_inj {l m : List Str} (hl : IsPath l) (hm : IsPath m) (h : placed l = placed m) : l = m := by
  have := parse_placed hl
  rw [h, parse_placed hm] at this
  injection this with h1 _; exact h1.symm
theorem IsPath.take {l : List Str} (h : IsPath l) (n : Nat) : IsPath (l.take n) :=
  ⟨by have := h.1; rw [List.length_take]; omega, fun x hx => h.2 x (List.mem_of_mem_take hx)⟩
theorem IsPath.dropLast {l : List Str} (h : IsPath l) : IsPath l.dropLast := by
  rw [List.dropLast_eq_take]; exact h.take _
theorem join_joined : ∀ l : List Str, Lib.join l [47] = joined l
  | [] => rfl
  | [x] => by rw [Lib.join_one]; rfl
  | x :: y :: l => by
    rw [Lib.join_cons, joined, ← join_joined (y :: l), Lib.join_cons]
    simp [Lib.joinTail]
end Go.Proofs.YtheampfoedhipaaGreatDoor
