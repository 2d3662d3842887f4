/- The order of places. -/
import Derived.Test.YtheampfoedhipaaGreatDoorPp
namespace Go.Proofs.YtheampfoedhipaaGreatDoor

theorem wt_inj {x y : UInt8} (h : wt x.toNat = wt y.toNat) : x = y := by
  unfold wt at h
  have hx := x.toNat_lt
  have hy := y.toNat_lt
  apply UInt8.toNat_inj.1
  split at h <;> split at h <;> omega
theorem ord_self : ∀ a : Str, ord a a = 0
  | [] => rfl
  | x :: a => by rw [ord, if_neg (by omega), if_neg (by omega), ord_self a]
theorem ord_eq : ∀ {a b : Str}, ord a b = 0 → a = b
  | [], [], _ => rfl
  | [], _ :: _, h => by simp [ord] at h
  | _ :: _, [], h => by simp [ord] at h
  | x :: a, y :: b, h => by
    rw [ord] at h
    split at h
    · simp at h
    · split at h
      · simp at h
      · rw [ord_eq h, wt_inj (x := x) (y := y) (by omega)]
theorem ord_zero {a b : Str} : ord a b = 0 ↔ a = b := ⟨ord_eq, fun h => h ▸ ord_self a⟩
theorem ord_swap : ∀ a b : Str, ord b a = - ord a b
  | [], [] => rfl
  | [], _ :: _ => rfl
  | _ :: _, [] => rfl
  | x :: a, y :: b => by
    rw [ord, ord]
    by_cases h1 : wt x.toNat < wt y.toNat
    · rw [if_neg (by omega), if_pos h1, if_pos h1]; rfl
    · by_cases h2 : wt y.toNat < wt x.toNat
      · rw [if_pos h2, if_neg h1, if_pos h2]
      · rw [if_neg h2, if_neg h1, if_neg h1, if_neg h2, ord_swap a b]
theorem ord_three : ∀ a b : Str, ord a b = -1 ∨ ord a b = 0 ∨ ord a b = 1
  | [], [] => by simp [ord]
  | [], _ :: _ => by simp [ord]
  | _ :: _, [] => by simp [ord]
  | x :: a, y :: b => by
    rw [ord]
    split
    · simp
    · split
      · simp
      · exact ord_three a b
theorem ord_trans : ∀ {a b c : Str}, ord a b < 0 → ord b c < 0 → ord a c < 0
  | [], [], _, h, _ => by simp [ord] at h
  | _ :: _, [], _, h, _ => by simp [ord] at h
  | _, _ :: _, [], _, h => by simp [ord] at h
  | [], _ :: _, _ :: _, _, _ => by simp [ord]
  | x :: a, y :: b, z :: c, h1, h2 => by
    rw [ord] at h1 h2 ⊢
    by_cases hxy : wt x.toNat < wt y.toNat
    · by_cases hzy : wt z.toNat < wt y.toNat
      · rw [if_neg (by omega), if_pos hzy] at h2; simp at h2
      · rw [if_pos (by omega)]; decide
    · rw [if_neg hxy] at h1
      by_cases hyx : wt y.toNat < wt x.toNat
      · rw [if_pos hyx] at h1; simp at h1
      · rw [if_neg hyx] at h1
        by_cases hyz : wt y.toNat < wt z.toNat
        · rw [if_pos (by omega)]; decide
        · rw [if_neg hyz] at h2
          by_cases hzy : wt z.toNat < wt y.toNat
          · rw [if_pos hzy] at h2; simp at h2
          · rw [if_neg hzy] at h2
            rw [if_neg (by omega), if_neg (by omega)]
            exact ord_trans h1 h2
/-- a list of things in the strict order of their places -/
def Rising {α : Type} (f : α → Str) (l : List α) : Prop := l.Pairwise fun x y => ord (f x) (f y) < 0
/-- how many stand ahead of a place -/
def lowerB {α : Type} (f : α → Str) (l : List α) (p : Str) : Nat := (l.takeWhile fun x => decide (ord (f x) p < 0)).length
section
variable {α : Type} {f : α → Str} {l : List α} {p : Str}
theorem lowerB_le : lowerB f l p ≤ l.length := (List.takeWhile_prefix _).length_le
theorem lowerB_lt {q : Nat} (hq : q < lowerB f l p) : ord (f (l[q]'(Nat.lt_of_lt_of_le hq lowerB_le))) p < 0 := by
  induction l generalizing q with
  | nil => simp [lowerB] at hq
  | cons x l ih =>
    unfold lowerB at hq
    rw [List.takeWhile_cons] at hq
    split at hq
    · rename_i h
      cases q with
      | zero => simpa using h
      | succ q =>
        simp only [List.length_cons] at hq
        exact ih (q := q) (by unfold lowerB; omega)
    · simp at hq
theorem lowerB_ge (hs : Rising f l) {q : Nat} (hq : lowerB f l p ≤ q) (hl : q < l.length) : 0 ≤ ord (f l[q]) p := by
  induction l generalizing q with
  | nil => simp at hl
  | cons x l ih =>
    have hs' := List.pairwise_cons.1 hs
    unfold lowerB at hq
    rw [List.takeWhile_cons] at hq
    split at hq
    · rename_i h
      cases q with
      | zero => simp at hq
      | succ q =>
        simp only [List.length_cons] at hq hl
        exact ih hs'.2 (q := q) (by unfold lowerB; omega) (by omega)
    · rename_i h
      have hx : ¬ ord (f x) p < 0 := by simpa using h
      cases q with
      | zero => simpa using hx
      | succ q =>
        simp only [List.length_cons] at hl
        have hm := hs'.1 (l[q]'(by omega)) (List.getElem_mem _)
        show 0 ≤ ord (f (l[q]'(by omega))) p
        rcases Int.lt_or_le (ord (f (l[q]'(by omega))) p) 0 with h' | h'
        · exact absurd (ord_trans hm h') hx
        · exact h'
theorem lowerB_is (hs : Rising f l) {i : Nat} (hi : i ≤ l.length) (h1 : ∀ q (h : q < l.length), q < i → ord (f l[q]) p < 0) (h2 : ∀ q (h : q < l.length), i ≤ q → 0 ≤ ord (f l[q]) p) : i = lowerB f l p := by
  rcases Nat.lt_trichotomy i (lowerB f l p) with h | h | h
  · have hl : i < l.length := Nat.lt_of_lt_of_le h lowerB_le
    have := h2 i hl (Nat.le_refl _); have := lowerB_lt h; omega
  · exact h
  · have hl : lowerB f l p < l.length := by omega
    have := h1 _ hl h; have := lowerB_ge hs (Nat.le_refl _) hl; omega
end
/-- is there a node at a place -/
def hasAt {α : Type} (f : α → Str) (l : List α) (p : Str) : Bool := l.any fun x => f x == p
theorem hasAt_lower {α : Type} {f : α → Str} {l : List α} {p : Str} (hs : Rising f l) : hasAt f l p = true ↔ ∃ h : lowerB f l p < l.length, f l[lowerB f l p] = p := by
  constructor
  · intro h
    obtain ⟨x, hx, he⟩ := List.any_eq_true.1 h
    obtain ⟨q, hq, rfl⟩ := List.getElem_of_mem hx
    have he' : f l[q] = p := by simpa using he
    have ho : ord (f l[q]) p = 0 := by rw [he', ord_self]
    have hge : lowerB f l p ≤ q := by
      rcases Nat.lt_or_ge q (lowerB f l p) with h | h
      · have := lowerB_lt h; omega
      · exact h
    have hlb : lowerB f l p < l.length := by omega
    refine ⟨hlb, ?_⟩
    have h1 := lowerB_ge hs (Nat.le_refl _) hlb
    rcases Nat.lt_or_ge (lowerB f l p) q with h | h
    · have := (List.pairwise_iff_getElem.1 hs) _ _ hlb hq h
      rw [he'] at this; omega
    · have : lowerB f l p = q := by omega
      simp only [this]; exact he'
  · rintro ⟨h, e⟩
    exact List.any_eq_true.2 ⟨l[lowerB f l p], List.getElem_mem _, by simpa using e⟩
end Go.Proofs.YtheampfoedhipaaGreatDoor
