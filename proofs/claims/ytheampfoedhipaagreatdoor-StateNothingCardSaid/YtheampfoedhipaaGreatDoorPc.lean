/- What strings.Split makes of a text at its slashes: 'cuts'. -/
import Derived.Lib.Split
import Derived.Lib.Join
import Derived.Lib.IndexMore
import Derived.Shelf.Strings.Split
import Derived.Test.YtheampfoedhipaaGreatDoorPp
namespace Go.Proofs.YtheampfoedhipaaGreatDoor
open Go

theorem cuts_no (s : Str) (h : (47 : UInt8) ∉ s) : cuts s = [s] := by
  induction s with
  | nil => rfl
  | cons c s ih =>
    simp only [List.mem_cons, not_or] at h
    rw [cuts, if_neg (fun e => h.1 e.symm), ih h.2]
theorem cuts_first (p r : Str) (h : (47 : UInt8) ∉ p) : cuts (p ++ 47 :: r) = p :: cuts r := by
  induction p with
  | nil => simp [cuts]
  | cons c p ih =>
    simp only [List.mem_cons, not_or] at h
    rw [List.cons_append, cuts, if_neg (fun e => h.1 e.symm), ih h.2]
theorem first_slash (s : Str) : (47 : UInt8) ∉ s ∨ ∃ p r, s = p ++ 47 :: r ∧ (47 : UInt8) ∉ p := by
  induction s with
  | nil => exact .inl (by simp)
  | cons c s ih =>
    by_cases hc : c = 47
    · exact .inr ⟨[], s, by simp [hc], by simp⟩
    · rcases ih with h | ⟨p, r, h, hp⟩
      · exact .inl (by simp only [List.mem_cons, not_or]; exact ⟨fun e => hc e.symm, h⟩)
      · exact .inr ⟨c :: p, r, by simp [h], by simp only [List.mem_cons, not_or]; exact ⟨fun e => hc e.symm, hp⟩⟩
theorem index_no (s : Str) (h : (47 : UInt8) ∉ s) : Lib.index s [47] = -1 := by
  induction s with
  | nil => rfl
  | cons c s ih =>
    simp only [List.mem_cons, not_or] at h
    have hb : ((47 : UInt8) == c) = false := by simpa using h.1
    rw [Lib.index]; simp [List.isPrefixOf, hb, ih h.2]
theorem index_first (p r : Str) (h : (47 : UInt8) ∉ p) : Lib.index (p ++ 47 :: r) [47] = p.length := by
  induction p with
  | nil => rw [List.nil_append, Lib.index]; simp [List.isPrefixOf]
  | cons c p ih =>
    simp only [List.mem_cons, not_or] at h
    have hb : ((47 : UInt8) == c) = false := by simpa using h.1
    have hn : ((p.length : Int) == -1) = false := by simp
    rw [List.cons_append, Lib.index]; simp [List.isPrefixOf, hb, ih h.2, hn]
theorem splitK_cuts : ∀ (k : Nat) (s : Str), s.count 47 = k → Lib.splitK [47] 0 k s = cuts s := by
  intro k
  induction k with
  | zero =>
    intro s h
    rw [Lib.splitK, cuts_no s (by rw [← List.count_eq_zero]; exact h)]
  | succ k ih =>
    intro s h
    rcases first_slash s with hs | ⟨p, r, rfl, hp⟩
    · rw [List.count_eq_zero.2 hs] at h; omega
    · rw [cuts_first p r hp, Lib.splitK, index_first p r hp, if_neg (by simp)]
      have hc : r.count 47 = k := by
        rw [List.count_append, List.count_eq_zero.2 hp, List.count_cons_self] at h; omega
      rw [← ih r hc]
      simp
abbrev B1 (c : UInt8) : ByteArray := ⟨#[c]⟩
theorem splitB_cuts (s : ByteArray) : (Lib.splitB (B1 47) 0 (Lib.countB s (B1 47)) s).map (·.data.toList) = cuts s.data.toList := by
  rw [Lib.splitB_data]
  have hc : Lib.countB s (B1 47) = s.data.toList.count 47 := by
    unfold Lib.countB; exact Lib.count_one _ _
  rw [hc]; exact splitK_cuts _ _ rfl
end Go.Proofs.YtheampfoedhipaaGreatDoor
