/- The walks of package place: Parent, Name, Covers. -/
import Derived.Test.YtheampfoedhipaaGreatDoorPw3
import Derived.Test.YtheampfoedhipaaGreatDoorPq
namespace Go.Proofs.YtheampfoedhipaaGreatDoor
open Go Go.RowKit
set_option maxRecDepth 100000

theorem ret_str {a b : Str} (h : a = b) : Ending.returned (.string (B a)) = .returned (.string (B b)) := by rw [h]
theorem ret_spair {a b : Str} {x y : Int} {k : IntKind} (h : a = b) (h' : x = y) : Ending.returned (.tuple #[.string (B a), .int k x]) = .returned (.tuple #[.string (B b), .int k y]) := by rw [h, h']
section
variable {α : Type} {k : Nat} {enc : α → List Value} {w w' : World} {v : Value} {l : List α}
theorem RowAt.take {g o : Nat} (h : RowAt k enc w g o l) (n : Nat) : RowAt k enc w g o (l.take n) := by
  intro j x hx i u hu
  rw [List.getElem?_take] at hx
  split at hx
  · exact h j x hx i u hu
  · cases hx
end

theorem Join_any (v : Value) (l : List Str) (w : World) (h : Rd 1 encStr w v l) (hl : (joined l).length ≤ 140737488355328) (hn : l.length ≤ 140737488355328) :
    Calls Tryz.prog 235 #[v, .string ⟨#[47]⟩] w fun e w' => e = .returned (.string (B (joined l))) ∧ Below w.heap.size w w' := by
  obtain ⟨X, c, rfl, h1, h2, h3⟩ := h
  by_cases h0 : l.length = 0
  · have : l = [] := List.eq_nil_of_length_eq_zero h0
    subst this
    refine (Tryz.strings_Join_none X c ⟨#[47]⟩ w).mono ?_
    rintro e w' ⟨rfl, rfl⟩
    exact ⟨rfl, Below.refl _ _⟩
  · obtain ⟨g, o, rfl, hg, hr⟩ := h3 (by omega)
    have e1 : (l.map B).map (·.data.toList) = l := by rw [List.map_map]; simp [Function.comp_def]
    have c := Tryz.strings_Join g o c (l.map B) ⟨#[47]⟩ w (fun j x hx => by
      rw [List.getElem?_map] at hx
      obtain ⟨y, hy, rfl⟩ := Option.map_eq_some_iff.1 hx
      have := hr j y hy 0 _ rfl
      simpa using this) hg (by simpa using hn) (by simpa using h1) (by rw [e1]; rw [show (ByteArray.mk #[47]).data.toList = [47] from rfl, join_joined]; exact hl)
    rw [e1, show (ByteArray.mk #[47]).data.toList = [47] from rfl, join_joined, List.length_map] at c
    exact c

theorem placed_any (v : Value) (l : List Str) (w : World) (h : Rd 1 encStr w v l) (hp : IsPath l) :
    Calls Tryz.prog 199 #[v] w fun e w' => e = .returned (.string (B (placed l))) ∧ Below w.heap.size w w' := by
  have h16 := joined_len l (fun x hx => isName_le (hp.2 x hx))
  have h6 := hp.1
  have hc := Join_any v l w h (by omega) (by omega)
  have hsz : ¬ (1 + ((joined l).length : Int)) > 9223372036854775807 := by omega
  have HC := hide hc
  clear hc h hp
  go_enter Tryz.func199, Tryz.ntmps199
  go_wp2_with (go_at_call 235; refine (show Calls _ _ _ _ _ from HC.out).mono ?_; rintro e w1 ⟨rfl, hbel⟩)
  go_ret
  exact ⟨ret_str (by simp [placed]), hbel⟩

theorem Rd.cut {α : Type} {k : Nat} {enc : α → List Value} {w : World} {X : Option Addr} {n c m : Nat} {l : List α} (h : Rd k enc w (.slice X n c) l) (hm : m ≤ n) : Rd k enc w (.slice X m c) (l.take m) := by
  obtain ⟨X', c', he, h1, h2, h3⟩ := h
  injection he with e1 e2 e3
  subst e1; subst e2; subst e3
  have hl : (l.take m).length = m := by rw [List.length_take]; omega
  refine ⟨X, c, by rw [hl], by omega, h2, fun hn => ?_⟩
  obtain ⟨g, o, e, hg, hr⟩ := h3 (by omega)
  exact ⟨g, o, e, hg, hr.take m⟩

set_option maxHeartbeats 400000 in
theorem Parent_any (a : ByteArray) (w : World) (hg : Gl w) :
    Calls Tryz.prog 158 #[.string a] w fun e w' => e = .returned (.tuple #[.string (B (parent a.data.toList).1), .int .i64 (parent a.data.toList).2]) ∧ Below w.heap.size w w' := by
  obtain ⟨s, hs⟩ : ∃ s, s = a.data.toList := ⟨_, rfl⟩
  have hc := Parse_any a w hg
  rw [← hs] at hc ⊢
  have HC := hide hc; clear hc hs
  by_cases h1 : (parse s).2 = 0
  · obtain ⟨hp, hpl⟩ := parse_path h1
    by_cases h2 : (parse s).1 = []
    · have hf : parent s = ([], 47) := by unfold parent; rw [if_neg (by simpa using h1), if_pos h2]
      have HF := hide hf
      rw [h1, h2] at HC
      clear hf hp hpl h1 h2
      go_enter Tryz.func158, Tryz.ntmps158
      go_wp2_with (go_at_call 146; refine (show Calls _ _ _ _ _ from HC.out).mono ?_; rintro e w1 ⟨v, rfl, ⟨X, c, rfl, hlc, hcm, hrow⟩, hbel⟩)
      go_ret2
      exact ⟨ret_spair (by rw [HF.out]) (by rw [HF.out]), hbel⟩
    · have hf : parent s = (placed (parse s).1.dropLast, 0) := by unfold parent; rw [if_neg (by simpa using h1), if_neg h2]
      have HF := hide hf
      obtain ⟨l, hl⟩ : ∃ l, l = (parse s).1 := ⟨_, rfl⟩
      rw [← hl] at HC HF h2 hp
      rw [h1] at HC
      have hpos : 0 < l.length := List.length_pos_iff.2 h2
      have h6 := hp.1
      clear hf hpl h1 h2 hl
      go_enter Tryz.func158, Tryz.ntmps158
      go_wp2_with (first
        | (go_at_call 146; refine (show Calls _ _ _ _ _ from HC.out).mono ?_; rintro e w1 ⟨v, rfl, ⟨X, c, rfl, hlc, hcm, hrow⟩, hbel⟩)
        | (go_at_call 199; refine (placed_any _ l.dropLast _ (by rw [List.dropLast_eq_take]; exact Rd.cut (n := l.length) ⟨X, c, rfl, hlc, hcm, hrow⟩ (by omega)) hp.dropLast).mono ?_; rintro e w2 ⟨rfl, hbel2⟩))
      go_ret2
      exact ⟨ret_spair (by rw [HF.out]) (by rw [HF.out]), below_trans hbel hbel2⟩
  · have hf : parent s = ([], (parse s).2) := by unfold parent; rw [if_pos h1]
    have hb : ((parse s).2 == 0) = false := by simpa using h1
    have HF := hide hf; clear hf h1
    go_enter Tryz.func158, Tryz.ntmps158
    go_wp2_with (go_at_call 146; refine (show Calls _ _ _ _ _ from HC.out).mono ?_; rintro e w1 ⟨v, rfl, _, hbel⟩)
    go_ret2
    exact ⟨ret_spair (by rw [HF.out]) (by rw [HF.out]), hbel⟩

theorem isPlace_any (a : ByteArray) (w : World) (hg : Gl w) :
    Calls Tryz.prog 81 #[.string a] w fun e w' => e = .returned (.bool (placeOk a.data.toList)) ∧ Below w.heap.size w w' := by
  obtain ⟨s, hs⟩ : ∃ s, s = a.data.toList := ⟨_, rfl⟩
  have hc := Parse_any a w hg
  rw [← hs] at hc ⊢
  have HC := hide hc; clear hc hs
  go_enter Tryz.func81, Tryz.ntmps81
  go_wp2_with (go_at_call 146; refine (show Calls _ _ _ _ _ from HC.out).mono ?_; rintro e w1 ⟨v, rfl, _, hbel⟩)
  go_ret
  exact ⟨rfl, hbel⟩

theorem isKind_any (n : Int) (w : World) :
    Calls Tryz.prog 82 #[.int .i64 n] w fun e w' => e = .returned (.bool (kindOk n)) ∧ w = w' := by
  by_cases h1 : n = 1
  · have g1 : (n == 1) = true := by simpa using h1
    have hf := hide (show kindOk n = true by subst h1; rfl)
    clear h1
    go_enter Tryz.func82, Tryz.ntmps82
    go_wp2
    go_ret
    exact ⟨ret_bool hf.out.symm, rfl⟩
  have g1 : (n == 1) = false := by simpa using h1
  by_cases h2 : n = 2
  · have g2 : (n == 2) = true := by simpa using h2
    have hf := hide (show kindOk n = true by subst h2; rfl)
    clear h2
    go_enter Tryz.func82, Tryz.ntmps82
    go_wp2
    go_ret
    exact ⟨ret_bool hf.out.symm, rfl⟩
  have g2 : (n == 2) = false := by simpa using h2
  have hf := hide (show kindOk n = (n == 3) by unfold kindOk; rw [Bool.eq_iff_iff]; simp; omega)
  clear h1 h2
  go_enter Tryz.func82, Tryz.ntmps82
  go_wp2
  go_ret
  exact ⟨ret_bool hf.out.symm, rfl⟩

theorem fits_any (a : Str) (n : Int) (w : World) :
    Calls Tryz.prog 93 #[.string (B a), .int .i64 n] w fun e w' => e = .returned (.bool (fitsP a n)) ∧ w = w' := by
  by_cases h1 : a.length ≤ 64
  · have g1 : (a.length : Int) ≤ 64 := by omega
    by_cases h2 : 0 ≤ n
    · have hf := hide (show fitsP a n = decide (n ≤ 2147483647) by unfold fitsP; simp [h1, h2])
      go_enter Tryz.func93, Tryz.ntmps93
      go_wp2
      go_ret
      exact ⟨ret_bool hf.out.symm, rfl⟩
    · have hf := hide (show fitsP a n = false by unfold fitsP; simp [h2])
      go_enter Tryz.func93, Tryz.ntmps93
      go_wp2
      go_ret
      exact ⟨ret_bool hf.out.symm, rfl⟩
  · have g1 : ¬ (a.length : Int) ≤ 64 := by omega
    have hf := hide (show fitsP a n = false by unfold fitsP; simp [h1])
    go_enter Tryz.func93, Tryz.ntmps93
    go_wp2
    go_ret
    exact ⟨ret_bool hf.out.symm, rfl⟩
end Go.Proofs.YtheampfoedhipaaGreatDoor
