/- The walks of package shot: has. -/
import Derived.Test.YtheampfoedhipaaGreatDoorPw5
import Derived.Test.YtheampfoedhipaaGreatDoorPo
namespace Go.Proofs.YtheampfoedhipaaGreatDoor
open Go Go.RowKit
set_option maxRecDepth 100000

theorem Order_str (a b : Str) (w : World) (ha : a.length ≤ 4611686018427387904) (hb : b.length ≤ 4611686018427387904) :
    Calls Tryz.prog 84 #[.string (B a), .string (B b)] w fun e w' => e = .returned (.int .i64 (ord a b)) ∧ ∃ n, w' = w.drewN n :=
  (Order_any (B a) (B b) w (by rw [B_size]; exact ha) (by rw [B_size]; exact hb)).mono fun e w' h => by simpa using h

theorem has1_any (a d : Str) (x : Int) (p : Str) (w : World) (ha : a.length ≤ 4611686018427387904) (hp : p.length ≤ 4611686018427387904) :
    Calls Tryz.prog 198 #[.agg #[.string (B a), .string (B d), .int .i64 x], .string (B p)] w fun e w' => e = .returned (.int .i64 (ord a p)) ∧ Below w.heap.size w w' := by
  go_enter Tryz.func198, Tryz.ntmps198
  go_wp2_with (go_at_call 84; refine (Order_str _ _ _ ha hp).mono ?_; rintro e w1 ⟨rfl, n, rfl⟩)
  go_ret
  exact ⟨rfl, below_drewN ((Below.refl _ _).alloc (Nat.le_refl _) _) _⟩

set_option maxHeartbeats 800000 in
theorem BSearch_any (v : Value) (l : List Seen) (p : Str) (w : World) (hv : Rd 3 encSeen w v l) (hs : Rising Seen.place l)
    (hn : l.length ≤ 1048576) (hl : ∀ x ∈ l, x.place.length ≤ 4611686018427387904) (hp : p.length ≤ 4611686018427387904) :
    Calls Tryz.prog 197 #[v, .string (B p), .func (.func 198) #[] #[]] w fun e w' =>
      e = .returned (.tuple #[.int .i64 (lowerB Seen.place l p), .bool (hasAt Seen.place l p)]) ∧ Below w.heap.size w w' := by
  have hv0 := hv
  obtain ⟨X, c, rfl, h1, h2, h3⟩ := hv
  have HS := hide hs; have HL := hide hl; have HV := hide hv0; clear hs hl hv0
  go_enter Tryz.func197, Tryz.ntmps197
  go_wp2_with fail
  go_loopw [9, 10, 11] (fun i j _ wr => ∃ a b : Nat, a ≤ b ∧ b ≤ l.length ∧ i = .int .i64 a ∧ j = .int .i64 b ∧ Below w.heap.size w wr ∧ Hid (∀ q (h : q < l.length), q < a → ord l[q].place p < 0) ∧ Hid (∀ q (h : q < l.length), b ≤ q → 0 ≤ ord l[q].place p)) (fun i j _ _ => (intOf j - intOf i).toNat)
  case atStart => exact ⟨0, l.length, by omega, by omega, rfl, rfl, Below.refl _ _, fun q _ h => absurd h (by omega), fun q hq h => absurd hq (by omega)⟩
  case round =>
    obtain ⟨a, b, hab, hbl, rfl, rfl, hbel, hlo, hhi⟩ := hrel
    by_cases hlt : a < b
    · have hml : (a + b) / 2 < l.length := by omega
      obtain ⟨g, o, rfl, hg, hr0⟩ := h3 (by omega)
      have hr := hr0.keep (w' := wr) (fun i => World.cell?_of_block (w := w) (hbel.block g hg))
      have z0 := hr.at0 hml rfl
      have z1 := hr.at_ hml 1 rfl
      have z2 := hr.at_ hml 2 rfl
      have hpl := HL.out (l[(a + b) / 2]) (List.getElem_mem _)
      obtain ⟨x, hx⟩ : ∃ x, x = l[(a + b) / 2] := ⟨_, rfl⟩
      rw [← hx] at z0 z1 z2 hpl
      have HX := hide hx
      clear hx hr hr0 h3
      have hb1 : (0 : Int) ≤ ((a : Int) + b) / 2 := by omega
      have hb2 : ((a : Int) + b) / 2 < l.length := by omega
      have hb3 : (((a : Int) + b) / 2).toNat = (a + b) / 2 := by omega
      go_wp2_with (go_at_call 198; refine (has1_any x.place x.data x.version p _ hpl hp).mono ?_; rintro e w1 ⟨rfl, hb1'⟩)
      · rename_i hneg
        go_roundw
        case rel => exact ⟨(a + b) / 2 + 1, b, by omega, hbl, by go_num, rfl, below_trans hbel hb1', fun q hq h => by
            rcases Nat.lt_or_ge q ((a + b) / 2) with h' | h'
            · exact ord_trans ((List.pairwise_iff_getElem.1 HS.out) _ _ hq hml h') (by rw [← HX.out]; exact hneg)
            · have e : q = (a + b) / 2 := by omega
              subst e; rw [← HX.out]; exact hneg, hhi⟩
        case measure => simp [intOf]; omega
      · rename_i hpos
        go_roundw
        case rel => exact ⟨a, (a + b) / 2, by omega, by omega, rfl, by go_num, below_trans hbel hb1', hlo, fun q hq h => by
            rcases Nat.lt_or_ge ((a + b) / 2) q with h' | h'
            · have := (List.pairwise_iff_getElem.1 HS.out) _ _ hml hq h'
              rcases Int.lt_or_le (ord l[q].place p) 0 with h'' | h''
              · have := ord_trans this h''; rw [← HX.out] at this; omega
              · exact h''
            · have e : q = (a + b) / 2 := by omega
              subst e; rw [← HX.out]; omega⟩
        case measure => simp [intOf]; omega
    · have hab' : a = b := by omega
      subst hab'
      have hlb := lowerB_is HS.out hbl hlo.out hhi.out
      have HLB := hide hlb
      clear hlb
      by_cases hal : a < l.length
      · obtain ⟨g, o, rfl, hg, hr0⟩ := h3 (by omega)
        have hr := hr0.keep (w' := wr) (fun i => World.cell?_of_block (w := w) (hbel.block g hg))
        have z0 := hr.at0 hal rfl
        have z1 := hr.at_ hal 1 rfl
        have z2 := hr.at_ hal 2 rfl
        have hpl := HL.out l[a] (List.getElem_mem _)
        obtain ⟨x, hx⟩ : ∃ x, x = l[a] := ⟨_, rfl⟩
        rw [← hx] at z0 z1 z2 hpl
        have HX := hide hx
        clear hx hr hr0 h3
        have hfin : (ord x.place p == 0) = hasAt Seen.place l p := by
          rw [Bool.eq_iff_iff, hasAt_lower HS.out, ← HLB.out]
          simp only [beq_iff_eq, ord_zero, HX.out]
          exact ⟨fun h => ⟨hal, h⟩, fun ⟨_, h⟩ => h⟩
        have HF := hide hfin
        clear hfin
        go_wp2_with (go_at_call 198; refine (has1_any x.place x.data x.version p _ hpl hp).mono ?_; rintro e w1 ⟨rfl, hb1'⟩)
        go_ret2
        exact ⟨by rw [← HF.out, ← HLB.out]; rfl, below_trans hbel hb1'⟩
      · have hfin : hasAt Seen.place l p = false := by
          rw [Bool.eq_false_iff]; intro h
          obtain ⟨h', _⟩ := (hasAt_lower HS.out).1 h
          rw [← HLB.out] at h'; exact hal h'
        have HF := hide hfin
        clear hfin h3
        go_wp2_with fail
        go_ret2
        exact ⟨by rw [HF.out, ← HLB.out]; rfl, hbel⟩

theorem has_any (v : Value) (l : List Seen) (p : Str) (w : World) (hv : Rd 3 encSeen w v l) (hs : Rising Seen.place l)
    (hn : l.length ≤ 1048576) (hl : ∀ x ∈ l, x.place.length ≤ 4611686018427387904) (hp : p.length ≤ 4611686018427387904) :
    Calls Tryz.prog 157 #[v, .string (B p)] w fun e w' => e = .returned (.tuple #[.int .i64 (lowerB Seen.place l p), .bool (hasAt Seen.place l p)]) ∧ Below w.heap.size w w' := by
  have hc := hide (BSearch_any v l p w hv hs hn hl hp)
  clear hv hs hl
  go_enter Tryz.func157, Tryz.ntmps157
  go_wp2_with (go_at_call 197; refine (show Calls _ _ _ _ _ from hc.out).mono ?_; rintro e w1 ⟨rfl, hb⟩)
  go_ret2
  exact ⟨rfl, hb⟩
end Go.Proofs.YtheampfoedhipaaGreatDoor
