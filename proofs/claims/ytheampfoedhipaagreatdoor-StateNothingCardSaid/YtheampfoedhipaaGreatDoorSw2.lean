/- The walks of package shot: isBelow. -/
import Derived.Test.YtheampfoedhipaaGreatDoorSw1
import Derived.Test.YtheampfoedhipaaGreatDoorPs
namespace Go.Proofs.YtheampfoedhipaaGreatDoor
open Go Go.RowKit
set_option maxRecDepth 100000

theorem Parent_str (s : Str) (w : World) (hg : Gl w) :
    Calls Tryz.prog 158 #[.string (B s)] w fun e w' => e = .returned (.tuple #[.string (B (parent s).1), .int .i64 (parent s).2]) ∧ Below w.heap.size w w' :=
  (Parent_any (B s) w hg).mono fun e w' h => by simpa using h
theorem Parent_is (s p : Str) (c : Int) (w : World) (hg : Gl w) (h : parent s = (p, c)) :
    Calls Tryz.prog 158 #[.string (B s)] w fun e w' => e = .returned (.tuple #[.string (B p), .int .i64 c]) ∧ Below w.heap.size w w' :=
  (Parent_str s w hg).mono fun e w' h' => by rw [h] at h'; exact h'
theorem ret_bb {a b a' b' : Bool} (h : a = a') (h' : b = b') : Ending.returned (.tuple #[.bool a, .bool b]) = .returned (.tuple #[.bool a', .bool b']) := by rw [h, h']

set_option maxHeartbeats 800000 in
theorem isBelow_any (s t : Str) (w : World) (hg : Gl w) :
    Calls Tryz.prog 160 #[.string (B s), .string (B t)] w fun e w' => e = .returned (.tuple #[.bool (isBelow s t).1, .bool (isBelow s t).2]) ∧ Below w.heap.size w w' := by
  by_cases h1 : (parse s).2 = 0
  · obtain ⟨hp, hpl⟩ := parse_path h1
    obtain ⟨l, hl⟩ : ∃ l, l = (parse s).1 := ⟨_, rfl⟩
    have hno := @isBelow_no s t
    have hyes := @isBelow_yes s t
    rw [← hl] at hp hpl hno hyes
    have h6 := hp.1
    have HNO := hide hno; have HY := hide hyes; have HP := hide hp
    have hpar : Hid (parent s = if l.length = 0 then ([], 47) else (placed (l.take (l.length - 1)), 0)) := by
      show _ = _
      rw [← hpl]
      split
      · rename_i h0
        have : l = [] := List.eq_nil_of_length_eq_zero h0
        rw [this]; exact parent_root
      · rename_i h0
        have hlen : l.length - 1 + 1 = l.length := by omega
        have := parent_take hp (j := l.length - 1) (by omega)
        rw [hlen, List.take_length] at this; exact this
    clear hno hyes hp hpl h1 hl
    go_enter Tryz.func160, Tryz.ntmps160
    by_cases h0 : l.length = 0
    · have HPAR := hide (hpar.out.trans (if_pos h0))
      have H0 := hide h0; clear h0
      go_wp2_with (go_at_call 158; refine (Parent_is s [] 47 _ hg HPAR.out).mono ?_; rintro e w1 ⟨rfl, hb⟩)
      refine wp_loop_rounds 1 ?_
      rw [rounds_succ]
      go_wp2_with fail
      go_ret2
      have := HNO.out (fun i hi => absurd hi (by rw [H0.out]; omega))
      exact ⟨ret_bb (by rw [this]) (by rw [this]), hb⟩
    · have HPAR := hide (hpar.out.trans (if_neg h0))
      go_wp2_with (go_at_call 158; refine (Parent_is s _ 0 _ hg HPAR.out).mono ?_; rintro e w1 ⟨rfl, hb⟩)
      go_loopg [4, 5, 6, 7] (l.length) (fun j f _ up c wr => j ≤ l.length ∧ f = .bool (decide (j < l.length)) ∧ Below w.heap.size w wr ∧ Hid (∀ i, j ≤ i → i < l.length → placed (l.take i) ≠ t) ∧
        ((j = 0 ∧ c = .int .i64 47 ∧ up = .string (B [])) ∨ (1 ≤ j ∧ c = .int .i64 0 ∧ up = .string (B (placed (l.take (j - 1)))))))
      case atStart => exact ⟨Nat.le_refl _, by simp, hb, fun i h h' => absurd h' (by omega), .inr ⟨by omega, rfl, rfl⟩⟩
      case round =>
        obtain ⟨hj, rfl, hbel, hnm, ⟨hj0, rfl, rfl⟩ | ⟨hj1, rfl, rfl⟩⟩ := hrel
        · go_wp2_with fail
          go_ret2
          have := HNO.out (fun i hi => hnm.out i (by omega) hi)
          exact ⟨ret_bb (by rw [this]) (by rw [this]), hbel⟩
        · obtain ⟨k, hk⟩ : ∃ k, gk = k + 1 := ⟨gk - 1, by omega⟩
          subst hk
          obtain ⟨u, hu⟩ : ∃ u, u = placed (l.take k) := ⟨_, rfl⟩
          rw [show k + 1 - 1 = k from rfl, ← hu]
          have HU := hide hu
          clear hu
          by_cases hut : u = t
          · have gu : (u == t) = true := by simpa using hut
            have hf := HY.out k HP.out (by omega) (by rw [← HU.out, hut])
            have HF := hide hf
            clear hf hut
            go_wp2_with fail
            go_ret2
            exact ⟨ret_bb (by rw [HF.out]) (by rw [HF.out]; show (!decide _) = decide _; rw [Bool.eq_iff_iff]; simp; omega), hbel⟩
          · have gu : (u == t) = false := by simpa using hut
            have HUT := hide hut
            clear hut
            by_cases hk0 : k = 0
            · have hpu : parent u = ([], 47) := by rw [HU.out, hk0]; exact parent_root
              have HPU := hide hpu
              have HK := hide hk0
              clear hpu hk0
              go_wp2_with (go_at_call 158; refine (Parent_is u [] 47 _ (by exact hg.below hbel) HPU.out).mono ?_; rintro e w1 ⟨rfl, hb1⟩)
              go_roundg 0
              case rel => exact ⟨by omega, by simp; omega, below_trans hbel hb1, fun i _ h' => by
                rcases Nat.lt_or_ge i 1 with h | h
                · have : i = 0 := by omega
                  subst this; rw [show l.take 0 = l.take k by rw [HK.out], ← HU.out]; exact HUT.out
                · exact hnm.out i (by have := HK.out; omega) h', .inl ⟨rfl, rfl, rfl⟩⟩
              case measure => omega
            · have hpu : parent u = (placed (l.take (k - 1)), 0) := by
                rw [HU.out]
                have := parent_take HP.out (j := k - 1) (by omega)
                rwa [show k - 1 + 1 = k by omega] at this
              have HPU := hide hpu
              clear hpu
              go_wp2_with (go_at_call 158; refine (Parent_is u _ 0 _ (by exact hg.below hbel) HPU.out).mono ?_; rintro e w1 ⟨rfl, hb1⟩)
              go_roundg k
              case rel => exact ⟨by omega, by simp; omega, below_trans hbel hb1, fun i h h' => by
                rcases Nat.lt_or_ge k i with h2 | h2
                · exact hnm.out i (by omega) h'
                · have : i = k := by omega
                  subst this; rw [← HU.out]; exact HUT.out, .inr ⟨by omega, rfl, rfl⟩⟩
              case measure => omega
  · have hb : ((parse s).2 == 0) = false := by simpa using h1
    have hpar : parent s = ([], (parse s).2) := by unfold parent; rw [if_pos h1]
    have hpe := parse_bad h1
    have HPAR := hide hpar
    have hfin : isBelow s t = (false, false) := isBelow_no (fun i hi => absurd hi (by rw [hpe]; simp))
    have HF := hide hfin
    clear hpar hpe hfin h1
    go_enter Tryz.func160, Tryz.ntmps160
    go_wp2_with (go_at_call 158; refine (Parent_is s _ _ _ hg HPAR.out).mono ?_; rintro e w1 ⟨rfl, hb⟩)
    refine wp_loop_rounds 1 ?_
    rw [rounds_succ]
    go_wp2_with fail
    go_ret2
    exact ⟨ret_bb (by rw [HF.out]) (by rw [HF.out]), hb⟩
end Go.Proofs.YtheampfoedhipaaGreatDoor
