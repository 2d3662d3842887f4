/- The walks of package place: names. -/
import Derived.Test.YtheampfoedhipaaGreatDoorPw
namespace Go.Proofs.YtheampfoedhipaaGreatDoor
open Go Go.RowKit
set_option maxRecDepth 100000

/-- What is known of the package-level variables. -/
structure Gl (w : World) : Prop where
  named : ∀ i, i < 128 → w.cell? ⟨0, i, none⟩ = some (.int .u8 (nameTab i))
  maxlen : ∃ m : Int, w.cell? ⟨2, 0, none⟩ = some (.int .i64 m)

theorem nameTab_byte (c : UInt8) : nameTab c.toNat = if nameByte c then 1 else 0 := by
  unfold nameTab; rw [show UInt8.ofNat c.toNat = c from by simp]
theorem nameByte_low (c : UInt8) (h : 128 ≤ c.toNat) : nameByte c = false := by
  simp only [nameByte, Bool.or_eq_false_iff, Bool.and_eq_false_iff, decide_eq_false_iff_not, UInt8.le_iff_toNat_le, beq_eq_false_iff_ne, ne_eq, ← UInt8.toNat_inj]
  refine ⟨⟨⟨⟨⟨?_, ?_⟩, ?_⟩, ?_⟩, ?_⟩, ?_⟩ <;> simp <;> omega
theorem take_all_step (p : UInt8 → Bool) (s : Str) (k : Nat) (h : k < s.length) : (s.take (k + 1)).all p = ((s.take k).all p && p s[k]) := by
  rw [List.take_succ_eq_append_getElem h, List.all_append]; simp

theorem at_data (a : ByteArray) (k : Nat) (h : k < a.size) : a[k] = a.data.toList[k]'(by simpa using h) := rfl

set_option maxHeartbeats 400000 in
theorem isName_any (a : ByteArray) (w : World) (hg : Gl w) :
    Calls Tryz.prog 193 #[.string a] w fun e w' => e = .returned (.bool (isName a.data.toList)) ∧ ∃ m, w' = w.drewN m := by
  obtain ⟨s, hs⟩ : ∃ s, s = a.data.toList := ⟨_, rfl⟩
  have hz : a.size = s.length := by rw [hs]; simp
  have et : a.toList = s := by rw [hs, toList_data]
  rw [← hs]
  have HS := hide hs; clear hs
  have HZ := hide hz
  have hz1 : a.size ≤ s.length := by omega
  have hz2 : s.length ≤ a.size := by omega
  clear hz
  by_cases h0 : s = []
  · have g0 : a.toList.isEmpty = true := by rw [et, h0]; rfl
    have HF := hide (show isName s = false by rw [h0]; rfl)
    clear et h0
    go_enter Tryz.func193, Tryz.ntmps193
    go_wp2_with fail
    go_ret; exact ⟨ret_bool HF.out.symm, 0, rfl⟩
  have g0 : (a.toList.isEmpty) = false := by rw [et]; simpa using h0
  by_cases h1 : 16 < s.length
  · have hl : isName s = false := by simp only [isName, show decide (s.length ≤ 16) = false from by simp; omega, Bool.and_false, Bool.false_and]
    have HF := hide hl; clear hl et h0
    go_enter Tryz.func193, Tryz.ntmps193
    go_wp2_with fail
    go_ret; exact ⟨ret_bool HF.out.symm, 0, rfl⟩
  by_cases h2 : s = [46]
  · have g2 : (a.toList == [46]) = true := by rw [et, h2]; rfl
    have HF := hide (show isName s = false by rw [h2]; rfl)
    clear et h0 h2
    go_enter Tryz.func193, Tryz.ntmps193
    go_wp2_with fail
    go_ret; exact ⟨ret_bool HF.out.symm, 0, rfl⟩
  have g2 : (a.toList == [46]) = false := by rw [et]; simpa using h2
  by_cases h3 : s = [46, 46]
  · have g3 : (a.toList == [46, 46]) = true := by rw [et, h3]; rfl
    have HF := hide (show isName s = false by rw [h3]; rfl)
    clear et h0 h2 h3
    go_enter Tryz.func193, Tryz.ntmps193
    go_wp2_with fail
    go_ret; exact ⟨ret_bool HF.out.symm, 0, rfl⟩
  have g3 : (a.toList == [46, 46]) = false := by rw [et]; simpa using h3
  have hfin : isName s = s.all nameByte := by
    have q0 : (s == []) = false := by simpa using h0
    have q2 : (s == [46]) = false := by simpa using h2
    have q3 : (s == [46, 46]) = false := by simpa using h3
    simp only [isName, q0, q2, q3, show decide (s.length ≤ 16) = true from by simp; omega, Bool.not_false, Bool.true_and]
  have HF := hide hfin
  clear hfin h0 h2 h3 et
  go_enter Tryz.func193, Tryz.ntmps193
  go_wp2_with fail
  go_loop [3, 21] (fun _ i => ∃ k : Nat, k ≤ a.size ∧ i = .int .i64 k ∧ Hid ((s.take k).all nameByte = true)) (fun _ i => a.size - (intOf i).toNat)
  case atStart => exact ⟨0, Nat.zero_le _, rfl, rfl⟩
  case round =>
    obtain ⟨k, hk, rfl, hall⟩ := hrel
    by_cases hlt : k < a.size
    · have hst := hide (take_all_step nameByte s k (by omega))
      have hat := hide (show a[k] = s[k]'(by omega) from (at_data a k hlt).trans (List.getElem_of_eq HS.out (by omega)).symm)
      by_cases hb : 128 ≤ a[k].toNat
      · have hb' : (128 : Int) ≤ (a[k].toNat : Int) := by omega
        have hno := hide (nameByte_low _ hb)
        go_wp2_with fail
        go_ret
        exact ⟨ret_bool (by
          rw [HF.out]
          have : nameByte (s[k]'(by omega)) = false := by rw [← hat.out]; exact hno.out
          symm; rw [List.all_eq_false]
          exact ⟨s[k]'(by omega), List.getElem_mem _, by simp [this]⟩), 0, rfl⟩
      · have hb' : ¬ (128 : Int) ≤ (a[k].toNat : Int) := by omega
        have hc := hg.named a[k].toNat (by omega)
        by_cases hn : nameByte a[k] = true
        · rw [nameTab_byte, if_pos hn] at hc
          have hn' := hide hn; clear hn
          go_wp2_with fail
          go_round
          case rel => exact ⟨k + 1, by omega, by go_num, by show _ = _; rw [hst.out, hall.out, ← hat.out, hn'.out]; rfl⟩
          case measure => simp [intOf]; omega
        · rw [nameTab_byte, if_neg hn] at hc
          have hn' := hide hn; clear hn
          go_wp2_with fail
          go_ret
          exact ⟨ret_bool (by
            rw [HF.out]
            have : nameByte (s[k]'(by omega)) = false := by rw [← hat.out]; simpa using hn'.out
            symm; rw [List.all_eq_false]
            exact ⟨s[k]'(by omega), List.getElem_mem _, by simp [this]⟩), 0, rfl⟩
    · go_wp2_with fail
      go_ret
      exact ⟨ret_bool (by rw [HF.out, ← hall.out, List.take_of_length_le (by omega)]), 0, rfl⟩
end Go.Proofs.YtheampfoedhipaaGreatDoor
