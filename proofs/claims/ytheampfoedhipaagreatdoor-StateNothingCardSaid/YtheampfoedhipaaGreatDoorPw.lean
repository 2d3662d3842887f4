/- The walks of package place. -/
import Derived.Test.YtheampfoedhipaaGreatDoorProg
import Derived.Test.YtheampfoedhipaaGreatDoorBa
import Derived.Test.YtheampfoedhipaaGreatDoorPp
namespace Go.Proofs.YtheampfoedhipaaGreatDoor
open Go Go.RowKit
set_option maxRecDepth 100000

theorem weight_any (c : Int) (w : World) (h0 : 0 ≤ c) (h1 : c ≤ 255) :
    Calls Tryz.prog 154 #[.int .u8 c] w fun e w' => e = .returned (.int .i64 (wt c)) ∧ ∃ m, w' = w.drewN m := by
  by_cases hc : c = 47
  · have hb : (c == 47) = true := by simpa using hc
    go_enter Tryz.func154, Tryz.ntmps154
    go_wp2
    go_ret
    exact ⟨by simp [wt, hc], 0, rfl⟩
  · have hb : (c == 47) = false := by simpa using hc
    go_enter Tryz.func154, Tryz.ntmps154
    go_wp2
    go_ret
    exact ⟨by simp [wt, hc], 0, rfl⟩

theorem weight_byte (c : UInt8) (w : World) :
    Calls Tryz.prog 154 #[.int .u8 (c.toNat : Int)] w fun e w' => e = .returned (.int .i64 (wt c.toNat)) ∧ ∃ m, w' = w.drewN m :=
  weight_any _ _ (by omega) (by have := c.toNat_lt; omega)

theorem ord_drop (a b : ByteArray) (k : Nat) (ha : k < a.size) (hb : k < b.size) : ord (a.data.toList.drop k) (b.data.toList.drop k) = 
   if wt a[k].toNat < wt b[k].toNat then -1 else if wt b[k].toNat < wt a[k].toNat then 1 else ord (a.data.toList.drop (k+1)) (b.data.toList.drop (k+1)) := by
  have h1 : a.data.toList.drop k = a[k] :: a.data.toList.drop (k+1) := by
    rw [List.drop_eq_getElem_cons (by simpa using ha)]; rfl
  have h2 : b.data.toList.drop k = b[k] :: b.data.toList.drop (k+1) := by
    rw [List.drop_eq_getElem_cons (by simpa using hb)]; rfl
  rw [h1, h2]; simp only [ord]

theorem ord_end (a b : ByteArray) (k : Nat) (hk : k = min a.size b.size) : ord (a.data.toList.drop k) (b.data.toList.drop k) = 
   if a.size < b.size then -1 else if b.size < a.size then 1 else 0 := by
  have ha : a.data.toList.length = a.size := by simp
  have hb : b.data.toList.length = b.size := by simp
  by_cases h1 : a.size < b.size
  · rw [if_pos h1, List.drop_eq_nil_of_le (by omega)]
    rw [List.drop_eq_getElem_cons (by omega)]; simp [ord]
  · rw [if_neg h1]
    by_cases h2 : b.size < a.size
    · rw [if_pos h2, show List.drop k b.data.toList = [] from List.drop_eq_nil_of_le (by omega)]
      rw [List.drop_eq_getElem_cons (by omega)]; simp [ord]
    · rw [if_neg h2, List.drop_eq_nil_of_le (by omega), List.drop_eq_nil_of_le (by omega)]; simp [ord]

set_option maxHeartbeats 400000 in
theorem Order_any (a b : ByteArray) (w : World) (ha : a.size ≤ 4611686018427387904) (hb : b.size ≤ 4611686018427387904) :
    Calls Tryz.prog 84 #[.string a, .string b] w fun e w' => e = .returned (.int .i64 (ord a.data.toList b.data.toList)) ∧ ∃ n, w' = w.drewN n := by
  obtain ⟨m, hm, hma, hmb, hmm⟩ : ∃ m : Nat, m = min a.size b.size ∧ m ≤ a.size ∧ m ≤ b.size ∧ (a.size ≤ m ∨ b.size ≤ m) := ⟨_, rfl, by omega, by omega, by omega⟩
  have HM := hide hm; clear hm
  go_enter Tryz.func84, Tryz.ntmps84
  go_wp2_with fail
  all_goals
    go_loopw [5, 6, 7, 13] (fun _ _ _ i wr => ∃ k : Nat, k ≤ m ∧ i = .int .i64 k ∧ (∃ n, wr = w.drewN n) ∧ Hid (ord a.data.toList b.data.toList = ord (a.data.toList.drop k) (b.data.toList.drop k))) (fun _ _ _ i _ => a.size - (intOf i).toNat)
    case atStart => exact ⟨0, Nat.zero_le _, rfl, ⟨0, rfl⟩, rfl⟩
    case round =>
      obtain ⟨k, hk, rfl, ⟨n, rfl⟩, hord⟩ := hrel
      by_cases hlt : k < m
      · have hla : k < a.size := by omega
        have hlb : k < b.size := by omega
        have hd := hide (ord_drop a b k hla hlb)
        go_wp2_with fail
        go_quiet ((go_at_call 154; exact quiet_add (weight_byte _ _)))
        go_wp2_with fail
        · go_ret; rename_i h; exact ⟨ret_int (by rw [hord.out, hd.out, if_pos h]), _, rfl⟩
        · go_ret; rename_i h h'; exact ⟨ret_int (by rw [hord.out, hd.out, if_neg (by omega), if_pos h']), _, rfl⟩
        · rename_i h h'
          go_roundw
          case rel => exact ⟨k + 1, by omega, by go_num, ⟨_, rfl⟩, by show _ = _; rw [hord.out, hd.out, if_neg (by omega), if_neg (by omega)]⟩
          case measure => simp [intOf] <;> omega
      · have hkm := hide (ord_end a b k (by rw [← HM.out]; omega))
        by_cases h1 : a.size < b.size
        · go_wp2_with fail
          all_goals (go_ret; exact ⟨ret_int (by rw [hord.out, hkm.out, if_pos h1]), _, rfl⟩)
        · by_cases h2 : b.size < a.size
          · go_wp2_with fail
            all_goals (go_ret; exact ⟨ret_int (by rw [hord.out, hkm.out, if_neg h1, if_pos h2]), _, rfl⟩)
          · go_wp2_with fail
            all_goals (go_ret; exact ⟨ret_int (by rw [hord.out, hkm.out, if_neg h1, if_neg h2]), _, rfl⟩)
end Go.Proofs.YtheampfoedhipaaGreatDoor
