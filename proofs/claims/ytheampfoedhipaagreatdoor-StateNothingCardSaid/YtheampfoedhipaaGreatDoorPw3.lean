/- The walks of package place: Parse. -/
import Derived.Test.YtheampfoedhipaaGreatDoorPw2
import Derived.Test.YtheampfoedhipaaGreatDoorPc
import Derived.Test.YtheampfoedhipaaGreatDoorSh
namespace Go.Proofs.YtheampfoedhipaaGreatDoor
open Go Go.RowKit
set_option maxRecDepth 100000

theorem Gl.keep {w w' : World} (h : Gl w) (hk : ∀ g, g < w.heap.size → w'.heap[g]? = w.heap[g]?) : Gl w' :=
  ⟨fun i hi => by
    have hc := h.named i hi
    rw [← hc]; exact World.cell?_of_block (w := w) (hk 0 (World.block_lt_of_cell? w _ hc)), by
    obtain ⟨m, hm⟩ := h.maxlen
    exact ⟨m, by rw [← hm]; exact World.cell?_of_block (w := w) (hk 2 (World.block_lt_of_cell? w _ hm))⟩⟩
theorem Gl.below {w w' : World} (h : Gl w) (hb : Below w.heap.size w w') : Gl w' := h.keep fun g hg => hb.block g hg

theorem Gl.drewN {w : World} (h : Gl w) (n : Nat) : Gl (w.drewN n) := h.keep fun _ _ => rfl

theorem HasPrefix_slash (a : ByteArray) (w : World) : Calls Tryz.prog 191 #[.string a, .string ⟨#[47]⟩] w fun e w' => e = .returned (.bool (Lib.hasPrefix a.data.toList [47])) ∧ w = w' :=
  (Tryz.strings_HasPrefix a ⟨#[47]⟩ w).mono fun _ _ h => ⟨h.1, h.2.symm⟩
theorem isName_is (x : Str) (r : Bool) (w : World) (hg : Gl w) (h : isName x = r) :
    Calls Tryz.prog 193 #[.string (B x)] w fun e w' => e = .returned (.bool r) ∧ ∃ m, w' = w.drewN m :=
  (isName_any (B x) w hg).mono fun _ _ ⟨he, hw⟩ => ⟨by rw [he, B_list, h], hw⟩

/-- strings.Split at a slash. -/
theorem Split_slash (a : ByteArray) (w : World) (hg : Gl w) (hs : a.size < 4294967281) : Calls Tryz.prog 192 #[.string a, .string ⟨#[47]⟩] w fun e w' =>
    ∃ g n : Nat, n = (cuts a.data.toList).length ∧ e = .returned (.slice (some ⟨g, 0, none⟩) n n) ∧ RowAt 1 encStr w' g 0 (cuts a.data.toList) ∧ g < w'.heap.size ∧ w'.frozen? ⟨g, 0, none⟩ = false ∧ w.heap.size ≤ g ∧ Below w.heap.size w w' := by
  obtain ⟨m, hm⟩ := hg.maxlen
  refine (Tryz.strings_Split a ⟨#[47]⟩ m w hs hm (by decide)).mono ?_
  rintro e w' ⟨rfl, rfl⟩
  have hmap := splitB_cuts a
  have hlen : (Lib.splitB (B1 47) 0 (Lib.countB a (B1 47)) a).length = (cuts a.data.toList).length := by rw [← hmap]; simp
  have hall := Lib.splitB_all (B1 47) (by decide) 0 _ a rfl
  refine ⟨_, _, ?_, rfl, ?_, by simp, ?_, Nat.le_refl _, (Below.refl _ _).alloc (Nat.le_refl _) _⟩
  · rw [← hlen, hall]
  · intro j x hx i u hu
    rw [← hmap, List.getElem?_map] at hx
    obtain ⟨y, hy, rfl⟩ := Option.map_eq_some_iff.1 hx
    have hi : i = 0 := by
      rcases i with _ | i
      · rfl
      · simp [encStr] at hu
    subst hi
    simp [encStr] at hu
    subst hu
    rw [cell_of_row (w.alloc _) w.heap.size _ _ _ (0, 0) (heap_alloc_new w _)]
    simp [hy]
  · rw [World.frozen?, heap_alloc_new]; rfl

theorem ret_pair {v v' : Value} {a b : Int} {k : IntKind} (h : v = v') (h' : a = b) : Ending.returned (.tuple #[v, .int k a]) = .returned (.tuple #[v', .int k b]) := by rw [h, h']

set_option maxHeartbeats 400000 in
theorem Parse_any (a : ByteArray) (w : World) (hg : Gl w) :
    Calls Tryz.prog 146 #[.string a] w fun e w' => ∃ v, e = .returned (.tuple #[v, .int .i64 (parse a.data.toList).2]) ∧ Rd 1 encStr w' v (parse a.data.toList).1 ∧ Below w.heap.size w w' := by
  obtain ⟨s, hs⟩ : ∃ s, s = a.data.toList := ⟨_, rfl⟩
  have hz : s.length = a.size := by rw [hs]; simp
  have et : a.toList = s := by rw [hs, toList_data]
  by_cases h1 : 102 < a.size
  · have hp : parse s = ([], 2) := by unfold parse; rw [if_pos (by omega)]
    rw [← hs]
    have HP := hide hp; clear hp hz et hs
    go_enter Tryz.func146, Tryz.ntmps146
    go_wp2_with fail
    go_ret2
    exact ⟨_, ret_pair rfl (by rw [HP.out]), by rw [HP.out]; exact Rd.nil, Below.refl _ _⟩
  by_cases h2 : s = [47]
  · have hp : parse s = ([], 0) := by unfold parse; rw [if_neg (by omega), if_pos h2]
    have g2 : (a.toList == [47]) = true := by rw [et, h2]; rfl
    rw [← hs]
    have HP := hide hp; clear hp hz et hs h2
    go_enter Tryz.func146, Tryz.ntmps146
    go_wp2_with fail
    go_ret2
    exact ⟨_, ret_pair rfl (by rw [HP.out]), by rw [HP.out]; exact Rd.nil, Below.refl _ _⟩
  have g2 : (a.toList == [47]) = false := by rw [et]; simpa using h2
  by_cases h3 : Lib.hasPrefix s [47] = true
  · obtain ⟨r, hr⟩ : ∃ r, s = 47 :: r := by
      cases hsc : s with
      | nil => rw [hsc] at h3; simp [Lib.hasPrefix] at h3
      | cons c r =>
        rw [hsc] at h3
        simp [Lib.hasPrefix, List.isPrefixOf] at h3
        exact ⟨r, by rw [h3]⟩
    have hext : (a.extract 1 a.size).data.toList = r := by
      rw [Lib.extract_data]; rw [← hs, hr]; simp [← hz, hr]
    have hpre : Lib.hasPrefix a.data.toList [47] = true := by rw [← hs]; exact h3
    have hps : parse s = if (cuts r).length > 6 then ([], 10) else if (cuts r).all isName then (cuts r, 0) else ([], 10) := by
      unfold parse; rw [if_neg (by omega), if_neg h2, hr]; rfl
    have hsz : (a.extract 1 a.size).size < 4294967281 := by simp; omega
    rw [← hs]
    have HP := hide hps
    have HE := hide hext
    have hz1 : 0 < a.size := by rw [← hz, hr]; simp
    clear hps hext hz et hs h2 h3 hr
    go_enter Tryz.func146, Tryz.ntmps146
    go_wp2_with (first
      | (go_at_call 191; refine (HasPrefix_slash _ _).mono ?_; rintro e w' ⟨rfl, rfl⟩)
      | (go_at_call 192; refine (Split_slash _ _ hg hsz).mono ?_; rintro e w1 ⟨g, n, hn, rfl, hrow, hgs, hfr, hgb, hbel⟩; rw [HE.out] at hrow hn; have HN := hide hn; clear hn))
    · rename_i hgt
      go_ret2
      have := HN.out
      exact ⟨_, ret_pair rfl (by rw [HP.out, if_pos (by omega)]), by rw [HP.out, if_pos (by omega)]; exact Rd.nil, hbel⟩
    · rename_i hle
      have hn6 : n ≤ 6 := by omega
      go_loopw [6, 23] (fun _ i wr => ∃ k : Nat, k ≤ n ∧ i = .int .i64 k ∧ (∃ m, wr = w1.drewN m) ∧ Hid (((cuts r).take k).all isName = true)) (fun _ i _ => n - (intOf i).toNat)
      case atStart => exact ⟨0, Nat.zero_le _, rfl, ⟨0, rfl⟩, rfl⟩
      case round =>
        obtain ⟨k, hk, rfl, ⟨m, rfl⟩, hall⟩ := hrel
        by_cases hlt : k < n
        · have hlt' : k < (cuts r).length := by rw [← HN.out]; exact hlt
          have hc0 := hrow.at0 hlt' rfl
          rw [Nat.mul_one, Nat.zero_add] at hc0
          obtain ⟨x, hx⟩ : ∃ x, x = (cuts r)[k] := ⟨_, rfl⟩
          rw [← hx] at hc0
          have HX := hide hx; clear hx
          have hst : ((cuts r).take (k + 1)).all isName = (((cuts r).take k).all isName && isName x) := by
            rw [List.take_succ_eq_append_getElem hlt', List.all_append, HX.out]; simp
          have HST := hide hst; clear hst
          by_cases hnm : isName x = true
          · have HM := hide hnm; clear hnm
            go_wp2_with (go_at_call 193; refine (isName_is x _ _ (by exact (hg.below hbel).drewN _) HM.out).mono ?_; rintro e w2 ⟨rfl, m2, rfl⟩)
            go_roundw
            case rel => exact ⟨k + 1, by omega, by go_num, ⟨_, rfl⟩, by show _ = _; rw [HST.out, hall.out, HM.out]; rfl⟩
            case measure => simp [intOf]; omega
          · have HM := hide (show isName x = false by simpa using hnm); clear hnm
            go_wp2_with (go_at_call 193; refine (isName_is x _ _ (by exact (hg.below hbel).drewN _) HM.out).mono ?_; rintro e w2 ⟨rfl, m2, rfl⟩)
            go_ret2
            have hna : (cuts r).all isName = false := by
              rw [List.all_eq_false]
              exact ⟨(cuts r)[k], List.getElem_mem _, by rw [← HX.out, HM.out]; simp⟩
            exact ⟨_, ret_pair rfl (by rw [HP.out, if_neg (by rw [← HN.out]; omega), hna]; rfl), by rw [HP.out, if_neg (by rw [← HN.out]; omega), hna]; exact Rd.nil, below_drewN hbel _⟩
        · go_wp2_with fail
          go_ret2
          have hya : (cuts r).all isName = true := by rw [← hall.out, List.take_of_length_le (by rw [← HN.out]; omega)]
          have hpe : parse s = (cuts r, 0) := by rw [HP.out, if_neg (by rw [← HN.out]; omega), if_pos hya]
          refine ⟨.slice (some ⟨g, 0, none⟩) n n, ret_pair rfl (by rw [hpe]), ?_, below_drewN hbel _⟩
          rw [hpe]
          exact ⟨some ⟨g, 0, none⟩, n, by rw [← HN.out], by rw [← HN.out]; exact Nat.le_refl _, by omega, fun _ => ⟨g, 0, rfl, hgs, hrow⟩⟩
  · have hp : parse s = ([], 10) := by
      unfold parse; rw [if_neg (by omega), if_neg h2]
      cases s with
      | nil => rfl
      | cons c r =>
        by_cases hc : c = 47
        · exfalso; apply h3; simp [Lib.hasPrefix, hc]
        · split
          · rename_i heq; injection heq with e _; exact absurd e hc
          · rfl
    have hpre : Lib.hasPrefix a.data.toList [47] = false := by rw [← hs]; simpa using h3
    rw [← hs]
    have HP := hide hp; clear hp hz et hs h2 h3
    go_enter Tryz.func146, Tryz.ntmps146
    go_wp2_with (go_at_call 191; refine (HasPrefix_slash _ _).mono ?_; rintro e w' ⟨rfl, rfl⟩)
    go_ret2
    exact ⟨_, ret_pair rfl (by rw [HP.out]), by rw [HP.out]; exact Rd.nil, Below.refl _ _⟩
end Go.Proofs.YtheampfoedhipaaGreatDoor
