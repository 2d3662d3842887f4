/- The walks of package place: Covers; of package shot: isBelow. -/
import Derived.Test.YtheampfoedhipaaGreatDoorPw4
namespace Go.Proofs.YtheampfoedhipaaGreatDoor
open Go Go.RowKit
set_option maxRecDepth 100000

theorem prefix_step {l m : List Str} {k : Nat} (hl : k < l.length) (hm : k < m.length) : (m.drop k).isPrefixOf (l.drop k) = (m[k] == l[k] && (m.drop (k + 1)).isPrefixOf (l.drop (k + 1))) := by
  rw [List.drop_eq_getElem_cons hl, List.drop_eq_getElem_cons hm]; simp [List.isPrefixOf]

set_option maxHeartbeats 400000 in
theorem begins_any (v u : Value) (l m : List Str) (w : World) (hv : Rd 1 encStr w v l) (hu : Rd 1 encStr w u m) :
    Calls Tryz.prog 156 #[v, u] w fun e w' => e = .returned (.bool (m.isPrefixOf l)) ∧ w = w' := by
  obtain ⟨X, c, rfl, h1, h2, h3⟩ := hv
  obtain ⟨Y, d, rfl, h4, h5, h6⟩ := hu
  have hm63 : m.length ≤ 9223372036854775807 := by omega
  by_cases hlt : l.length < m.length
  · have hf : m.isPrefixOf l = false := by
      cases hx : m.isPrefixOf l with
      | false => rfl
      | true => have := (List.isPrefixOf_iff_prefix.1 hx).length_le; omega
    have HF := hide hf; clear hf
    go_enter Tryz.func156, Tryz.ntmps156
    go_wp2
    go_ret
    exact ⟨ret_bool HF.out.symm, rfl⟩
  · go_enter Tryz.func156, Tryz.ntmps156
    go_wp2
    go_loop [5, 6, 14] (fun _ _ i => ∃ k : Nat, k ≤ m.length ∧ i = .int .i64 k ∧ Hid (m.isPrefixOf l = (m.drop k).isPrefixOf (l.drop k))) (fun _ _ i => m.length - (intOf i).toNat)
    case atStart => exact ⟨0, Nat.zero_le _, rfl, rfl⟩
    case round =>
      obtain ⟨k, hk, rfl, hpre⟩ := hrel
      by_cases hkm : k < m.length
      · have hkl : k < l.length := by omega
        have hst := hide (prefix_step hkl hkm)
        obtain ⟨g, o, rfl, hg, hr⟩ := h3 (by omega)
        obtain ⟨g', o', rfl, hg', hr'⟩ := h6 (by omega)
        have z0 := hr.at0 hkl rfl
        have z1 := hr'.at0 hkm rfl
        rw [Nat.mul_one] at z0 z1
        obtain ⟨x, hx⟩ : ∃ x, x = l[k] := ⟨_, rfl⟩
        obtain ⟨y, hy⟩ : ∃ y, y = m[k] := ⟨_, rfl⟩
        rw [← hx] at z0 hst; rw [← hy] at z1 hst
        clear hx hy h3 h6
        by_cases hxy : x = y
        · subst hxy
          go_wp2
          go_round
          case rel => exact ⟨k + 1, by omega, by go_num, by show _ = _; rw [hpre.out, hst.out]; simp⟩
          case measure => simp [intOf]; omega
        · have hb : (x == y) = false := by simpa using hxy
          have HB := hide (show (y == x) = false by simpa using fun e => hxy e.symm)
          clear hxy
          go_wp2
          go_ret
          exact ⟨ret_bool (by rw [hpre.out, hst.out, HB.out]; rfl), rfl⟩
      · go_wp2
        go_ret
        exact ⟨ret_bool (by rw [hpre.out, List.drop_eq_nil_of_le (by omega)]; simp), rfl⟩

theorem covers_yes {k c : Int} {s t : Str} (h1 : (parse s).2 = 0) (h2 : (parse t).2 = 0) (h3 : 1 ≤ c) (h4 : c ≤ 3) (h5 : (parse s).1.isPrefixOf (parse t).1 = true) :
    covers k s c t = if k = 1 then (parse t).1.length == (parse s).1.length else if k = 2 then c != 2 && decide ((parse t).1.length ≤ (parse s).1.length + 1) else k == 3 := by
  unfold covers; rw [if_neg (by rw [h5]; simp [h1, h2]; omega)]
theorem covers_no {k c : Int} {s t : Str} (h : (parse s).2 ≠ 0 ∨ (parse t).2 ≠ 0 ∨ c < 1 ∨ c > 3 ∨ (parse s).1.isPrefixOf (parse t).1 = false) : covers k s c t = false := by
  unfold covers; rw [if_pos (by rcases h with h | h | h | h | h <;> simp [h])]

set_option maxHeartbeats 1000000 in
theorem Covers_any (k : Int) (a : ByteArray) (c : Int) (b : ByteArray) (w : World) (hg : Gl w) :
    Calls Tryz.prog 88 #[.int .i64 k, .string a, .int .i64 c, .string b] w fun e w' => e = .returned (.bool (covers k a.data.toList c b.data.toList)) ∧ Below w.heap.size w w' := by
  obtain ⟨s, hs⟩ : ∃ s, s = a.data.toList := ⟨_, rfl⟩
  obtain ⟨t, ht⟩ : ∃ t, t = b.data.toList := ⟨_, rfl⟩
  have hca := Parse_any a w hg
  have hcb : ∀ w', Below w.heap.size w w' → _ := fun w' h => Parse_any b w' (hg.below h)
  rw [← hs] at hca ⊢; rw [← ht] at hcb ⊢
  have HA := hide hca; have HB := hide hcb; clear hca hcb hs ht
  obtain ⟨p, hp⟩ : ∃ p, p = parse s := ⟨_, rfl⟩
  obtain ⟨q, hq⟩ : ∃ q, q = parse t := ⟨_, rfl⟩
  have hyes := @covers_yes k c s t
  have hno := @covers_no k c s t
  have hps := @parse_path s
  have hqs := @parse_path t
  rw [← hp] at HA hyes hno hps; rw [← hq] at HB hyes hno hqs
  clear hp hq
  obtain ⟨l, x⟩ := p
  obtain ⟨m, y⟩ := q
  have HY := hide hyes; have HN := hide hno; have HP := hide hps; have HQ := hide hqs
  clear hyes hno hps hqs
  go_enter Tryz.func88, Tryz.ntmps88
  go_wp2_with fail
  refine (show Calls _ _ _ _ _ from HA.out).mono ?_
  rintro e w1 ⟨v, rfl, hv, hb1⟩
  have HV := hide hv; clear hv
  go_wp2_with fail
  refine (show Calls _ _ _ _ _ from HB.out _ hb1).mono ?_
  rintro e w2 ⟨u, rfl, hu, hb2⟩
  have HV2 := hide (Rd.below HV.out hb2)
  have HU2 := hide hu
  have hbel := below_trans hb1 hb2
  clear hu HV hb1 hb2 HA HB
  by_cases h1 : x = 0
  · have g1 : (x == 0) = true := by simpa using h1
    have g1' : (x != 0) = false := by simpa using h1
    by_cases h2 : y = 0
    · have g2 : (y == 0) = true := by simpa using h2
      have g2' : (y != 0) = false := by simpa using h2
      by_cases h3 : 1 ≤ c
      · by_cases h3b : c ≤ 3
        · by_cases h4 : l.isPrefixOf m = true
          · have H := hide (HY.out h1 h2 h3 h3b h4)
            have h4' := hide h4
            have hl6 := (HP.out h1).1.1
            have hm6 := (HQ.out h2).1.1
            have hcl : ((m.length : Int) == (l.length : Int)) = (m.length == l.length) := by rw [Bool.eq_iff_iff]; simp; omega
            have HCL := hide hcl
            obtain ⟨Y, d, hu1, _, _, _⟩ := HU2.out
            obtain ⟨X, e, hv1, _, _, _⟩ := HV2.out
            subst hu1; subst hv1
            clear h1 h2 h4 hcl
            by_cases hk1 : k = 1
            · have gk : (k == 1) = true := by simpa using hk1
              have HK := hide hk1; clear hk1
              go_wp2_with (go_at_call 156; refine (begins_any _ _ m l _ HU2.out HV2.out).mono ?_; rintro e w3 ⟨rfl, rfl⟩; rw [h4'.out])
              go_ret
              exact ⟨ret_bool (by rw [H.out, if_pos HK.out, ← HCL.out]), hbel⟩
            · have gk : (k == 1) = false := by simpa using hk1
              have HK := hide hk1; clear hk1
              by_cases hk2 : k = 2
              · have gk2 : (k == 2) = true := by simpa using hk2
                have HK2 := hide hk2; clear hk2
                have hdec : decide ((m.length : Int) ≤ (l.length : Int) + 1) = decide (m.length ≤ l.length + 1) := by rw [Bool.eq_iff_iff]; simp; omega
                have HD := hide hdec; clear hdec
                by_cases hc2 : c = 2
                · have gc : (c == 2) = true := by simpa using hc2
                  have gc' : (c != 2) = false := by simpa using hc2
                  have HC2 := hide hc2; clear hc2
                  go_wp2_with (go_at_call 156; refine (begins_any _ _ m l _ HU2.out HV2.out).mono ?_; rintro e w3 ⟨rfl, rfl⟩; rw [h4'.out])
                  go_ret
                  exact ⟨ret_bool (by rw [H.out, if_neg HK.out, if_pos HK2.out, HC2.out]; rfl), hbel⟩
                · have gc : (c == 2) = false := by simpa using hc2
                  have gc' : (c != 2) = true := by simpa using hc2
                  have HC2 := hide hc2; clear hc2
                  go_wp2_with (go_at_call 156; refine (begins_any _ _ m l _ HU2.out HV2.out).mono ?_; rintro e w3 ⟨rfl, rfl⟩; rw [h4'.out])
                  go_ret
                  exact ⟨ret_bool (by rw [H.out, if_neg HK.out, if_pos HK2.out, ← HD.out]; simp [HC2.out]), hbel⟩
              · have gk2 : (k == 2) = false := by simpa using hk2
                have HK2 := hide hk2; clear hk2
                go_wp2_with (go_at_call 156; refine (begins_any _ _ m l _ HU2.out HV2.out).mono ?_; rintro e w3 ⟨rfl, rfl⟩; rw [h4'.out])
                all_goals
                  go_ret
                  exact ⟨ret_bool (by rw [H.out, if_neg HK.out, if_neg HK2.out]; simp [*]), hbel⟩
          · have h4' := hide (show l.isPrefixOf m = false from Bool.eq_false_iff.2 h4)
            have H := hide (HN.out (.inr (.inr (.inr (.inr h4'.out)))))
            clear h1 h2 h4
            go_wp2_with (go_at_call 156; refine (begins_any _ _ m l _ HU2.out HV2.out).mono ?_; rintro e w3 ⟨rfl, rfl⟩; rw [h4'.out])
            go_ret
            exact ⟨ret_bool H.out.symm, hbel⟩
        · have H := hide (HN.out (.inr (.inr (.inr (.inl (by omega))))))
          clear h1 h2
          go_wp2_with fail
          go_ret
          exact ⟨ret_bool H.out.symm, hbel⟩
      · have H := hide (HN.out (.inr (.inr (.inl (by omega)))))
        clear h1 h2
        go_wp2_with fail
        go_ret
        exact ⟨ret_bool H.out.symm, hbel⟩
    · have g2 : (y == 0) = false := by simpa using h2
      have g2' : (y != 0) = true := by simpa using h2
      have H := hide (HN.out (.inr (.inl h2)))
      clear h1 h2
      go_wp2_with fail
      go_ret
      exact ⟨ret_bool H.out.symm, hbel⟩
  · have g1 : (x == 0) = false := by simpa using h1
    have g1' : (x != 0) = true := by simpa using h1
    have H := hide (HN.out (.inl h1))
    clear h1
    go_wp2_with fail
    go_ret
    exact ⟨ret_bool H.out.symm, hbel⟩
end Go.Proofs.YtheampfoedhipaaGreatDoor
