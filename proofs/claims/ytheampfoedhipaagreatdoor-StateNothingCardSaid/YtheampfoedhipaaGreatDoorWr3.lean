/- The writers' numbers. -/
import Derived.Test.YtheampfoedhipaaGreatDoorWr2
namespace Go.Proofs.YtheampfoedhipaaGreatDoor
open Go Go.RowKit
set_option maxRecDepth 100000

abbrev tWr : TypeId := 213
abbrev numVals (l : List Nat) : Array Value := (l.map fun (n : Nat) => Value.int .i64 (n : Int)).toArray
abbrev numBytes (l : List Nat) : Str := l.map UInt8.ofNat

set_option maxHeartbeats 1000000 in
theorem numbers_small (p g c : Nat) (v : Value) (s : Str) (l : List Nat) (w : World) (hw : WAt tWr w p v s) (hg : Blk w g 3 (numVals l)) (hl : ∀ n ∈ l, n < 128) (hll : l.length ≤ 8) (hlc : l.length ≤ c) (hs : s.length ≤ 4000) :
    Calls Tryz.prog 116 #[.pointer (some ⟨p, 0, none⟩), .slice (some ⟨g, 0, none⟩) l.length c] w fun e w' => e = .returned (.tuple #[]) ∧ ∃ v', WAt tWr w' p v' (s ++ numBytes l) ∧ Wrt w w' p v v' := by
  obtain ⟨i0, hi0, hz0, hz1, hz2⟩ := info_parts infoU8
  have hpg : g ≠ p := fun e => Blk.ne_ hg hw.blk (by decide) e
  have HW := hide hw; have HG := hide hg; have HL := hide hl
  clear hw hg hl
  go_enter Tryz.func116, Tryz.ntmps116
  go_wp2
  go_loopg [5, 6, 7, 10] l.length (fun gk _ _ _ i wr => ∃ n : Nat, ∃ v' : Value, gk = l.length - n ∧ n ≤ l.length ∧ i = .int .i64 n ∧ Hid (WAt tWr wr p v' (s ++ numBytes (l.take n))) ∧ Hid (Wrt w wr p v v') ∧ Hid (Blk wr g 3 (numVals l)))
  case atStart => exact ⟨0, v, by simp, Nat.zero_le _, rfl, by simpa using HW, hide (Wrt.of p v (Below.refl _ _)), HG⟩
  case round =>
    obtain ⟨n, v', hgk, hn, rfl, hwt, hwr, hgb⟩ := hrel
    have HGK := hide hgk
    clear hgk
    by_cases hlt : n < l.length
    · obtain ⟨x, hx⟩ : ∃ x, x = l[n] := ⟨_, rfl⟩
      have hx128 : x < 128 := by rw [hx]; exact HL.out _ (List.getElem_mem hlt)
      have cx : wr.cell? ⟨g, n, none⟩ = some (.int .i64 (x : Int)) := by rw [hgb.out.cell]; simp [hlt, hx]
      obtain ⟨S, hS⟩ : ∃ S, S = s ++ numBytes (l.take n) := ⟨_, rfl⟩
      have hSl : S.length = s.length + n := by rw [hS]; simp; omega
      have hS1 : s ++ numBytes (l.take (n + 1)) = S ++ [UInt8.ofNat x] := by rw [hS, List.take_succ_eq_append_getElem hlt, ← hx]; simp
      rw [← hS] at hwt
      have HS1 := hide hS1
      have hbx : byteVals [UInt8.ofNat x] = [.int .u8 (x : Int)] := by simp; omega
      have HBX := hide hbx
      have hwrap : IntKind.i64.wrap ((n : Int) + 1) = (n : Int) + 1 := by simp [IntKind.wrap, IntKind.bits, IntKind.signed]; omega
      clear hS hx hS1 hbx
      go_wp2_with (first
        | (go_at_call 162; refine (Number_small x hx128 _).mono ?_; rintro e w1 ⟨v1, rfl, ho1, -, hb1⟩; obtain ⟨g1, c1, rfl, hg1, hcl⟩ := ho1.form (by simp); rw [HBX.out] at hcl; have HCL := hide hcl; have hwt1 := hide (hwt.out.below hb1); have hgb1 := hide (hgb.out.below hb1); have hwr1 := hide (hwr.out.trans (Wrt.of p v' hb1)); have cp := (by exact hwt1.out.blk.cell 0 : w1.cell? ⟨p, 0, none⟩ = some v'); clear hcl ho1 hb1)
        | (at_builtin; refine wpList_append_own_at _ rfl (.tmp 23) (.tmp 24) _ rfl 0 tU8 i0 _ 1 1 Tryz.underlying67 hi0 hz0 hz1 hz2 rfl (by omega) v' S.length (byteVals S) rfl hwt1.out.own ⟨g1, 0, none⟩ 1 c1 [.int .u8 x] rfl rfl HCL.out (by simp [Value.oneCell']) (by simp [maxLen]; omega) (by omega) (by omega) ?_; intro v2 w2 hown2 hg2 _ hat2; have HO2 := hide hown2; have hp2 := hwt1.out.blk.grown hg2 (hwt1.out.ne (by decide)); have c2 := (by exact hp2.cell 0 : w2.cell? ⟨p, 0, none⟩ = some v'); have f2 := hp2.free 0; clear hown2 hp2; have ho3 := (by have := HO2.out; unfold OwnB; rw [show byteVals (S ++ [UInt8.ofNat x]) = byteVals S ++ [.int .u8 (x : Int)] by (rw [← HBX.out]; simp), List.length_append]; exact this : OwnB w2 v2 (S ++ [UInt8.ofNat x])); obtain ⟨g2, k2, rfl, -, -⟩ := ho3.form (by simp); have HO3 := hide ho3; clear ho3 HO2))
      have hput := hwt1.out.put (by decide) hg2 HO3.out hat2
      go_roundg (l.length - (n + 1))
      case rel =>
        rw [show List.length s + n + 1 = (S ++ [UInt8.ofNat x]).length by simp; omega]
        exact ⟨n + 1, _, rfl, by omega, rfl, by rw [HS1.out]; exact hide hput.1, hide (hwr1.out.trans hput.2), hide ((hgb1.out.wrt hput.2 hwt1.out.own hpg (by decide)))⟩
      case measure => have := HGK.out; omega
    · have hnl : n = l.length := by omega
      subst hnl
      go_wp2
      first | go_end0 | refine bodyPost_ret (results_none rfl _ _ _) rfl ?_
      exact ⟨rfl, v', by simpa using hwt.out, hwr.out⟩
end Go.Proofs.YtheampfoedhipaaGreatDoor
