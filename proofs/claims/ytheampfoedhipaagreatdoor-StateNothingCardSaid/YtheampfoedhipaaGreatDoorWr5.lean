/- The writers' texts, and the document's page. -/
import Derived.Test.YtheampfoedhipaaGreatDoorWr4
namespace Go.Proofs.YtheampfoedhipaaGreatDoor
open Go Go.RowKit
set_option maxRecDepth 100000
abbrev tPg : TypeId := 218
abbrev textBytes (t : Str) : Str := UInt8.ofNat t.length :: t

theorem text_small (p : Nat) (v' : Value) (S t : Str) (w : World) (hw : WAt tWr w p v' S) (ht : t.length < 128) (hs : S.length ≤ 4000) :
    Calls Tryz.prog 117 #[.pointer (some ⟨p, 0, none⟩), .string (B t)] w fun e w' => e = .returned (.tuple #[]) ∧ ∃ v2, WAt tWr w' p v2 (S ++ textBytes t) ∧ Wrt w w' p v' v2 := by
  obtain ⟨i0, hi0, hz0, hz1, hz2⟩ := info_parts infoU8
  have hwt := hide hw
  clear hw
  go_enter Tryz.func117, Tryz.ntmps117
  go_wp2_with (first
        | (go_at_call 163; refine (Text_small t ht _).mono ?_; rintro e w1 ⟨v1, rfl, ho1, hb1⟩; obtain ⟨g1, c1, rfl, hg1, hcl⟩ := ho1.form (by simp); have HCL := hide hcl; have hwt1 := hide (hwt.out.below hb1); have KEEP := hide hb1; have cp := (by exact hwt1.out.blk.cell 0 : w1.cell? ⟨p, 0, none⟩ = some v'); clear hcl ho1)
        | (at_builtin; refine wpList_append_own_at _ rfl (.tmp 15) (.tmp 16) _ rfl 0 tU8 i0 _ 1 1 Tryz.underlying67 hi0 hz0 hz1 hz2 rfl (by omega) v' S.length (byteVals S) rfl hwt1.out.own ⟨g1, 0, none⟩ (textBytes t).length c1 (byteVals (textBytes t)) rfl (by simp) HCL.out (byteVals_one _) (by simp [maxLen]; omega) (by simp; omega) (by omega) ?_; intro v2 w2 hown2 hg2 _ hat2; have HO2 := hide hown2; have hp2 := hwt1.out.blk.grown hg2 (hwt1.out.ne (by decide)); have c2 := (by exact hp2.cell 0 : w2.cell? ⟨p, 0, none⟩ = some v'); have f2 := hp2.free 0; clear hown2 hp2; have ho3 := (by have := HO2.out; unfold OwnB; rw [show byteVals (S ++ (textBytes t)) = byteVals S ++ byteVals (textBytes t) by simp, List.length_append]; exact this : OwnB w2 v2 (S ++ (textBytes t))); obtain ⟨g2, k2, hv2, -, -⟩ := ho3.form (by simp; try omega); obtain ⟨mm, hmm⟩ : ∃ mm, mm = (S ++ (textBytes t)).length := ⟨_, rfl⟩; rw [← hmm] at hv2; have HMM := hide hmm; clear hmm; subst hv2; have HO3 := hide ho3; clear ho3 HO2))
  have hput := hwt1.out.put (by decide) hg2 HO3.out hat2
  first | go_end0 | refine bodyPost_ret (results_none rfl _ _ _) rfl ?_
  exact ⟨rfl, _, hput.1, (Wrt.of p v' KEEP.out).trans hput.2⟩

theorem refNumber_s (x : Nat) (hx : x < 128) (w : World) : Calls Tryz.prog 179 #[.int .i64 x] w fun e w' => ∃ v, e = .returned (.tuple #[v, .int .i64 0]) ∧ OwnB w' v [UInt8.ofNat x] ∧ Below w.heap.size w w' :=
  (refNumber_small x hx w).mono fun _ _ ⟨v, he, ho, _, hb⟩ => ⟨v, he, ho, hb⟩
abbrev textVals (l : List Str) : Array Value := (l.map fun t => Value.string (B t)).toArray
def textsBytes (l : List Str) : Str := l.flatMap textBytes

set_option maxHeartbeats 1000000 in
theorem num_small (p g c : Nat) (v : Value) (s : Str) (l : List Nat) (w : World) (hw : WAt tPg w p v s) (hg : Blk w g 3 (numVals l)) (hl : ∀ n ∈ l, n < 128) (hll : l.length ≤ 8) (hs : s.length ≤ 2000) :
    Calls Tryz.prog 121 #[.pointer (some ⟨p, 0, none⟩), .slice (some ⟨g, 0, none⟩) l.length c] w fun e w' => e = .returned (.tuple #[]) ∧ ∃ v', WAt tPg w' p v' (s ++ numBytes l) ∧ Wrt w w' p v v' := by
  obtain ⟨i0, hi0, hz0, hz1, hz2⟩ := info_parts infoU8
  have hpg : g ≠ p := fun e => Blk.ne_ hg hw.blk (by decide) e
  have HW := hide hw; have HG := hide hg; have HL := hide hl
  clear hw hg hl
  go_enter Tryz.func121, Tryz.ntmps121
  go_wp2
  go_loopg [4, 5, 6] l.length (fun gk i _ _ wr => ∃ n : Nat, ∃ v' : Value, gk = l.length - n ∧ n ≤ l.length ∧ i = .int .i64 n ∧ Hid (WAt tPg wr p v' (s ++ numBytes (l.take n))) ∧ Hid (Wrt w wr p v v') ∧ Hid (Blk wr g 3 (numVals l)) ∧ (s ++ numBytes (l.take n)).length ≤ 2000 + n * 128)
  case atStart => exact ⟨0, v, by simp, Nat.zero_le _, rfl, by simpa [numBytes] using HW, hide (Wrt.of p v (Below.refl _ _)), HG, by simpa [numBytes] using hs⟩
  case round =>
    obtain ⟨n, v', hgk, hn, rfl, hwt, hwr, hgb, hlen⟩ := hrel
    have HGK := hide hgk
    clear hgk
    by_cases hlt : n < l.length
    · obtain ⟨x, hx⟩ : ∃ x, x = l[n] := ⟨_, rfl⟩
      have hx128 :  x < 128 := by rw [hx]; exact HL.out _ (List.getElem_mem hlt)
      have cx : wr.cell? ⟨g, n, none⟩ = some (.int .i64 (x : Int)) := by rw [hgb.out.cell]; simp [hlt, hx]
      obtain ⟨S, hS⟩ : ∃ S, S = s ++ numBytes (l.take n) := ⟨_, rfl⟩
      have hS1 : s ++ numBytes (l.take (n + 1)) = S ++ [UInt8.ofNat x] := by rw [hS, List.take_succ_eq_append_getElem hlt, ← hx]; simp [numBytes]
      rw [← hS] at hwt hlen
      have HS1 := hide hS1
      have hwrap : IntKind.i64.wrap ((n : Int) + 1) = (n : Int) + 1 := by simp [IntKind.wrap, IntKind.bits, IntKind.signed]; omega
      clear hS hx hS1
      go_wp2_with (first
        | (go_at_call 179; refine (refNumber_s x hx128 _).mono ?_; rintro e w1 ⟨v1, rfl, ho1, hb1⟩; obtain ⟨g1, c1, rfl, hg1, hcl⟩ := ho1.form (by simp); have HCL := hide hcl; have hwt1 := hide (hwt.out.below hb1); have KEEP := hide hb1; have cp := (by exact hwt1.out.blk.cell 0 : w1.cell? ⟨p, 0, none⟩ = some v'); clear hcl ho1)
        | (at_builtin; refine wpList_append_own_at _ rfl (.tmp 25) (.tmp 26) _ rfl 0 tU8 i0 _ 1 1 Tryz.underlying67 hi0 hz0 hz1 hz2 rfl (by omega) v' S.length (byteVals S) rfl hwt1.out.own ⟨g1, 0, none⟩ ([UInt8.ofNat x]).length c1 (byteVals ([UInt8.ofNat x])) rfl (by simp) HCL.out (byteVals_one _) (by simp [maxLen]; omega) (by simp; omega) (by omega) ?_; intro v2 w2 hown2 hg2 _ hat2; have HO2 := hide hown2; have hp2 := hwt1.out.blk.grown hg2 (hwt1.out.ne (by decide)); have c2 := (by exact hp2.cell 0 : w2.cell? ⟨p, 0, none⟩ = some v'); have f2 := hp2.free 0; clear hown2 hp2; have ho3 := (by have := HO2.out; unfold OwnB; rw [show byteVals (S ++ ([UInt8.ofNat x])) = byteVals S ++ byteVals ([UInt8.ofNat x]) by simp, List.length_append]; exact this : OwnB w2 v2 (S ++ ([UInt8.ofNat x]))); obtain ⟨g2, k2, hv2, -, -⟩ := ho3.form (by simp; try omega); obtain ⟨mm, hmm⟩ : ∃ mm, mm = (S ++ ([UInt8.ofNat x])).length := ⟨_, rfl⟩; rw [← hmm] at hv2; have HMM := hide hmm; clear hmm; subst hv2; have HO3 := hide ho3; clear ho3 HO2))
      have hput := hwt1.out.put (by decide) hg2 HO3.out hat2
      go_roundg (l.length - (n + 1))
      case rel => exact ⟨n + 1, _, rfl, by omega, by go_num, by rw [HS1.out]; exact hide hput.1, hide ((hwr.out.trans (Wrt.of p v' KEEP.out)).trans hput.2), hide ((hgb.out.below KEEP.out).wrt hput.2 hwt1.out.own hpg (by decide)), by rw [HS1.out]; simp; omega⟩
      case measure => have := HGK.out; omega
    · have hnl : n = l.length := by omega
      subst hnl
      go_wp2
      first | go_end0 | refine bodyPost_ret (results_none rfl _ _ _) rfl ?_
      exact ⟨rfl, v', by simpa using hwt.out, hwr.out⟩

set_option maxHeartbeats 1000000 in
theorem txt_small (p g c : Nat) (v : Value) (s : Str) (l : List Str) (w : World) (hw : WAt tPg w p v s) (hg : Blk w g 9 (textVals l)) (hl : ∀ n ∈ l, n.length < 128) (hll : l.length ≤ 8) (hs : s.length ≤ 2000) :
    Calls Tryz.prog 122 #[.pointer (some ⟨p, 0, none⟩), .slice (some ⟨g, 0, none⟩) l.length c] w fun e w' => e = .returned (.tuple #[]) ∧ ∃ v', WAt tPg w' p v' (s ++ textsBytes l) ∧ Wrt w w' p v v' := by
  obtain ⟨i0, hi0, hz0, hz1, hz2⟩ := info_parts infoU8
  have hpg : g ≠ p := fun e => Blk.ne_ hg hw.blk (by decide) e
  have HW := hide hw; have HG := hide hg; have HL := hide hl
  clear hw hg hl
  go_enter Tryz.func122, Tryz.ntmps122
  go_wp2
  go_loopg [4, 5, 6] l.length (fun gk i _ _ wr => ∃ n : Nat, ∃ v' : Value, gk = l.length - n ∧ n ≤ l.length ∧ i = .int .i64 n ∧ Hid (WAt tPg wr p v' (s ++ textsBytes (l.take n))) ∧ Hid (Wrt w wr p v v') ∧ Hid (Blk wr g 9 (textVals l)) ∧ (s ++ textsBytes (l.take n)).length ≤ 2000 + n * 128)
  case atStart => exact ⟨0, v, by simp, Nat.zero_le _, rfl, by simpa [textsBytes] using HW, hide (Wrt.of p v (Below.refl _ _)), HG, by simpa [textsBytes] using hs⟩
  case round =>
    obtain ⟨n, v', hgk, hn, rfl, hwt, hwr, hgb, hlen⟩ := hrel
    have HGK := hide hgk
    clear hgk
    by_cases hlt : n < l.length
    · obtain ⟨x, hx⟩ : ∃ x, x = l[n] := ⟨_, rfl⟩
      have hx128 : x.length < 128 := by rw [hx]; exact HL.out _ (List.getElem_mem hlt)
      have cx : wr.cell? ⟨g, n, none⟩ = some (.string (B x)) := by rw [hgb.out.cell]; simp [hlt, hx]
      obtain ⟨S, hS⟩ : ∃ S, S = s ++ textsBytes (l.take n) := ⟨_, rfl⟩
      have hS1 : s ++ textsBytes (l.take (n + 1)) = S ++ textBytes x := by rw [hS, List.take_succ_eq_append_getElem hlt, ← hx]; simp [textsBytes]
      rw [← hS] at hwt hlen
      have HS1 := hide hS1
      have hwrap : IntKind.i64.wrap ((n : Int) + 1) = (n : Int) + 1 := by simp [IntKind.wrap, IntKind.bits, IntKind.signed]; omega
      clear hS hx hS1
      go_wp2_with (first
        | (go_at_call 180; refine (refText_small x hx128 _).mono ?_; rintro e w1 ⟨v1, rfl, ho1, hb1⟩; obtain ⟨g1, c1, rfl, hg1, hcl⟩ := ho1.form (by simp); have HCL := hide hcl; have hwt1 := hide (hwt.out.below hb1); have KEEP := hide hb1; have cp := (by exact hwt1.out.blk.cell 0 : w1.cell? ⟨p, 0, none⟩ = some v'); clear hcl ho1)
        | (at_builtin; refine wpList_append_own_at _ rfl (.tmp 25) (.tmp 26) _ rfl 0 tU8 i0 _ 1 1 Tryz.underlying67 hi0 hz0 hz1 hz2 rfl (by omega) v' S.length (byteVals S) rfl hwt1.out.own ⟨g1, 0, none⟩ (textBytes x).length c1 (byteVals (textBytes x)) rfl (by simp) HCL.out (byteVals_one _) (by simp [maxLen]; omega) (by simp; omega) (by omega) ?_; intro v2 w2 hown2 hg2 _ hat2; have HO2 := hide hown2; have hp2 := hwt1.out.blk.grown hg2 (hwt1.out.ne (by decide)); have c2 := (by exact hp2.cell 0 : w2.cell? ⟨p, 0, none⟩ = some v'); have f2 := hp2.free 0; clear hown2 hp2; have ho3 := (by have := HO2.out; unfold OwnB; rw [show byteVals (S ++ (textBytes x)) = byteVals S ++ byteVals (textBytes x) by simp, List.length_append]; exact this : OwnB w2 v2 (S ++ (textBytes x))); obtain ⟨g2, k2, hv2, -, -⟩ := ho3.form (by simp; try omega); obtain ⟨mm, hmm⟩ : ∃ mm, mm = (S ++ (textBytes x)).length := ⟨_, rfl⟩; rw [← hmm] at hv2; have HMM := hide hmm; clear hmm; subst hv2; have HO3 := hide ho3; clear ho3 HO2))
      have hput := hwt1.out.put (by decide) hg2 HO3.out hat2
      go_roundg (l.length - (n + 1))
      case rel => exact ⟨n + 1, _, rfl, by omega, by go_num, by rw [HS1.out]; exact hide hput.1, hide ((hwr.out.trans (Wrt.of p v' KEEP.out)).trans hput.2), hide ((hgb.out.below KEEP.out).wrt hput.2 hwt1.out.own hpg (by decide)), by rw [HS1.out]; simp; omega⟩
      case measure => have := HGK.out; omega
    · have hnl : n = l.length := by omega
      subst hnl
      go_wp2
      first | go_end0 | refine bodyPost_ret (results_none rfl _ _ _) rfl ?_
      exact ⟨rfl, v', by simpa using hwt.out, hwr.out⟩
end Go.Proofs.YtheampfoedhipaaGreatDoor
