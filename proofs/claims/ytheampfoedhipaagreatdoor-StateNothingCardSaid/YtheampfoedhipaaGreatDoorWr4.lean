/- Texts of both writers; the writers' texts. -/
import Derived.Test.YtheampfoedhipaaGreatDoorWr3
import Derived.Lib.AppendStr
namespace Go.Proofs.YtheampfoedhipaaGreatDoor
open Go Go.RowKit
set_option maxRecDepth 100000

theorem strCells_B (s : Str) : Lib.strCells (B s) = byteVals s := by
  simp [Lib.strCells]

theorem Text_small (s : Str) (hs : s.length < 128) (w : World) :
    Calls Tryz.prog 163 #[.string (B s)] w fun e w' => ∃ v, e = .returned (.tuple #[v, .int .i64 0]) ∧ OwnB w' v (UInt8.ofNat s.length :: s) ∧ Below w.heap.size w w' := by
  obtain ⟨i0, hi0, hz0, hz1, hz2⟩ := info_parts infoU8
  have hsz : (B s).size = s.length := B_size s
  go_enter Tryz.func163, Tryz.ntmps163
  go_wp2_with (first
    | (go_at_call 162; refine (Number_small s.length hs _).mono ?_; rintro e w1 ⟨v1, rfl, ho1, hr1, hb1⟩; have HO1 := hide ho1; have HR1 := hide hr1; clear ho1 hr1)
    | (at_builtin; refine Lib.wpList_append_own_string _ rfl (.tmp 15) (.tmp 16) _ _ rfl 0 tU8 i0 Tryz.underlying67 Tryz.underlying9 hi0 hz0 hz1 hz2 v1 1 (byteVals [UInt8.ofNat s.length]) rfl HO1.out (B s) rfl (by rw [B_size]; simp [maxLen]; omega) (by rw [B_size]; omega) (by omega) ?_; intro v2 w2 hown2 hg2 _; have HO2 := hide hown2; clear hown2))
  have hb : Below w.heap.size w w2 := hb1.grown hg2 hb1.size HR1.out
  refine bodyPost_ret (results_tmp2 rfl _ _ _) rfl ?_
  refine ⟨v2, rfl, ?_, hb⟩
  have h := HO2.out
  unfold OwnB
  rw [show byteVals (UInt8.ofNat s.length :: s) = byteVals [UInt8.ofNat s.length] ++ Lib.strCells (B s) by simp [strCells_B], show (UInt8.ofNat s.length :: s).length = 1 + (B s).size by rw [B_size, List.length_cons]; omega]
  exact h

theorem refText_small (s : Str) (hs : s.length < 128) (w : World) :
    Calls Tryz.prog 180 #[.string (B s)] w fun e w' => ∃ v, e = .returned (.tuple #[v, .int .i64 0]) ∧ OwnB w' v (UInt8.ofNat s.length :: s) ∧ Below w.heap.size w w' := by
  obtain ⟨i0, hi0, hz0, hz1, hz2⟩ := info_parts infoU8
  have hsz : (B s).size = s.length := B_size s
  go_enter Tryz.func180, Tryz.ntmps180
  go_wp2_with (first
    | (go_at_call 179; refine (refNumber_small s.length hs _).mono ?_; rintro e w1 ⟨v1, rfl, ho1, hr1, hb1⟩; have HO1 := hide ho1; have HR1 := hide hr1; clear ho1 hr1)
    | (at_builtin; refine Lib.wpList_append_own_string _ rfl (.tmp 15) (.tmp 16) _ _ rfl 0 tU8 i0 Tryz.underlying67 Tryz.underlying9 hi0 hz0 hz1 hz2 v1 1 (byteVals [UInt8.ofNat s.length]) rfl HO1.out (B s) rfl (by rw [B_size]; simp [maxLen]; omega) (by rw [B_size]; omega) (by omega) ?_; intro v2 w2 hown2 hg2 _; have HO2 := hide hown2; clear hown2))
  have hb : Below w.heap.size w w2 := hb1.grown hg2 hb1.size HR1.out
  refine bodyPost_ret (results_tmp2 rfl _ _ _) rfl ?_
  refine ⟨v2, rfl, ?_, hb⟩
  have h := HO2.out
  unfold OwnB
  rw [show byteVals (UInt8.ofNat s.length :: s) = byteVals [UInt8.ofNat s.length] ++ Lib.strCells (B s) by simp [strCells_B], show (UInt8.ofNat s.length :: s).length = 1 + (B s).size by rw [B_size, List.length_cons]; omega]
  exact h
end Go.Proofs.YtheampfoedhipaaGreatDoor
