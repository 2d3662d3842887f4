/- Number and Text at small numbers and short texts, of both writers. -/
import Derived.Test.YtheampfoedhipaaGreatDoorWr1
import Derived.Test.YtheampfoedhipaaGreatDoorProg
import Derived.Test.YtheampfoedhipaaGreatDoorSn1
namespace Go.Proofs.YtheampfoedhipaaGreatDoor
open Go Go.RowKit
set_option maxRecDepth 100000

theorem infoU8 : (Tryz.prog.info? tU8).map (fun i => (i.zero, i.size, i.bytes)) = some (some (.int .u8 0), 1, 1) := by kernel_rfl
theorem Number_small (n : Nat) (hn : n < 128) (w : World) :
    Calls Tryz.prog 162 #[.int .i64 n] w fun e w' => ∃ v, e = .returned (.tuple #[v, .int .i64 0]) ∧ OwnB w' v [UInt8.ofNat n] ∧ (∀ g, v.ownBlock = some g → w.heap.size ≤ g) ∧ Below w.heap.size w w' := by
  obtain ⟨i0, hi0, hz0, hz1, hz2⟩ := info_parts infoU8
  have hw : IntKind.u8.wrap (n : Int) = n := by simp [IntKind.wrap, IntKind.bits, IntKind.signed]; omega
  have hb : byteVals [UInt8.ofNat n] = [.int .u8 (n : Int)] := by simp; omega
  have HB := hide hb; clear hb
  go_enter Tryz.func162, Tryz.ntmps162
  go_wp2
  refine wp_loop_rounds 1 ?_
  rw [rounds_succ]
  go_wp2_with (at_builtin; refine wpList_append_own_at _ rfl (.tmp 21) (.tmp 24) _ rfl 0 tU8 i0 _ 1 1 Tryz.underlying67 hi0 hz0 hz1 hz2 rfl (by omega) (.slice none 0 0) 0 [] rfl ⟨rfl, .inl ⟨rfl, rfl⟩⟩ ⟨w.heap.size, 0, none⟩ 1 1 [.int .u8 n] rfl rfl (Blk.newAt _ _ _ rfl).news (by simp [Value.oneCell']) (by simp [maxLen]) (by omega) (by omega) ?_; intro v1 w1 hown1 hg1 _ hat; have HO := hide hown1; clear hown1)
  have hb : Below w.heap.size w w1 := Below.grown (by repeat (first | exact Below.refl _ _ | assumption | refine below_drewN ?_ _ | refine below_drew ?_ | refine below_alloc ?_ _ | refine below_set ?_ (by first | assumption | (simp; done) | (simp; omega)) _ | refine below_trans (by assumption) ?_)) hg1 (by simp) (by simp [Value.ownBlock])
  refine bodyPost_ret (results_tmp2 rfl _ _ _) rfl ?_
  refine ⟨v1, rfl, by unfold OwnB; rw [HB.out]; exact HO.out, fun g hg => ?_, hb⟩
  rcases hat with e | e <;> rw [e] at hg
  · cases hg
  · injection hg with hg; subst hg; simp
theorem refNumber_small (n : Nat) (hn : n < 128) (w : World) :
    Calls Tryz.prog 179 #[.int .i64 n] w fun e w' => ∃ v, e = .returned (.tuple #[v, .int .i64 0]) ∧ OwnB w' v [UInt8.ofNat n] ∧ (∀ g, v.ownBlock = some g → w.heap.size ≤ g) ∧ Below w.heap.size w w' := by
  obtain ⟨i0, hi0, hz0, hz1, hz2⟩ := info_parts infoU8
  have hw : IntKind.u8.wrap (n : Int) = n := by simp [IntKind.wrap, IntKind.bits, IntKind.signed]; omega
  have hb : byteVals [UInt8.ofNat n] = [.int .u8 (n : Int)] := by simp; omega
  have HB := hide hb; clear hb
  go_enter Tryz.func179, Tryz.ntmps179
  go_wp2
  refine wp_loop_rounds 1 ?_
  rw [rounds_succ]
  go_wp2_with (at_builtin; refine wpList_append_own_at _ rfl (.tmp 22) (.tmp 25) _ rfl 0 tU8 i0 _ 1 1 Tryz.underlying67 hi0 hz0 hz1 hz2 rfl (by omega) (.slice none 0 0) 0 [] rfl ⟨rfl, .inl ⟨rfl, rfl⟩⟩ ⟨w.heap.size, 0, none⟩ 1 1 [.int .u8 n] rfl rfl (Blk.newAt _ _ _ rfl).news (by simp [Value.oneCell']) (by simp [maxLen]) (by omega) (by omega) ?_; intro v1 w1 hown1 hg1 _ hat; have HO := hide hown1; clear hown1)
  have hb : Below w.heap.size w w1 := Below.grown (by repeat (first | exact Below.refl _ _ | assumption | refine below_drewN ?_ _ | refine below_drew ?_ | refine below_alloc ?_ _ | refine below_set ?_ (by first | assumption | (simp; done) | (simp; omega)) _ | refine below_trans (by assumption) ?_)) hg1 (by simp) (by simp [Value.ownBlock])
  refine bodyPost_ret (results_tmp2 rfl _ _ _) rfl ?_
  refine ⟨v1, rfl, by unfold OwnB; rw [HB.out]; exact HO.out, fun g hg => ?_, hb⟩
  rcases hat with e | e <;> rw [e] at hg
  · cases hg
  · injection hg with hg; subst hg; simp
end Go.Proofs.YtheampfoedhipaaGreatDoor
