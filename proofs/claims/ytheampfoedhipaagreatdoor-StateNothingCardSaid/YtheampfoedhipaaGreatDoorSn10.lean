/- The document's nodes at its root tree. -/
import Derived.Test.YtheampfoedhipaaGreatDoorSn9
namespace Go.Proofs.YtheampfoedhipaaGreatDoor
open Go Go.RowKit
set_option maxRecDepth 100000

theorem infoRFull : (Tryz.prog.info? rFullT).map (fun i => (i.zero, i.size, i.bytes)) = some (some (.agg #[.string ⟨#[]⟩, .string ⟨#[]⟩, .int .i64 0, .int .i64 0, .int .i64 0, .int .i64 0, .int .i64 0]), 7, 72) := by kernel_rfl
theorem refNodes_root (g : Nat) (w : World) (hg : Blk w g rFullT (encFull rootFull).toArray) :
    Calls Tryz.prog 120 #[.agg #[.slice (some ⟨g, 0, none⟩) 1 1]] w fun e w' => ∃ v, e = .returned v ∧ Own rFullT 7 encFull w' w.heap.size v [rootFull] ∧ Below w.heap.size w w' := by
  obtain ⟨i0, hi0, hz0, hz1, hz2⟩ := info_parts infoRFull
  have hlg := hg.lt
  have HG := hide hg
  clear hg
  go_enter Tryz.func120, Tryz.ntmps120
  go_wp2
  have hk := HG.out.alloc (.cells #[.slice (some ⟨g, 0, none⟩) 1 1] 76)
  have k0 := (by exact hk.cell 0 : (w.alloc (.cells #[.slice (some ⟨g, 0, none⟩) 1 1] 76)).cell? ⟨g, 0, none⟩ = some (.string ⟨#[47]⟩))
  have k1 := (by exact hk.cell 1 : (w.alloc (.cells #[.slice (some ⟨g, 0, none⟩) 1 1] 76)).cell? ⟨g, 1, none⟩ = some (.string ⟨#[]⟩))
  have k2 := (by exact hk.cell 2 : (w.alloc (.cells #[.slice (some ⟨g, 0, none⟩) 1 1] 76)).cell? ⟨g, 2, none⟩ = some (.int .i64 0))
  have k3 := (by exact hk.cell 3 : (w.alloc (.cells #[.slice (some ⟨g, 0, none⟩) 1 1] 76)).cell? ⟨g, 3, none⟩ = some (.int .i64 0))
  have k4 := (by exact hk.cell 4 : (w.alloc (.cells #[.slice (some ⟨g, 0, none⟩) 1 1] 76)).cell? ⟨g, 4, none⟩ = some (.int .i64 0))
  have k5 := (by exact hk.cell 5 : (w.alloc (.cells #[.slice (some ⟨g, 0, none⟩) 1 1] 76)).cell? ⟨g, 5, none⟩ = some (.int .i64 0))
  have k6 := (by exact hk.cell 6 : (w.alloc (.cells #[.slice (some ⟨g, 0, none⟩) 1 1] 76)).cell? ⟨g, 6, none⟩ = some (.int .i64 0))
  refine wp_loop_rounds 2 ?_
  rw [rounds_succ]
  go_wp2_with (at_builtin; refine wpList_append_own_at _ rfl (.tmp 12) (.tmp 18) _ rfl w.heap.size rFullT i0 _ 7 72 Tryz.underlying74 hi0 hz0 hz1 hz2 rfl (by omega) (.slice none 0 0) 0 [] rfl ⟨rfl, .inl ⟨rfl, rfl⟩⟩ ⟨w.heap.size + 1, 0, none⟩ 1 1 (encFull rootFull) rfl rfl (Blk.newAt _ _ _ (by simp)).news (by simp [encFull, Value.oneCell']) (by simp [maxLen]) (by omega) (by simp; omega) ?_; intro v1 w2 hown1 hg1 _ hat1; have HO1 := hide hown1; have hq := (by exact ((Blk.new _ _ _).alloc _).grown hg1 (by simp [Value.ownBlock]) : Blk w2 w.heap.size 76 #[.slice (some ⟨g, 0, none⟩) 1 1]); have q0 := (by exact hq.cell 0 : w2.cell? ⟨w.heap.size, 0, none⟩ = some (.slice (some ⟨g, 0, none⟩) 1 1)); have hb := (by exact Below.grown (by repeat (first | exact Below.refl _ _ | assumption | refine below_drewN ?_ _ | refine below_drew ?_ | refine below_alloc ?_ _ | refine below_set ?_ (by first | assumption | (simp; done) | (simp; omega)) _ | refine below_trans (by assumption) ?_)) hg1 (by simp; omega) (by simp [Value.ownBlock]) : Below w.heap.size w w2); clear hown1)
  rw [rounds_succ]
  go_wp2
  go_ret
  exact ⟨_, rfl, HO1.out, hb⟩
end Go.Proofs.YtheampfoedhipaaGreatDoor
