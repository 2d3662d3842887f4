/- slices.Insert of one node: the walk. -/
import Derived.Test.YtheampfoedhipaaGreatDoorAi
namespace Go.Proofs.YtheampfoedhipaaGreatDoor
open Go Go.RowKit
set_option maxRecDepth 100000

theorem infoSeen : (Tryz.prog.info? tSeen).map (fun i => (i.zero, i.size, i.bytes)) = some (some (.agg #[.string ⟨#[]⟩, .string ⟨#[]⟩, .int .i64 0]), 3, 40) := by kernel_rfl

set_option maxHeartbeats 1000000 in
theorem Insert_end (v : Value) (l : List Seen) (x : Seen) (vb base : Nat) (w : World) (ho : Own tSeen 3 encSeen w base v l) (hl : l.length ≤ 64) (hvb : Blk w vb tSeen (encSeen x).toArray) (hbase : base ≤ w.heap.size) :
    Calls Tryz.prog 159 #[v, .int .i64 l.length, .slice (some ⟨vb, 0, none⟩) 1 1] w fun e w' =>
      ∃ v', e = .returned v' ∧ Own tSeen 3 encSeen w' base v' (l ++ [x]) ∧ w.grownBy w' v.ownBlock ∧ (v'.ownBlock = v.ownBlock ∨ v'.ownBlock = some w.heap.size) := by
  obtain ⟨i0, hi0, hz0, hz1, hz2⟩ := info_parts infoSeen
  have hnews : ∀ j u, (encSeen x)[j]? = some u → w.cell? ((⟨vb, 0, none⟩ : Addr).add j) = some u := by
    intro j u hu
    rw [show (⟨vb, 0, none⟩ : Addr).add j = ⟨vb, j, none⟩ by unfold Addr.add; split <;> simp_all, hvb.cell]
    simpa using hu
  obtain ⟨X, c, rfl⟩ := ho.len
  have HN := hide hnews; clear hnews hvb
  by_cases hcl : c = l.length
  · subst hcl
    have HO := hide ho; clear ho
    go_enter Tryz.func159, Tryz.ntmps159
    go_wp2_with (at_builtin; refine wpList_append_own_at _ rfl (.tmp 23) (.tmp 24) _ rfl base tSeen i0 _ 3 40 Tryz.underlying54 hi0 hz0 hz1 hz2 rfl (by omega) (.slice X l.length _) l.length _ rfl HO.out ⟨vb, 0, none⟩ 1 1 (encSeen x) rfl rfl HN.out (encSeen_one x) (by simp only [maxLen]; omega) (by omega) hbase ?_; intro v1 w1 hown1 hg1 _ hat1; have HO1 := hide hown1; clear hown1)
    go_ret
    exact ⟨v1, rfl, by unfold Own; rw [flat_append, flat_one, List.length_append]; exact HO1.out, hg1, hat1⟩
  · have HO := hide ho; clear ho
    go_enter Tryz.func159, Tryz.ntmps159
    go_wp2_with (at_builtin; refine wpList_append_own_at _ rfl (.tmp 23) (.tmp 24) _ rfl base tSeen i0 _ 3 40 Tryz.underlying54 hi0 hz0 hz1 hz2 rfl (by omega) (.slice X l.length _) l.length _ rfl HO.out ⟨vb, 0, none⟩ 1 1 (encSeen x) rfl rfl HN.out (encSeen_one x) (by simp only [maxLen]; omega) (by omega) hbase ?_; intro v1 w1 hown1 hg1 _ hat1; have HO1 := hide hown1; clear hown1)
    go_ret
    exact ⟨v1, rfl, by unfold Own; rw [flat_append, flat_one, List.length_append]; exact HO1.out, hg1, hat1⟩

set_option maxHeartbeats 2000000 in
theorem Insert_new (g c i : Nat) (l : List Seen) (x : Seen) (cur : Array Value) (vb : Nat) (w : World) (hg : Blk w g tSeen cur) (hcs : cur.size = c * 3) (ht : cur.toList.take (l.length * 3) = flat encSeen l) (hl : l.length ≤ 64) (hi : i < l.length) (hlc : l.length ≤ c) (hc : c < l.length + 1)
    (hvb : Blk w vb tSeen (encSeen x).toArray) :
    Calls Tryz.prog 159 #[.slice (some ⟨g, 0, none⟩) l.length c, .int .i64 i, .slice (some ⟨vb, 0, none⟩) 1 1] w fun e w' =>
      ∃ v', e = .returned v' ∧ Own tSeen 3 encSeen w' w.heap.size v' (l.take i ++ [x] ++ l.drop i) ∧ Below w.heap.size w w' := by
  obtain ⟨i0, hi0, hz0, hz1, hz2⟩ := info_parts infoSeen
  have hcn : c = l.length := by omega
  subst hcn
  have hlen := flat_len encSeen_len l
  have htk := flat_take encSeen_len l i
  have hsrc : ∀ j v, ((flat encSeen l).take (i * 3))[j]? = some v → w.cell? ((⟨g, 0, none⟩ : Addr).add j) = some v := by
    intro j u hu
    rw [show (⟨g, 0, none⟩ : Addr).add j = ⟨g, j, none⟩ by unfold Addr.add; split <;> simp_all, hg.cell]
    rw [List.getElem?_take] at hu
    split at hu
    · rw [← ht, List.getElem?_take] at hu
      split at hu
      · rwa [Array.getElem?_toList] at hu
      · cases hu
    · cases hu
  have hap : ∀ ty, (Builtin.append_ #[tSeens, 3] ty #[.slice (some ⟨g, 0, none⟩) i l.length, .int .i64 ((l.length + 1 - i : Nat) : Int)]).run Tryz.prog w = _ := fun ty =>
    run_append_zeros_grow w tSeens 3 ty tSeen i0 _ .i64 3 40 Tryz.underlying54 Tryz.underlying3 hi0 hz0 hz1 hz2 (by omega) ⟨g, 0, none⟩ i l.length (l.length + 1 - i) (by omega) (by omega) (by omega) (by omega) ((flat encSeen l).take (i * 3)) (by rw [List.length_take, hlen]; omega) hsrc
  rw [show i + (l.length + 1 - i) = l.length + 1 by omega] at hap
  have hidx : ((l.length : Int) + 1 - i) = ((l.length + 1 - i : Nat) : Int) := by omega
  obtain ⟨N, hNeq⟩ : ∃ N, N = grownCap w (l.length + 1) l.length tSeen := ⟨_, rfl⟩
  have hN1 : l.length + 1 ≤ N := by rw [hNeq]; exact grownCap_ge w _ _ _
  have hN2 : N ≤ 9223372036854775807 := by rw [hNeq]; have := grownCap_le_maxLen w (l.length + 1) l.length tSeen (by simp only [maxLen]; omega); simpa [maxLen] using this
  rw [← hNeq] at hap
  clear hNeq
  obtain ⟨cur0, hcur0⟩ : ∃ c, c = ((flat encSeen l).take (i * 3)).toArray ++ Builtin.zeroCells (Value.agg #[.string ⟨#[]⟩, .string ⟨#[]⟩, .int .i64 0]).cells (l.length + 1 - i) ++ Builtin.zeroCells (Value.agg #[.string ⟨#[]⟩, .string ⟨#[]⟩, .int .i64 0]).cells (N - (l.length + 1)) := ⟨_, rfl⟩
  have hcz : cur0.size = N * 3 := by
    rw [hcur0]
    simp only [Array.size_append, List.size_toArray, size_zeroCells, List.length_take, hlen, Value.cells, List.length_cons, List.length_nil]
    omega
  have hct : cur0.toList.take (i * 3) = (flat encSeen l).take (i * 3) := by
    rw [hcur0]
    simp only [Array.toList_append, List.append_assoc]
    rw [List.take_append_of_le_length (by rw [List.length_take, hlen]; omega), List.take_of_length_le (by rw [List.length_take]; omega)]
  rw [← hcur0] at hap
  clear hcur0
  obtain ⟨W1, hW1⟩ : ∃ W1, W1 = w.drew.alloc (.cells cur0 tSeen) := ⟨_, rfl⟩
  rw [← hW1] at hap
  have b1 : Blk W1 w.heap.size tSeen cur0 := by rw [hW1]; exact Blk.new w.drew tSeen cur0
  have bel1 : Below w.heap.size w W1 := by rw [hW1]; exact below_alloc (below_drew (Below.refl _ _)) _
  have bg1 := hg.below bel1
  have bv1 := hvb.below bel1
  clear hW1
  have hgs := hg.lt
  have hvs := hvb.lt
  have hmin : Nat.min 1 (l.length + 1 - i) = 1 := Nat.min_eq_left (by omega)
  have hmin2 : Nat.min (l.length - i) (l.length + 1 - (i + 1)) = l.length - i := Nat.min_eq_left (by omega)
  have hcp : ∀ ty, (Builtin.copy_ #[tSeens, tSeens] ty #[.slice (some ⟨w.heap.size, i * 3, none⟩) (l.length + 1 - i) (N - i), .slice (some ⟨vb, 0, none⟩) 1 1]).run Tryz.prog W1 = .ok (goInt (Nat.min 1 (l.length + 1 - i))) (W1.setRow w.heap.size (spl cur0 (i * 3) (encSeen x))) := fun ty =>
    run_copyK W1 tSeens tSeens ty tSeen 3 w.heap.size (i * 3) (l.length + 1 - i) (N - i) ⟨vb, 0, none⟩ 1 1 cur0 tSeen (encSeen x) Tryz.underlying54 (by rw [hi0]; simp [hz1]) b1 (by rw [hmin]; rfl)
      (fun j u hu => by
        rw [show (⟨vb, 0, none⟩ : Addr).add j = ⟨vb, j, none⟩ by unfold Addr.add; split <;> simp_all, bv1.cell]; simpa using hu)
      (by rw [encSeen_len, hcz]; omega) (encSeen_one x)
  rw [hmin] at hcp
  obtain ⟨W2, hW2⟩ : ∃ W2, W2 = W1.setRow w.heap.size (spl cur0 (i * 3) (encSeen x)) := ⟨_, rfl⟩
  rw [← hW2] at hcp
  have b2 : Blk W2.drew w.heap.size tSeen (spl cur0 (i * 3) (encSeen x)) := by rw [hW2]; exact b1.setRow _
  have bel2 : Below w.heap.size w W2.drew := by rw [hW2]; exact below_drew (below_setRow' bel1 (Nat.le_refl _) _)
  have bg2 : Blk W2.drew g tSeen cur := by rw [hW2]; exact bg1.setRow_far (by omega) _
  clear hW2
  have hs2 := spl_size (cur := cur0) (o := i * 3) (cs := encSeen x) (by rw [encSeen_len, hcz]; omega)
  have hdl : ((flat encSeen l).drop (i * 3)).length = (l.length - i) * 3 := by rw [List.length_drop, hlen]; omega
  have hcp2 : ∀ ty, (Builtin.copy_ #[tSeens, tSeens] ty #[.slice (some ⟨w.heap.size, (i + 1) * 3, none⟩) (l.length + 1 - (i + 1)) (N - (i + 1)), .slice (some ⟨g, i * 3, none⟩) (l.length - i) (l.length - i)]).run Tryz.prog W2.drew = .ok (goInt (Nat.min (l.length - i) (l.length + 1 - (i + 1)))) (W2.drew.setRow w.heap.size (spl (spl cur0 (i * 3) (encSeen x)) ((i + 1) * 3) ((flat encSeen l).drop (i * 3)))) := fun ty =>
    run_copyK W2.drew tSeens tSeens ty tSeen 3 w.heap.size ((i + 1) * 3) (l.length + 1 - (i + 1)) (N - (i + 1)) ⟨g, i * 3, none⟩ (l.length - i) (l.length - i) (spl cur0 (i * 3) (encSeen x)) tSeen ((flat encSeen l).drop (i * 3)) Tryz.underlying54 (by rw [hi0]; simp [hz1]) b2
      (by rw [hdl, hmin2])
      (fun j u hu => by
        rw [show (⟨g, i * 3, none⟩ : Addr).add j = ⟨g, i * 3 + j, none⟩ by unfold Addr.add; split <;> simp_all, bg2.cell]
        rw [List.getElem?_drop, ← ht, List.getElem?_take] at hu
        split at hu
        · rwa [Array.getElem?_toList] at hu
        · cases hu)
      (by rw [hdl, hs2, hcz]; omega) (fun v hv => flat_mem encSeen_one l v (List.mem_of_mem_drop hv))
  clear hmin hmin2
  have hfin := take_spl_new (k := 3) (cap := N) (n := l.length) hcz hct hlen (encSeen_len x) (by omega) hN1
  obtain ⟨W3, hW3⟩ : ∃ W3, W3 = W2.drew.setRow w.heap.size (spl (spl cur0 (i * 3) (encSeen x)) ((i + 1) * 3) ((flat encSeen l).drop (i * 3))) := ⟨_, rfl⟩
  rw [← hW3] at hcp2
  have bel3 : Below w.heap.size w W3 := by rw [hW3]; exact below_setRow' bel2 (Nat.le_refl _) _
  have hown : Own tSeen 3 encSeen W3 w.heap.size (.slice (some ⟨w.heap.size, 0, none⟩) (l.length + 1) N) (l.take i ++ [x] ++ l.drop i) := by
    have hll : (l.take i ++ [x] ++ l.drop i).length = l.length + 1 := by simp; omega
    rw [← hll]
    refine Own.mk encSeen_len (Nat.le_refl _) (by rw [hW3]; exact b2.setRow _) (by omega) hN2 ?_ ?_
    · rw [spl_size (by rw [hdl, hs2, hcz]; omega), hs2, hcz]
    · rw [hll, hfin, flat_take encSeen_len, flat_drop encSeen_len, flat_append, flat_append, flat_one]
  clear hW3
  have HAP := hide hap; have HCP := hide hcp; have HCP2 := hide hcp2; have HOWN := hide hown
  have hidx : ((l.length : Int) + 1 - i) = ((l.length + 1 - i : Nat) : Int) := by omega
  have hi1 : ¬ ((i : Int) = (l.length : Int)) := by omega
  have hi2 : ((i : Int) == (l.length : Int)) = false := by rw [beq_eq_false_iff_ne]; omega
  have hgt : (l.length : Int) < (l.length : Int) + 1 := by omega
  clear hap hcp hcp2 hown hsrc htk hlen ht hg hcs hvb hcz hct b1 bel1 bg1 bv1 b2 bel2 bg2 hs2 hdl hfin
  have hNi : ¬ N = i := by omega
  have hNi1 : ¬ N = i + 1 := by omega
  have hli : ¬ l.length = i := by omega
  go_enter Tryz.func159, Tryz.ntmps159
  go_wp2_with (first
    | (at_builtin; refine Lib.wpList_append_run _ rfl (.tmp 34) (.tmp 39) _ _ rfl _ _ rfl rfl _ _ (HAP.out _) ?_)
    | (refine wpList_copy_run _ rfl (.tmp 43) (.tmp 44) tSeens tSeens rfl _ _ rfl rfl (HCP.out _) ?_))

  have w1 : IntKind.i64.wrap ((i : Int) + 1) = (i : Int) + 1 := by rw [IntKind.wrap_i64]; omega
  have w2 : (0 : Int) ≤ (i : Int) + 1 := by omega
  have w3 : ((i : Int) + 1).toNat = i + 1 := by omega
  have w4 : (i : Int) + 1 ≤ (l.length : Int) + 1 := by omega
  have w5 : (i : Int) ≤ (l.length : Int) := by omega
  have w6 : (0 : Int) ≤ (i : Int) := by omega
  go_region_law (refine step_copy_run rfl (.tmp 50) (.tmp 53) tSeens tSeens rfl _ _ (by simp [Act.eval, Act.put]) (by simp [Act.eval, Act.put]) (HCP2.out _) ?_)
  go_wp2_with fail
  go_ret
  exact ⟨_, rfl, HOWN.out, bel3⟩

set_option maxHeartbeats 2000000 in
theorem Insert_shift (g c i : Nat) (l : List Seen) (x : Seen) (cur : Array Value) (vb base : Nat) (w : World) (hbg : base ≤ g) (hg : Blk w g tSeen cur) (hcs : cur.size = c * 3) (ht : cur.toList.take (l.length * 3) = flat encSeen l) (hl : l.length ≤ 64) (hi : i < l.length) (hlc : l.length + 1 ≤ c) (hcm : c ≤ 9223372036854775807)
    (hvb : Blk w vb tSeen (encSeen x).toArray) (hne : vb ≠ g) :
    Calls Tryz.prog 159 #[.slice (some ⟨g, 0, none⟩) l.length c, .int .i64 i, .slice (some ⟨vb, 0, none⟩) 1 1] w fun e w' =>
      ∃ v', e = .returned v' ∧ Own tSeen 3 encSeen w' base v' (l.take i ++ [x] ++ l.drop i) ∧ w.grownBy w' (some g) ∧ v'.ownBlock = some g := by
  obtain ⟨i0, hi0, hz0, hz1, hz2⟩ := info_parts infoSeen
  have hlen := flat_len encSeen_len l
  have hdl : ((flat encSeen l).drop (i * 3)).length = (l.length - i) * 3 := by rw [List.length_drop, hlen]; omega
  have hmin : Nat.min (l.length + 1 - i) (l.length + 1 - (i + 1)) = l.length - i := by show min _ _ = _; omega
  have hcp : ∀ ty, (Builtin.copy_ #[tSeens, tSeens] ty #[.slice (some ⟨g, (i + 1) * 3, none⟩) (l.length + 1 - (i + 1)) (c - (i + 1)), .slice (some ⟨g, i * 3, none⟩) (l.length + 1 - i) (c - i)]).run Tryz.prog w.drew = .ok (goInt ((l.length - i : Nat) : Int)) (w.drew.setRow g (spl cur ((i + 1) * 3) ((flat encSeen l).drop (i * 3)))) := fun ty => by
    have := run_copyK (P := Tryz.prog) w.drew tSeens tSeens ty tSeen 3 g ((i + 1) * 3) (l.length + 1 - (i + 1)) (c - (i + 1)) ⟨g, i * 3, none⟩ (l.length + 1 - i) (c - i) cur tSeen ((flat encSeen l).drop (i * 3)) Tryz.underlying54 (by rw [hi0]; simp [hz1]) hg
      (by rw [hdl, hmin])
      (fun j u hu => by
        rw [show (⟨g, i * 3, none⟩ : Addr).add j = ⟨g, i * 3 + j, none⟩ by unfold Addr.add; split <;> simp_all, (Blk.drew hg).cell]
        rw [List.getElem?_drop, ← ht, List.getElem?_take] at hu
        split at hu
        · rwa [Array.getElem?_toList] at hu
        · cases hu)
      (by rw [hdl, hcs]; omega) (fun v hv => flat_mem encSeen_one l v (List.mem_of_mem_drop hv))
    rw [hmin] at this; exact this
  obtain ⟨W1, hW1⟩ : ∃ W1, W1 = w.drew.setRow g (spl cur ((i + 1) * 3) ((flat encSeen l).drop (i * 3))) := ⟨_, rfl⟩
  rw [← hW1] at hcp
  have b1 : Blk W1 g tSeen (spl cur ((i + 1) * 3) ((flat encSeen l).drop (i * 3))) := by rw [hW1]; exact Blk.setRow (Blk.drew hg) _
  have bv1 : Blk W1 vb tSeen (encSeen x).toArray := by rw [hW1]; exact Blk.setRow_far (Blk.drew hvb) hne _
  have g1 : w.grownBy W1 (some g) := by rw [hW1]; have h := grown_setRow (w := w.drew) (g := g) (spl cur ((i + 1) * 3) ((flat encSeen l).drop (i * 3))); exact ⟨h.os, h.tape, h.output, h.size, h.block⟩
  clear hW1
  have hs1 := spl_size (cur := cur) (o := (i + 1) * 3) (cs := (flat encSeen l).drop (i * 3)) (by rw [hdl, hcs]; omega)
  have hmin2 : Nat.min 1 (l.length + 1 - i) = 1 := Nat.min_eq_left (by omega)
  have hcp2 : ∀ ty, (Builtin.copy_ #[tSeens, tSeens] ty #[.slice (some ⟨g, i * 3, none⟩) (l.length + 1 - i) (c - i), .slice (some ⟨vb, 0, none⟩) 1 1]).run Tryz.prog W1 = .ok (goInt 1) (W1.setRow g (spl (spl cur ((i + 1) * 3) ((flat encSeen l).drop (i * 3))) (i * 3) (encSeen x))) := fun ty => by
    have := run_copyK (P := Tryz.prog) W1 tSeens tSeens ty tSeen 3 g (i * 3) (l.length + 1 - i) (c - i) ⟨vb, 0, none⟩ 1 1 _ tSeen (encSeen x) Tryz.underlying54 (by rw [hi0]; simp [hz1]) b1 (by rw [hmin2]; rfl)
      (fun j u hu => by
        rw [show (⟨vb, 0, none⟩ : Addr).add j = ⟨vb, j, none⟩ by unfold Addr.add; split <;> simp_all, bv1.cell]; simpa using hu)
      (by rw [encSeen_len, hs1, hcs]; omega) (encSeen_one x)
    rw [hmin2] at this; exact this
  have hfin := take_spl_shift (k := 3) (cap := c) (n := l.length) (i := i) hcs ht hlen (encSeen_len x) (by omega) hlc
  obtain ⟨W2, hW2⟩ : ∃ W2, W2 = W1.setRow g (spl (spl cur ((i + 1) * 3) ((flat encSeen l).drop (i * 3))) (i * 3) (encSeen x)) := ⟨_, rfl⟩
  rw [← hW2] at hcp2
  have g2 : w.grownBy W2 (some g) := by rw [hW2]; exact World.grownBy.trans g1 (grown_setRow _)
  have hown : Own tSeen 3 encSeen W2 base (.slice (some ⟨g, 0, none⟩) (l.length + 1) c) (l.take i ++ [x] ++ l.drop i) := by
    have hll : (l.take i ++ [x] ++ l.drop i).length = l.length + 1 := by simp; omega
    rw [← hll]
    refine Own.mk encSeen_len hbg (by rw [hW2]; exact b1.setRow _) (by omega) hcm ?_ ?_
    · rw [spl_size (by rw [encSeen_len, hs1, hcs]; omega), hs1, hcs]
    · rw [hll, hfin, flat_take encSeen_len, flat_drop encSeen_len, flat_append, flat_append, flat_one]
  clear hW2
  have hov : ∀ lb cb, (callFunc 200 #[.slice (some ⟨vb, 0, none⟩) 1 1, .slice (some ⟨g, (i + 1) * 3, none⟩) lb cb]).run Tryz.prog w = .ok (.value (.bool false)) w := fun lb cb => by
    rw [run_callFunc_extern Tryz.func200 (by kernel_rfl) (by kernel_rfl) (by kernel_rfl) (e := Extern.SlicesOverlaps.overlaps #[tSeens, tSeens] #[4]) (by kernel_rfl),
      Lib.run_overlaps_apart w tSeens 4 tSeen Tryz.underlying54 3 Tryz.sizeOf94 ⟨vb, 0, none⟩ ⟨g, (i + 1) * 3, none⟩ 1 1 lb cb hne tSeen tSeen 3 (c * 3)
        (by unfold Blk at hvb; simp [World.shape?, hvb, encSeen]) (by unfold Blk at hg; simp [World.shape?, hg, hcs]) (by omega) (hvb.free 0) (hvb.free 3)]
    rfl
  have HCP := hide hcp; have HCP2 := hide hcp2; have HOWN := hide hown
  have hidx : ((l.length : Int) + 1 - i) = ((l.length + 1 - i : Nat) : Int) := by omega
  have hi1 : ¬ ((i : Int) = (l.length : Int)) := by omega
  have hi2 : ((i : Int) == (l.length : Int)) = false := by rw [beq_eq_false_iff_ne]; omega
  have hgt : ¬ (c : Int) < (l.length : Int) + 1 := by omega
  have w1 : IntKind.i64.wrap ((i : Int) + 1) = (i : Int) + 1 := by rw [IntKind.wrap_i64]; omega
  have w2 : (0 : Int) ≤ (i : Int) + 1 := by omega
  have w3 : ((i : Int) + 1).toNat = i + 1 := by omega
  have w4 : (i : Int) + 1 ≤ (l.length : Int) + 1 := by omega
  have w5 : (i : Int) ≤ (l.length : Int) + 1 := by omega
  have w6 : (0 : Int) ≤ (i : Int) := by omega
  clear hcp hcp2 hown hlen ht hg hcs hvb b1 bv1 hs1 hdl hfin hmin hmin2 g1
  have hNi : ¬ c = i := by omega
  have hNi1 : ¬ c = i + 1 := by omega
  go_enter Tryz.func159, Tryz.ntmps159
  go_wp2_with (simp only [hov])
  go_region_law (refine step_copy_run rfl (.tmp 73) (.tmp 76) tSeens tSeens rfl _ _ (by simp [Act.eval, Act.put]) (by simp [Act.eval, Act.put]) (HCP.out _) ?_)
  go_wp2_with (refine wpList_copy_run _ rfl (.tmp 80) (.tmp 81) tSeens tSeens rfl _ _ rfl rfl (HCP2.out _) ?_)
  go_ret
  exact ⟨_, rfl, HOWN.out, g2, rfl⟩
end Go.Proofs.YtheampfoedhipaaGreatDoor
