/- slices.Delete of one node: the walk. -/
import Derived.Test.YtheampfoedhipaaGreatDoorAj
namespace Go.Proofs.YtheampfoedhipaaGreatDoor
open Go Go.RowKit
set_option maxRecDepth 100000
section
variable {P : Program}
theorem run_append_fitsK (w : World) (t ty elem : TypeId) (k g n c : Nat) (a : Addr) (m mc : Nat) (cur : Array Value) (tt : TypeId) (cs : List Value)
    (hu : P.underlying t = some (.slice elem)) (hs : (P.info? elem).map (·.size) = some k) (hg : Blk w g tt cur) (hl : cs.length = m * k) (hroom : n + m ≤ c)
    (hsrc : ∀ j v, cs[j]? = some v → w.cell? (a.add j) = some v) (hfit : n * k + cs.length ≤ cur.size) (h1 : ∀ v ∈ cs, v.oneCell' = true) :
    (Builtin.append_ #[t, t] ty #[.slice (some ⟨g, 0, none⟩) n c, .slice (some a) m mc]).run P w = .ok (.slice (some ⟨g, 0, none⟩) (n + m) c) (w.setRow g (spl cur (n * k) cs)) := by
  have hld := run_loadCells_list (P := P) w a cs hsrc
  have hst := run_storeCells_at P g (n * k) tt cs 0 cur w hg (by simpa using hfit) h1
  have hadd : (⟨g, 0, none⟩ : Addr).add (n * k) = ⟨g, n * k, none⟩ := by unfold Addr.add; split <;> simp_all
  rw [hl] at hld
  cases hq : P.info? elem with
  | none => simp [hq] at hs
  | some i =>
    have hi : i.size = k := by simpa [hq] using hs
    simp [Builtin.append_, run_underlying hu, Builtin.lenOf, Builtin.firstCells, sizeOf, typeInfo, hq, hi, hld, hst, spl, hroom, hadd]
theorem run_clearK (w : World) (t ty elem : TypeId) (i : TypeInfo) (z : Value) (k g o n c : Nat) (cur : Array Value) (tt : TypeId)
    (hu : P.underlying t = some (.slice elem)) (hi : P.info? elem = some i) (hz : i.zero = some z) (hk : z.cells.size = k) (hn : 0 < n) (hg : Blk w g tt cur) (hfit : o + n * k ≤ cur.size) (h1 : ∀ v ∈ (Builtin.zeroCells z.cells n).toList, v.oneCell' = true) :
    (Builtin.clear_ #[t] ty #[.slice (some ⟨g, o, none⟩) n c]).run P w = .ok (.tuple #[]) (w.setRow g (spl cur o (Builtin.zeroCells z.cells n).toList)) := by
  have hsz : (Builtin.zeroCells z.cells n).toList.length = n * k := by rw [Array.length_toList, size_zeroCells, hk]
  have hst := run_storeCells_at P g o tt (Builtin.zeroCells z.cells n).toList 0 cur w hg (by rw [hsz]; simpa using hfit) h1
  obtain ⟨n', rfl⟩ : ∃ n', n = n' + 1 := ⟨n - 1, by omega⟩
  simp [Builtin.clear_, run_underlying hu, zeroValue, typeInfo, hi, hz, hst, spl]
theorem step_append_run {ops : Array Oper} {o : Oper} {a : Act} {w : World} {K : Act → World → Prop} {Q : Exit → Act → World → Prop} {E : Prop}
    (hg : o.guard = none) (d x : Operand) (dT sT : TypeId) (hop : o.op = Op.call { callee := Callee.builtin Builtin.append, args := #[d, x], argTypes := #[dT, sT] })
    (v u : Value) (hd : a.eval d = v) (hx : a.eval x = u) {v' : Value} {w' : World} (hr : (Builtin.append_ #[dT, sT] o.type #[v, u]).run P w = .ok v' w') (hK : K (a.put o.dst v') w') :
    if Region.wanted o (yielded ops a.tmps) = true then Oper.wp P o a w K Q else E := by
  have hw : Region.wanted o (yielded ops a.tmps) = true := by simp [Region.wanted, hg]
  rw [if_pos hw]
  unfold Oper.wp
  simp only [execOp, hop, resolve, invoke, builtin, Sem.run_bind, Sem.run_pure, Result.andThen_ok, List.map_toArray, List.map_cons, List.map_nil, hd, hx, hr]
  exact hK
theorem wp_clear_run (w : World) {o : Oper} {a : Act} {K : Act → World → Prop} {Q : Exit → Act → World → Prop} (d : Operand) (t : TypeId)
    (ho : o.op = .call { callee := .builtin .clear, args := #[d], argTypes := #[t] }) (v : Value) (hd : a.eval d = v) {v' : Value} {w' : World}
    (hr : (Builtin.clear_ #[t] o.type #[v]).run P w = .ok v' w') (h : K (a.put o.dst v') w') : o.wp P a w K Q := by
  unfold Oper.wp execOp
  simp only [ho, resolve, invoke, builtin, Sem.run_bind, Sem.run_pure, Result.andThen_ok, List.map_toArray, List.map_cons, List.map_nil, hd, hr]
  exact h
theorem wpList_clear_run (w : World) {ops : Array Oper} {rest : List Oper} {o : Oper} {a : Act} {Q : Exit → Act → World → Prop} (hgd : o.guard = none) (d : Operand) (t : TypeId)
    (ho : o.op = .call { callee := .builtin .clear, args := #[d], argTypes := #[t] }) (v : Value) (hd : a.eval d = v) {v' : Value} {w' : World}
    (hr : (Builtin.clear_ #[t] o.type #[v]).run P w = .ok v' w') (h : wpList P ops Q rest (a.put o.dst v') w') : wpList P ops Q (o :: rest) a w :=
  wpList_plain hgd fun _ hK => wp_clear_run w d t ho v hd hr (hK _ _ h)
end
theorem zeroSeen : (Builtin.zeroCells (Value.agg #[.string ⟨#[]⟩, .string ⟨#[]⟩, .int .i64 0]).cells 1).toList = [.string ⟨#[]⟩, .string ⟨#[]⟩, .int .i64 0] := by kernel_rfl
theorem zeroSeen_one : ∀ v ∈ (Builtin.zeroCells (Value.agg #[.string ⟨#[]⟩, .string ⟨#[]⟩, .int .i64 0]).cells 1).toList, v.oneCell' = true := by
  rw [zeroSeen]
  intro v hv
  simp only [List.mem_cons, List.mem_nil_iff, or_false] at hv
  rcases hv with rfl | rfl | rfl <;> rfl
theorem take_spl_del {cur : Array Value} {L z : List Value} {n i k cap : Nat} (hs : cur.size = cap * k) (ht : cur.toList.take (n * k) = L) (hL : L.length = n * k) (hz : z.length = k) (hi : i < n) (hc : n ≤ cap) :
    (spl (spl cur (i * k) (L.drop ((i + 1) * k))) ((n - 1) * k) z).toList.take ((n - 1) * k) = L.take (i * k) ++ L.drop ((i + 1) * k) := by
  have e1 : (i + 1) * k = i * k + k := Nat.succ_mul _ _
  have hik : (i + 1) * k ≤ n * k := Nat.mul_le_mul_right _ hi
  have hck : n * k ≤ cap * k := Nat.mul_le_mul_right _ hc
  have e2 : (n - 1) * k + k = n * k := by rw [← Nat.succ_mul]; congr 1; omega
  have hd : (L.drop ((i + 1) * k)).length = n * k - (i + 1) * k := by rw [List.length_drop, hL]
  have f1 : i * k + (L.drop ((i + 1) * k)).length ≤ cur.size := by rw [hd, hs]; omega
  have s1 := spl_size f1
  apply List.ext_getElem?
  intro j
  rw [List.getElem?_take]
  by_cases hj : j < (n - 1) * k
  · rw [if_pos hj, Array.getElem?_toList, (spl_lo (cs := z) hj).resolve_right (by rw [s1, hs]; omega)]
    by_cases h1 : j < i * k
    · rw [(spl_lo (cs := L.drop ((i + 1) * k)) (cur := cur) h1).resolve_right (by rw [hs]; omega), List.getElem?_append_left (by rw [List.length_take, hL]; omega), List.getElem?_take, if_pos h1, ← ht, List.getElem?_take, if_pos (by omega), Array.getElem?_toList]
    · have h4 := spl_in f1 (j := j - i * k) (by omega)
      rw [show i * k + (j - i * k) = j by omega] at h4
      rw [h4, List.getElem?_append_right (by rw [List.length_take, hL]; omega), List.length_take, hL, Nat.min_eq_left (by omega)]
  · rw [if_neg hj, List.getElem?_eq_none (by simp only [List.length_append, List.length_take, hL, hd]; omega)]

set_option maxHeartbeats 2000000 in
theorem Delete_one (g c i : Nat) (l : List Seen) (cur : Array Value) (base : Nat) (w : World) (hbg : base ≤ g) (hg : Blk w g tSeen cur) (hcs : cur.size = c * 3) (ht : cur.toList.take (l.length * 3) = flat encSeen l) (hl : l.length ≤ 64) (hi : i < l.length) (hlc : l.length ≤ c) (hcm : c ≤ 9223372036854775807) :
    Calls Tryz.prog 161 #[.slice (some ⟨g, 0, none⟩) l.length c, .int .i64 i, .int .i64 ((i : Int) + 1)] w fun e w' =>
      ∃ v', e = .returned v' ∧ Own tSeen 3 encSeen w' base v' (l.take i ++ l.drop (i + 1)) ∧ w.grownBy w' (some g) ∧ v'.ownBlock = some g := by
  obtain ⟨i0, hi0, hz0, hz1, hz2⟩ := info_parts infoSeen
  have hlen := flat_len encSeen_len l
  have hdl : ((flat encSeen l).drop ((i + 1) * 3)).length = (l.length - (i + 1)) * 3 := by rw [List.length_drop, hlen]; omega
  obtain ⟨ad, had⟩ : ∃ ad : Addr, (if c = i + 1 then (⟨g, 0, none⟩ : Addr) else ⟨g, (i + 1) * 3, none⟩) = ad := ⟨_, rfl⟩
  have had' : (if c = i + 1 then (some (⟨g, 0, none⟩ : Addr)) else some ⟨g, (i + 1) * 3, none⟩) = some ad := by rw [← had]; split <;> rfl
  have hap : ∀ ty, (Builtin.append_ #[tSeens, tSeens] ty #[.slice (some ⟨g, 0, none⟩) i c, .slice (some ad) (l.length - (i + 1)) (c - (i + 1))]).run Tryz.prog w.drew = .ok (.slice (some ⟨g, 0, none⟩) (l.length - 1) c) (w.drew.setRow g (spl cur (i * 3) ((flat encSeen l).drop ((i + 1) * 3)))) := fun ty => by
    have := run_append_fitsK (P := Tryz.prog) w.drew tSeens ty tSeen 3 g i c ad (l.length - (i + 1)) (c - (i + 1)) cur tSeen ((flat encSeen l).drop ((i + 1) * 3)) Tryz.underlying54 (by rw [hi0]; simp [hz1]) hg
      (by rw [hdl]) (by omega)
      (fun j u hu => by
        have hjl : j < (l.length - (i + 1)) * 3 := by rw [← hdl]; exact (List.getElem?_eq_some_iff.1 hu).1
        rw [← had, if_neg (by omega), show (⟨g, (i + 1) * 3, none⟩ : Addr).add j = ⟨g, (i + 1) * 3 + j, none⟩ by unfold Addr.add; split <;> simp_all, (Blk.drew hg).cell]
        rw [List.getElem?_drop, ← ht, List.getElem?_take] at hu
        split at hu
        · rwa [Array.getElem?_toList] at hu
        · cases hu)
      (by rw [hdl, hcs]; omega) (fun v hv => flat_mem encSeen_one l v (List.mem_of_mem_drop hv))
    rw [show i + (l.length - (i + 1)) = l.length - 1 by omega] at this; exact this
  obtain ⟨W1, hW1⟩ : ∃ W1, W1 = w.drew.setRow g (spl cur (i * 3) ((flat encSeen l).drop ((i + 1) * 3))) := ⟨_, rfl⟩
  rw [← hW1] at hap
  have b1 : Blk W1 g tSeen (spl cur (i * 3) ((flat encSeen l).drop ((i + 1) * 3))) := by rw [hW1]; exact Blk.setRow (Blk.drew hg) _
  have g1 : w.grownBy W1 (some g) := by rw [hW1]; have h := grown_setRow (w := w.drew) (g := g) (spl cur (i * 3) ((flat encSeen l).drop ((i + 1) * 3))); exact ⟨h.os, h.tape, h.output, h.size, h.block⟩
  clear hW1
  have hs1 := spl_size (cur := cur) (o := i * 3) (cs := (flat encSeen l).drop ((i + 1) * 3)) (by rw [hdl, hcs]; omega)
  have hzl : (Builtin.zeroCells (Value.agg #[.string ⟨#[]⟩, .string ⟨#[]⟩, .int .i64 0]).cells 1).toList.length = 3 := by rw [Array.length_toList, size_zeroCells]; rfl
  have hcl : ∀ ty, (Builtin.clear_ #[tSeens] ty #[.slice (some ⟨g, (l.length - 1) * 3, none⟩) (l.length - (l.length - 1)) (c - (l.length - 1))]).run Tryz.prog W1 = .ok (.tuple #[]) (W1.setRow g (spl (spl cur (i * 3) ((flat encSeen l).drop ((i + 1) * 3))) ((l.length - 1) * 3) (Builtin.zeroCells (Value.agg #[.string ⟨#[]⟩, .string ⟨#[]⟩, .int .i64 0]).cells 1).toList)) := fun ty => by
    rw [show l.length - (l.length - 1) = 1 by omega]
    exact run_clearK (P := Tryz.prog) W1 tSeens ty tSeen i0 _ 3 g ((l.length - 1) * 3) 1 (c - (l.length - 1)) _ tSeen Tryz.underlying54 hi0 hz0 rfl (by omega) b1 (by rw [hs1, hcs]; omega) zeroSeen_one
  have hfin := take_spl_del (k := 3) (cap := c) (n := l.length) (i := i) hcs ht hlen hzl hi hlc
  obtain ⟨W2, hW2⟩ : ∃ W2, W2 = W1.setRow g (spl (spl cur (i * 3) ((flat encSeen l).drop ((i + 1) * 3))) ((l.length - 1) * 3) (Builtin.zeroCells (Value.agg #[.string ⟨#[]⟩, .string ⟨#[]⟩, .int .i64 0]).cells 1).toList) := ⟨_, rfl⟩
  rw [← hW2] at hcl
  have g2 : w.grownBy W2 (some g) := by rw [hW2]; exact World.grownBy.trans g1 (grown_setRow _)
  have hown : Own tSeen 3 encSeen W2 base (.slice (some ⟨g, 0, none⟩) (l.length - 1) c) (l.take i ++ l.drop (i + 1)) := by
    have hll : (l.take i ++ l.drop (i + 1)).length = l.length - 1 := by simp; omega
    rw [← hll]
    refine Own.mk encSeen_len hbg (by rw [hW2]; exact b1.setRow _) (by omega) hcm ?_ ?_
    · rw [spl_size (by rw [hzl, hs1, hcs]; omega), hs1, hcs]
    · rw [hll, hfin, flat_take encSeen_len, flat_drop encSeen_len, flat_append]
  clear hW2
  have HAP := hide hap; have HCL := hide hcl; have HOWN := hide hown; have HAD := hide had'
  have w2 : (0 : Int) ≤ (i : Int) + 1 := by omega
  have w3 : ((i : Int) + 1).toNat = i + 1 := by omega
  have w4 : (i : Int) + 1 ≤ (l.length : Int) := by omega
  have w5 : (i : Int) ≤ (i : Int) + 1 := by omega
  have w6 : (0 : Int) ≤ (i : Int) := by omega
  have w7 : (i : Int) ≤ (c : Int) := by omega
  have w8 : ((i : Int) == (i : Int) + 1) = false := by rw [beq_eq_false_iff_ne]; omega
  clear hap hcl hown hlen ht hg hcs b1 hs1 hdl hfin hzl g1 had had'
  have hcl1 : ¬ c = l.length - 1 := by omega
  by_cases hce : c = i + 1
  · subst hce
    obtain rfl : ad = ⟨g, 0, none⟩ := by have := HAD.out; rw [if_pos rfl] at this; exact (Option.some.inj this).symm
    go_enter Tryz.func161, Tryz.ntmps161
    go_wp2_with fail
    go_region_law (first | (refine step_append_run rfl (.tmp 22) (.tmp 25) tSeens tSeens rfl (.slice (some ⟨g, 0, none⟩) i (i + 1)) (.slice (some ⟨g, 0, none⟩) (l.length - (i + 1)) (i + 1 - (i + 1))) (by simp [Act.eval, Act.put]) (by simp [Act.eval, Act.put]; omega) (HAP.out _) ?_))
    go_wp2_with (refine wpList_clear_run _ rfl (.tmp 31) tSeens rfl _ rfl (HCL.out _) ?_)
    go_ret
    exact ⟨_, rfl, HOWN.out, g2, rfl⟩
  · obtain rfl : ad = ⟨g, (i + 1) * 3, none⟩ := by have := HAD.out; rw [if_neg hce] at this; exact (Option.some.inj this).symm
    go_enter Tryz.func161, Tryz.ntmps161
    go_wp2_with fail
    go_region_law (first | (refine step_append_run rfl (.tmp 22) (.tmp 25) tSeens tSeens rfl (.slice (some ⟨g, 0, none⟩) i c) (.slice (some ⟨g, (i + 1) * 3, none⟩) (l.length - (i + 1)) (c - (i + 1))) (by simp [Act.eval, Act.put]) (by simp [Act.eval, Act.put]) (HAP.out _) ?_))
    go_wp2_with (refine wpList_clear_run _ rfl (.tmp 31) tSeens rfl _ rfl (HCL.out _) ?_)
    go_ret
    exact ⟨_, rfl, HOWN.out, g2, rfl⟩

/-! A record stored whole into a row of the call's own. -/
section
variable {P : Program}
theorem run_storeAtK (w : World) (T g o : Nat) (cs : Array Value) (hsz : ∀ w, (Go.sizeOf T).run P w = .ok cs.size w) (tt : TypeId) (cur : Array Value) (hg : Blk w g tt cur) (hfit : o + cs.size ≤ cur.size) (h1 : ∀ v ∈ cs.toList, v.oneCell' = true) :
    (Instr.storeAt T (.pointer (some ⟨g, o, none⟩)) (.agg cs)).run P w = .ok () (w.setRow g (spl cur o cs.toList)) := by
  have hst := run_storeCells_at P g o tt cs.toList 0 cur w hg (by simpa using hfit) h1
  simp [Instr.storeAt, storeVar, Instr.sureAddr, hsz, hst, spl, Value.cells]
theorem wp_store_run (w : World) {o : Oper} {a : Act} {K : Act → World → Prop} {Q : Exit → Act → World → Prop} (T : TypeId) (d x : Operand)
    (ho : o.op = .store T d x) (v u : Value) (hd : a.eval d = v) (hx : a.eval x = u) {w' : World} (hr : (Instr.storeAt T v u).run P w = .ok () w') (h : K (a.put o.dst undef) w') : o.wp P a w K Q := by
  unfold Oper.wp execOp
  simp only [ho, Sem.run_bind, Sem.run_pure, Result.andThen_ok, hd, hx, hr]
  exact h
theorem wpList_store_run (w : World) {ops : Array Oper} {rest : List Oper} {o : Oper} {a : Act} {Q : Exit → Act → World → Prop} (hgd : o.guard = none) (T : TypeId) (d x : Operand)
    (ho : o.op = .store T d x) (v u : Value) (hd : a.eval d = v) (hx : a.eval x = u) {w' : World} (hr : (Instr.storeAt T v u).run P w = .ok () w') (h : wpList P ops Q rest (a.put o.dst undef) w') : wpList P ops Q (o :: rest) a w :=
  wpList_plain hgd fun _ hK => wp_store_run w T d x ho v u hd hx hr (hK _ _ h)
theorem wpList_storeK {w : World} {ops : Array Oper} {rest : List Oper} {o : Oper} {a : Act} {Q : Exit → Act → World → Prop} (hgd : o.guard = none) (T : TypeId) (d x : Operand)
    (ho : o.op = .store T d x) (g f : Nat) (cs : Array Value) (hd : a.eval d = .pointer (some ⟨g, f, none⟩)) (hx : a.eval x = .agg cs) (hsz : ∀ w, (Go.sizeOf T).run P w = .ok cs.size w) (tt : TypeId) (cur : Array Value) (hg : Blk w g tt cur)
    (hfit : f + cs.size ≤ cur.size) (h1 : ∀ v ∈ cs.toList, v.oneCell' = true) (h : ∀ w', Blk w' g tt (spl cur f cs.toList) → w.grownBy w' (some g) → wpList P ops Q rest (a.put o.dst undef) w') : wpList P ops Q (o :: rest) a w :=
  wpList_store_run w hgd T d x ho _ _ hd hx (run_storeAtK w T g f cs hsz tt cur hg hfit h1) (h _ (hg.setRow _) (grown_setRow _))
theorem Blk.grown {w w' : World} {g : Nat} {t : TypeId} {cs : Array Value} {row : Option Nat} (h : Blk w g t cs) (hb : w.grownBy w' row) (hne : some g ≠ row) : Blk w' g t cs := (hb.block g h.lt hne).trans h
theorem Blk.ne_ {w : World} {g g' : Nat} {t t' : TypeId} {cs cs' : Array Value} (h : Blk w g t cs) (h' : Blk w g' t' cs') (hne : t ≠ t') : g ≠ g' := by
  rintro rfl
  unfold Blk at h h'
  rw [h] at h'
  injection h' with h'
  injection h' with _ ht
  exact hne ht
end
end Go.Proofs.YtheampfoedhipaaGreatDoor
