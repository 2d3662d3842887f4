/- The walks of package shot: belongs, Check. -/
import Derived.Test.YtheampfoedhipaaGreatDoorSw2
namespace Go.Proofs.YtheampfoedhipaaGreatDoor
open Go Go.RowKit
set_option maxRecDepth 100000

theorem eqSeen0 (d : Nat) (w : World) (a b a' b' : ByteArray) (v v' : Int) :
    (Op.equalIn (d + 2) 94 (.agg #[.string a, .string b, .int .i64 v]) (.agg #[.string a', .string b', .int .i64 v'])).run Tryz.prog w = .ok (a.toList == a'.toList && (b.toList == b'.toList && v == v')) w := by
  refine eqA_of Tryz.underlying94 (by kernel_rfl) ?_
  refine eqf_cons (by rfl) (by go_simp; rfl) (by go_simp; rfl) (by go_simp) ?_
  refine eqf_cons (by rfl) (by go_simp; rfl) (by go_simp; rfl) (by go_simp) ?_
  exact eqf_last (by rfl) (by go_simp; rfl) (by go_simp; rfl) (by go_simp)
attribute [local go_sem high] eqSeen0

theorem isBelow_is (s t : Str) (b c : Bool) (w : World) (hg : Gl w) (h : isBelow s t = (b, c)) :
    Calls Tryz.prog 160 #[.string (B s), .string (B t)] w fun e w' => e = .returned (.tuple #[.bool b, .bool c]) ∧ Below w.heap.size w w' :=
  (isBelow_any s t w hg).mono fun e w' h' => by rw [h] at h'; exact h'
def shotV (s : Shot) (v : Value) : Value := .agg #[.int .i64 s.stamp, .string (B s.place), .int .i64 s.kind, v]

set_option maxHeartbeats 1000000 in
theorem belongs_zero (st : Int) (p : Str) (k : Int) (v : Value) (l : List Seen) (w : World) (hv : Rd 3 encSeen w v l) (hi : 0 < l.length) :
    Calls Tryz.prog 94 #[.agg #[.int .i64 st, .string (B p), .int .i64 k, v], .int .i64 0] w fun e w' => e = .returned (.bool (belongs ⟨st, p, k, l⟩ 0)) ∧ Below w.heap.size w w' := by
  have hf := hide (belongs_0 (s := ⟨st, p, k, l⟩) hi)
  obtain ⟨X, c, rfl, h1, h2, h3⟩ := hv
  obtain ⟨g, o, rfl, hg, hr⟩ := h3 hi
  have z0 := hr.at0 hi rfl
  have z1 := hr.at_ hi 1 rfl
  have z2 := hr.at_ hi 2 rfl
  rw [Nat.zero_mul, Nat.add_zero] at z0 z1 z2
  obtain ⟨x, hx⟩ : ∃ x, x = l[0] := ⟨_, rfl⟩
  rw [← hx] at z0 z1 z2
  have HX := hide hx
  clear hx h3 hr
  obtain ⟨xp, xd, xv⟩ := x
  simp only at z0 z1 z2
  go_enter Tryz.func94, Tryz.ntmps94
  go_wp2_with fail
  all_goals
    go_ret
    exact ⟨ret_bool (by subst_vars; rw [hf.out, ← HX.out]; simp [bare, *]), (by repeat (first | exact Below.refl _ _ | assumption | refine below_drewN ?_ _ | refine below_drew ?_ | refine below_alloc ?_ _ | refine below_set ?_ (by first | assumption | (simp; done) | (simp; omega)) _ | refine below_trans (by assumption) ?_))⟩

set_option maxHeartbeats 1000000 in
theorem belongs_more (st : Int) (p : Str) (k : Int) (v : Value) (l : List Seen) (i : Nat) (w : World) (hgl : Gl w) (hv : Rd 3 encSeen w v l) (hi : i < l.length) (h0 : i ≠ 0) (h64 : l.length ≤ 64)
    (hok : ∀ j, j < i → nodeOk ⟨st, p, k, l⟩ j = true) (hpi : placeOk l[i].place = true) :
    Calls Tryz.prog 94 #[.agg #[.int .i64 st, .string (B p), .int .i64 k, v], .int .i64 i] w fun e w' => e = .returned (.bool (belongs ⟨st, p, k, l⟩ i)) ∧ Below w.heap.size w w' := by
  have hf := hide (belongs_at (s := ⟨st, p, k, l⟩) hi h0)
  have hris := hide (rising_take (s := ⟨st, p, k, l⟩) (i := i) (by show i ≤ l.length; omega) hok)
  have hprev := hok (i - 1) (by omega)
  rw [nodeOk_at (by show i - 1 < l.length; omega)] at hprev
  simp only [Bool.and_eq_true, placeOk, beq_iff_eq] at hprev hpi
  have hpl := parse_len hpi
  have hql := parse_len hprev.1
  have hall : ∀ x ∈ l.take i, x.place.length ≤ 4611686018427387904 := by
    intro x hx
    obtain ⟨j, hj, rfl⟩ := List.getElem_of_mem hx
    rw [List.length_take] at hj
    have hj' := hok j (by omega)
    rw [nodeOk_at (by show j < l.length; omega)] at hj'
    simp only [Bool.and_eq_true, placeOk, beq_iff_eq] at hj'
    have := parse_len hj'.1
    rw [List.getElem_take]
    omega
  have hup := (parse_path hpi)
  have hupl : (parent l[i].place).1.length ≤ 102 := by
    unfold parent
    split
    · simp
    · split
      · simp
      · exact placed_len hup.1.dropLast
  have hv0 := hv
  obtain ⟨X, c, rfl, h1, h2, h3⟩ := hv
  obtain ⟨g, o, rfl, hg, hr⟩ := h3 (by omega)
  have hi1 : i - 1 < l.length := by omega
  have z0 := hr.at0 hi rfl
  have z1 := hr.at_ hi 1 rfl
  have z2 := hr.at_ hi 2 rfl
  have y0 := hr.at0 hi1 rfl
  have hvt := Rd.cut (m := i) hv0 (by omega)
  have HALL := hide hall; have HVT := hide hvt
  obtain ⟨x, hx⟩ : ∃ x, x = l[i] := ⟨_, rfl⟩
  obtain ⟨y, hy⟩ : ∃ y, y = l[i - 1] := ⟨_, rfl⟩
  have hf' : Hid (belongs ⟨st, p, k, l⟩ i = if 0 ≤ ord y.place x.place then false else if k = 2 then (isBelow x.place p).2 && bare x else if k = 3 then (isBelow x.place p).1 && hasAt Seen.place (l.take i) (parent x.place).1 else false) := by
    show _ = _; rw [hy, hx]; exact hf.out
  rw [← hx] at z0 z1 z2 hpl hupl
  rw [← hy] at y0
  have hql' : y.place.length ≤ 102 := by rw [hy]; exact hql
  clear hx hy h3 hr hf hv0 hok hpi hprev hup hall hvt hql
  obtain ⟨xp, xd, xv⟩ := x
  obtain ⟨yp, yd, yv⟩ := y
  simp only at z0 z1 z2 y0 hpl hupl hf'
  obtain ⟨⟨b1, b2⟩, hib⟩ : ∃ q, isBelow xp p = q := ⟨_, rfl⟩
  rw [hib] at hf'
  have HIB := hide hib
  clear hib
  have hb1 : (1 : Int) ≤ i := by omega
  have hb2 : ((i : Int) - 1).toNat = i - 1 := by omega
  have hb3 : (0 : Int) ≤ (i : Int) - 1 := by omega
  have hb4 : (i : Int) - 1 < l.length := by omega
  have hbi0 : ((i : Int) == 0) = false := by simp; omega
  go_enter Tryz.func94, Tryz.ntmps94
  go_wp2_with (go_at_call 160; refine (isBelow_is xp p b1 b2 _ (by exact hgl.below (by repeat (first | exact Below.refl _ _ | assumption | refine below_drewN ?_ _ | refine below_drew ?_ | refine below_alloc ?_ _ | refine below_set ?_ (by first | assumption | (simp; done) | (simp; omega)) _ | refine below_trans (by assumption) ?_))) HIB.out).mono ?_; rintro e w1 ⟨rfl, hb⟩)
  have y0' := cell_keep hb (cell_alloc _ (cell_alloc _ y0))
  have kS := (Blk.alloc (Blk.new w 56 #[.int .i64 st, .string (B p), .int .i64 k, .slice (some ⟨g, o, none⟩) l.length c]) (.cells #[.string (B xp), .string (B xd), .int .i64 xv] 94)).below hb
  have kX := (Blk.new1 w (.cells #[.int .i64 st, .string (B p), .int .i64 k, .slice (some ⟨g, o, none⟩) l.length c] 56) 94 #[.string (B xp), .string (B xd), .int .i64 xv]).below hb
  have cS := kS.cell
  have cX := kX.cell
  go_quiet ((go_at_call 84; exact quiet_one (Order_str _ _ _ (by omega) (by omega))))
  have hgl1 := hide (hgl.below (below_trans (below_alloc (below_alloc (Below.refl _ _) _) _) hb))
  have hbel := (below_trans (below_alloc (below_alloc (Below.refl _ _) _) _) hb)
  by_cases ho : 0 ≤ ord yp xp
  · have HO := hide ho
    go_wp2_with fail
    go_ret
    exact ⟨ret_bool (by rw [hf'.out, if_pos HO.out]), (by repeat (first | exact Below.refl _ _ | assumption | refine below_drewN ?_ _ | refine below_drew ?_ | refine below_alloc ?_ _ | refine below_set ?_ (by first | assumption | (simp; done) | (simp; omega)) _ | refine below_trans (by assumption) ?_))⟩
  have HO := hide ho
  by_cases hk2 : k = 2
  · have gk : (k == 2) = true := by simpa using hk2
    have HK := hide hk2
    clear hk2
    cases b2
    all_goals
      go_wp2_with fail
      go_ret
      exact ⟨ret_bool (by rw [hf'.out, if_neg (by have := HO.out; omega), if_pos HK.out]; rfl), (by repeat (first | exact Below.refl _ _ | assumption | refine below_drewN ?_ _ | refine below_drew ?_ | refine below_alloc ?_ _ | refine below_set ?_ (by first | assumption | (simp; done) | (simp; omega)) _ | refine below_trans (by assumption) ?_))⟩
  have gk : (k == 2) = false := by simpa using hk2
  have HK := hide hk2
  clear hk2
  by_cases hk3 : k = 3
  · have gk3 : (k == 3) = true := by simpa using hk3
    have HK3 := hide hk3
    clear hk3
    cases b1
    all_goals
      go_wp2_with (first
        | (go_at_call 158; refine (Parent_str xp _ (by exact hgl1.out.drewN _)).mono ?_; rintro e w2 ⟨rfl, hb2⟩; have hbel2 := below_trans (below_drewN hbel nq) hb2; have cS2 := ((kS.drewN nq).below hb2).cell; have cX2 := ((kX.drewN nq).below hb2).cell)
        | (go_at_call 157; refine (has_any _ (l.take i) (parent xp).1 _ (by exact Rd.below HVT.out hbel2) hris.out (by rw [List.length_take]; omega) HALL.out (by omega)).mono ?_; rintro e w3 ⟨rfl, hb3⟩))
      go_ret
      exact ⟨ret_bool (by rw [hf'.out, if_neg (by have := HO.out; omega), if_neg HK.out, if_pos HK3.out]; simp), below_trans hbel2 hb3⟩
  · have gk3 : (k == 3) = false := by simpa using hk3
    have HK3 := hide hk3
    clear hk3
    go_wp2_with fail
    go_ret
    exact ⟨ret_bool (by rw [hf'.out, if_neg (by have := HO.out; omega), if_neg HK.out, if_neg HK3.out]), (by repeat (first | exact Below.refl _ _ | assumption | refine below_drewN ?_ _ | refine below_drew ?_ | refine below_alloc ?_ _ | refine below_set ?_ (by first | assumption | (simp; done) | (simp; omega)) _ | refine below_trans (by assumption) ?_))⟩

theorem placeOk_len {s : Str} (h : placeOk s = true) : s.length ≤ 102 := parse_len (by simpa [placeOk] using h)
theorem isPlace_is (s : Str) (b : Bool) (w : World) (hg : Gl w) (h : placeOk s = b) :
    Calls Tryz.prog 81 #[.string (B s)] w fun e w' => e = .returned (.bool b) ∧ Below w.heap.size w w' :=
  (isPlace_any (B s) w hg).mono fun e w' h' => by rw [B_list, h] at h'; exact h'
theorem fits_is (a : Str) (n : Int) (b : Bool) (w : World) (h : fitsP a n = b) :
    Calls Tryz.prog 93 #[.string (B a), .int .i64 n] w fun e w' => e = .returned (.bool b) ∧ w = w' :=
  (fits_any a n w).mono fun e w' h' => by rw [h] at h'; exact h'
theorem isKind_is (n : Int) (b : Bool) (w : World) (h : kindOk n = b) :
    Calls Tryz.prog 82 #[.int .i64 n] w fun e w' => e = .returned (.bool b) ∧ w = w' :=
  (isKind_any n w).mono fun e w' h' => by rw [h] at h'; exact h'
theorem belongs_is (st : Int) (p : Str) (k : Int) (v : Value) (l : List Seen) (i : Nat) (b : Bool) (w : World) (hgl : Gl w) (hv : Rd 3 encSeen w v l) (hi : i < l.length) (h64 : l.length ≤ 64)
    (hok : ∀ j, j < i → nodeOk ⟨st, p, k, l⟩ j = true) (hpi : placeOk l[i].place = true) (h : belongs ⟨st, p, k, l⟩ i = b) :
    Calls Tryz.prog 94 #[.agg #[.int .i64 st, .string (B p), .int .i64 k, v], .int .i64 i] w fun e w' => e = .returned (.bool b) ∧ Below w.heap.size w w' := by
  subst h
  by_cases h0 : i = 0
  · subst h0; exact belongs_zero st p k v l w hv hi
  · exact belongs_more st p k v l i w hgl hv hi h0 h64 hok hpi
end Go.Proofs.YtheampfoedhipaaGreatDoor
