/- The walks of package shot: Check. -/
import Derived.Test.YtheampfoedhipaaGreatDoorSw3
namespace Go.Proofs.YtheampfoedhipaaGreatDoor
open Go Go.RowKit
set_option maxRecDepth 100000

set_option maxHeartbeats 2000000 in
theorem Check_any (st : Int) (p : Str) (k : Int) (v : Value) (l : List Seen) (w : World) (hgl : Gl w) (hv : Rd 3 encSeen w v l) :
    Calls Tryz.prog 35 #[.agg #[.int .i64 st, .string (B p), .int .i64 k, v]] w fun e w' => e = .returned (.int .i64 (check ⟨st, p, k, l⟩)) ∧ Below w.heap.size w w' := by
  have hno := @check_no ⟨st, p, k, l⟩
  have hyes := @check_yes ⟨st, p, k, l⟩
  simp only at hno hyes
  obtain ⟨ck, hck⟩ : ∃ c, check ⟨st, p, k, l⟩ = c := ⟨_, rfl⟩
  rw [hck] at hno hyes ⊢
  clear hck
  have HNO := hide hno; have HYES := hide hyes; have HV := hide hv
  clear hno hyes
  obtain ⟨X, c, rfl, h1, h2, h3⟩ := hv
  by_cases c1 : ¬ 0 ≤ st
  · have H := hide (HNO.out (.inl c1))
    go_enter Tryz.func35, Tryz.ntmps35
    go_wp2_with fail
    go_ret
    exact ⟨ret_int H.out.symm, (by repeat (first | exact Below.refl _ _ | assumption | refine below_drewN ?_ _ | refine below_drew ?_ | refine below_alloc ?_ _ | refine below_set ?_ (by first | assumption | (simp; done) | (simp; omega)) _ | refine below_trans (by assumption) ?_))⟩
  have c1' : 0 ≤ st := by omega
  clear c1
  by_cases c2 : ¬ st ≤ 2147483647
  · have H := hide (HNO.out (.inr (.inl c2)))
    go_enter Tryz.func35, Tryz.ntmps35
    go_wp2_with fail
    go_ret
    exact ⟨ret_int H.out.symm, (by repeat (first | exact Below.refl _ _ | assumption | refine below_drewN ?_ _ | refine below_drew ?_ | refine below_alloc ?_ _ | refine below_set ?_ (by first | assumption | (simp; done) | (simp; omega)) _ | refine below_trans (by assumption) ?_))⟩
  have c2' : st ≤ 2147483647 := by omega
  clear c2
  by_cases c3 : placeOk p = false
  · have C3 := hide c3
    have H := hide (HNO.out (.inr (.inr (.inl C3.out))))
    clear c3
    go_enter Tryz.func35, Tryz.ntmps35
    go_wp2_with (go_at_call 81; refine (isPlace_is p false _ (by exact hgl.below (by repeat (first | exact Below.refl _ _ | assumption | refine below_drewN ?_ _ | refine below_drew ?_ | refine below_alloc ?_ _ | refine below_set ?_ (by first | assumption | (simp; done) | (simp; omega)) _ | refine below_trans (by assumption) ?_))) C3.out).mono ?_; rintro e w1 ⟨rfl, hb1⟩)
    go_ret
    exact ⟨ret_int H.out.symm, below_trans (by repeat (first | exact Below.refl _ _ | assumption | refine below_drewN ?_ _ | refine below_drew ?_ | refine below_alloc ?_ _ | refine below_set ?_ (by first | assumption | (simp; done) | (simp; omega)) _ | refine below_trans (by assumption) ?_)) hb1⟩
  have C3 := hide (show placeOk p = true by simpa using c3)
  clear c3
  by_cases c4 : kindOk k = false
  · have C4 := hide c4
    have H := hide (HNO.out (.inr (.inr (.inr (.inl C4.out)))))
    clear c4
    go_enter Tryz.func35, Tryz.ntmps35
    go_wp2_with (first
      | (go_at_call 81; refine (isPlace_is p true _ (by exact hgl.below (by repeat (first | exact Below.refl _ _ | assumption | refine below_drewN ?_ _ | refine below_drew ?_ | refine below_alloc ?_ _ | refine below_set ?_ (by first | assumption | (simp; done) | (simp; omega)) _ | refine below_trans (by assumption) ?_))) C3.out).mono ?_; rintro e w1 ⟨rfl, hb1⟩; have cS := ((Blk.new w 56 #[.int .i64 st, .string (B p), .int .i64 k, .slice X l.length c]).below hb1).cell)
      | (go_at_call 82; refine (isKind_is k false _ C4.out).mono ?_; rintro e w2 ⟨rfl, rfl⟩))
    go_ret
    exact ⟨ret_int H.out.symm, below_trans (by repeat (first | exact Below.refl _ _ | assumption | refine below_drewN ?_ _ | refine below_drew ?_ | refine below_alloc ?_ _ | refine below_set ?_ (by first | assumption | (simp; done) | (simp; omega)) _ | refine below_trans (by assumption) ?_)) hb1⟩
  have C4 := hide (show kindOk k = true by simpa using c4)
  clear c4
  go_enter Tryz.func35, Tryz.ntmps35
  by_cases c5 : ¬ l.length ≤ 64
  · have H := hide (HNO.out (.inr (.inr (.inr (.inr (.inl c5))))))
    have g5 : ¬ (l.length : Int) ≤ 64 := by omega
    go_wp2_with (first
      | (go_at_call 81; refine (isPlace_is p true _ (by exact hgl.below (by repeat (first | exact Below.refl _ _ | assumption | refine below_drewN ?_ _ | refine below_drew ?_ | refine below_alloc ?_ _ | refine below_set ?_ (by first | assumption | (simp; done) | (simp; omega)) _ | refine below_trans (by assumption) ?_))) C3.out).mono ?_; rintro e w1 ⟨rfl, hb1⟩; have cS := ((Blk.new w 56 #[.int .i64 st, .string (B p), .int .i64 k, .slice X l.length c]).below hb1).cell)
      | (go_at_call 82; refine (isKind_is k true _ C4.out).mono ?_; rintro e w2 ⟨rfl, rfl⟩))
    go_ret
    exact ⟨ret_int H.out.symm, below_trans (by repeat (first | exact Below.refl _ _ | assumption | refine below_drewN ?_ _ | refine below_drew ?_ | refine below_alloc ?_ _ | refine below_set ?_ (by first | assumption | (simp; done) | (simp; omega)) _ | refine below_trans (by assumption) ?_)) hb1⟩
  have c5' : l.length ≤ 64 := by omega
  clear c5
  have g5 : (l.length : Int) ≤ 64 := by omega
  by_cases c6 : l = [] ∧ p = [47]
  · have H := hide (HNO.out (.inr (.inr (.inr (.inr (.inr (.inl c6)))))))
    have g6 : (p == [47]) = true := by simpa using c6.2
    have g7 : ((l.length : Int) == 0) = true := by simp [c6.1]
    clear c6
    go_wp2_with (first
      | (go_at_call 81; refine (isPlace_is p true _ (by exact hgl.below (by repeat (first | exact Below.refl _ _ | assumption | refine below_drewN ?_ _ | refine below_drew ?_ | refine below_alloc ?_ _ | refine below_set ?_ (by first | assumption | (simp; done) | (simp; omega)) _ | refine below_trans (by assumption) ?_))) C3.out).mono ?_; rintro e w1 ⟨rfl, hb1⟩; have cS := ((Blk.new w 56 #[.int .i64 st, .string (B p), .int .i64 k, .slice X l.length c]).below hb1).cell)
      | (go_at_call 82; refine (isKind_is k true _ C4.out).mono ?_; rintro e w2 ⟨rfl, rfl⟩))
    go_ret
    exact ⟨ret_int H.out.symm, below_trans (by repeat (first | exact Below.refl _ _ | assumption | refine below_drewN ?_ _ | refine below_drew ?_ | refine below_alloc ?_ _ | refine below_set ?_ (by first | assumption | (simp; done) | (simp; omega)) _ | refine below_trans (by assumption) ?_)) hb1⟩
  by_cases e0 : l.length = 0
  · have hl0 : l = [] := List.eq_nil_of_length_eq_zero e0
    have g7 : ((l.length : Int) == 0) = true := by simp [e0]
    have g6 : (p == [47]) = false := by
      rw [Bool.eq_false_iff]; intro h; apply c6; exact ⟨hl0, by simpa using h⟩
    have H := hide (HYES.out c1' c2' C3.out C4.out c5' c6 (fun i hi => absurd hi (by omega)))
    have g8 : ¬ (0 : Int) < l.length := by omega
    clear c6 e0 hl0
    go_wp2_with (first
      | (go_at_call 81; refine (isPlace_is p true _ (by exact hgl.below (by repeat (first | exact Below.refl _ _ | assumption | refine below_drewN ?_ _ | refine below_drew ?_ | refine below_alloc ?_ _ | refine below_set ?_ (by first | assumption | (simp; done) | (simp; omega)) _ | refine below_trans (by assumption) ?_))) C3.out).mono ?_; rintro e w1 ⟨rfl, hb1⟩; have cS := ((Blk.new w 56 #[.int .i64 st, .string (B p), .int .i64 k, .slice X l.length c]).below hb1).cell)
      | (go_at_call 82; refine (isKind_is k true _ C4.out).mono ?_; rintro e w2 ⟨rfl, rfl⟩))
    refine wp_loop_rounds 1 ?_
    rw [rounds_succ]
    go_wp2_with fail
    go_ret
    exact ⟨ret_int H.out.symm, below_trans (by repeat (first | exact Below.refl _ _ | assumption | refine below_drewN ?_ _ | refine below_drew ?_ | refine below_alloc ?_ _ | refine below_set ?_ (by first | assumption | (simp; done) | (simp; omega)) _ | refine below_trans (by assumption) ?_)) hb1⟩
  have g7 : ((l.length : Int) == 0) = false := by rw [beq_eq_false_iff_ne]; omega
  have hpos : 0 < l.length := by omega
  have HC6 := hide c6
  clear e0 c6
  go_wp2_with (first
    | (go_at_call 81; refine (isPlace_is p true _ (by exact hgl.below (by repeat (first | exact Below.refl _ _ | assumption | refine below_drewN ?_ _ | refine below_drew ?_ | refine below_alloc ?_ _ | refine below_set ?_ (by first | assumption | (simp; done) | (simp; omega)) _ | refine below_trans (by assumption) ?_))) C3.out).mono ?_; rintro e w1 ⟨rfl, hb1⟩; have kS := (Blk.new w 56 #[.int .i64 st, .string (B p), .int .i64 k, .slice X l.length c]).below hb1; have cS := kS.cell)
    | (go_at_call 82; refine (isKind_is k true _ C4.out).mono ?_; rintro e w2 ⟨rfl, rfl⟩))
  have hbel1 := below_trans (below_alloc (Below.refl w.heap.size w) (.cells #[.int .i64 st, .string (B p), .int .i64 k, .slice X l.length c] 56)) hb1
  clear cS
  have HK := hide kS
  clear kS
  obtain ⟨g, o, rfl, hg, hr⟩ := h3 hpos
  have HR := hide hr
  clear hr h3
  go_loopg [3, 4, 43] l.length (fun gk _ _ i wr => ∃ n : Nat, gk = l.length - n ∧ n ≤ l.length ∧ i = .int .i64 n ∧ Below w.heap.size w wr ∧ Blk wr w.heap.size 56 #[.int .i64 st, .string (B p), .int .i64 k, .slice (some ⟨g, o, none⟩) l.length c] ∧ Hid (∀ j, j < n → nodeOk ⟨st, p, k, l⟩ j = true))
  case atStart => exact ⟨0, rfl, Nat.zero_le _, rfl, hbel1, HK.out, fun j hj => absurd hj (Nat.not_lt_zero j)⟩
  case round =>
    obtain ⟨n, hgk, hn, rfl, hbel, kS, hok⟩ := hrel
    have HGK := hide hgk
    clear hgk hbel1 hb1
    by_cases hlt : n < l.length
    · have hr' := (RowAt.keep HR.out (w' := wr) (fun i => World.cell?_of_block (w := w) (hbel.block g hg)))
      have z0 := hr'.at0 hlt rfl
      have z1 := hr'.at_ hlt 1 rfl
      have z2 := hr'.at_ hlt 2 rfl
      have hna := nodeOk_at (s := ⟨st, p, k, l⟩) (i := n) hlt
      simp only at hna
      obtain ⟨x, hx⟩ : ∃ x, x = l[n] := ⟨_, rfl⟩
      rw [← hx] at z0 z1 z2 hna
      have HX := hide hx
      have HNA := hide hna
      clear hx hr' hna
      have cS := kS.cell
      have hgl1 := hide (hgl.below hbel)
      have HKS := hide kS
      clear kS
      by_cases q1 : placeOk x.place = false
      · have Q1 := hide q1
        have H := hide (HNO.out (.inr (.inr (.inr (.inr (.inr (.inr ⟨n, hlt, by rw [HNA.out, Q1.out]; rfl⟩)))))))
        clear q1
        go_wp2_with (go_at_call 81; refine (isPlace_is x.place false _ (by exact hgl1.out.below (by repeat (first | exact Below.refl _ _ | assumption | refine below_drewN ?_ _ | refine below_drew ?_ | refine below_alloc ?_ _ | refine below_set ?_ (by first | assumption | (simp; done) | (simp; omega)) _ | refine below_trans (by assumption) ?_))) Q1.out).mono ?_; rintro e w2 ⟨rfl, hb2⟩)
        go_ret
        exact ⟨ret_int H.out.symm, below_trans (below_alloc hbel _) hb2⟩
      have Q1 := hide (show placeOk x.place = true by simpa using q1)
      clear q1
      by_cases q2 : fitsP x.data x.version = false
      · have Q2 := hide q2
        have H := hide (HNO.out (.inr (.inr (.inr (.inr (.inr (.inr ⟨n, hlt, by rw [HNA.out, Q1.out, Q2.out]; rfl⟩)))))))
        clear q2
        go_wp2_with (first
          | (go_at_call 81; refine (isPlace_is x.place true _ (by exact hgl1.out.below (by repeat (first | exact Below.refl _ _ | assumption | refine below_drewN ?_ _ | refine below_drew ?_ | refine below_alloc ?_ _ | refine below_set ?_ (by first | assumption | (simp; done) | (simp; omega)) _ | refine below_trans (by assumption) ?_))) Q1.out).mono ?_; rintro e w2 ⟨rfl, hb2⟩; have cX := ((Blk.new wr 94 #[.string (B x.place), .string (B x.data), .int .i64 x.version]).below hb2).cell)
          | (go_at_call 93; refine (fits_is x.data x.version false _ Q2.out).mono ?_; rintro e w3 ⟨rfl, rfl⟩))
        go_ret
        exact ⟨ret_int H.out.symm, below_trans (below_alloc hbel _) hb2⟩
      have Q2 := hide (show fitsP x.data x.version = true by simpa using q2)
      clear q2
      by_cases q3 : belongs ⟨st, p, k, l⟩ n = false
      · have Q3 := hide q3
        have H := hide (HNO.out (.inr (.inr (.inr (.inr (.inr (.inr ⟨n, hlt, by rw [HNA.out, Q1.out, Q2.out, Q3.out]; rfl⟩)))))))
        clear q3
        go_wp2_with (first
          | (go_at_call 81; refine (isPlace_is x.place true _ (by exact hgl1.out.below (by repeat (first | exact Below.refl _ _ | assumption | refine below_drewN ?_ _ | refine below_drew ?_ | refine below_alloc ?_ _ | refine below_set ?_ (by first | assumption | (simp; done) | (simp; omega)) _ | refine below_trans (by assumption) ?_))) Q1.out).mono ?_; rintro e w2 ⟨rfl, hb2⟩; have cX := ((Blk.new wr 94 #[.string (B x.place), .string (B x.data), .int .i64 x.version]).below hb2).cell; have cS2 := ((Blk.alloc HKS.out (.cells #[.string (B x.place), .string (B x.data), .int .i64 x.version] 94)).below hb2).cell)
          | (go_at_call 93; refine (fits_is x.data x.version true _ Q2.out).mono ?_; rintro e w3 ⟨rfl, rfl⟩)
          | (go_at_call 94; refine (belongs_is st p k _ l n false _ (by exact hgl1.out.below (below_trans (by repeat (first | exact Below.refl _ _ | assumption | refine below_drewN ?_ _ | refine below_drew ?_ | refine below_alloc ?_ _ | refine below_set ?_ (by first | assumption | (simp; done) | (simp; omega)) _ | refine below_trans (by assumption) ?_)) hb2)) (by exact Rd.below HV.out (below_trans (below_alloc hbel _) hb2)) hlt c5' hok.out (by rw [← HX.out]; exact Q1.out) Q3.out).mono ?_; rintro e w4 ⟨rfl, hb4⟩))
        go_ret
        exact ⟨ret_int H.out.symm, below_trans (below_trans (below_alloc hbel _) hb2) hb4⟩
      have Q3 := hide (show belongs ⟨st, p, k, l⟩ n = true by simpa using q3)
      clear q3
      go_wp2_with (first
        | (go_at_call 81; refine (isPlace_is x.place true _ (by exact hgl1.out.below (by repeat (first | exact Below.refl _ _ | assumption | refine below_drewN ?_ _ | refine below_drew ?_ | refine below_alloc ?_ _ | refine below_set ?_ (by first | assumption | (simp; done) | (simp; omega)) _ | refine below_trans (by assumption) ?_))) Q1.out).mono ?_; rintro e w2 ⟨rfl, hb2⟩; have cX := ((Blk.new wr 94 #[.string (B x.place), .string (B x.data), .int .i64 x.version]).below hb2).cell; have cS2 := ((Blk.alloc HKS.out (.cells #[.string (B x.place), .string (B x.data), .int .i64 x.version] 94)).below hb2).cell)
        | (go_at_call 93; refine (fits_is x.data x.version true _ Q2.out).mono ?_; rintro e w3 ⟨rfl, rfl⟩)
        | (go_at_call 94; refine (belongs_is st p k _ l n true _ (by exact hgl1.out.below (below_trans (by repeat (first | exact Below.refl _ _ | assumption | refine below_drewN ?_ _ | refine below_drew ?_ | refine below_alloc ?_ _ | refine below_set ?_ (by first | assumption | (simp; done) | (simp; omega)) _ | refine below_trans (by assumption) ?_)) hb2)) (by exact Rd.below HV.out (below_trans (below_alloc hbel _) hb2)) hlt c5' hok.out (by rw [← HX.out]; exact Q1.out) Q3.out).mono ?_; rintro e w4 ⟨rfl, hb4⟩))
      go_roundg (l.length - (n + 1))
      case rel => exact ⟨n + 1, rfl, by omega, by go_num, below_trans (below_trans (below_alloc hbel _) hb2) hb4, ((Blk.alloc HKS.out _).below hb2).below hb4, fun j hj => by
        rcases Nat.lt_or_ge j n with h | h
        · exact hok.out j h
        · have : j = n := by omega
          subst this; rw [HNA.out, Q1.out, Q2.out, Q3.out]; rfl⟩
      case measure => have := HGK.out; omega
    · have H := hide (HYES.out c1' c2' C3.out C4.out c5' HC6.out (fun i hi => hok.out i (by omega)))
      go_wp2_with fail
      go_ret
      exact ⟨ret_int H.out.symm, hbel⟩
end Go.Proofs.YtheampfoedhipaaGreatDoor
