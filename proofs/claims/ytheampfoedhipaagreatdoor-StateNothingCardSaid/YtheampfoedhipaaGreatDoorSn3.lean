/- Take and a machine's Part where the tree has the root alone. -/
import Derived.Test.YtheampfoedhipaaGreatDoorSn2
namespace Go.Proofs.YtheampfoedhipaaGreatDoor
open Go Go.RowKit
set_option maxRecDepth 100000

section
variable {P : Program} {w : World}
theorem wpList_store0 {ops : Array Oper} {rest : List Oper} {o : Oper} {a : Act} {Q : Exit → Act → World → Prop} (hgd : o.guard = none) (T : TypeId) (d x : Operand)
    (ho : o.op = .store T d x) (g : Nat) (cs : Array Value) (hd : a.eval d = .pointer (some ⟨g, 0, none⟩)) (hx : a.eval x = .agg cs) (hsz : ∀ w, (Go.sizeOf T).run P w = .ok cs.size w) (tt : TypeId) (cur : Array Value) (hg : Blk w g tt cur)
    (hfit : cs.size = cur.size) (h1 : ∀ v ∈ cs.toList, v.oneCell' = true) (h : ∀ w', Blk w' g tt cs → w.grownBy w' (some g) → wpList P ops Q rest (a.put o.dst undef) w') : wpList P ops Q (o :: rest) a w :=
  wpList_storeK hgd T d x ho g 0 cs hd hx hsz tt cur hg (by omega) h1 fun w' hb hgr => h w' (by
    have e : spl cur 0 cs.toList = cs := by
      have hz : cur.toList.length = cur.size := Array.length_toList
      have hz' : cs.toList.length = cs.size := Array.length_toList
      apply Array.toList_inj.1
      simp only [spl, List.take_zero, List.nil_append, Nat.zero_add]
      rw [List.drop_eq_nil_of_le (by omega)]
      simp
    rwa [e] at hb) hgr
end
theorem Own.lower {α : Type} {E k : Nat} {enc : α → List Value} {w : World} {base base' : Nat} {v : Value} {l : List α} (h : Own E k enc w base v l) (hb : base' ≤ base) : Own E k enc w base' v l := by
  obtain ⟨h1, h2 | ⟨g, cap, cur, rfl, hg, r⟩⟩ := h
  · exact ⟨h1, .inl h2⟩
  · exact ⟨h1, .inr ⟨g, cap, cur, rfl, by omega, r⟩⟩
/-- A row of the call's own stands where another block is written. -/
theorem Own.grown {α : Type} {E k : Nat} {enc : α → List Value} {w w' : World} {base g : Nat} {v : Value} {l : List α} (h : Own E k enc w base v l) (hg : w.grownBy w' (some g)) (hne : g < base) : Own E k enc w' base v l :=
  h.keep fun i hi => hg.block i (h.lt hi).2 (by intro e; injection e with e; have := (h.lt hi).1; omega)
theorem below_grown {w w1 w2 : World} {g : Nat} (h : Below w.heap.size w w1) (hg : w1.grownBy w2 (some g)) (hw : w.heap.size ≤ g) : Below w.heap.size w w2 :=
  h.grown hg h.size (fun k e => by injection e with e; omega)

abbrev tShot_ : TypeId := 56
/-- How Part answers. -/
def PartSays (t : Nat) (s : Str) (k : Int) (l : List Seen) (w : World) : Prop :=
  ∀ w2, Below w.heap.size w w2 → Calls Tryz.prog 83 #[.pointer (some ⟨t, 0, none⟩), .string (B s), .int .i64 k] w2 fun e w' => (∃ v, e = .returned (.tuple #[v, .int .i64 0]) ∧ Own tSeen 3 encSeen w' w2.heap.size v l) ∧ Below w2.heap.size w2 w'
theorem Take_is (t : Nat) (st : Int) (s : Str) (k : Int) (l : List Seen) (w : World) (hgl : Gl w) (hst : 0 ≤ st ∧ st ≤ 2147483647) (hs : placeOk s = true) (hk : kindOk k = true) (hp : PartSays t s k l w) :
    Calls Tryz.prog 27 #[.pointer (some ⟨t, 0, none⟩), .int .i64 st, .string (B s), .int .i64 k] w fun e w' => (∃ v, e = .returned (.tuple #[.agg #[.int .i64 st, .string (B s), .int .i64 k, v], .int .i64 0]) ∧ Own tSeen 3 encSeen w' w.heap.size v l) ∧ Below w.heap.size w w' := by
  have HG := hide hgl; have HS := hide hs; have HK := hide hk; have HP := hide hp
  clear hgl hs hk hp
  obtain ⟨h0, h1⟩ := hst
  go_enter Tryz.func27, Tryz.ntmps27
  go_wp2_with (first
    | (go_at_call 81; refine (isPlace_is s true _ (by exact HG.out.below (by repeat (first | exact Below.refl _ _ | assumption | refine below_drewN ?_ _ | refine below_drew ?_ | refine below_alloc ?_ _ | refine below_set ?_ (by first | assumption | (simp; done) | (simp; omega)) _ | refine below_trans (by assumption) ?_))) HS.out).mono ?_; rintro e w1 ⟨rfl, hb1⟩; have HX1 := hide (by exact (Blk.new _ _ _).below hb1 : Blk w1 w.heap.size tShot_ #[.int .i64 0, .string ⟨#[]⟩, .int .i64 0, .slice none 0 0]); have hsz : w.heap.size < w1.heap.size := (by have := hb1.size; simp at this; omega); have hb1' := (by exact below_trans (by repeat (first | exact Below.refl _ _ | assumption | refine below_drewN ?_ _ | refine below_drew ?_ | refine below_alloc ?_ _ | refine below_set ?_ (by first | assumption | (simp; done) | (simp; omega)) _ | refine below_trans (by assumption) ?_)) hb1 : Below w.heap.size w w1); clear hb1)
    | (go_at_call 82; refine (isKind_is k true _ HK.out).mono ?_; rintro e w2 ⟨rfl, rfl⟩)
    | (go_at_call 83; refine (HP.out _ hb1').mono ?_; rintro e w3 ⟨⟨v, rfl, ho⟩, hb3⟩; obtain ⟨X, c, rfl⟩ := ho.len; have HX3 := hide (HX1.out.below hb3); have HO := hide ho; have hb3' := below_trans hb1' hb3; clear hb3 ho)
    | (refine wpList_store0 rfl tShot_ (.tmp 8) (.tmp 46) rfl w.heap.size _ rfl rfl Tryz.sizeOf56 tShot_ _ HX3.out rfl (by simp [Value.oneCell']) ?_; intro w4 hx4 hg4; have HX4 := hide hx4; clear hx4))
  refine bodyPost_ret (res_ct rfl _ _ w.heap.size tShot_ _ _ _ (by simp) HX4.out Tryz.underlying56 rfl (by kernel_rfl)) rfl ?_
  exact ⟨⟨_, rfl, (HO.out.grown hg4 hsz).lower (by omega)⟩, below_grown hb3' hg4 (Nat.le_refl _)⟩
end Go.Proofs.YtheampfoedhipaaGreatDoor
