/- The law StateNothing: a nil machine refuses all and tells nothing; a zero machine freezes and answers as the document's new one; a first entry opens a session at it. Conditions: those of the given row: the listed variables hold what the program's text lays. -/
import Derived.Test.YtheampfoedhipaaGreatDoorSn12
import Derived.Test.YtheampfoedhipaaGreatDoorGj
namespace Go.Proofs.YtheampfoedhipaaGreatDoor.stateNothing
open Go Go.ChangeShapes Go.WideShapes Go.ChangeAt Go.RowKit Go.Proofs.YtheampfoedhipaaGreatDoor
set_option maxRecDepth 100000

theorem contract (H : Type) (enc : TypeId × Value → H) (W : World) (base : Nat) (args : Array Value) (ds gs : List (DataW H)) (before : List MemPlace)
    (hval : ∀ (j : Nat) t v, Tryz.f10.params[j]? = some t → args[j]? = some v → Value.okWide Tryz.prog W .any base t v)
    (hW : DataW.Whole enc Tryz.prog Tryz.f10.params.toList Rows.stateNothingSpec.vars false W args.toList ds gs before) (hG : Gl W) :
    Calls Tryz.prog 10 args W fun e W' => ∃ v, e = .returned v ∧ Rows.stateNothingSpec.post enc Tryz.prog Tryz.f10 false true false false W args v W' := by
  have hW' := hW
  obtain ⟨p, q, hA0, hV, rfl, hfz, hnd⟩ := hW
  have hA : DataW.TrodAll enc Tryz.prog W 0 (fun _ => true) true Tryz.f10.params.toList args.toList ds p := hA0
  rw [Tryz.params10] at hA hval
  obtain ⟨hargs, rfl, rfl⟩ := trodAll_nil hA
  obtain rfl : args = #[] := by cases args; simp_all
  obtain ⟨rfl, rfl⟩ := trodVars_none hV
  clear hA0
  simp only [List.append_nil] at hW'
  refine (StateNothing_any W hG).mono fun e W' ⟨he, hb⟩ => ?_
  subst he
  refine ⟨_, rfl, _, _, _, [], [], [], hW', ?_, ?_, rfl, hb.frame _, fun h => by cases h⟩
  · exact trodAll_cons_mk (shut_bool Tryz.underlying4 _) trodAll_mk0
  · exact trodAll_mk0
abbrev wArgs : Array Value := #[]
theorem laid_met (os : Os) : laidMet Tryz.prog Rows.stateNothingRow.laid ((laidWorld os).forCall (fun _ _ => 0) ⟨#[], wArgs, []⟩).memory :=
  laidMet_of_run' 8 (by kernel_rfl) (by kernel_rfl)
theorem reads (os : Os) {H : Type} (enc : TypeId × Value → H) : ∃ places, DataW.whole enc Tryz.prog ((laidWorld os).forCall (fun _ _ => 0) ⟨#[], wArgs, []⟩).memory Tryz.f10.params.toList Rows.stateNothingSpec.vars false wArgs.toList 8 = some ([], [], places) :=
  ⟨[], by kernel_rfl⟩

set_option maxRecDepth 100000 in
theorem lifted (os : Os) (started : os.Started) (H : Type) (enc : TypeId × Value → H) (F : Stop.Interp) :
    ReturnsInHanded {} Tryz.checked os 10 .any ((OpenSpec.ofChange Rows.stateNothingSpec).preRow enc Tryz.prog Tryz.f10 Rows.stateNothingRow.domain false Rows.stateNothingRow.laid) (((OpenSpec.ofChange Rows.stateNothingSpec).at F).post enc Tryz.prog Tryz.f10 false true false false) := by
  obtain ⟨places, hx⟩ := reads os enc
  refine returnsInHanded_of_row (C := Tryz.checked) (s := OpenSpec.ofChange Rows.stateNothingSpec) own started (by kernel_rfl) Tryz.func10
    (witness_row_at (enc := enc) (C := Tryz.checked) false (laidWorld os) wArgs rfl (by kernel_rfl) (by kernel_rfl) (by kernel_rfl)
      (OpenSpec.preRow_of_cond 8 hx (by kernel_rfl) (fun k hk => by cases hk) (by kernel_rfl) (laid_met os))) ?_
  intro W base args ds gs before hval hW _ _ _ hL hsh _
  exact contract H enc W base args ds gs before hval hW (gl_of hL hsh)

theorem cInPlace : (Rows.stateNothingRow.inPlace == Tryz.pinned.checked.prog.inPlace 10) = true := by kernel_rfl
theorem cUnfollowed : (Rows.stateNothingRow.unfollowed == Tryz.pinned.checked.prog.unfollowed 10) = true := by kernel_rfl
theorem cRecurses : (Rows.stateNothingRow.recurses == Tryz.pinned.checked.prog.recurses 10) = true := by kernel_rfl
theorem cNamed : (Rows.stateNothingRow.named == Tryz.pinned.checked.prog.varsNamed 10) = true := by kernel_rfl
theorem cLifted : (Rows.stateNothingRow.lifted == Tryz.pinned.checked.prog.liftsFinal) = true := pLifts
theorem closed : joinedFacts Tryz.pinned.checked.prog 10 Tryz.f10 (OpenSpec.ofChange Rows.stateNothingSpec).bare Rows.stateNothingRow = true := by
  unfold joinedFacts
  repeat' with_reducible refine and_mk ?_ ?_
  all_goals first
    | with_reducible exact pLaidOut
    | with_reducible exact pMapsRowed
    | with_reducible exact pStopsHeard
    | with_reducible exact pMayEnter
    | with_reducible exact cLifted
    | with_reducible exact pMake
    | with_reducible exact pPlainKeys
    | with_reducible exact cInPlace
    | with_reducible exact cUnfollowed
    | with_reducible exact cRecurses
    | with_reducible exact cNamed
    | kernel_rfl
theorem named : Tryz.pinned.checked.prog.funcNamed Rows.stateNothingRow.func = some 10 := by kernel_rfl
theorem inst : Tryz.f10.isInstance Tryz.pinned.checked.prog Rows.stateNothingRow.origin Rows.stateNothingRow.targs := of_decide_eq_true (by kernel_rfl)
theorem wrap : Tryz.f10.isWrapper Tryz.pinned.checked.prog Rows.stateNothingRow.wrapper Rows.stateNothingRow.mainSum := by unfold Func.isWrapper; first | (rw [if_pos (by decide +kernel)]; kernel_rfl) | (rw [if_neg (by decide +kernel)]; exact ⟨rfl, rfl⟩)
theorem step (os : Os) (started : os.Started) (H : Type) (enc : TypeId × Value → H) (F : Stop.Interp) : ReturnsInHanded Rows.stateNothingRow.assume Tryz.pinned.checked os 10 .any (Rows.stateNothingRow.pre enc Tryz.pinned.checked.prog Tryz.f10 (OpenSpec.ofChange Rows.stateNothingSpec)) (((OpenSpec.ofChange Rows.stateNothingSpec).at F).post enc Tryz.pinned.checked.prog Tryz.f10 Rows.stateNothingRow.apart Rows.stateNothingRow.fresh Rows.stateNothingRow.handsOn Rows.stateNothingRow.again) := by
  rw [OpenClaim.pre_eq_preRow]; exact lifted os started H enc F
theorem said : Rows.StateNothingSaid :=
  OpenClaim.holds_of_cond 10 Tryz.f10 rfl rfl rfl rfl rfl rfl rfl ⟨rfl, rfl, rfl, rfl, rfl⟩ rfl rfl rfl rfl rfl named Tryz.func10 closed
    inst wrap (fun os started H enc _ F => step os started H enc F)

theorem plain (f : FuncId) (fn : Func) (hf : Tryz.pinned.checked.prog.funcNamed "herald/heraldlaw8.StateNothing" = some f) (hfn : Tryz.pinned.checked.prog.funcs[f]? = some fn) :
    true = Tryz.pinned.checked.prog.looks [] ∧ ∀ (j : Nat) t, fn.params[j]? = some t → Tryz.pinned.checked.prog.wantsStandIn t = false := by
  obtain rfl : f = 10 := Option.some.inj ((show Tryz.prog.funcNamed "herald/heraldlaw8.StateNothing" = some 10 by kernel_rfl).symm.trans hf) |>.symm
  obtain rfl : fn = Tryz.f10 := (Option.some.inj (Tryz.func10.symm.trans hfn)).symm
  refine ⟨by kernel_rfl, fun j t ht => ?_⟩
  rw [Tryz.params10] at ht
  simp at ht

theorem card : Rows.StateNothingCardSaid :=
  Claim7.holds_tied_plain_at .later [] _ _ _ _ said (fun _ h => by cases h) (by kernel_rfl) (fun _ h => by cases h) stateNothing_row_tie rfl ⟨rfl, rfl⟩ (by kernel_rfl) rfl plain (by kernel_rfl)
end Go.Proofs.YtheampfoedhipaaGreatDoor.stateNothing
namespace Go.Proofs.YtheampfoedhipaaGreatDoor
/-- The law StateNothing, as the given card says it. -/
theorem stateNothing_card : Rows.StateNothingCardSaid := stateNothing.card
end Go.Proofs.YtheampfoedhipaaGreatDoor
#print axioms Go.Proofs.YtheampfoedhipaaGreatDoor.stateNothing_card
