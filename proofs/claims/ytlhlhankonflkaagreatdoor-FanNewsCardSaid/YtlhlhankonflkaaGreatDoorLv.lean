/- From a call that starts no goroutine to a row that says 'leaving' and speaks of the clock. -/
import Derived.Test.YtlhlhankonflkaaGreatDoorRows
import Derived.Deep.DeepHandedRow
import Derived.Conc.HoldsTime
import Derived.Leaving
import Derived.SevenTiedAt
namespace Go.Proofs.YtlhlhankonflkaaGreatDoor
open Go

theorem leaving_of_handed {a : Assume} {C : Checked} {os : Os} {f : FuncId} {r : Reach} {Pre : World → Array Value → Prop} {Post Post' : World → Array Value → Value → World → Prop}
    (h : ReturnsInHanded a C os f r Pre Post) (hp : ∀ w args v w', Post w args v w' → Post' w args v w') : ReturnsInLeavingWide a C os f r Pre Post' := fun enter => by
  obtain ⟨g0, g1, g2, g3, all⟩ := h enter
  refine ⟨g0, g1, g2, g3, fun w tape i hf => ?_⟩
  obtain ⟨n, v, w', hn, hc, hr, hp', ⟨j, last, hj, hs, hq, hh, he⟩, ha⟩ := all w tape i hf
  exact ⟨n, v, w', hn, hc, hr, hp _ _ _ _ hp', ⟨j, last, hj, hs, hh, onlyLeaving_of_quiet hq, he⟩, ha⟩

theorem postWith_of_same {H : Type} {enc : TypeId × Value → H} {P : Program} {f : Func} {s : ChangeSpec} {F : Stop.Interp} {apart fresh handsOn : Bool} {W W' : World} {args : Array Value} {v : Value}
    (h : s.post enc P f apart fresh handsOn false W args v W') : (OpenSpec.ofChange s).postWith enc P f F (outsideKept [.timePasses]) apart fresh handsOn W args v W' := by
  obtain ⟨ds, gs, before, pr, pa, pv, h1, h2, h3, h4, h5, _⟩ := h
  refine ⟨ds, gs, before, pr, pa, pv, h1, h2, h3, h4, ?_, h5.2⟩
  have := h5.1
  exact leftAs_later ⟨0, by rw [this]; simp⟩

/-- A tied card whose call can come to a go statement. -/
theorem holds_tied_goes (Lk : Looks) {p : Pinned} {s : OpenSpec} {c : OpenClaim} (kinds : List LaidKind) (tests : Bool) (har : Bool × String) (lk g : Bool)
    (hc : c.holds p s) (hw : c.wfByText s = true)
    (htie : c.laidByTextAt Lk p kinds tests)
    (hst : c.start = .entering) (hnb : c.noBlocks = false ∧ c.again = false) (hm : p.checked.prog.mainIs = some (har.1, har.2.toList)) (hn : (!har.1 && har.2.isEmpty && !lk) = false)
    (hl : ∀ f fn, p.checked.prog.funcNamed c.func = some f → p.checked.prog.funcs[f]? = some fn → lk = p.checked.prog.looks [] ∧ ∀ (j : Nat) t, fn.params[j]? = some t → p.checked.prog.wantsStandIn t = false)
    (hg : g = c.goesBy p.checked.prog) :
    Claim7.holds p (.plain s) { stood := { row := c, standIns := [], harness := har, looks := lk }, kinds := [], alts := [], goes := g, laidByText := true, laidKinds := kinds, laidTests := tests, laidLooks := Lk } := by
  have h6 : ∀ r : OpenClaim, Claim7.isSixth { stood := { row := r, standIns := [], harness := har, looks := lk }, kinds := [] } = false := fun r => by simpa [Claim7.isSixth] using hn
  exact ⟨Claim7.tied_new_at Lk kinds tests (Claim7.new_of_sixth hc har lk hst hnb hm (h6 c) hl) hw, (fun D hD => by cases hD), htie, (fun h => by cases h), hg⟩

end Go.Proofs.YtlhlhankonflkaaGreatDoor
