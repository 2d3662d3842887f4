/- What the rows' lists give: the table of names' bytes; a witness's world. -/
import Derived.Test.YtheampfoedhipaaGreatDoorCards
import Derived.Test.YtheampfoedhipaaGreatDoorTie
import Derived.WalkKit
import Derived.ProofKit
import Derived.OpenShut
import Derived.Deep.DeepHandedRow
import Derived.Lib.LaidTab
import Derived.Shelf.Vars
import Derived.Test.YtheampfoedhipaaGreatDoorPw2
namespace Go.Proofs.YtheampfoedhipaaGreatDoor
open Go Go.ChangeShapes Go.WideShapes Go.ChangeAt Go.RowKit
set_option maxRecDepth 100000

theorem own : ownKnob Tryz.prog.godebug = none := by kernel_rfl
theorem laidVars_tail {P : Program} {w : World} {x : String × DataW Unit} {l : List (String × DataW Unit)} {ps : List MemPlace} (h : DataW.LaidVars P w (x :: l) ps) : ∃ qs, DataW.LaidVars P w l qs := by
  obtain ⟨g', t', cs, fuel, p, q, hg', ht', hvar, hd, hr, _⟩ := h
  exact ⟨_, hr⟩
def namedZ : List Int := (List.range 128).map nameTab
theorem namedZ_is : (Rows.laid_herald_place_named : DataW Unit) = Lib.tabData .u8 namedZ := by kernel_rfl
theorem gNamed : Tryz.prog.globalNamed "herald/place.named" = some 0 := by kernel_rfl
theorem gNamedType : (Tryz.prog.globals[0]?).map (·.type) = some 335 := by kernel_rfl
theorem cellsNamed : Tryz.prog.cellsOf 335 = 128 := by kernel_rfl
theorem cellsU8 : Tryz.prog.cellsOf 5 = 1 := by kernel_rfl
theorem named_of {W : World} {x1 x2 x3 x4 : String × DataW Unit} {l : List (String × DataW Unit)} (h : laidMet Tryz.prog (x1 :: x2 :: x3 :: x4 :: ("herald/place.named", Rows.laid_herald_place_named) :: l) W) (i : Nat) (hi : i < 128) : W.cell? ⟨0, i, none⟩ = some (.int .u8 (nameTab i)) := by
  obtain ⟨ps, h0, _⟩ := h
  obtain ⟨_, h1⟩ := laidVars_tail h0
  obtain ⟨_, h2⟩ := laidVars_tail h1
  obtain ⟨_, h3⟩ := laidVars_tail h2
  obtain ⟨_, h4⟩ := laidVars_tail h3
  rw [namedZ_is] at h4
  obtain ⟨g', t', cs, fuel, p, q, hg', ht', hvar, hd, _, _⟩ := h4
  obtain rfl := Option.some.inj (gNamed.symm.trans hg')
  obtain rfl := Option.some.inj (gNamedType.symm.trans ht')
  have ht : Lib.TabIs Tryz.prog W "herald/place.named" .u8 namedZ := by
    unfold Lib.TabIs
    rw [hvar, ← Lib.cells_of_tab Tryz.underlying335 Tryz.underlying5 cellsU8 cellsNamed hd]
  have := ht.cell gNamed i (by simpa [namedZ] using hi)
  rw [this]
  simp [namedZ, hi]
theorem maxLen_of {W : World} (h : W.ShapedOpen Tryz.prog) : ∃ m : Int, W.cell? ⟨2, 0, none⟩ = some (.int .i64 m) :=
  cell_of_shapedOpen_int (P := Tryz.prog) (t := 3) (zero := #[.int .i64 0]) h (by decide +kernel) (by kernel_rfl) rfl (by kernel_rfl) (by kernel_rfl) Tryz.underlying3
theorem gl_of {W : World} {x1 x2 x3 x4 : String × DataW Unit} {l : List (String × DataW Unit)} (h : laidMet Tryz.prog (x1 :: x2 :: x3 :: x4 :: ("herald/place.named", Rows.laid_herald_place_named) :: l) W) (hs : W.ShapedOpen Tryz.prog) : Gl W :=
  ⟨named_of h, maxLen_of hs⟩

/-- The cells of a datum of plain values. -/
def cells1 : DataW Unit → List Value
  | .lit (.int k n) => [.int k n]
  | .lit (.bool b) => [.bool b]
  | _ => []
def cells2 : DataW Unit → List Value
  | .agg l => l.flatMap cells1
  | d => cells1 d
def cells3 : DataW Unit → List Value
  | .agg l => l.flatMap cells2
  | d => cells1 d
/-- A block with a listed variable's cells in it. -/
def laidIn (d : DataW Unit) : Obj → Obj
  | .cells _ t frozen => .cells (cells3 d).toArray t frozen
  | o => o
/-- A world for the witness: the settled one, the listed variables holding what their initialisers lay. -/
noncomputable def laidWorld (os : Os) : World :=
  { World.holding Tryz.prog os ⟨#[], #[], []⟩ with heap := ((((((World.holding Tryz.prog os ⟨#[], #[], []⟩).heap.modify 5 (laidIn Rows.laid_math_bits_deBruijn32tab)).modify 6 (laidIn Rows.laid_math_bits_deBruijn64tab)).modify 1 (laidIn Rows.laid_internal_strconv_uint64pow10)).modify 4 (laidIn Rows.laid_unicode_utf8_acceptRanges)).modify 0 (laidIn Rows.laid_herald_place_named)).modify 3 (laidIn Rows.laid_unicode_utf8_first) }
end Go.Proofs.YtheampfoedhipaaGreatDoor
