/-
  NARROWER THAN 'FOR EVERY INPUT', by the rows' own cells (each row's printed sentence says how): StateOnce: laid · ShotBridges: laid · ShotReturns: laid · StatePlays: laid · ShotFollows: laid · ShotParts: laid · ShotKeeps: laid · StateNothing: laid · StateTells: laid · StateBrief: laid · StateKeeps: laid · StateThaws: laid.
  DERIVED. THE GIVEN ROWS OF THIS SEAT. 12 by the template 'for every input the law returns true; each argument reads behind the call as it read before'; 0 by the template 'total and deterministic' (their statements: YtheampfoedhipaaGreatDoorTotals.lean).
  GIVEN WITH THE SEED: the statements are not yours to turn. If you find one false, say at which input.
  Laid BY PROGRAM, IN A SANDBOX (cutbox-rows.mjs): the forced cells as the released guide's own fill.sh prints them over the translation 5c1d9840f8ee6c82… (all of the seat's roots in one cut). By AI agents, Wed Nov 11 2026. No macro, syntax, notation, axiom, sorry.
-/
import Derived.Test.YtheampfoedhipaaGreatDoorChecked
import GoSem.PinnedTables
import GoSem.Claim
import GoSem.ClaimJoined
import GoSem.ClaimMapViews
import Derived.JoinedTies
import Derived.KernelRfl
namespace Go.Proofs.YtheampfoedhipaaGreatDoor
/- THE CELL 'sum', in the pinned program and in every row, IS THE sha256 OF THE DUMP (.gsa) THAT YtheampfoedhipaaGreatDoorProg.lean LOADS. Nothing in Lean hashes anything: it is a label: what it is worth is what the hold of that sum in a sandbox is worth. -/
noncomputable def Tryz.pinned : Pinned := { name := "ytheampfoedhipaagreatdoor", sum := "5c1d9840f8ee6c826345432c41e65ef510806823840abf4a04a1818ef1bb010c", checked := Tryz.checked }
namespace Rows
def none {H : Type} : Left H := { results := [], args := [] }

/- WHAT THE LISTED PACKAGE-LEVEL VARIABLES READ AS WHEN THE CALL BEGINS. Each datum BY PROGRAM (the guide's laid-datum.mjs) off the statement by which the dump's own 'gosem.cut.vars' lays the variable. In a bare row this is a premise. The card (YtheampfoedhipaaGreatDoorCards.lean) ties it to the program's text. -/
def laid_math_bits_deBruijn32tab {H : Type} : DataW H := .agg [.lit (.int .u8 0), .lit (.int .u8 1), .lit (.int .u8 28), .lit (.int .u8 2), .lit (.int .u8 29), .lit (.int .u8 14), .lit (.int .u8 24), .lit (.int .u8 3), .lit (.int .u8 30), .lit (.int .u8 22), .lit (.int .u8 20), .lit (.int .u8 15), .lit (.int .u8 25), .lit (.int .u8 17), .lit (.int .u8 4), .lit (.int .u8 8), .lit (.int .u8 31), .lit (.int .u8 27), .lit (.int .u8 13), .lit (.int .u8 23), .lit (.int .u8 21), .lit (.int .u8 19), .lit (.int .u8 16), .lit (.int .u8 7), .lit (.int .u8 26), .lit (.int .u8 12), .lit (.int .u8 18), .lit (.int .u8 6), .lit (.int .u8 11), .lit (.int .u8 5), .lit (.int .u8 10), .lit (.int .u8 9)]
def laid_math_bits_deBruijn64tab {H : Type} : DataW H := .agg [.lit (.int .u8 0), .lit (.int .u8 1), .lit (.int .u8 56), .lit (.int .u8 2), .lit (.int .u8 57), .lit (.int .u8 49), .lit (.int .u8 28), .lit (.int .u8 3), .lit (.int .u8 61), .lit (.int .u8 58), .lit (.int .u8 42), .lit (.int .u8 50), .lit (.int .u8 38), .lit (.int .u8 29), .lit (.int .u8 17), .lit (.int .u8 4), .lit (.int .u8 62), .lit (.int .u8 47), .lit (.int .u8 59), .lit (.int .u8 36), .lit (.int .u8 45), .lit (.int .u8 43), .lit (.int .u8 51), .lit (.int .u8 22), .lit (.int .u8 53), .lit (.int .u8 39), .lit (.int .u8 33), .lit (.int .u8 30), .lit (.int .u8 24), .lit (.int .u8 18), .lit (.int .u8 12), .lit (.int .u8 5), .lit (.int .u8 63), .lit (.int .u8 55), .lit (.int .u8 48), .lit (.int .u8 27), .lit (.int .u8 60), .lit (.int .u8 41), .lit (.int .u8 37), .lit (.int .u8 16), .lit (.int .u8 46), .lit (.int .u8 35), .lit (.int .u8 44), .lit (.int .u8 21), .lit (.int .u8 52), .lit (.int .u8 32), .lit (.int .u8 23), .lit (.int .u8 11), .lit (.int .u8 54), .lit (.int .u8 26), .lit (.int .u8 40), .lit (.int .u8 15), .lit (.int .u8 34), .lit (.int .u8 20), .lit (.int .u8 31), .lit (.int .u8 10), .lit (.int .u8 25), .lit (.int .u8 14), .lit (.int .u8 19), .lit (.int .u8 9), .lit (.int .u8 13), .lit (.int .u8 8), .lit (.int .u8 7), .lit (.int .u8 6)]
def laid_internal_strconv_uint64pow10 {H : Type} : DataW H := .agg [.lit (.int .u64 1), .lit (.int .u64 10), .lit (.int .u64 100), .lit (.int .u64 1000), .lit (.int .u64 10000), .lit (.int .u64 100000), .lit (.int .u64 1000000), .lit (.int .u64 10000000), .lit (.int .u64 100000000), .lit (.int .u64 1000000000), .lit (.int .u64 10000000000), .lit (.int .u64 100000000000), .lit (.int .u64 1000000000000), .lit (.int .u64 10000000000000), .lit (.int .u64 100000000000000), .lit (.int .u64 1000000000000000), .lit (.int .u64 10000000000000000), .lit (.int .u64 100000000000000000), .lit (.int .u64 1000000000000000000), .lit (.int .u64 10000000000000000000)]
def laid_unicode_utf8_acceptRanges {H : Type} : DataW H := .agg [.agg [.lit (.int .u8 128), .lit (.int .u8 191)], .agg [.lit (.int .u8 160), .lit (.int .u8 191)], .agg [.lit (.int .u8 128), .lit (.int .u8 159)], .agg [.lit (.int .u8 144), .lit (.int .u8 191)], .agg [.lit (.int .u8 128), .lit (.int .u8 143)], .agg [.lit (.int .u8 0), .lit (.int .u8 0)], .agg [.lit (.int .u8 0), .lit (.int .u8 0)], .agg [.lit (.int .u8 0), .lit (.int .u8 0)], .agg [.lit (.int .u8 0), .lit (.int .u8 0)], .agg [.lit (.int .u8 0), .lit (.int .u8 0)], .agg [.lit (.int .u8 0), .lit (.int .u8 0)], .agg [.lit (.int .u8 0), .lit (.int .u8 0)], .agg [.lit (.int .u8 0), .lit (.int .u8 0)], .agg [.lit (.int .u8 0), .lit (.int .u8 0)], .agg [.lit (.int .u8 0), .lit (.int .u8 0)], .agg [.lit (.int .u8 0), .lit (.int .u8 0)]]
def laid_herald_place_named {H : Type} : DataW H := .agg [.lit (.int .u8 0), .lit (.int .u8 0), .lit (.int .u8 0), .lit (.int .u8 0), .lit (.int .u8 0), .lit (.int .u8 0), .lit (.int .u8 0), .lit (.int .u8 0), .lit (.int .u8 0), .lit (.int .u8 0), .lit (.int .u8 0), .lit (.int .u8 0), .lit (.int .u8 0), .lit (.int .u8 0), .lit (.int .u8 0), .lit (.int .u8 0), .lit (.int .u8 0), .lit (.int .u8 0), .lit (.int .u8 0), .lit (.int .u8 0), .lit (.int .u8 0), .lit (.int .u8 0), .lit (.int .u8 0), .lit (.int .u8 0), .lit (.int .u8 0), .lit (.int .u8 0), .lit (.int .u8 0), .lit (.int .u8 0), .lit (.int .u8 0), .lit (.int .u8 0), .lit (.int .u8 0), .lit (.int .u8 0), .lit (.int .u8 0), .lit (.int .u8 0), .lit (.int .u8 0), .lit (.int .u8 0), .lit (.int .u8 0), .lit (.int .u8 0), .lit (.int .u8 0), .lit (.int .u8 0), .lit (.int .u8 0), .lit (.int .u8 0), .lit (.int .u8 0), .lit (.int .u8 0), .lit (.int .u8 0), .lit (.int .u8 1), .lit (.int .u8 1), .lit (.int .u8 0), .lit (.int .u8 1), .lit (.int .u8 1), .lit (.int .u8 1), .lit (.int .u8 1), .lit (.int .u8 1), .lit (.int .u8 1), .lit (.int .u8 1), .lit (.int .u8 1), .lit (.int .u8 1), .lit (.int .u8 1), .lit (.int .u8 0), .lit (.int .u8 0), .lit (.int .u8 0), .lit (.int .u8 0), .lit (.int .u8 0), .lit (.int .u8 0), .lit (.int .u8 0), .lit (.int .u8 1), .lit (.int .u8 1), .lit (.int .u8 1), .lit (.int .u8 1), .lit (.int .u8 1), .lit (.int .u8 1), .lit (.int .u8 1), .lit (.int .u8 1), .lit (.int .u8 1), .lit (.int .u8 1), .lit (.int .u8 1), .lit (.int .u8 1), .lit (.int .u8 1), .lit (.int .u8 1), .lit (.int .u8 1), .lit (.int .u8 1), .lit (.int .u8 1), .lit (.int .u8 1), .lit (.int .u8 1), .lit (.int .u8 1), .lit (.int .u8 1), .lit (.int .u8 1), .lit (.int .u8 1), .lit (.int .u8 1), .lit (.int .u8 1), .lit (.int .u8 1), .lit (.int .u8 0), .lit (.int .u8 0), .lit (.int .u8 0), .lit (.int .u8 0), .lit (.int .u8 1), .lit (.int .u8 0), .lit (.int .u8 1), .lit (.int .u8 1), .lit (.int .u8 1), .lit (.int .u8 1), .lit (.int .u8 1), .lit (.int .u8 1), .lit (.int .u8 1), .lit (.int .u8 1), .lit (.int .u8 1), .lit (.int .u8 1), .lit (.int .u8 1), .lit (.int .u8 1), .lit (.int .u8 1), .lit (.int .u8 1), .lit (.int .u8 1), .lit (.int .u8 1), .lit (.int .u8 1), .lit (.int .u8 1), .lit (.int .u8 1), .lit (.int .u8 1), .lit (.int .u8 1), .lit (.int .u8 1), .lit (.int .u8 1), .lit (.int .u8 1), .lit (.int .u8 1), .lit (.int .u8 1), .lit (.int .u8 0), .lit (.int .u8 0), .lit (.int .u8 0), .lit (.int .u8 0), .lit (.int .u8 0)]
/-- One of Go's own tables, pinned by name: the form's constant. -/
def laid_unicode_utf8_first : DataW Unit := Go.Pinned.utf8First

/-- 'heraldlaw8.StateOnce': WHATEVER THE INPUT: true; the input reads as it did. -/
def stateOnceSpec : ChangeSpec := { name := "stateOnce", fn := fun _ => fun
  | [d] => { results := [.lit (.bool true)], args := [d] }
  | _ => none }
def stateOnceRow : OpenClaim := { program := "ytheampfoedhipaagreatdoor", sum := "5c1d9840f8ee6c826345432c41e65ef510806823840abf4a04a1818ef1bb010c", func := "herald/heraldlaw8.StateOnce", spec := "stateOnce", inPlace := ["maps.clone", "internal/bytealg.CountString", "internal/bytealg.IndexByteString", "internal/bytealg.IndexString", "internal/abi.NoEscape", "internal/bytealg.MakeNoZero"], unfollowed := true, recurses := true, named := ["unicode/utf8.first", "unicode/utf8.acceptRanges", "internal/bytealg.MaxLen", "herald/place.named", "internal/strconv.uint64pow10", "math/bits.deBruijn32tab", "math/bits.deBruijn64tab"], apart := false, laid := [("math/bits.deBruijn32tab", laid_math_bits_deBruijn32tab), ("math/bits.deBruijn64tab", laid_math_bits_deBruijn64tab), ("internal/strconv.uint64pow10", laid_internal_strconv_uint64pow10), ("unicode/utf8.acceptRanges", laid_unicode_utf8_acceptRanges), ("herald/place.named", laid_herald_place_named), ("unicode/utf8.first", laid_unicode_utf8_first)] }
def StateOnceSaid : Prop := stateOnceRow.holds Tryz.pinned (OpenSpec.ofChange stateOnceSpec)

/-- ITS FALSE NEIGHBOUR: 'it returns false'. Refute it at one input. -/
def stateOnceWrong : ChangeSpec := { name := "stateOnce", fn := fun _ => fun
  | [d] => { results := [.lit (.bool false)], args := [d] }
  | _ => none }
def StateOnceWrongFalsely : Prop := stateOnceRow.holds Tryz.pinned (OpenSpec.ofChange stateOnceWrong)

/-- 'heraldlaw5.ShotBridges': WHATEVER THE INPUT: true; the input reads as it did. -/
def shotBridgesSpec : ChangeSpec := { name := "shotBridges", fn := fun _ => fun
  | [d1, d2, d3] => { results := [.lit (.bool true)], args := [d1, d2, d3] }
  | _ => none }
def shotBridgesRow : OpenClaim := { program := "ytheampfoedhipaagreatdoor", sum := "5c1d9840f8ee6c826345432c41e65ef510806823840abf4a04a1818ef1bb010c", func := "herald/heraldlaw5.ShotBridges", spec := "shotBridges", inPlace := ["maps.clone", "internal/bytealg.CountString", "internal/bytealg.IndexByteString", "internal/bytealg.IndexString", "internal/abi.NoEscape", "internal/bytealg.MakeNoZero", "slices.overlaps[herald/api.Seen]"], unfollowed := true, recurses := true, named := ["unicode/utf8.first", "unicode/utf8.acceptRanges", "internal/bytealg.MaxLen", "herald/place.named", "internal/strconv.uint64pow10", "math/bits.deBruijn32tab", "math/bits.deBruijn64tab"], apart := false, laid := [("math/bits.deBruijn32tab", laid_math_bits_deBruijn32tab), ("math/bits.deBruijn64tab", laid_math_bits_deBruijn64tab), ("internal/strconv.uint64pow10", laid_internal_strconv_uint64pow10), ("unicode/utf8.acceptRanges", laid_unicode_utf8_acceptRanges), ("herald/place.named", laid_herald_place_named), ("unicode/utf8.first", laid_unicode_utf8_first)] }
def ShotBridgesSaid : Prop := shotBridgesRow.holds Tryz.pinned (OpenSpec.ofChange shotBridgesSpec)

/-- ITS FALSE NEIGHBOUR: 'it returns false'. Refute it at one input. -/
def shotBridgesWrong : ChangeSpec := { name := "shotBridges", fn := fun _ => fun
  | [d1, d2, d3] => { results := [.lit (.bool false)], args := [d1, d2, d3] }
  | _ => none }
def ShotBridgesWrongFalsely : Prop := shotBridgesRow.holds Tryz.pinned (OpenSpec.ofChange shotBridgesWrong)

/-- 'heraldlaw5.ShotReturns': WHATEVER THE INPUT: true; the input reads as it did. -/
def shotReturnsSpec : ChangeSpec := { name := "shotReturns", fn := fun _ => fun
  | [d1, d2] => { results := [.lit (.bool true)], args := [d1, d2] }
  | _ => none }
def shotReturnsRow : OpenClaim := { program := "ytheampfoedhipaagreatdoor", sum := "5c1d9840f8ee6c826345432c41e65ef510806823840abf4a04a1818ef1bb010c", func := "herald/heraldlaw5.ShotReturns", spec := "shotReturns", inPlace := ["maps.clone", "internal/bytealg.CountString", "internal/bytealg.IndexByteString", "internal/bytealg.IndexString", "internal/abi.NoEscape", "internal/bytealg.MakeNoZero", "slices.overlaps[herald/api.Seen]"], unfollowed := true, recurses := true, named := ["unicode/utf8.first", "unicode/utf8.acceptRanges", "internal/bytealg.MaxLen", "herald/place.named", "internal/strconv.uint64pow10", "math/bits.deBruijn32tab", "math/bits.deBruijn64tab"], apart := false, laid := [("math/bits.deBruijn32tab", laid_math_bits_deBruijn32tab), ("math/bits.deBruijn64tab", laid_math_bits_deBruijn64tab), ("internal/strconv.uint64pow10", laid_internal_strconv_uint64pow10), ("unicode/utf8.acceptRanges", laid_unicode_utf8_acceptRanges), ("herald/place.named", laid_herald_place_named), ("unicode/utf8.first", laid_unicode_utf8_first)] }
def ShotReturnsSaid : Prop := shotReturnsRow.holds Tryz.pinned (OpenSpec.ofChange shotReturnsSpec)

/-- ITS FALSE NEIGHBOUR: 'it returns false'. Refute it at one input. -/
def shotReturnsWrong : ChangeSpec := { name := "shotReturns", fn := fun _ => fun
  | [d1, d2] => { results := [.lit (.bool false)], args := [d1, d2] }
  | _ => none }
def ShotReturnsWrongFalsely : Prop := shotReturnsRow.holds Tryz.pinned (OpenSpec.ofChange shotReturnsWrong)

/-- 'heraldlaw8.StatePlays': WHATEVER THE INPUT: true; the input reads as it did. -/
def statePlaysSpec : ChangeSpec := { name := "statePlays", fn := fun _ => fun
  | [d] => { results := [.lit (.bool true)], args := [d] }
  | _ => none }
def statePlaysRow : OpenClaim := { program := "ytheampfoedhipaagreatdoor", sum := "5c1d9840f8ee6c826345432c41e65ef510806823840abf4a04a1818ef1bb010c", func := "herald/heraldlaw8.StatePlays", spec := "statePlays", inPlace := ["maps.clone", "internal/bytealg.CountString", "internal/bytealg.IndexByteString", "internal/bytealg.IndexString", "internal/abi.NoEscape", "internal/bytealg.MakeNoZero"], unfollowed := true, recurses := true, named := ["unicode/utf8.first", "unicode/utf8.acceptRanges", "internal/bytealg.MaxLen", "herald/place.named", "internal/strconv.uint64pow10", "math/bits.deBruijn32tab", "math/bits.deBruijn64tab"], apart := false, laid := [("math/bits.deBruijn32tab", laid_math_bits_deBruijn32tab), ("math/bits.deBruijn64tab", laid_math_bits_deBruijn64tab), ("internal/strconv.uint64pow10", laid_internal_strconv_uint64pow10), ("unicode/utf8.acceptRanges", laid_unicode_utf8_acceptRanges), ("herald/place.named", laid_herald_place_named), ("unicode/utf8.first", laid_unicode_utf8_first)] }
def StatePlaysSaid : Prop := statePlaysRow.holds Tryz.pinned (OpenSpec.ofChange statePlaysSpec)

/-- ITS FALSE NEIGHBOUR: 'it returns false'. Refute it at one input. -/
def statePlaysWrong : ChangeSpec := { name := "statePlays", fn := fun _ => fun
  | [d] => { results := [.lit (.bool false)], args := [d] }
  | _ => none }
def StatePlaysWrongFalsely : Prop := statePlaysRow.holds Tryz.pinned (OpenSpec.ofChange statePlaysWrong)

/-- 'heraldlaw5.ShotFollows': WHATEVER THE INPUT: true; the input reads as it did. -/
def shotFollowsSpec : ChangeSpec := { name := "shotFollows", fn := fun _ => fun
  | [d1, d2, d3, d4, d5] => { results := [.lit (.bool true)], args := [d1, d2, d3, d4, d5] }
  | _ => none }
def shotFollowsRow : OpenClaim := { program := "ytheampfoedhipaagreatdoor", sum := "5c1d9840f8ee6c826345432c41e65ef510806823840abf4a04a1818ef1bb010c", func := "herald/heraldlaw5.ShotFollows", spec := "shotFollows", inPlace := ["maps.clone", "internal/bytealg.CountString", "internal/bytealg.IndexByteString", "internal/bytealg.IndexString", "internal/abi.NoEscape", "internal/bytealg.MakeNoZero", "slices.overlaps[herald/api.Seen]"], unfollowed := true, recurses := true, named := ["unicode/utf8.first", "unicode/utf8.acceptRanges", "internal/bytealg.MaxLen", "herald/place.named", "internal/strconv.uint64pow10", "math/bits.deBruijn32tab", "math/bits.deBruijn64tab"], apart := false, laid := [("math/bits.deBruijn32tab", laid_math_bits_deBruijn32tab), ("math/bits.deBruijn64tab", laid_math_bits_deBruijn64tab), ("internal/strconv.uint64pow10", laid_internal_strconv_uint64pow10), ("unicode/utf8.acceptRanges", laid_unicode_utf8_acceptRanges), ("herald/place.named", laid_herald_place_named), ("unicode/utf8.first", laid_unicode_utf8_first)] }
def ShotFollowsSaid : Prop := shotFollowsRow.holds Tryz.pinned (OpenSpec.ofChange shotFollowsSpec)

/-- ITS FALSE NEIGHBOUR: 'it returns false'. Refute it at one input. -/
def shotFollowsWrong : ChangeSpec := { name := "shotFollows", fn := fun _ => fun
  | [d1, d2, d3, d4, d5] => { results := [.lit (.bool false)], args := [d1, d2, d3, d4, d5] }
  | _ => none }
def ShotFollowsWrongFalsely : Prop := shotFollowsRow.holds Tryz.pinned (OpenSpec.ofChange shotFollowsWrong)

/-- 'heraldlaw5.ShotParts': WHATEVER THE INPUT: true; the input reads as it did. -/
def shotPartsSpec : ChangeSpec := { name := "shotParts", fn := fun _ => fun
  | [d1, d2] => { results := [.lit (.bool true)], args := [d1, d2] }
  | _ => none }
def shotPartsRow : OpenClaim := { program := "ytheampfoedhipaagreatdoor", sum := "5c1d9840f8ee6c826345432c41e65ef510806823840abf4a04a1818ef1bb010c", func := "herald/heraldlaw5.ShotParts", spec := "shotParts", inPlace := ["maps.clone", "internal/bytealg.CountString", "internal/bytealg.IndexByteString", "internal/bytealg.IndexString", "internal/abi.NoEscape", "internal/bytealg.MakeNoZero", "slices.overlaps[herald/api.Seen]"], unfollowed := true, recurses := true, named := ["unicode/utf8.first", "unicode/utf8.acceptRanges", "internal/bytealg.MaxLen", "herald/place.named", "internal/strconv.uint64pow10", "math/bits.deBruijn32tab", "math/bits.deBruijn64tab"], apart := false, laid := [("math/bits.deBruijn32tab", laid_math_bits_deBruijn32tab), ("math/bits.deBruijn64tab", laid_math_bits_deBruijn64tab), ("internal/strconv.uint64pow10", laid_internal_strconv_uint64pow10), ("unicode/utf8.acceptRanges", laid_unicode_utf8_acceptRanges), ("herald/place.named", laid_herald_place_named), ("unicode/utf8.first", laid_unicode_utf8_first)] }
def ShotPartsSaid : Prop := shotPartsRow.holds Tryz.pinned (OpenSpec.ofChange shotPartsSpec)

/-- ITS FALSE NEIGHBOUR: 'it returns false'. Refute it at one input. -/
def shotPartsWrong : ChangeSpec := { name := "shotParts", fn := fun _ => fun
  | [d1, d2] => { results := [.lit (.bool false)], args := [d1, d2] }
  | _ => none }
def ShotPartsWrongFalsely : Prop := shotPartsRow.holds Tryz.pinned (OpenSpec.ofChange shotPartsWrong)

/-- 'heraldlaw5.ShotKeeps': WHATEVER THE INPUT: true; the input reads as it did. -/
def shotKeepsSpec : ChangeSpec := { name := "shotKeeps", fn := fun _ => fun
  | [d1, d2, d3, d4, d5] => { results := [.lit (.bool true)], args := [d1, d2, d3, d4, d5] }
  | _ => none }
def shotKeepsRow : OpenClaim := { program := "ytheampfoedhipaagreatdoor", sum := "5c1d9840f8ee6c826345432c41e65ef510806823840abf4a04a1818ef1bb010c", func := "herald/heraldlaw5.ShotKeeps", spec := "shotKeeps", inPlace := ["maps.clone", "internal/bytealg.CountString", "internal/bytealg.IndexByteString", "internal/bytealg.IndexString", "internal/abi.NoEscape", "internal/bytealg.MakeNoZero", "slices.overlaps[herald/api.Seen]"], unfollowed := true, recurses := true, named := ["unicode/utf8.first", "unicode/utf8.acceptRanges", "internal/bytealg.MaxLen", "herald/place.named", "internal/strconv.uint64pow10", "math/bits.deBruijn32tab", "math/bits.deBruijn64tab"], apart := false, laid := [("math/bits.deBruijn32tab", laid_math_bits_deBruijn32tab), ("math/bits.deBruijn64tab", laid_math_bits_deBruijn64tab), ("internal/strconv.uint64pow10", laid_internal_strconv_uint64pow10), ("unicode/utf8.acceptRanges", laid_unicode_utf8_acceptRanges), ("herald/place.named", laid_herald_place_named), ("unicode/utf8.first", laid_unicode_utf8_first)] }
def ShotKeepsSaid : Prop := shotKeepsRow.holds Tryz.pinned (OpenSpec.ofChange shotKeepsSpec)

/-- ITS FALSE NEIGHBOUR: 'it returns false'. Refute it at one input. -/
def shotKeepsWrong : ChangeSpec := { name := "shotKeeps", fn := fun _ => fun
  | [d1, d2, d3, d4, d5] => { results := [.lit (.bool false)], args := [d1, d2, d3, d4, d5] }
  | _ => none }
def ShotKeepsWrongFalsely : Prop := shotKeepsRow.holds Tryz.pinned (OpenSpec.ofChange shotKeepsWrong)

/-- 'heraldlaw8.StateNothing': WHATEVER THE INPUT: true; the input reads as it did. -/
def stateNothingSpec : ChangeSpec := { name := "stateNothing", fn := fun _ => fun
  | [] => { results := [.lit (.bool true)], args := [] }
  | _ => none }
def stateNothingRow : OpenClaim := { program := "ytheampfoedhipaagreatdoor", sum := "5c1d9840f8ee6c826345432c41e65ef510806823840abf4a04a1818ef1bb010c", func := "herald/heraldlaw8.StateNothing", spec := "stateNothing", inPlace := ["maps.clone", "internal/bytealg.CountString", "internal/bytealg.IndexByteString", "internal/bytealg.IndexString", "internal/abi.NoEscape", "internal/bytealg.MakeNoZero"], unfollowed := true, recurses := true, named := ["unicode/utf8.first", "unicode/utf8.acceptRanges", "internal/bytealg.MaxLen", "herald/place.named", "internal/strconv.uint64pow10", "math/bits.deBruijn32tab", "math/bits.deBruijn64tab"], apart := false, laid := [("math/bits.deBruijn32tab", laid_math_bits_deBruijn32tab), ("math/bits.deBruijn64tab", laid_math_bits_deBruijn64tab), ("internal/strconv.uint64pow10", laid_internal_strconv_uint64pow10), ("unicode/utf8.acceptRanges", laid_unicode_utf8_acceptRanges), ("herald/place.named", laid_herald_place_named), ("unicode/utf8.first", laid_unicode_utf8_first)] }
def StateNothingSaid : Prop := stateNothingRow.holds Tryz.pinned (OpenSpec.ofChange stateNothingSpec)

/-- ITS FALSE NEIGHBOUR: 'it returns false'. Refute it at one input. -/
def stateNothingWrong : ChangeSpec := { name := "stateNothing", fn := fun _ => fun
  | [] => { results := [.lit (.bool false)], args := [] }
  | _ => none }
def StateNothingWrongFalsely : Prop := stateNothingRow.holds Tryz.pinned (OpenSpec.ofChange stateNothingWrong)

/-- 'heraldlaw8.StateTells': WHATEVER THE INPUT: true; the input reads as it did. -/
def stateTellsSpec : ChangeSpec := { name := "stateTells", fn := fun _ => fun
  | [d1, d2, d3] => { results := [.lit (.bool true)], args := [d1, d2, d3] }
  | _ => none }
def stateTellsRow : OpenClaim := { program := "ytheampfoedhipaagreatdoor", sum := "5c1d9840f8ee6c826345432c41e65ef510806823840abf4a04a1818ef1bb010c", func := "herald/heraldlaw8.StateTells", spec := "stateTells", inPlace := ["maps.clone", "internal/bytealg.CountString", "internal/bytealg.IndexByteString", "internal/bytealg.IndexString", "internal/abi.NoEscape", "internal/bytealg.MakeNoZero", "slices.overlaps[herald/api.Seen]"], unfollowed := true, recurses := true, named := ["unicode/utf8.first", "unicode/utf8.acceptRanges", "internal/bytealg.MaxLen", "herald/place.named", "internal/strconv.uint64pow10", "math/bits.deBruijn32tab", "math/bits.deBruijn64tab"], apart := false, laid := [("math/bits.deBruijn32tab", laid_math_bits_deBruijn32tab), ("math/bits.deBruijn64tab", laid_math_bits_deBruijn64tab), ("internal/strconv.uint64pow10", laid_internal_strconv_uint64pow10), ("unicode/utf8.acceptRanges", laid_unicode_utf8_acceptRanges), ("herald/place.named", laid_herald_place_named), ("unicode/utf8.first", laid_unicode_utf8_first)] }
def StateTellsSaid : Prop := stateTellsRow.holds Tryz.pinned (OpenSpec.ofChange stateTellsSpec)

/-- ITS FALSE NEIGHBOUR: 'it returns false'. Refute it at one input. -/
def stateTellsWrong : ChangeSpec := { name := "stateTells", fn := fun _ => fun
  | [d1, d2, d3] => { results := [.lit (.bool false)], args := [d1, d2, d3] }
  | _ => none }
def StateTellsWrongFalsely : Prop := stateTellsRow.holds Tryz.pinned (OpenSpec.ofChange stateTellsWrong)

/-- 'heraldlaw8.StateBrief': WHATEVER THE INPUT: true; the input reads as it did. -/
def stateBriefSpec : ChangeSpec := { name := "stateBrief", fn := fun _ => fun
  | [d] => { results := [.lit (.bool true)], args := [d] }
  | _ => none }
def stateBriefRow : OpenClaim := { program := "ytheampfoedhipaagreatdoor", sum := "5c1d9840f8ee6c826345432c41e65ef510806823840abf4a04a1818ef1bb010c", func := "herald/heraldlaw8.StateBrief", spec := "stateBrief", inPlace := ["maps.clone", "internal/bytealg.CountString", "internal/bytealg.IndexByteString", "internal/bytealg.IndexString", "internal/abi.NoEscape", "internal/bytealg.MakeNoZero"], unfollowed := true, recurses := true, named := ["unicode/utf8.first", "unicode/utf8.acceptRanges", "internal/bytealg.MaxLen", "herald/place.named", "internal/strconv.uint64pow10", "math/bits.deBruijn32tab", "math/bits.deBruijn64tab"], apart := false, laid := [("math/bits.deBruijn32tab", laid_math_bits_deBruijn32tab), ("math/bits.deBruijn64tab", laid_math_bits_deBruijn64tab), ("internal/strconv.uint64pow10", laid_internal_strconv_uint64pow10), ("unicode/utf8.acceptRanges", laid_unicode_utf8_acceptRanges), ("herald/place.named", laid_herald_place_named), ("unicode/utf8.first", laid_unicode_utf8_first)] }
def StateBriefSaid : Prop := stateBriefRow.holds Tryz.pinned (OpenSpec.ofChange stateBriefSpec)

/-- ITS FALSE NEIGHBOUR: 'it returns false'. Refute it at one input. -/
def stateBriefWrong : ChangeSpec := { name := "stateBrief", fn := fun _ => fun
  | [d] => { results := [.lit (.bool false)], args := [d] }
  | _ => none }
def StateBriefWrongFalsely : Prop := stateBriefRow.holds Tryz.pinned (OpenSpec.ofChange stateBriefWrong)

/-- 'heraldlaw8.StateKeeps': WHATEVER THE INPUT: true; the input reads as it did. -/
def stateKeepsSpec : ChangeSpec := { name := "stateKeeps", fn := fun _ => fun
  | [d] => { results := [.lit (.bool true)], args := [d] }
  | _ => none }
def stateKeepsRow : OpenClaim := { program := "ytheampfoedhipaagreatdoor", sum := "5c1d9840f8ee6c826345432c41e65ef510806823840abf4a04a1818ef1bb010c", func := "herald/heraldlaw8.StateKeeps", spec := "stateKeeps", inPlace := ["maps.clone", "internal/bytealg.CountString", "internal/bytealg.IndexByteString", "internal/bytealg.IndexString", "internal/abi.NoEscape", "internal/bytealg.MakeNoZero"], unfollowed := true, recurses := true, named := ["unicode/utf8.first", "unicode/utf8.acceptRanges", "internal/bytealg.MaxLen", "herald/place.named", "internal/strconv.uint64pow10", "math/bits.deBruijn32tab", "math/bits.deBruijn64tab"], apart := false, laid := [("math/bits.deBruijn32tab", laid_math_bits_deBruijn32tab), ("math/bits.deBruijn64tab", laid_math_bits_deBruijn64tab), ("internal/strconv.uint64pow10", laid_internal_strconv_uint64pow10), ("unicode/utf8.acceptRanges", laid_unicode_utf8_acceptRanges), ("herald/place.named", laid_herald_place_named), ("unicode/utf8.first", laid_unicode_utf8_first)] }
def StateKeepsSaid : Prop := stateKeepsRow.holds Tryz.pinned (OpenSpec.ofChange stateKeepsSpec)

/-- ITS FALSE NEIGHBOUR: 'it returns false'. Refute it at one input. -/
def stateKeepsWrong : ChangeSpec := { name := "stateKeeps", fn := fun _ => fun
  | [d] => { results := [.lit (.bool false)], args := [d] }
  | _ => none }
def StateKeepsWrongFalsely : Prop := stateKeepsRow.holds Tryz.pinned (OpenSpec.ofChange stateKeepsWrong)

/-- 'heraldlaw8.StateThaws': WHATEVER THE INPUT: true; the input reads as it did. -/
def stateThawsSpec : ChangeSpec := { name := "stateThaws", fn := fun _ => fun
  | [d1, d2, d3] => { results := [.lit (.bool true)], args := [d1, d2, d3] }
  | _ => none }
def stateThawsRow : OpenClaim := { program := "ytheampfoedhipaagreatdoor", sum := "5c1d9840f8ee6c826345432c41e65ef510806823840abf4a04a1818ef1bb010c", func := "herald/heraldlaw8.StateThaws", spec := "stateThaws", inPlace := ["internal/bytealg.CountString", "internal/bytealg.IndexByteString", "internal/bytealg.IndexString", "internal/abi.NoEscape", "internal/bytealg.MakeNoZero", "maps.clone"], unfollowed := true, recurses := true, named := ["unicode/utf8.first", "unicode/utf8.acceptRanges", "internal/bytealg.MaxLen", "herald/place.named", "internal/strconv.uint64pow10", "math/bits.deBruijn32tab", "math/bits.deBruijn64tab"], apart := false, laid := [("math/bits.deBruijn32tab", laid_math_bits_deBruijn32tab), ("math/bits.deBruijn64tab", laid_math_bits_deBruijn64tab), ("internal/strconv.uint64pow10", laid_internal_strconv_uint64pow10), ("unicode/utf8.acceptRanges", laid_unicode_utf8_acceptRanges), ("herald/place.named", laid_herald_place_named), ("unicode/utf8.first", laid_unicode_utf8_first)] }
def StateThawsSaid : Prop := stateThawsRow.holds Tryz.pinned (OpenSpec.ofChange stateThawsSpec)

/-- ITS FALSE NEIGHBOUR: 'it returns false'. Refute it at one input. -/
def stateThawsWrong : ChangeSpec := { name := "stateThaws", fn := fun _ => fun
  | [d1, d2, d3] => { results := [.lit (.bool false)], args := [d1, d2, d3] }
  | _ => none }
def StateThawsWrongFalsely : Prop := stateThawsRow.holds Tryz.pinned (OpenSpec.ofChange stateThawsWrong)

/- THE SECOND FORM. 'bulk': how many values and letters a reading holds, each counted each time it is reached (what is shared counts as often as it is met; a slice's spare places count too). A statement '..UptoSaid' is the law's where the arguments, and the package variables that the reading takes, are together of bulk at most 1048576: NARROWER than '..Said'. Prove '..Said' where nothing that the law and all that it calls make is longer than what came in: it says more and counts as full. Else prove '..UptoSaid'. A law counts once. -/
mutual
def uptoBulk {H : Type} : DataW H → Nat
  | .lit (.string bytes) => bytes.length + 1
  | .lit _ => 1
  | .nil => 1
  | .ptr d => uptoBulk d + 1
  | .slice elems spare => uptoBulkAll elems + uptoBulkAll spare + 1
  | .agg parts => uptoBulkAll parts + 1
  | .iface _ d => uptoBulk d + 1
  | .map entries => uptoBulkEntries entries + 1
  | .held _ => 1
def uptoBulkAll {H : Type} : List (DataW H) → Nat
  | [] => 0
  | d :: r => uptoBulk d + uptoBulkAll r
def uptoBulkEntries {H : Type} : List (Lit × DataW H) → Nat
  | [] => 0
  | x :: r => uptoBulkEntry x + uptoBulkEntries r
def uptoBulkEntry {H : Type} : Lit × DataW H → Nat
  | (.string bytes, d) => bytes.length + uptoBulk d + 1
  | (_, d) => uptoBulk d + 1
 end
def uptoSmall : (H : Type) → List (DataW H) → Bool := fun _ ds => decide (uptoBulkAll ds ≤ 1048576)
def OpenSpec.upto (s : _root_.Go.ChangeSpec) : _root_.Go.OpenSpec := { _root_.Go.OpenSpec.ofChange s with cond := some uptoSmall }

/-- 'heraldlaw8.StateOnce', WHERE WHAT IT READS IS OF BULK AT MOST 1048576: true; the input reads as it did. -/
def stateOnceUptoRow : OpenClaim := { program := "ytheampfoedhipaagreatdoor", sum := "5c1d9840f8ee6c826345432c41e65ef510806823840abf4a04a1818ef1bb010c", func := "herald/heraldlaw8.StateOnce", spec := "stateOnce", inPlace := ["maps.clone", "internal/bytealg.CountString", "internal/bytealg.IndexByteString", "internal/bytealg.IndexString", "internal/abi.NoEscape", "internal/bytealg.MakeNoZero"], unfollowed := true, recurses := true, named := ["unicode/utf8.first", "unicode/utf8.acceptRanges", "internal/bytealg.MaxLen", "herald/place.named", "internal/strconv.uint64pow10", "math/bits.deBruijn32tab", "math/bits.deBruijn64tab"], apart := false, laid := [("math/bits.deBruijn32tab", laid_math_bits_deBruijn32tab), ("math/bits.deBruijn64tab", laid_math_bits_deBruijn64tab), ("internal/strconv.uint64pow10", laid_internal_strconv_uint64pow10), ("unicode/utf8.acceptRanges", laid_unicode_utf8_acceptRanges), ("herald/place.named", laid_herald_place_named), ("unicode/utf8.first", laid_unicode_utf8_first)], narrowed := true }
def StateOnceUptoSaid : Prop := stateOnceUptoRow.holds Tryz.pinned (OpenSpec.upto stateOnceSpec)

/-- 'heraldlaw5.ShotBridges', WHERE WHAT IT READS IS OF BULK AT MOST 1048576: true; the input reads as it did. -/
def shotBridgesUptoRow : OpenClaim := { program := "ytheampfoedhipaagreatdoor", sum := "5c1d9840f8ee6c826345432c41e65ef510806823840abf4a04a1818ef1bb010c", func := "herald/heraldlaw5.ShotBridges", spec := "shotBridges", inPlace := ["maps.clone", "internal/bytealg.CountString", "internal/bytealg.IndexByteString", "internal/bytealg.IndexString", "internal/abi.NoEscape", "internal/bytealg.MakeNoZero", "slices.overlaps[herald/api.Seen]"], unfollowed := true, recurses := true, named := ["unicode/utf8.first", "unicode/utf8.acceptRanges", "internal/bytealg.MaxLen", "herald/place.named", "internal/strconv.uint64pow10", "math/bits.deBruijn32tab", "math/bits.deBruijn64tab"], apart := false, laid := [("math/bits.deBruijn32tab", laid_math_bits_deBruijn32tab), ("math/bits.deBruijn64tab", laid_math_bits_deBruijn64tab), ("internal/strconv.uint64pow10", laid_internal_strconv_uint64pow10), ("unicode/utf8.acceptRanges", laid_unicode_utf8_acceptRanges), ("herald/place.named", laid_herald_place_named), ("unicode/utf8.first", laid_unicode_utf8_first)], narrowed := true }
def ShotBridgesUptoSaid : Prop := shotBridgesUptoRow.holds Tryz.pinned (OpenSpec.upto shotBridgesSpec)

/-- 'heraldlaw5.ShotReturns', WHERE WHAT IT READS IS OF BULK AT MOST 1048576: true; the input reads as it did. -/
def shotReturnsUptoRow : OpenClaim := { program := "ytheampfoedhipaagreatdoor", sum := "5c1d9840f8ee6c826345432c41e65ef510806823840abf4a04a1818ef1bb010c", func := "herald/heraldlaw5.ShotReturns", spec := "shotReturns", inPlace := ["maps.clone", "internal/bytealg.CountString", "internal/bytealg.IndexByteString", "internal/bytealg.IndexString", "internal/abi.NoEscape", "internal/bytealg.MakeNoZero", "slices.overlaps[herald/api.Seen]"], unfollowed := true, recurses := true, named := ["unicode/utf8.first", "unicode/utf8.acceptRanges", "internal/bytealg.MaxLen", "herald/place.named", "internal/strconv.uint64pow10", "math/bits.deBruijn32tab", "math/bits.deBruijn64tab"], apart := false, laid := [("math/bits.deBruijn32tab", laid_math_bits_deBruijn32tab), ("math/bits.deBruijn64tab", laid_math_bits_deBruijn64tab), ("internal/strconv.uint64pow10", laid_internal_strconv_uint64pow10), ("unicode/utf8.acceptRanges", laid_unicode_utf8_acceptRanges), ("herald/place.named", laid_herald_place_named), ("unicode/utf8.first", laid_unicode_utf8_first)], narrowed := true }
def ShotReturnsUptoSaid : Prop := shotReturnsUptoRow.holds Tryz.pinned (OpenSpec.upto shotReturnsSpec)

/-- 'heraldlaw8.StatePlays', WHERE WHAT IT READS IS OF BULK AT MOST 1048576: true; the input reads as it did. -/
def statePlaysUptoRow : OpenClaim := { program := "ytheampfoedhipaagreatdoor", sum := "5c1d9840f8ee6c826345432c41e65ef510806823840abf4a04a1818ef1bb010c", func := "herald/heraldlaw8.StatePlays", spec := "statePlays", inPlace := ["maps.clone", "internal/bytealg.CountString", "internal/bytealg.IndexByteString", "internal/bytealg.IndexString", "internal/abi.NoEscape", "internal/bytealg.MakeNoZero"], unfollowed := true, recurses := true, named := ["unicode/utf8.first", "unicode/utf8.acceptRanges", "internal/bytealg.MaxLen", "herald/place.named", "internal/strconv.uint64pow10", "math/bits.deBruijn32tab", "math/bits.deBruijn64tab"], apart := false, laid := [("math/bits.deBruijn32tab", laid_math_bits_deBruijn32tab), ("math/bits.deBruijn64tab", laid_math_bits_deBruijn64tab), ("internal/strconv.uint64pow10", laid_internal_strconv_uint64pow10), ("unicode/utf8.acceptRanges", laid_unicode_utf8_acceptRanges), ("herald/place.named", laid_herald_place_named), ("unicode/utf8.first", laid_unicode_utf8_first)], narrowed := true }
def StatePlaysUptoSaid : Prop := statePlaysUptoRow.holds Tryz.pinned (OpenSpec.upto statePlaysSpec)

/-- 'heraldlaw5.ShotFollows', WHERE WHAT IT READS IS OF BULK AT MOST 1048576: true; the input reads as it did. -/
def shotFollowsUptoRow : OpenClaim := { program := "ytheampfoedhipaagreatdoor", sum := "5c1d9840f8ee6c826345432c41e65ef510806823840abf4a04a1818ef1bb010c", func := "herald/heraldlaw5.ShotFollows", spec := "shotFollows", inPlace := ["maps.clone", "internal/bytealg.CountString", "internal/bytealg.IndexByteString", "internal/bytealg.IndexString", "internal/abi.NoEscape", "internal/bytealg.MakeNoZero", "slices.overlaps[herald/api.Seen]"], unfollowed := true, recurses := true, named := ["unicode/utf8.first", "unicode/utf8.acceptRanges", "internal/bytealg.MaxLen", "herald/place.named", "internal/strconv.uint64pow10", "math/bits.deBruijn32tab", "math/bits.deBruijn64tab"], apart := false, laid := [("math/bits.deBruijn32tab", laid_math_bits_deBruijn32tab), ("math/bits.deBruijn64tab", laid_math_bits_deBruijn64tab), ("internal/strconv.uint64pow10", laid_internal_strconv_uint64pow10), ("unicode/utf8.acceptRanges", laid_unicode_utf8_acceptRanges), ("herald/place.named", laid_herald_place_named), ("unicode/utf8.first", laid_unicode_utf8_first)], narrowed := true }
def ShotFollowsUptoSaid : Prop := shotFollowsUptoRow.holds Tryz.pinned (OpenSpec.upto shotFollowsSpec)

/-- 'heraldlaw5.ShotParts', WHERE WHAT IT READS IS OF BULK AT MOST 1048576: true; the input reads as it did. -/
def shotPartsUptoRow : OpenClaim := { program := "ytheampfoedhipaagreatdoor", sum := "5c1d9840f8ee6c826345432c41e65ef510806823840abf4a04a1818ef1bb010c", func := "herald/heraldlaw5.ShotParts", spec := "shotParts", inPlace := ["maps.clone", "internal/bytealg.CountString", "internal/bytealg.IndexByteString", "internal/bytealg.IndexString", "internal/abi.NoEscape", "internal/bytealg.MakeNoZero", "slices.overlaps[herald/api.Seen]"], unfollowed := true, recurses := true, named := ["unicode/utf8.first", "unicode/utf8.acceptRanges", "internal/bytealg.MaxLen", "herald/place.named", "internal/strconv.uint64pow10", "math/bits.deBruijn32tab", "math/bits.deBruijn64tab"], apart := false, laid := [("math/bits.deBruijn32tab", laid_math_bits_deBruijn32tab), ("math/bits.deBruijn64tab", laid_math_bits_deBruijn64tab), ("internal/strconv.uint64pow10", laid_internal_strconv_uint64pow10), ("unicode/utf8.acceptRanges", laid_unicode_utf8_acceptRanges), ("herald/place.named", laid_herald_place_named), ("unicode/utf8.first", laid_unicode_utf8_first)], narrowed := true }
def ShotPartsUptoSaid : Prop := shotPartsUptoRow.holds Tryz.pinned (OpenSpec.upto shotPartsSpec)

/-- 'heraldlaw5.ShotKeeps', WHERE WHAT IT READS IS OF BULK AT MOST 1048576: true; the input reads as it did. -/
def shotKeepsUptoRow : OpenClaim := { program := "ytheampfoedhipaagreatdoor", sum := "5c1d9840f8ee6c826345432c41e65ef510806823840abf4a04a1818ef1bb010c", func := "herald/heraldlaw5.ShotKeeps", spec := "shotKeeps", inPlace := ["maps.clone", "internal/bytealg.CountString", "internal/bytealg.IndexByteString", "internal/bytealg.IndexString", "internal/abi.NoEscape", "internal/bytealg.MakeNoZero", "slices.overlaps[herald/api.Seen]"], unfollowed := true, recurses := true, named := ["unicode/utf8.first", "unicode/utf8.acceptRanges", "internal/bytealg.MaxLen", "herald/place.named", "internal/strconv.uint64pow10", "math/bits.deBruijn32tab", "math/bits.deBruijn64tab"], apart := false, laid := [("math/bits.deBruijn32tab", laid_math_bits_deBruijn32tab), ("math/bits.deBruijn64tab", laid_math_bits_deBruijn64tab), ("internal/strconv.uint64pow10", laid_internal_strconv_uint64pow10), ("unicode/utf8.acceptRanges", laid_unicode_utf8_acceptRanges), ("herald/place.named", laid_herald_place_named), ("unicode/utf8.first", laid_unicode_utf8_first)], narrowed := true }
def ShotKeepsUptoSaid : Prop := shotKeepsUptoRow.holds Tryz.pinned (OpenSpec.upto shotKeepsSpec)

/-- 'heraldlaw8.StateNothing', WHERE WHAT IT READS IS OF BULK AT MOST 1048576: true; the input reads as it did. -/
def stateNothingUptoRow : OpenClaim := { program := "ytheampfoedhipaagreatdoor", sum := "5c1d9840f8ee6c826345432c41e65ef510806823840abf4a04a1818ef1bb010c", func := "herald/heraldlaw8.StateNothing", spec := "stateNothing", inPlace := ["maps.clone", "internal/bytealg.CountString", "internal/bytealg.IndexByteString", "internal/bytealg.IndexString", "internal/abi.NoEscape", "internal/bytealg.MakeNoZero"], unfollowed := true, recurses := true, named := ["unicode/utf8.first", "unicode/utf8.acceptRanges", "internal/bytealg.MaxLen", "herald/place.named", "internal/strconv.uint64pow10", "math/bits.deBruijn32tab", "math/bits.deBruijn64tab"], apart := false, laid := [("math/bits.deBruijn32tab", laid_math_bits_deBruijn32tab), ("math/bits.deBruijn64tab", laid_math_bits_deBruijn64tab), ("internal/strconv.uint64pow10", laid_internal_strconv_uint64pow10), ("unicode/utf8.acceptRanges", laid_unicode_utf8_acceptRanges), ("herald/place.named", laid_herald_place_named), ("unicode/utf8.first", laid_unicode_utf8_first)], narrowed := true }
def StateNothingUptoSaid : Prop := stateNothingUptoRow.holds Tryz.pinned (OpenSpec.upto stateNothingSpec)

/-- 'heraldlaw8.StateTells', WHERE WHAT IT READS IS OF BULK AT MOST 1048576: true; the input reads as it did. -/
def stateTellsUptoRow : OpenClaim := { program := "ytheampfoedhipaagreatdoor", sum := "5c1d9840f8ee6c826345432c41e65ef510806823840abf4a04a1818ef1bb010c", func := "herald/heraldlaw8.StateTells", spec := "stateTells", inPlace := ["maps.clone", "internal/bytealg.CountString", "internal/bytealg.IndexByteString", "internal/bytealg.IndexString", "internal/abi.NoEscape", "internal/bytealg.MakeNoZero", "slices.overlaps[herald/api.Seen]"], unfollowed := true, recurses := true, named := ["unicode/utf8.first", "unicode/utf8.acceptRanges", "internal/bytealg.MaxLen", "herald/place.named", "internal/strconv.uint64pow10", "math/bits.deBruijn32tab", "math/bits.deBruijn64tab"], apart := false, laid := [("math/bits.deBruijn32tab", laid_math_bits_deBruijn32tab), ("math/bits.deBruijn64tab", laid_math_bits_deBruijn64tab), ("internal/strconv.uint64pow10", laid_internal_strconv_uint64pow10), ("unicode/utf8.acceptRanges", laid_unicode_utf8_acceptRanges), ("herald/place.named", laid_herald_place_named), ("unicode/utf8.first", laid_unicode_utf8_first)], narrowed := true }
def StateTellsUptoSaid : Prop := stateTellsUptoRow.holds Tryz.pinned (OpenSpec.upto stateTellsSpec)

/-- 'heraldlaw8.StateBrief', WHERE WHAT IT READS IS OF BULK AT MOST 1048576: true; the input reads as it did. -/
def stateBriefUptoRow : OpenClaim := { program := "ytheampfoedhipaagreatdoor", sum := "5c1d9840f8ee6c826345432c41e65ef510806823840abf4a04a1818ef1bb010c", func := "herald/heraldlaw8.StateBrief", spec := "stateBrief", inPlace := ["maps.clone", "internal/bytealg.CountString", "internal/bytealg.IndexByteString", "internal/bytealg.IndexString", "internal/abi.NoEscape", "internal/bytealg.MakeNoZero"], unfollowed := true, recurses := true, named := ["unicode/utf8.first", "unicode/utf8.acceptRanges", "internal/bytealg.MaxLen", "herald/place.named", "internal/strconv.uint64pow10", "math/bits.deBruijn32tab", "math/bits.deBruijn64tab"], apart := false, laid := [("math/bits.deBruijn32tab", laid_math_bits_deBruijn32tab), ("math/bits.deBruijn64tab", laid_math_bits_deBruijn64tab), ("internal/strconv.uint64pow10", laid_internal_strconv_uint64pow10), ("unicode/utf8.acceptRanges", laid_unicode_utf8_acceptRanges), ("herald/place.named", laid_herald_place_named), ("unicode/utf8.first", laid_unicode_utf8_first)], narrowed := true }
def StateBriefUptoSaid : Prop := stateBriefUptoRow.holds Tryz.pinned (OpenSpec.upto stateBriefSpec)

/-- 'heraldlaw8.StateKeeps', WHERE WHAT IT READS IS OF BULK AT MOST 1048576: true; the input reads as it did. -/
def stateKeepsUptoRow : OpenClaim := { program := "ytheampfoedhipaagreatdoor", sum := "5c1d9840f8ee6c826345432c41e65ef510806823840abf4a04a1818ef1bb010c", func := "herald/heraldlaw8.StateKeeps", spec := "stateKeeps", inPlace := ["maps.clone", "internal/bytealg.CountString", "internal/bytealg.IndexByteString", "internal/bytealg.IndexString", "internal/abi.NoEscape", "internal/bytealg.MakeNoZero"], unfollowed := true, recurses := true, named := ["unicode/utf8.first", "unicode/utf8.acceptRanges", "internal/bytealg.MaxLen", "herald/place.named", "internal/strconv.uint64pow10", "math/bits.deBruijn32tab", "math/bits.deBruijn64tab"], apart := false, laid := [("math/bits.deBruijn32tab", laid_math_bits_deBruijn32tab), ("math/bits.deBruijn64tab", laid_math_bits_deBruijn64tab), ("internal/strconv.uint64pow10", laid_internal_strconv_uint64pow10), ("unicode/utf8.acceptRanges", laid_unicode_utf8_acceptRanges), ("herald/place.named", laid_herald_place_named), ("unicode/utf8.first", laid_unicode_utf8_first)], narrowed := true }
def StateKeepsUptoSaid : Prop := stateKeepsUptoRow.holds Tryz.pinned (OpenSpec.upto stateKeepsSpec)

/-- 'heraldlaw8.StateThaws', WHERE WHAT IT READS IS OF BULK AT MOST 1048576: true; the input reads as it did. -/
def stateThawsUptoRow : OpenClaim := { program := "ytheampfoedhipaagreatdoor", sum := "5c1d9840f8ee6c826345432c41e65ef510806823840abf4a04a1818ef1bb010c", func := "herald/heraldlaw8.StateThaws", spec := "stateThaws", inPlace := ["internal/bytealg.CountString", "internal/bytealg.IndexByteString", "internal/bytealg.IndexString", "internal/abi.NoEscape", "internal/bytealg.MakeNoZero", "maps.clone"], unfollowed := true, recurses := true, named := ["unicode/utf8.first", "unicode/utf8.acceptRanges", "internal/bytealg.MaxLen", "herald/place.named", "internal/strconv.uint64pow10", "math/bits.deBruijn32tab", "math/bits.deBruijn64tab"], apart := false, laid := [("math/bits.deBruijn32tab", laid_math_bits_deBruijn32tab), ("math/bits.deBruijn64tab", laid_math_bits_deBruijn64tab), ("internal/strconv.uint64pow10", laid_internal_strconv_uint64pow10), ("unicode/utf8.acceptRanges", laid_unicode_utf8_acceptRanges), ("herald/place.named", laid_herald_place_named), ("unicode/utf8.first", laid_unicode_utf8_first)], narrowed := true }
def StateThawsUptoSaid : Prop := stateThawsUptoRow.holds Tryz.pinned (OpenSpec.upto stateThawsSpec)

end Rows
end Go.Proofs.YtheampfoedhipaaGreatDoor
