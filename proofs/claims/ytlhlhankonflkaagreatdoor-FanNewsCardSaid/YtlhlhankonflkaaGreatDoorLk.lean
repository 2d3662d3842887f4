/- The numbers under which this dump holds sync.Mutex's functions and types. -/
import Derived.Test.YtlhlhankonflkaaGreatDoorProg
import Derived.Conc.MuLone
import Derived.KernelRfl
namespace Go.Proofs.YtlhlhankonflkaaGreatDoor
open Go
abbrev muL : Go.Conc.Locks.MuLink := { lock := 25, unlock := 26, ilock := 51, iunlock := 52, lockSlow := 96, unlockSlow := 98, disable := 54, enable := 55, acquire := 70, relMerge := 53, cas32 := 95, add32 := 97, tMutex := 44, tIMutex := 42, tPMutex := 121, tPIMutex := 181, tPI32 := 183, tUP := 124, tNoCopy := 39, tU32 := 40 }
theorem muLib : Go.Conc.Locks.MuLib Tryz.prog muL :=
  ⟨Tryz.func25, Tryz.func26, Tryz.func51, Tryz.func52, Tryz.func54, Tryz.func55, Tryz.func70, Tryz.func53, Tryz.func95, Tryz.func97,
   Tryz.underlying42, Tryz.runUnderlying42, Tryz.sizeOf42, Tryz.isAgg42, Tryz.zeroValue42,
   Tryz.underlying44, Tryz.runUnderlying44, Tryz.sizeOf44, Tryz.isAgg44, Tryz.zeroValue44,
   Tryz.underlying121, Tryz.runUnderlying121, Tryz.sizeOf121, Tryz.isAgg121, Tryz.zeroValue121,
   Tryz.underlying181, Tryz.runUnderlying181, Tryz.sizeOf181, Tryz.isAgg181, Tryz.zeroValue181,
   Tryz.underlying183, Tryz.runUnderlying183, Tryz.sizeOf183, Tryz.isAgg183, Tryz.zeroValue183,
   Tryz.underlying124, Tryz.runUnderlying124, Tryz.sizeOf124, Tryz.isAgg124, Tryz.zeroValue124,
   Tryz.underlying39, Tryz.runUnderlying39, Tryz.sizeOf39, Tryz.isAgg39, Tryz.zeroValue39,
   Tryz.underlying21, Tryz.runUnderlying21, Tryz.sizeOf21, Tryz.isAgg21, Tryz.zeroValue21, (by kernel_rfl)⟩
end Go.Proofs.YtlhlhankonflkaaGreatDoor
