/- Closed facts on the translation as a whole that every row of this seat asks: each once. -/
import Derived.Test.YtllipidegjpidaaGreatDoorRows
import Derived.JoinedOf
import Derived.KernelRfl
import GoSem.ClaimSeven
namespace Go.Proofs.YtllipidegjpidaaGreatDoor
set_option linter.all false
open Go

theorem band {a b : Bool} (ha : a = true) (hb : b = true) : (a && b) = true := by rw [ha, hb]; rfl
theorem fLaidOut : laidOutB Tryz.prog = true := by kernel_rfl
theorem fMapsRowed : mapsRowed Tryz.prog = true := by kernel_rfl
theorem fStops : Tryz.prog.stops = [] := by kernel_rfl
theorem fStopKnobs : Tryz.prog.stopKnobs = [] := by kernel_rfl
theorem fPlainKeys : Tryz.prog.plainKeys = false := by kernel_rfl
theorem fStopsHeard : Tryz.prog.stopsHeard = true := by kernel_rfl
theorem fMay : Tryz.prog.mayEnter = true := by kernel_rfl
theorem fLifts : Tryz.prog.liftsFinal = false := by kernel_rfl
theorem fLooks : Tryz.prog.looks [] = true := by kernel_rfl
theorem fMake : Tryz.prog.make = some .cut := by kernel_rfl
theorem fMain : Tryz.prog.mainIs = some (true, "5de4b364cac5c2f92a96330f2200a3d3b05f47ba23dbaa3b5098531cab41cb4f".toList) := by kernel_rfl
end Go.Proofs.YtllipidegjpidaaGreatDoor
