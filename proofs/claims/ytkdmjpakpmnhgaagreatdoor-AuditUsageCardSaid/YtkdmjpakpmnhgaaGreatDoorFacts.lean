/- Closed facts on the translation as a whole that every row of this seat asks: each once. -/
import Derived.Test.YtkdmjpakpmnhgaaGreatDoorRows
import Derived.JoinedOf
import Derived.KernelRfl
import GoSem.ClaimSeven
namespace Go.Proofs.YtkdmjpakpmnhgaaGreatDoor
set_option linter.all false
open Go

theorem band {a b : Bool} (ha : a = true) (hb : b = true) : (a && b) = true := by rw [ha, hb]; rfl
theorem fLaidOut : laidOutB Tryz.prog = true := by kernel_rfl
theorem fMapsRowed : mapsRowed Tryz.prog = true := by kernel_rfl
theorem fStops : Tryz.prog.stops = [] := by kernel_rfl
theorem fStopKnobs : Tryz.prog.stopKnobs = [] := by kernel_rfl
theorem fPlainKeys : Tryz.prog.plainKeys = true := by kernel_rfl
theorem fStopsHeard : Tryz.prog.stopsHeard = true := by kernel_rfl
theorem fMay : Tryz.prog.mayEnter = true := by kernel_rfl
theorem fLifts : Tryz.prog.liftsFinal = false := by kernel_rfl
theorem fLooks : Tryz.prog.looks [] = false := by kernel_rfl
theorem fMake : Tryz.prog.make = some .cut := by kernel_rfl
theorem fMain : Tryz.prog.mainIs = some (true, "7cd38647d6119b84cf0346d90ec9542c7a0884f139cf1c653ad65aff13a4508d".toList) := by kernel_rfl
end Go.Proofs.YtkdmjpakpmnhgaaGreatDoor
