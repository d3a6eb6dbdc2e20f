/- Closed facts on the translation as a whole that every row of this seat asks: each once. -/
import Derived.Test.YtcegipkhmibdeaaDoorRows
import Derived.JoinedOf
import Derived.KernelRfl
import GoSem.ClaimSeven
namespace Go.Proofs.YtcegipkhmibdeaaDoor
set_option linter.all false
open Go

theorem band {a b : Bool} (ha : a = true) (hb : b = true) : (a && b) = true := by rw [ha, hb]; rfl
theorem fLaidOut : laidOutB Tryd.prog = true := by kernel_rfl
theorem fMapsRowed : mapsRowed Tryd.prog = true := by kernel_rfl
theorem fStops : Tryd.prog.stops = [] := by kernel_rfl
theorem fStopKnobs : Tryd.prog.stopKnobs = [] := by kernel_rfl
theorem fPlainKeys : Tryd.prog.plainKeys = false := by kernel_rfl
theorem fStopsHeard : Tryd.prog.stopsHeard = true := by kernel_rfl
theorem fMay : Tryd.prog.mayEnter = true := by kernel_rfl
theorem fLifts : Tryd.prog.liftsFinal = false := by kernel_rfl
theorem fLooks : Tryd.prog.looks [] = true := by kernel_rfl
theorem fMake : Tryd.prog.make = some .cut := by kernel_rfl
theorem fMain : Tryd.prog.mainIs = some (true, "25fb52c7a62141da201c992de07690019f706bfb1a8ff032f6eb55d89aef45fd".toList) := by kernel_rfl
end Go.Proofs.YtcegipkhmibdeaaDoor
