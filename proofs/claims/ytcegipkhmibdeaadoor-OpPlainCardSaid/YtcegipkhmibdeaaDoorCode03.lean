/- hammocklaw03.code. -/
import Derived.Test.YtcegipkhmibdeaaDoorFaultAs
import Derived.Test.YtcegipkhmibdeaaDoorOpCheck
import Derived.Test.YtcegipkhmibdeaaDoorMakes
import Derived.Test.YtcegipkhmibdeaaDoorOpSame2
namespace Go.Proofs.YtcegipkhmibdeaaDoor
set_option linter.all false
open Go.RowKit

set_option maxRecDepth 100000 in
theorem code03_any (e : Option EV) (w : World) (hE : ErrType w) : Calls Tryd.prog 44 #[errV e] w fun r w' => r = .returned (.int .i64 ((e.bind EV.asC).getD 0)) ∧ Below w.heap.size w w' := by
  have HC := Lib.hid (faultCode_any e w hE)
  generalize errV e = v at *
  generalize (e.bind EV.asC).getD 0 = c at *
  go_enter Tryd.func44, Tryd.ntmps44
  go_wp2_with fail
  refine HC.out.mono ?_
  rintro r w1 ⟨rfl, hb⟩
  go_wp2
  go_ret
  exact ⟨rfl, hb⟩
end Go.Proofs.YtcegipkhmibdeaaDoor
