/- hammocklaw02.awake. -/
import Derived.Test.YtcegipkhmibdeaaDoorIs
import Derived.Test.YtcegipkhmibdeaaDoorFNames
import Derived.Test.YtcegipkhmibdeaaDoorFaultAs
import Derived.Test.YtcegipkhmibdeaaDoorNamed
namespace Go.Proofs.YtcegipkhmibdeaaDoor
set_option linter.all false
open Go.RowKit Go.Extern.Stop Go.Stop Go.Extern

theorem meErrP (k e : Value) (w : World) : (Go.method 329 140 (.agg #[k, e]) "Error").run Tryd.prog w = .ok (163, .agg #[k, e]) w := by kernel_rfl
theorem meErrF (k e : Value) (w : World) : (Go.method 329 106 (.agg #[k, e]) "Error").run Tryd.prog w = .ok (160, .agg #[k, e]) w := by kernel_rfl
set_option maxHeartbeats 1000000 in
set_option maxRecDepth 100000 in
theorem itoa7 (w : World) : Calls Tryd.prog 146 #[.int .i64 7] w fun r w' => r = .returned (.string ⟨#[55]⟩) ∧ w = w' := by
  go_enter Tryd.func146, Tryd.ntmps146
  go_wp2
  go_ret
  exact ⟨rfl, rfl⟩
set_option maxHeartbeats 1000000 in
set_option maxRecDepth 100000 in
theorem codeErr7 (w : World) : Calls Tryd.prog 145 #[.int .i64 7] w fun r w' => r = .returned (.string ⟨#[101, 114, 114, 111, 114, 32, 55]⟩) ∧ w = w' := by
  have HI := Lib.hid itoa7
  go_enter Tryd.func145, Tryd.ntmps145
  go_wp2_with fail
  refine (HI.out _).mono ?_
  rintro r w1 ⟨rfl, rfl⟩
  go_wp2
  go_ret
  exact ⟨rfl, rfl⟩
set_option maxHeartbeats 1000000 in
set_option maxRecDepth 100000 in
theorem faultErr7 (w : World) : Calls Tryd.prog 160 #[.agg #[.int .i64 7, .int .i64 7]] w fun r w' => r = .returned (.string ⟨#[101, 114, 114, 111, 114, 32, 55]⟩) ∧ Below w.heap.size w w' := by
  have HI := Lib.hid codeErr7
  go_enter Tryd.func160, Tryd.ntmps160
  go_wp2_with fail
  refine (HI.out _).mono ?_
  rintro r w1 ⟨rfl, rfl⟩
  go_wp2
  go_ret
  exact ⟨rfl, (Below.refl _ _).alloc (Nat.le_refl _) _⟩
set_option maxHeartbeats 1000000 in
set_option maxRecDepth 100000 in
theorem placedErr7 (w : World) (hK : KindsAt w) : Calls Tryd.prog 163 #[.agg #[.int .i64 4, .iface 106 (.agg #[.int .i64 7, .int .i64 7])]] w fun r w' => r = .returned (.string ⟨#[112, 111, 100, 58, 32, 101, 114, 114, 111, 114, 32, 55]⟩) ∧ Below w.heap.size w w' := by
  have hk : ∀ w, KindsAt w → Calls Tryd.prog 82 #[.int .i64 4] w fun e w' => e = .returned (.string ⟨#[112, 111, 100]⟩) ∧ w = w' := fun w h => fKindName_any 4 w h
  have HK := Lib.hid hk; clear hk
  have HF := Lib.hid faultErr7
  have hm := meErrF (.int .i64 7) (.int .i64 7)
  have B0 : Below w.heap.size w (w.alloc (.cells #[.int .i64 4, .iface 106 (.agg #[.int .i64 7, .int .i64 7])] 140)) := (Below.refl _ _).alloc (Nat.le_refl _) _
  have hK1 := hK.below B0
  clear hK
  go_enter Tryd.func163, Tryd.ntmps163
  go_wp2_with fail
  refine (HK.out _ hK1).mono ?_
  rintro r w1 ⟨rfl, rfl⟩
  go_wp2_with fail
  refine (HF.out _).mono ?_
  rintro r w2 ⟨rfl, hb⟩
  go_wp2
  go_ret
  exact ⟨rfl, B0.trans (hb.mono B0.size)⟩
set_option maxHeartbeats 4000000 in
set_option maxRecDepth 100000 in
theorem awake02_any (w : World) (hE : ErrType w) (hC : CodesAt w) (hK : KindsAt w) : Calls Tryd.prog 73 #[] w fun r w' => r = .returned (.bool true) ∧ Below w.heap.size w w' := by
  have c1 := fun w hE => faultCode_any (some (.placed 4 (.fault 7 7))) w hE
  change ∀ w, ErrType w → Calls _ _ #[.iface 140 (.agg #[.int .i64 4, .iface 106 (.agg #[.int .i64 7, .int .i64 7])])] _ fun r w' => r = .returned (.tuple #[.int .i64 7, .bool true]) ∧ _ at c1
  have H1 := Lib.hid c1; clear c1
  have c2 := fun w hE => faultAt_any (some (.placed 4 (.fault 7 7))) w hE
  change ∀ w, ErrType w → Calls _ _ #[.iface 140 (.agg #[.int .i64 4, .iface 106 (.agg #[.int .i64 7, .int .i64 7])])] _ fun r w' => r = .returned (.tuple #[.int .i64 7, .bool true]) ∧ _ at c2
  have H2 := Lib.hid c2; clear c2
  have c3 := fun w hE => faultPlace_any (some (.placed 4 (.fault 7 7))) w hE
  change ∀ w, ErrType w → Calls _ _ #[.iface 140 (.agg #[.int .i64 4, .iface 106 (.agg #[.int .i64 7, .int .i64 7])])] _ fun r w' => r = .returned (.tuple #[.int .i64 4, .bool true]) ∧ _ at c3
  have H3 := Lib.hid c3; clear c3
  have c4 := fun w hE => faultCode_any none w hE
  change ∀ w, ErrType w → Calls _ _ #[.nilIface] _ fun r w' => r = .returned (.tuple #[.int .i64 0, .bool false]) ∧ _ at c4
  have H4 := Lib.hid c4; clear c4
  have c5 := fun w hE => harmless_any (some (.placed 4 (.fault 7 7))) w hE
  change ∀ w, ErrType w → Calls _ _ #[.iface 140 (.agg #[.int .i64 4, .iface 106 (.agg #[.int .i64 7, .int .i64 7])])] _ fun r w' => r = .returned (.bool true) ∧ _ at c5
  have H5 := Lib.hid c5; clear c5
  have c6 := fun w hE => harmless_any none w hE
  change ∀ w, ErrType w → Calls _ _ #[.nilIface] _ fun r w' => r = .returned (.bool false) ∧ _ at c6
  have H6 := Lib.hid c6; clear c6
  have c7 : ∀ w, CodesAt w → Calls Tryd.prog 80 #[.int .i64 7] w fun e w' => e = .returned (.string ⟨#[102, 117, 108, 108]⟩) ∧ w = w' := fun w h => fCodeName_any 7 w h
  have H7 := Lib.hid c7; clear c7
  have c8 : ∀ w, KindsAt w → Calls Tryd.prog 82 #[.int .i64 7] w fun e w' => e = .returned (.string ⟨#[99, 121, 99, 108, 101]⟩) ∧ w = w' := fun w h => fKindName_any 7 w h
  have H8 := Lib.hid c8; clear c8
  have HN := Lib.hid faultNew_any
  have i1 := fun w => faultIn_any 4 (some (.fault 7 7)) w
  change ∀ w, Calls _ _ #[_, .iface 106 (.agg #[.int .i64 7, .int .i64 7])] _ fun r w' => r = .returned (.iface 140 (.agg #[.int .i64 4, .iface 106 (.agg #[.int .i64 7, .int .i64 7])])) ∧ _ at i1
  have HI1 := Lib.hid i1; clear i1
  have i2 := fun w => faultIn_any 1 none w
  change ∀ w, Calls _ _ #[_, .nilIface] _ fun r w' => r = .returned .nilIface ∧ _ at i2
  have HI2 := Lib.hid i2; clear i2
  have HT := Lib.hid placedErr7
  have hm := meErrP (.int .i64 4) (.iface 106 (.agg #[.int .i64 7, .int .i64 7]))
  have HE := Lib.hid hE
  have HC := Lib.hid hC
  have HK := Lib.hid hK
  clear hE hC hK
  have B0 : Below w.heap.size w w := Below.refl _ _
  go_enter Tryd.func73, Tryd.ntmps73
  go_wp2_with (first
    | (go_at_call 84; (with_reducible refine (HN.out 7 7 _).mono ?_); rintro r w1 ⟨rfl, hw⟩; have B1 : Below w.heap.size w w1 := hw ▸ B0; clear hw)
    | (go_at_call 86; (with_reducible refine (HI1.out _).mono ?_); rintro r w2 ⟨rfl, hw⟩; have B2 : Below w.heap.size w w2 := hw ▸ B1; clear hw)
    | (go_at_call 75; (with_reducible refine (H1.out _ (HE.out.below B2)).mono ?_); rintro r w3 ⟨rfl, hb⟩; have B3 : Below w.heap.size w w3 := B2.trans (hb.mono B2.size); clear hb)
    | (go_at_call 76; (with_reducible refine (H2.out _ (HE.out.below B3)).mono ?_); rintro r w4 ⟨rfl, hb⟩; have B4 : Below w.heap.size w w4 := B3.trans (hb.mono B3.size); clear hb)
    | (go_at_call 77; (with_reducible refine (H3.out _ (HE.out.below B4)).mono ?_); rintro r w5 ⟨rfl, hb⟩; have B5 : Below w.heap.size w w5 := B4.trans (hb.mono B4.size); clear hb)
    | (go_at_call 75; (with_reducible refine (H4.out _ (HE.out.below B5)).mono ?_); rintro r w6 ⟨rfl, hb⟩; have B6 : Below w.heap.size w w6 := B5.trans (hb.mono B5.size); clear hb)
    | (go_at_call 163; (with_reducible refine (HT.out _ (HK.out.below B6)).mono ?_); rintro r w7 ⟨rfl, hb⟩; have B7 : Below w.heap.size w w7 := B6.trans (hb.mono B6.size); clear hb)
    | (go_at_call 78; (with_reducible refine (H5.out _ (HE.out.below B7)).mono ?_); rintro r w8 ⟨rfl, hb⟩; have B8 : Below w.heap.size w w8 := B7.trans (hb.mono B7.size); clear hb)
    | (go_at_call 78; (with_reducible refine (H6.out _ (HE.out.below B8)).mono ?_); rintro r w9 ⟨rfl, hb⟩; have B9 : Below w.heap.size w w9 := B8.trans (hb.mono B8.size); clear hb)
    | (go_at_call 80; (with_reducible refine (H7.out _ (HC.out.below B9)).mono ?_); rintro r w10 ⟨rfl, hw⟩; have B10 : Below w.heap.size w w10 := hw ▸ B9; clear hw)
    | (go_at_call 82; (with_reducible refine (H8.out _ (HK.out.below B10)).mono ?_); rintro r w11 ⟨rfl, hw⟩; have B11 : Below w.heap.size w w11 := hw ▸ B10; clear hw)
    | (go_at_call 86; (with_reducible refine (HI2.out _).mono ?_); rintro r w12 ⟨rfl, hw⟩; have B12 : Below w.heap.size w w12 := hw ▸ B11; clear hw))
  go_ret
  exact ⟨rfl, B12⟩
end Go.Proofs.YtcegipkhmibdeaaDoor
