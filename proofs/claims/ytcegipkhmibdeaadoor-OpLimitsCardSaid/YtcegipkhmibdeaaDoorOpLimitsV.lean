/- hammocklaw03.OpLimits: the walk. -/
import Derived.Test.YtcegipkhmibdeaaDoorOpMakesW
import Derived.Test.YtcegipkhmibdeaaDoorNamed
namespace Go.Proofs.YtcegipkhmibdeaaDoor
set_option linter.all false
open Go.RowKit

set_option maxHeartbeats 4000000 in
set_option maxRecDepth 100000 in
theorem opLimits_1_false (a : Int) (h0 : (0 : Int) ≤ a) (h1 : a < 256) (hr : a.tmod 6 = 0) (w : World) (hE : ErrType w) :
    Calls Tryd.prog 9 #[.int .u8 a, .bool false] w fun r w' => r = .returned (.bool true) ∧ Below w.heap.size w w' := by
  have C10 := fun s w => opCheck_any 1 1073741824 1073741824 1073741824 false (.slice (some s) 2 2) [1099511627776, 0] 2 w (by decide)
  rw [show checkE 1 1073741824 1073741824 1073741824 [1099511627776, 0] 2 = none from rfl] at C10
  change ∀ s w, _ → Calls _ _ _ _ fun r w' => r = .returned (.nilIface) ∧ _ at C10
  have C1 := Lib.hid C10; clear C10
  have C20 := fun s w => opCheck_any 1 1073741825 1073741824 1073741824 false (.slice (some s) 2 2) [1099511627776, 0] 2 w (by decide)
  rw [show checkE 1 1073741825 1073741824 1073741824 [1099511627776, 0] 2 = some (.placed 1 (.fault 2 0)) from rfl] at C20
  change ∀ s w, _ → Calls _ _ _ _ fun r w' => r = .returned (.iface 140 (.agg #[.int .i64 1, .iface 106 (.agg #[.int .i64 2, .int .i64 0])])) ∧ _ at C20
  have C2 := Lib.hid C20; clear C20
  have D20 := fun w hE => code03_any (some (.placed 1 (.fault 2 0))) w hE
  change ∀ w, ErrType w → Calls _ _ #[.iface 140 (.agg #[.int .i64 1, .iface 106 (.agg #[.int .i64 2, .int .i64 0])])] _ fun r w' => r = .returned (.int .i64 2) ∧ _ at D20
  have D2 := Lib.hid D20; clear D20
  have C30 := fun s w => opCheck_any 1 1073741824 1073741824 1073741825 false (.slice (some s) 2 2) [1099511627776, 0] 2 w (by decide)
  rw [show checkE 1 1073741824 1073741824 1073741825 [1099511627776, 0] 2 = some (.placed 1 (.fault 4 0)) from rfl] at C30
  change ∀ s w, _ → Calls _ _ _ _ fun r w' => r = .returned (.iface 140 (.agg #[.int .i64 1, .iface 106 (.agg #[.int .i64 4, .int .i64 0])])) ∧ _ at C30
  have C3 := Lib.hid C30; clear C30
  have D30 := fun w hE => code03_any (some (.placed 1 (.fault 4 0))) w hE
  change ∀ w, ErrType w → Calls _ _ #[.iface 140 (.agg #[.int .i64 1, .iface 106 (.agg #[.int .i64 4, .int .i64 0])])] _ fun r w' => r = .returned (.int .i64 4) ∧ _ at D30
  have D3 := Lib.hid D30; clear D30
  have C40 := fun s w => opCheck_any 1 1073741824 1073741824 1073741824 false (.slice (some s) 2 2) [0, 1099511627777] 2 w (by decide)
  rw [show checkE 1 1073741824 1073741824 1073741824 [0, 1099511627777] 2 = none from rfl] at C40
  change ∀ s w, _ → Calls _ _ _ _ fun r w' => r = .returned (.nilIface) ∧ _ at C40
  have C4 := Lib.hid C40; clear C40
  have D40 := fun w hE => code03_any (none) w hE
  change ∀ w, ErrType w → Calls _ _ #[.nilIface] _ fun r w' => r = .returned (.int .i64 0) ∧ _ at D40
  have D4 := Lib.hid D40; clear D40
  go_enter Tryd.func9, Tryd.ntmps9
  go_wp2_with fail
  refine (awake03_any _ hE).mono ?_
  rintro e w1 ⟨rfl, B1⟩
  have hE1 := hE.below B1
  go_wp2_with fail
  refine calls_named fun W hW => ?_
  have hWb : Below w1.heap.size w1 W := by rw [hW]; repeat (first | exact Below.refl _ _ | refine Below.setCell ?_ (by show _ ≤ _; first | exact Nat.le_refl _ | exact Nat.le_succ _ | (simp; omega)) _ | refine Below.alloc ?_ (by first | exact Nat.le_refl _ | (simp; done) | (simp; omega)) _)
  have f0 : W.cell? ⟨w1.heap.size + 1, 0, none⟩ = some (.int .i64 1) := by rw [hW]; go_simp
  have f1 : W.cell? ⟨w1.heap.size + 1, 1, none⟩ = some (.int .i64 1073741824) := by rw [hW]; go_simp
  have f2 : W.cell? ⟨w1.heap.size + 1, 2, none⟩ = some (.int .i64 1073741824) := by rw [hW]; go_simp
  have f3 : W.cell? ⟨w1.heap.size + 1, 3, none⟩ = some (.int .i64 1073741824) := by rw [hW]; go_simp
  have f4 : W.cell? ⟨w1.heap.size + 1, 4, none⟩ = some (.bool false) := by rw [hW]; go_simp
  have f5 : W.cell? ⟨w1.heap.size + 1, 5, none⟩ = some (.slice (some ⟨w1.heap.size, 0, none⟩) 2 2) := by rw [hW]; go_simp
  have f6 : W.cell? ⟨w1.heap.size, 0, none⟩ = some (.int .i64 1099511627776) := by rw [hW]; go_simp
  have f7 : W.cell? ⟨w1.heap.size, 1, none⟩ = some (.int .i64 0) := by rw [hW]; go_simp
  have HW := Lib.hid hW; clear hW
  have hE2 := hE1.below hWb
  have hw1W := hWb.size
  refine (C1.out _ _ (ints2 f6 f7)).mono ?_
  rintro e w2 ⟨rfl, B2⟩
  have g0 := keepl B2 f0
  have g1 := keepl B2 f1
  have g2 := keepl B2 f2
  have g3 := keepl B2 f3
  have g4 := keepl B2 f4
  have g5 := keepl B2 f5
  have g6 := keepl B2 f6
  have g7 := keepl B2 f7
  have hlat := cell_lt g0
  have hn0 : w1.heap.size < w2.heap.size := by omega
  have hn1 : w1.heap.size < w2.heap.size + 1 := by omega
  have hB2 : Below w.heap.size w w2 := (B1.trans (hWb.mono B1.size)).trans (B2.mono (Nat.le_trans B1.size hWb.size))
  have hE3 := hE2.below B2
  clear f0 f1 f2 f3 f4 f5 f6 f7 hE1 hE2
  go_wp2_with fail
  refine calls_named fun V hV => ?_
  have hVb : Below w2.heap.size w2 V := by rw [hV]; repeat (first | exact Below.refl _ _ | refine Below.setCell ?_ (by show _ ≤ _; first | exact Nat.le_refl _ | exact Nat.le_succ _ | (simp; omega)) _ | refine Below.alloc ?_ (by first | exact Nat.le_refl _ | (simp; done) | (simp; omega)) _)
  have k0 : V.cell? ⟨w2.heap.size, 0, none⟩ = some (.int .i64 1) := by rw [hV]; go_simp
  have k1 : V.cell? ⟨w2.heap.size, 1, none⟩ = some (.int .i64 1073741825) := by rw [hV]; go_simp
  have k2 : V.cell? ⟨w2.heap.size, 2, none⟩ = some (.int .i64 1073741824) := by rw [hV]; go_simp
  have k3 : V.cell? ⟨w2.heap.size, 3, none⟩ = some (.int .i64 1073741824) := by rw [hV]; go_simp
  have k4 : V.cell? ⟨w2.heap.size, 4, none⟩ = some (.bool false) := by rw [hV]; go_simp
  have k5 : V.cell? ⟨w2.heap.size, 5, none⟩ = some (.slice (some ⟨w1.heap.size, 0, none⟩) 2 2) := by rw [hV]; go_simp
  have k6 : V.cell? ⟨w2.heap.size + 1, 0, none⟩ = some (.int .i64 1) := by rw [hV]; go_simp
  have k7 : V.cell? ⟨w2.heap.size + 1, 1, none⟩ = some (.int .i64 1073741824) := by rw [hV]; go_simp
  have k8 : V.cell? ⟨w2.heap.size + 1, 2, none⟩ = some (.int .i64 1073741824) := by rw [hV]; go_simp
  have k9 : V.cell? ⟨w2.heap.size + 1, 3, none⟩ = some (.int .i64 1073741825) := by rw [hV]; go_simp
  have k10 : V.cell? ⟨w2.heap.size + 1, 4, none⟩ = some (.bool false) := by rw [hV]; go_simp
  have k11 : V.cell? ⟨w2.heap.size + 1, 5, none⟩ = some (.slice (some ⟨w1.heap.size, 0, none⟩) 2 2) := by rw [hV]; go_simp
  have k12 : V.cell? ⟨w2.heap.size + 1 + 1, 0, none⟩ = some (.int .i64 1) := by rw [hV]; go_simp
  have k13 : V.cell? ⟨w2.heap.size + 1 + 1, 1, none⟩ = some (.int .i64 1073741824) := by rw [hV]; go_simp
  have k14 : V.cell? ⟨w2.heap.size + 1 + 1, 2, none⟩ = some (.int .i64 1073741824) := by rw [hV]; go_simp
  have k15 : V.cell? ⟨w2.heap.size + 1 + 1, 3, none⟩ = some (.int .i64 1073741824) := by rw [hV]; go_simp
  have k16 : V.cell? ⟨w2.heap.size + 1 + 1, 4, none⟩ = some (.bool false) := by rw [hV]; go_simp
  have k17 : V.cell? ⟨w2.heap.size + 1 + 1, 5, none⟩ = some (.slice (some ⟨w2.heap.size + 1 + 1 + 1, 0, none⟩) 2 2) := by rw [hV]; go_simp
  have k18 : V.cell? ⟨w2.heap.size + 1 + 1 + 1, 0, none⟩ = some (.int .i64 0) := by rw [hV]; go_simp
  have k19 : V.cell? ⟨w2.heap.size + 1 + 1 + 1, 1, none⟩ = some (.int .i64 1099511627777) := by rw [hV]; go_simp
  have HV := Lib.hid hV; clear hV
  have k20 : V.cell? ⟨w1.heap.size, 0, none⟩ = some (.int .i64 1099511627776) := keepl hVb g6
  have k21 : V.cell? ⟨w1.heap.size, 1, none⟩ = some (.int .i64 0) := keepl hVb g7
  have hE4 := hE3.below hVb
  have hi1 := ints2 k20 k21
  have hi2 := ints2 k18 k19
  have hBV : Below w.heap.size w V := hB2.trans (hVb.mono hB2.size)
  have HK : Hid (∀ w' : World, Below V.heap.size V w' → (w'.cell? ⟨w2.heap.size + 1, 0, none⟩ = some (.int .i64 1) ∧ w'.cell? ⟨w2.heap.size + 1, 1, none⟩ = some (.int .i64 1073741824) ∧ w'.cell? ⟨w2.heap.size + 1, 2, none⟩ = some (.int .i64 1073741824) ∧ w'.cell? ⟨w2.heap.size + 1, 3, none⟩ = some (.int .i64 1073741825) ∧ w'.cell? ⟨w2.heap.size + 1, 4, none⟩ = some (.bool false) ∧ w'.cell? ⟨w2.heap.size + 1, 5, none⟩ = some (.slice (some ⟨w1.heap.size, 0, none⟩) 2 2) ∧ w'.cell? ⟨w2.heap.size + 1 + 1, 0, none⟩ = some (.int .i64 1) ∧ w'.cell? ⟨w2.heap.size + 1 + 1, 1, none⟩ = some (.int .i64 1073741824) ∧ w'.cell? ⟨w2.heap.size + 1 + 1, 2, none⟩ = some (.int .i64 1073741824) ∧ w'.cell? ⟨w2.heap.size + 1 + 1, 3, none⟩ = some (.int .i64 1073741824) ∧ w'.cell? ⟨w2.heap.size + 1 + 1, 4, none⟩ = some (.bool false) ∧ w'.cell? ⟨w2.heap.size + 1 + 1, 5, none⟩ = some (.slice (some ⟨w2.heap.size + 1 + 1 + 1, 0, none⟩) 2 2))) := fun w' h => ⟨keepl h k6, keepl h k7, keepl h k8, keepl h k9, keepl h k10, keepl h k11, keepl h k12, keepl h k13, keepl h k14, keepl h k15, keepl h k16, keepl h k17⟩
  clear g0 g1 g2 g3 g4 g5 g6 g7 k20 k21 k18 k19 k6 k7 k8 k9 k10 k11 k12 k13 k14 k15 k16 k17
  have V0 : Below V.heap.size V V := Below.refl _ _
  refine (C2.out _ _ (hi1.below V0)).mono ?_
  rintro e v1 ⟨rfl, hb⟩
  have V1 : Below V.heap.size V v1 := V0.trans (hb.mono V0.size)
  clear hb
  go_wp2_with fail
  refine (D2.out _ (hE4.below V1)).mono ?_
  rintro e v2 ⟨rfl, hb⟩
  have V2 : Below V.heap.size V v2 := V1.trans (hb.mono V1.size)
  clear hb
  obtain ⟨k6, k7, k8, k9, k10, k11, k12, k13, k14, k15, k16, k17⟩ := HK.out v2 V2
  go_wp2_with fail
  refine (C3.out _ _ (hi1.below V2)).mono ?_
  rintro e v3 ⟨rfl, hb⟩
  have V3 : Below V.heap.size V v3 := V2.trans (hb.mono V2.size)
  clear hb
  clear k6 k7 k8 k9 k10 k11 k12 k13 k14 k15 k16 k17
  go_wp2_with fail
  refine (D3.out _ (hE4.below V3)).mono ?_
  rintro e v4 ⟨rfl, hb⟩
  have V4 : Below V.heap.size V v4 := V3.trans (hb.mono V3.size)
  clear hb
  obtain ⟨k6, k7, k8, k9, k10, k11, k12, k13, k14, k15, k16, k17⟩ := HK.out v4 V4
  go_wp2_with fail
  refine (C4.out _ _ (hi2.below V4)).mono ?_
  rintro e v5 ⟨rfl, hb⟩
  have V5 : Below V.heap.size V v5 := V4.trans (hb.mono V4.size)
  clear hb
  go_wp2_with fail
  refine (D4.out _ (hE4.below V5)).mono ?_
  rintro e v6 ⟨rfl, hb⟩
  have V6 : Below V.heap.size V v6 := V5.trans (hb.mono V5.size)
  clear hb
  go_wp2
  go_ret
  exact ⟨rfl, hBV.trans (V6.mono hBV.size)⟩
set_option maxHeartbeats 4000000 in
set_option maxRecDepth 100000 in
theorem opLimits_1_true (a : Int) (h0 : (0 : Int) ≤ a) (h1 : a < 256) (hr : a.tmod 6 = 0) (w : World) (hE : ErrType w) :
    Calls Tryd.prog 9 #[.int .u8 a, .bool true] w fun r w' => r = .returned (.bool true) ∧ Below w.heap.size w w' := by
  have C10 := fun s w => opCheck_any 1 0 0 (-1073741824) false (.slice (some s) 2 2) [0, 0] 2 w (by decide)
  rw [show checkE 1 0 0 (-1073741824) [0, 0] 2 = none from rfl] at C10
  change ∀ s w, _ → Calls _ _ _ _ fun r w' => r = .returned (.nilIface) ∧ _ at C10
  have C1 := Lib.hid C10; clear C10
  have C20 := fun s w => opCheck_any 1 (-1) 0 (-1073741824) false (.slice (some s) 2 2) [0, 0] 2 w (by decide)
  rw [show checkE 1 (-1) 0 (-1073741824) [0, 0] 2 = some (.placed 1 (.fault 2 0)) from rfl] at C20
  change ∀ s w, _ → Calls _ _ _ _ fun r w' => r = .returned (.iface 140 (.agg #[.int .i64 1, .iface 106 (.agg #[.int .i64 2, .int .i64 0])])) ∧ _ at C20
  have C2 := Lib.hid C20; clear C20
  have D20 := fun w hE => code03_any (some (.placed 1 (.fault 2 0))) w hE
  change ∀ w, ErrType w → Calls _ _ #[.iface 140 (.agg #[.int .i64 1, .iface 106 (.agg #[.int .i64 2, .int .i64 0])])] _ fun r w' => r = .returned (.int .i64 2) ∧ _ at D20
  have D2 := Lib.hid D20; clear D20
  have C30 := fun s w => opCheck_any 1 0 0 (-1073741825) false (.slice (some s) 2 2) [0, 0] 2 w (by decide)
  rw [show checkE 1 0 0 (-1073741825) [0, 0] 2 = some (.placed 1 (.fault 4 0)) from rfl] at C30
  change ∀ s w, _ → Calls _ _ _ _ fun r w' => r = .returned (.iface 140 (.agg #[.int .i64 1, .iface 106 (.agg #[.int .i64 4, .int .i64 0])])) ∧ _ at C30
  have C3 := Lib.hid C30; clear C30
  have D30 := fun w hE => code03_any (some (.placed 1 (.fault 4 0))) w hE
  change ∀ w, ErrType w → Calls _ _ #[.iface 140 (.agg #[.int .i64 1, .iface 106 (.agg #[.int .i64 4, .int .i64 0])])] _ fun r w' => r = .returned (.int .i64 4) ∧ _ at D30
  have D3 := Lib.hid D30; clear D30
  have C40 := fun s w => opCheck_any 1 0 0 (-1073741824) false (.slice (some s) 2 2) [0, -1] 2 w (by decide)
  rw [show checkE 1 0 0 (-1073741824) [0, -1] 2 = none from rfl] at C40
  change ∀ s w, _ → Calls _ _ _ _ fun r w' => r = .returned (.nilIface) ∧ _ at C40
  have C4 := Lib.hid C40; clear C40
  have D40 := fun w hE => code03_any (none) w hE
  change ∀ w, ErrType w → Calls _ _ #[.nilIface] _ fun r w' => r = .returned (.int .i64 0) ∧ _ at D40
  have D4 := Lib.hid D40; clear D40
  go_enter Tryd.func9, Tryd.ntmps9
  go_wp2_with fail
  refine (awake03_any _ hE).mono ?_
  rintro e w1 ⟨rfl, B1⟩
  have hE1 := hE.below B1
  go_wp2_with fail
  refine calls_named fun W hW => ?_
  have hWb : Below w1.heap.size w1 W := by rw [hW]; repeat (first | exact Below.refl _ _ | refine Below.setCell ?_ (by show _ ≤ _; first | exact Nat.le_refl _ | exact Nat.le_succ _ | (simp; omega)) _ | refine Below.alloc ?_ (by first | exact Nat.le_refl _ | (simp; done) | (simp; omega)) _)
  have f0 : W.cell? ⟨w1.heap.size + 1, 0, none⟩ = some (.int .i64 1) := by rw [hW]; go_simp
  have f1 : W.cell? ⟨w1.heap.size + 1, 1, none⟩ = some (.int .i64 0) := by rw [hW]; go_simp
  have f2 : W.cell? ⟨w1.heap.size + 1, 2, none⟩ = some (.int .i64 0) := by rw [hW]; go_simp
  have f3 : W.cell? ⟨w1.heap.size + 1, 3, none⟩ = some (.int .i64 (-1073741824)) := by rw [hW]; go_simp
  have f4 : W.cell? ⟨w1.heap.size + 1, 4, none⟩ = some (.bool false) := by rw [hW]; go_simp
  have f5 : W.cell? ⟨w1.heap.size + 1, 5, none⟩ = some (.slice (some ⟨w1.heap.size + 1 + 1, 0, none⟩) 2 2) := by rw [hW]; go_simp
  have f6 : W.cell? ⟨w1.heap.size + 1 + 1, 0, none⟩ = some (.int .i64 0) := by rw [hW]; go_simp
  have f7 : W.cell? ⟨w1.heap.size + 1 + 1, 1, none⟩ = some (.int .i64 0) := by rw [hW]; go_simp
  have HW := Lib.hid hW; clear hW
  have hE2 := hE1.below hWb
  have hw1W := hWb.size
  refine (C1.out _ _ (ints2 f6 f7)).mono ?_
  rintro e w2 ⟨rfl, B2⟩
  have g0 := keepl B2 f0
  have g1 := keepl B2 f1
  have g2 := keepl B2 f2
  have g3 := keepl B2 f3
  have g4 := keepl B2 f4
  have g5 := keepl B2 f5
  have g6 := keepl B2 f6
  have g7 := keepl B2 f7
  have hlat := cell_lt g0
  have hn0 : w1.heap.size < w2.heap.size := by omega
  have hn1 : w1.heap.size < w2.heap.size + 1 := by omega
  have hB2 : Below w.heap.size w w2 := (B1.trans (hWb.mono B1.size)).trans (B2.mono (Nat.le_trans B1.size hWb.size))
  have hE3 := hE2.below B2
  clear f0 f1 f2 f3 f4 f5 f6 f7 hE1 hE2
  go_wp2_with fail
  refine calls_named fun V hV => ?_
  have hVb : Below w2.heap.size w2 V := by rw [hV]; repeat (first | exact Below.refl _ _ | refine Below.setCell ?_ (by show _ ≤ _; first | exact Nat.le_refl _ | exact Nat.le_succ _ | (simp; omega)) _ | refine Below.alloc ?_ (by first | exact Nat.le_refl _ | (simp; done) | (simp; omega)) _)
  have k0 : V.cell? ⟨w2.heap.size, 0, none⟩ = some (.int .i64 1) := by rw [hV]; go_simp
  have k1 : V.cell? ⟨w2.heap.size, 1, none⟩ = some (.int .i64 (-1)) := by rw [hV]; go_simp
  have k2 : V.cell? ⟨w2.heap.size, 2, none⟩ = some (.int .i64 0) := by rw [hV]; go_simp
  have k3 : V.cell? ⟨w2.heap.size, 3, none⟩ = some (.int .i64 (-1073741824)) := by rw [hV]; go_simp
  have k4 : V.cell? ⟨w2.heap.size, 4, none⟩ = some (.bool false) := by rw [hV]; go_simp
  have k5 : V.cell? ⟨w2.heap.size, 5, none⟩ = some (.slice (some ⟨w1.heap.size + 1 + 1, 0, none⟩) 2 2) := by rw [hV]; go_simp
  have k6 : V.cell? ⟨w2.heap.size + 1, 0, none⟩ = some (.int .i64 1) := by rw [hV]; go_simp
  have k7 : V.cell? ⟨w2.heap.size + 1, 1, none⟩ = some (.int .i64 0) := by rw [hV]; go_simp
  have k8 : V.cell? ⟨w2.heap.size + 1, 2, none⟩ = some (.int .i64 0) := by rw [hV]; go_simp
  have k9 : V.cell? ⟨w2.heap.size + 1, 3, none⟩ = some (.int .i64 (-1073741825)) := by rw [hV]; go_simp
  have k10 : V.cell? ⟨w2.heap.size + 1, 4, none⟩ = some (.bool false) := by rw [hV]; go_simp
  have k11 : V.cell? ⟨w2.heap.size + 1, 5, none⟩ = some (.slice (some ⟨w1.heap.size + 1 + 1, 0, none⟩) 2 2) := by rw [hV]; go_simp
  have k12 : V.cell? ⟨w2.heap.size + 1 + 1, 0, none⟩ = some (.int .i64 1) := by rw [hV]; go_simp
  have k13 : V.cell? ⟨w2.heap.size + 1 + 1, 1, none⟩ = some (.int .i64 0) := by rw [hV]; go_simp
  have k14 : V.cell? ⟨w2.heap.size + 1 + 1, 2, none⟩ = some (.int .i64 0) := by rw [hV]; go_simp
  have k15 : V.cell? ⟨w2.heap.size + 1 + 1, 3, none⟩ = some (.int .i64 (-1073741824)) := by rw [hV]; go_simp
  have k16 : V.cell? ⟨w2.heap.size + 1 + 1, 4, none⟩ = some (.bool false) := by rw [hV]; go_simp
  have k17 : V.cell? ⟨w2.heap.size + 1 + 1, 5, none⟩ = some (.slice (some ⟨w2.heap.size + 1 + 1 + 1 + 1, 0, none⟩) 2 2) := by rw [hV]; go_simp
  have k18 : V.cell? ⟨w2.heap.size + 1 + 1 + 1 + 1, 0, none⟩ = some (.int .i64 0) := by rw [hV]; go_simp
  have k19 : V.cell? ⟨w2.heap.size + 1 + 1 + 1 + 1, 1, none⟩ = some (.int .i64 (-1)) := by rw [hV]; go_simp
  have HV := Lib.hid hV; clear hV
  have k20 : V.cell? ⟨w1.heap.size + 1 + 1, 0, none⟩ = some (.int .i64 0) := keepl hVb g6
  have k21 : V.cell? ⟨w1.heap.size + 1 + 1, 1, none⟩ = some (.int .i64 0) := keepl hVb g7
  have hE4 := hE3.below hVb
  have hi1 := ints2 k20 k21
  have hi2 := ints2 k18 k19
  have hBV : Below w.heap.size w V := hB2.trans (hVb.mono hB2.size)
  have HK : Hid (∀ w' : World, Below V.heap.size V w' → (w'.cell? ⟨w2.heap.size + 1, 0, none⟩ = some (.int .i64 1) ∧ w'.cell? ⟨w2.heap.size + 1, 1, none⟩ = some (.int .i64 0) ∧ w'.cell? ⟨w2.heap.size + 1, 2, none⟩ = some (.int .i64 0) ∧ w'.cell? ⟨w2.heap.size + 1, 3, none⟩ = some (.int .i64 (-1073741825)) ∧ w'.cell? ⟨w2.heap.size + 1, 4, none⟩ = some (.bool false) ∧ w'.cell? ⟨w2.heap.size + 1, 5, none⟩ = some (.slice (some ⟨w1.heap.size + 1 + 1, 0, none⟩) 2 2) ∧ w'.cell? ⟨w2.heap.size + 1 + 1, 0, none⟩ = some (.int .i64 1) ∧ w'.cell? ⟨w2.heap.size + 1 + 1, 1, none⟩ = some (.int .i64 0) ∧ w'.cell? ⟨w2.heap.size + 1 + 1, 2, none⟩ = some (.int .i64 0) ∧ w'.cell? ⟨w2.heap.size + 1 + 1, 3, none⟩ = some (.int .i64 (-1073741824)) ∧ w'.cell? ⟨w2.heap.size + 1 + 1, 4, none⟩ = some (.bool false) ∧ w'.cell? ⟨w2.heap.size + 1 + 1, 5, none⟩ = some (.slice (some ⟨w2.heap.size + 1 + 1 + 1 + 1, 0, none⟩) 2 2))) := fun w' h => ⟨keepl h k6, keepl h k7, keepl h k8, keepl h k9, keepl h k10, keepl h k11, keepl h k12, keepl h k13, keepl h k14, keepl h k15, keepl h k16, keepl h k17⟩
  clear g0 g1 g2 g3 g4 g5 g6 g7 k20 k21 k18 k19 k6 k7 k8 k9 k10 k11 k12 k13 k14 k15 k16 k17
  have V0 : Below V.heap.size V V := Below.refl _ _
  refine (C2.out _ _ (hi1.below V0)).mono ?_
  rintro e v1 ⟨rfl, hb⟩
  have V1 : Below V.heap.size V v1 := V0.trans (hb.mono V0.size)
  clear hb
  go_wp2_with fail
  refine (D2.out _ (hE4.below V1)).mono ?_
  rintro e v2 ⟨rfl, hb⟩
  have V2 : Below V.heap.size V v2 := V1.trans (hb.mono V1.size)
  clear hb
  obtain ⟨k6, k7, k8, k9, k10, k11, k12, k13, k14, k15, k16, k17⟩ := HK.out v2 V2
  go_wp2_with fail
  refine (C3.out _ _ (hi1.below V2)).mono ?_
  rintro e v3 ⟨rfl, hb⟩
  have V3 : Below V.heap.size V v3 := V2.trans (hb.mono V2.size)
  clear hb
  clear k6 k7 k8 k9 k10 k11 k12 k13 k14 k15 k16 k17
  go_wp2_with fail
  refine (D3.out _ (hE4.below V3)).mono ?_
  rintro e v4 ⟨rfl, hb⟩
  have V4 : Below V.heap.size V v4 := V3.trans (hb.mono V3.size)
  clear hb
  obtain ⟨k6, k7, k8, k9, k10, k11, k12, k13, k14, k15, k16, k17⟩ := HK.out v4 V4
  go_wp2_with fail
  refine (C4.out _ _ (hi2.below V4)).mono ?_
  rintro e v5 ⟨rfl, hb⟩
  have V5 : Below V.heap.size V v5 := V4.trans (hb.mono V4.size)
  clear hb
  go_wp2_with fail
  refine (D4.out _ (hE4.below V5)).mono ?_
  rintro e v6 ⟨rfl, hb⟩
  have V6 : Below V.heap.size V v6 := V5.trans (hb.mono V5.size)
  clear hb
  go_wp2
  go_ret
  exact ⟨rfl, hBV.trans (V6.mono hBV.size)⟩
set_option maxHeartbeats 4000000 in
set_option maxRecDepth 100000 in
theorem opLimits_2_false (a : Int) (h0 : (0 : Int) ≤ a) (h1 : a < 256) (hr : a.tmod 6 = 1) (w : World) (hE : ErrType w) :
    Calls Tryd.prog 9 #[.int .u8 a, .bool false] w fun r w' => r = .returned (.bool true) ∧ Below w.heap.size w w' := by
  have C10 := fun s w => opCheck_any 2 1073741824 1073741824 1048576 false (.slice (some s) 2 2) [1099511627776, 0] 2 w (by decide)
  rw [show checkE 2 1073741824 1073741824 1048576 [1099511627776, 0] 2 = none from rfl] at C10
  change ∀ s w, _ → Calls _ _ _ _ fun r w' => r = .returned (.nilIface) ∧ _ at C10
  have C1 := Lib.hid C10; clear C10
  have C20 := fun s w => opCheck_any 2 1073741825 1073741824 1048576 false (.slice (some s) 2 2) [1099511627776, 0] 2 w (by decide)
  rw [show checkE 2 1073741825 1073741824 1048576 [1099511627776, 0] 2 = some (.placed 2 (.fault 2 0)) from rfl] at C20
  change ∀ s w, _ → Calls _ _ _ _ fun r w' => r = .returned (.iface 140 (.agg #[.int .i64 2, .iface 106 (.agg #[.int .i64 2, .int .i64 0])])) ∧ _ at C20
  have C2 := Lib.hid C20; clear C20
  have D20 := fun w hE => code03_any (some (.placed 2 (.fault 2 0))) w hE
  change ∀ w, ErrType w → Calls _ _ #[.iface 140 (.agg #[.int .i64 2, .iface 106 (.agg #[.int .i64 2, .int .i64 0])])] _ fun r w' => r = .returned (.int .i64 2) ∧ _ at D20
  have D2 := Lib.hid D20; clear D20
  have C30 := fun s w => opCheck_any 2 1073741824 1073741824 1048577 false (.slice (some s) 2 2) [1099511627776, 0] 2 w (by decide)
  rw [show checkE 2 1073741824 1073741824 1048577 [1099511627776, 0] 2 = none from rfl] at C30
  change ∀ s w, _ → Calls _ _ _ _ fun r w' => r = .returned (.nilIface) ∧ _ at C30
  have C3 := Lib.hid C30; clear C30
  have D30 := fun w hE => code03_any (none) w hE
  change ∀ w, ErrType w → Calls _ _ #[.nilIface] _ fun r w' => r = .returned (.int .i64 0) ∧ _ at D30
  have D3 := Lib.hid D30; clear D30
  have C40 := fun s w => opCheck_any 2 1073741824 1073741824 1048576 false (.slice (some s) 2 2) [0, 1099511627777] 2 w (by decide)
  rw [show checkE 2 1073741824 1073741824 1048576 [0, 1099511627777] 2 = some (.placed 2 (.fault 3 1)) from rfl] at C40
  change ∀ s w, _ → Calls _ _ _ _ fun r w' => r = .returned (.iface 140 (.agg #[.int .i64 2, .iface 106 (.agg #[.int .i64 3, .int .i64 1])])) ∧ _ at C40
  have C4 := Lib.hid C40; clear C40
  have D40 := fun w hE => code03_any (some (.placed 2 (.fault 3 1))) w hE
  change ∀ w, ErrType w → Calls _ _ #[.iface 140 (.agg #[.int .i64 2, .iface 106 (.agg #[.int .i64 3, .int .i64 1])])] _ fun r w' => r = .returned (.int .i64 3) ∧ _ at D40
  have D4 := Lib.hid D40; clear D40
  go_enter Tryd.func9, Tryd.ntmps9
  go_wp2_with fail
  refine (awake03_any _ hE).mono ?_
  rintro e w1 ⟨rfl, B1⟩
  have hE1 := hE.below B1
  go_wp2_with fail
  refine calls_named fun W hW => ?_
  have hWb : Below w1.heap.size w1 W := by rw [hW]; repeat (first | exact Below.refl _ _ | refine Below.setCell ?_ (by show _ ≤ _; first | exact Nat.le_refl _ | exact Nat.le_succ _ | (simp; omega)) _ | refine Below.alloc ?_ (by first | exact Nat.le_refl _ | (simp; done) | (simp; omega)) _)
  have f0 : W.cell? ⟨w1.heap.size + 1, 0, none⟩ = some (.int .i64 2) := by rw [hW]; go_simp
  have f1 : W.cell? ⟨w1.heap.size + 1, 1, none⟩ = some (.int .i64 1073741824) := by rw [hW]; go_simp
  have f2 : W.cell? ⟨w1.heap.size + 1, 2, none⟩ = some (.int .i64 1073741824) := by rw [hW]; go_simp
  have f3 : W.cell? ⟨w1.heap.size + 1, 3, none⟩ = some (.int .i64 1048576) := by rw [hW]; go_simp
  have f4 : W.cell? ⟨w1.heap.size + 1, 4, none⟩ = some (.bool false) := by rw [hW]; go_simp
  have f5 : W.cell? ⟨w1.heap.size + 1, 5, none⟩ = some (.slice (some ⟨w1.heap.size, 0, none⟩) 2 2) := by rw [hW]; go_simp
  have f6 : W.cell? ⟨w1.heap.size, 0, none⟩ = some (.int .i64 1099511627776) := by rw [hW]; go_simp
  have f7 : W.cell? ⟨w1.heap.size, 1, none⟩ = some (.int .i64 0) := by rw [hW]; go_simp
  have HW := Lib.hid hW; clear hW
  have hE2 := hE1.below hWb
  have hw1W := hWb.size
  refine (C1.out _ _ (ints2 f6 f7)).mono ?_
  rintro e w2 ⟨rfl, B2⟩
  have g0 := keepl B2 f0
  have g1 := keepl B2 f1
  have g2 := keepl B2 f2
  have g3 := keepl B2 f3
  have g4 := keepl B2 f4
  have g5 := keepl B2 f5
  have g6 := keepl B2 f6
  have g7 := keepl B2 f7
  have hlat := cell_lt g0
  have hn0 : w1.heap.size < w2.heap.size := by omega
  have hn1 : w1.heap.size < w2.heap.size + 1 := by omega
  have hB2 : Below w.heap.size w w2 := (B1.trans (hWb.mono B1.size)).trans (B2.mono (Nat.le_trans B1.size hWb.size))
  have hE3 := hE2.below B2
  clear f0 f1 f2 f3 f4 f5 f6 f7 hE1 hE2
  go_wp2_with fail
  refine calls_named fun V hV => ?_
  have hVb : Below w2.heap.size w2 V := by rw [hV]; repeat (first | exact Below.refl _ _ | refine Below.setCell ?_ (by show _ ≤ _; first | exact Nat.le_refl _ | exact Nat.le_succ _ | (simp; omega)) _ | refine Below.alloc ?_ (by first | exact Nat.le_refl _ | (simp; done) | (simp; omega)) _)
  have k0 : V.cell? ⟨w2.heap.size, 0, none⟩ = some (.int .i64 2) := by rw [hV]; go_simp
  have k1 : V.cell? ⟨w2.heap.size, 1, none⟩ = some (.int .i64 1073741825) := by rw [hV]; go_simp
  have k2 : V.cell? ⟨w2.heap.size, 2, none⟩ = some (.int .i64 1073741824) := by rw [hV]; go_simp
  have k3 : V.cell? ⟨w2.heap.size, 3, none⟩ = some (.int .i64 1048576) := by rw [hV]; go_simp
  have k4 : V.cell? ⟨w2.heap.size, 4, none⟩ = some (.bool false) := by rw [hV]; go_simp
  have k5 : V.cell? ⟨w2.heap.size, 5, none⟩ = some (.slice (some ⟨w1.heap.size, 0, none⟩) 2 2) := by rw [hV]; go_simp
  have k6 : V.cell? ⟨w2.heap.size + 1, 0, none⟩ = some (.int .i64 2) := by rw [hV]; go_simp
  have k7 : V.cell? ⟨w2.heap.size + 1, 1, none⟩ = some (.int .i64 1073741824) := by rw [hV]; go_simp
  have k8 : V.cell? ⟨w2.heap.size + 1, 2, none⟩ = some (.int .i64 1073741824) := by rw [hV]; go_simp
  have k9 : V.cell? ⟨w2.heap.size + 1, 3, none⟩ = some (.int .i64 1048577) := by rw [hV]; go_simp
  have k10 : V.cell? ⟨w2.heap.size + 1, 4, none⟩ = some (.bool false) := by rw [hV]; go_simp
  have k11 : V.cell? ⟨w2.heap.size + 1, 5, none⟩ = some (.slice (some ⟨w1.heap.size, 0, none⟩) 2 2) := by rw [hV]; go_simp
  have k12 : V.cell? ⟨w2.heap.size + 1 + 1, 0, none⟩ = some (.int .i64 2) := by rw [hV]; go_simp
  have k13 : V.cell? ⟨w2.heap.size + 1 + 1, 1, none⟩ = some (.int .i64 1073741824) := by rw [hV]; go_simp
  have k14 : V.cell? ⟨w2.heap.size + 1 + 1, 2, none⟩ = some (.int .i64 1073741824) := by rw [hV]; go_simp
  have k15 : V.cell? ⟨w2.heap.size + 1 + 1, 3, none⟩ = some (.int .i64 1048576) := by rw [hV]; go_simp
  have k16 : V.cell? ⟨w2.heap.size + 1 + 1, 4, none⟩ = some (.bool false) := by rw [hV]; go_simp
  have k17 : V.cell? ⟨w2.heap.size + 1 + 1, 5, none⟩ = some (.slice (some ⟨w2.heap.size + 1 + 1 + 1, 0, none⟩) 2 2) := by rw [hV]; go_simp
  have k18 : V.cell? ⟨w2.heap.size + 1 + 1 + 1, 0, none⟩ = some (.int .i64 0) := by rw [hV]; go_simp
  have k19 : V.cell? ⟨w2.heap.size + 1 + 1 + 1, 1, none⟩ = some (.int .i64 1099511627777) := by rw [hV]; go_simp
  have HV := Lib.hid hV; clear hV
  have k20 : V.cell? ⟨w1.heap.size, 0, none⟩ = some (.int .i64 1099511627776) := keepl hVb g6
  have k21 : V.cell? ⟨w1.heap.size, 1, none⟩ = some (.int .i64 0) := keepl hVb g7
  have hE4 := hE3.below hVb
  have hi1 := ints2 k20 k21
  have hi2 := ints2 k18 k19
  have hBV : Below w.heap.size w V := hB2.trans (hVb.mono hB2.size)
  have HK : Hid (∀ w' : World, Below V.heap.size V w' → (w'.cell? ⟨w2.heap.size + 1, 0, none⟩ = some (.int .i64 2) ∧ w'.cell? ⟨w2.heap.size + 1, 1, none⟩ = some (.int .i64 1073741824) ∧ w'.cell? ⟨w2.heap.size + 1, 2, none⟩ = some (.int .i64 1073741824) ∧ w'.cell? ⟨w2.heap.size + 1, 3, none⟩ = some (.int .i64 1048577) ∧ w'.cell? ⟨w2.heap.size + 1, 4, none⟩ = some (.bool false) ∧ w'.cell? ⟨w2.heap.size + 1, 5, none⟩ = some (.slice (some ⟨w1.heap.size, 0, none⟩) 2 2) ∧ w'.cell? ⟨w2.heap.size + 1 + 1, 0, none⟩ = some (.int .i64 2) ∧ w'.cell? ⟨w2.heap.size + 1 + 1, 1, none⟩ = some (.int .i64 1073741824) ∧ w'.cell? ⟨w2.heap.size + 1 + 1, 2, none⟩ = some (.int .i64 1073741824) ∧ w'.cell? ⟨w2.heap.size + 1 + 1, 3, none⟩ = some (.int .i64 1048576) ∧ w'.cell? ⟨w2.heap.size + 1 + 1, 4, none⟩ = some (.bool false) ∧ w'.cell? ⟨w2.heap.size + 1 + 1, 5, none⟩ = some (.slice (some ⟨w2.heap.size + 1 + 1 + 1, 0, none⟩) 2 2))) := fun w' h => ⟨keepl h k6, keepl h k7, keepl h k8, keepl h k9, keepl h k10, keepl h k11, keepl h k12, keepl h k13, keepl h k14, keepl h k15, keepl h k16, keepl h k17⟩
  clear g0 g1 g2 g3 g4 g5 g6 g7 k20 k21 k18 k19 k6 k7 k8 k9 k10 k11 k12 k13 k14 k15 k16 k17
  have V0 : Below V.heap.size V V := Below.refl _ _
  refine (C2.out _ _ (hi1.below V0)).mono ?_
  rintro e v1 ⟨rfl, hb⟩
  have V1 : Below V.heap.size V v1 := V0.trans (hb.mono V0.size)
  clear hb
  go_wp2_with fail
  refine (D2.out _ (hE4.below V1)).mono ?_
  rintro e v2 ⟨rfl, hb⟩
  have V2 : Below V.heap.size V v2 := V1.trans (hb.mono V1.size)
  clear hb
  obtain ⟨k6, k7, k8, k9, k10, k11, k12, k13, k14, k15, k16, k17⟩ := HK.out v2 V2
  go_wp2_with fail
  refine (C3.out _ _ (hi1.below V2)).mono ?_
  rintro e v3 ⟨rfl, hb⟩
  have V3 : Below V.heap.size V v3 := V2.trans (hb.mono V2.size)
  clear hb
  clear k6 k7 k8 k9 k10 k11 k12 k13 k14 k15 k16 k17
  go_wp2_with fail
  refine (D3.out _ (hE4.below V3)).mono ?_
  rintro e v4 ⟨rfl, hb⟩
  have V4 : Below V.heap.size V v4 := V3.trans (hb.mono V3.size)
  clear hb
  obtain ⟨k6, k7, k8, k9, k10, k11, k12, k13, k14, k15, k16, k17⟩ := HK.out v4 V4
  go_wp2_with fail
  refine (C4.out _ _ (hi2.below V4)).mono ?_
  rintro e v5 ⟨rfl, hb⟩
  have V5 : Below V.heap.size V v5 := V4.trans (hb.mono V4.size)
  clear hb
  go_wp2_with fail
  refine (D4.out _ (hE4.below V5)).mono ?_
  rintro e v6 ⟨rfl, hb⟩
  have V6 : Below V.heap.size V v6 := V5.trans (hb.mono V5.size)
  clear hb
  go_wp2
  go_ret
  exact ⟨rfl, hBV.trans (V6.mono hBV.size)⟩
set_option maxHeartbeats 4000000 in
set_option maxRecDepth 100000 in
theorem opLimits_2_true (a : Int) (h0 : (0 : Int) ≤ a) (h1 : a < 256) (hr : a.tmod 6 = 1) (w : World) (hE : ErrType w) :
    Calls Tryd.prog 9 #[.int .u8 a, .bool true] w fun r w' => r = .returned (.bool true) ∧ Below w.heap.size w w' := by
  have C10 := fun s w => opCheck_any 2 0 0 0 false (.slice (some s) 2 2) [0, 0] 2 w (by decide)
  rw [show checkE 2 0 0 0 [0, 0] 2 = none from rfl] at C10
  change ∀ s w, _ → Calls _ _ _ _ fun r w' => r = .returned (.nilIface) ∧ _ at C10
  have C1 := Lib.hid C10; clear C10
  have C20 := fun s w => opCheck_any 2 (-1) 0 0 false (.slice (some s) 2 2) [0, 0] 2 w (by decide)
  rw [show checkE 2 (-1) 0 0 [0, 0] 2 = some (.placed 2 (.fault 2 0)) from rfl] at C20
  change ∀ s w, _ → Calls _ _ _ _ fun r w' => r = .returned (.iface 140 (.agg #[.int .i64 2, .iface 106 (.agg #[.int .i64 2, .int .i64 0])])) ∧ _ at C20
  have C2 := Lib.hid C20; clear C20
  have D20 := fun w hE => code03_any (some (.placed 2 (.fault 2 0))) w hE
  change ∀ w, ErrType w → Calls _ _ #[.iface 140 (.agg #[.int .i64 2, .iface 106 (.agg #[.int .i64 2, .int .i64 0])])] _ fun r w' => r = .returned (.int .i64 2) ∧ _ at D20
  have D2 := Lib.hid D20; clear D20
  have C30 := fun s w => opCheck_any 2 0 0 (-1) false (.slice (some s) 2 2) [0, 0] 2 w (by decide)
  rw [show checkE 2 0 0 (-1) [0, 0] 2 = none from rfl] at C30
  change ∀ s w, _ → Calls _ _ _ _ fun r w' => r = .returned (.nilIface) ∧ _ at C30
  have C3 := Lib.hid C30; clear C30
  have D30 := fun w hE => code03_any (none) w hE
  change ∀ w, ErrType w → Calls _ _ #[.nilIface] _ fun r w' => r = .returned (.int .i64 0) ∧ _ at D30
  have D3 := Lib.hid D30; clear D30
  have C40 := fun s w => opCheck_any 2 0 0 0 false (.slice (some s) 2 2) [0, -1] 2 w (by decide)
  rw [show checkE 2 0 0 0 [0, -1] 2 = some (.placed 2 (.fault 3 1)) from rfl] at C40
  change ∀ s w, _ → Calls _ _ _ _ fun r w' => r = .returned (.iface 140 (.agg #[.int .i64 2, .iface 106 (.agg #[.int .i64 3, .int .i64 1])])) ∧ _ at C40
  have C4 := Lib.hid C40; clear C40
  have D40 := fun w hE => code03_any (some (.placed 2 (.fault 3 1))) w hE
  change ∀ w, ErrType w → Calls _ _ #[.iface 140 (.agg #[.int .i64 2, .iface 106 (.agg #[.int .i64 3, .int .i64 1])])] _ fun r w' => r = .returned (.int .i64 3) ∧ _ at D40
  have D4 := Lib.hid D40; clear D40
  go_enter Tryd.func9, Tryd.ntmps9
  go_wp2_with fail
  refine (awake03_any _ hE).mono ?_
  rintro e w1 ⟨rfl, B1⟩
  have hE1 := hE.below B1
  go_wp2_with fail
  refine calls_named fun W hW => ?_
  have hWb : Below w1.heap.size w1 W := by rw [hW]; repeat (first | exact Below.refl _ _ | refine Below.setCell ?_ (by show _ ≤ _; first | exact Nat.le_refl _ | exact Nat.le_succ _ | (simp; omega)) _ | refine Below.alloc ?_ (by first | exact Nat.le_refl _ | (simp; done) | (simp; omega)) _)
  have f0 : W.cell? ⟨w1.heap.size + 1, 0, none⟩ = some (.int .i64 2) := by rw [hW]; go_simp
  have f1 : W.cell? ⟨w1.heap.size + 1, 1, none⟩ = some (.int .i64 0) := by rw [hW]; go_simp
  have f2 : W.cell? ⟨w1.heap.size + 1, 2, none⟩ = some (.int .i64 0) := by rw [hW]; go_simp
  have f3 : W.cell? ⟨w1.heap.size + 1, 3, none⟩ = some (.int .i64 0) := by rw [hW]; go_simp
  have f4 : W.cell? ⟨w1.heap.size + 1, 4, none⟩ = some (.bool false) := by rw [hW]; go_simp
  have f5 : W.cell? ⟨w1.heap.size + 1, 5, none⟩ = some (.slice (some ⟨w1.heap.size + 1 + 1, 0, none⟩) 2 2) := by rw [hW]; go_simp
  have f6 : W.cell? ⟨w1.heap.size + 1 + 1, 0, none⟩ = some (.int .i64 0) := by rw [hW]; go_simp
  have f7 : W.cell? ⟨w1.heap.size + 1 + 1, 1, none⟩ = some (.int .i64 0) := by rw [hW]; go_simp
  have HW := Lib.hid hW; clear hW
  have hE2 := hE1.below hWb
  have hw1W := hWb.size
  refine (C1.out _ _ (ints2 f6 f7)).mono ?_
  rintro e w2 ⟨rfl, B2⟩
  have g0 := keepl B2 f0
  have g1 := keepl B2 f1
  have g2 := keepl B2 f2
  have g3 := keepl B2 f3
  have g4 := keepl B2 f4
  have g5 := keepl B2 f5
  have g6 := keepl B2 f6
  have g7 := keepl B2 f7
  have hlat := cell_lt g0
  have hn0 : w1.heap.size < w2.heap.size := by omega
  have hn1 : w1.heap.size < w2.heap.size + 1 := by omega
  have hB2 : Below w.heap.size w w2 := (B1.trans (hWb.mono B1.size)).trans (B2.mono (Nat.le_trans B1.size hWb.size))
  have hE3 := hE2.below B2
  clear f0 f1 f2 f3 f4 f5 f6 f7 hE1 hE2
  go_wp2_with fail
  refine calls_named fun V hV => ?_
  have hVb : Below w2.heap.size w2 V := by rw [hV]; repeat (first | exact Below.refl _ _ | refine Below.setCell ?_ (by show _ ≤ _; first | exact Nat.le_refl _ | exact Nat.le_succ _ | (simp; omega)) _ | refine Below.alloc ?_ (by first | exact Nat.le_refl _ | (simp; done) | (simp; omega)) _)
  have k0 : V.cell? ⟨w2.heap.size, 0, none⟩ = some (.int .i64 2) := by rw [hV]; go_simp
  have k1 : V.cell? ⟨w2.heap.size, 1, none⟩ = some (.int .i64 (-1)) := by rw [hV]; go_simp
  have k2 : V.cell? ⟨w2.heap.size, 2, none⟩ = some (.int .i64 0) := by rw [hV]; go_simp
  have k3 : V.cell? ⟨w2.heap.size, 3, none⟩ = some (.int .i64 0) := by rw [hV]; go_simp
  have k4 : V.cell? ⟨w2.heap.size, 4, none⟩ = some (.bool false) := by rw [hV]; go_simp
  have k5 : V.cell? ⟨w2.heap.size, 5, none⟩ = some (.slice (some ⟨w1.heap.size + 1 + 1, 0, none⟩) 2 2) := by rw [hV]; go_simp
  have k6 : V.cell? ⟨w2.heap.size + 1, 0, none⟩ = some (.int .i64 2) := by rw [hV]; go_simp
  have k7 : V.cell? ⟨w2.heap.size + 1, 1, none⟩ = some (.int .i64 0) := by rw [hV]; go_simp
  have k8 : V.cell? ⟨w2.heap.size + 1, 2, none⟩ = some (.int .i64 0) := by rw [hV]; go_simp
  have k9 : V.cell? ⟨w2.heap.size + 1, 3, none⟩ = some (.int .i64 (-1)) := by rw [hV]; go_simp
  have k10 : V.cell? ⟨w2.heap.size + 1, 4, none⟩ = some (.bool false) := by rw [hV]; go_simp
  have k11 : V.cell? ⟨w2.heap.size + 1, 5, none⟩ = some (.slice (some ⟨w1.heap.size + 1 + 1, 0, none⟩) 2 2) := by rw [hV]; go_simp
  have k12 : V.cell? ⟨w2.heap.size + 1 + 1, 0, none⟩ = some (.int .i64 2) := by rw [hV]; go_simp
  have k13 : V.cell? ⟨w2.heap.size + 1 + 1, 1, none⟩ = some (.int .i64 0) := by rw [hV]; go_simp
  have k14 : V.cell? ⟨w2.heap.size + 1 + 1, 2, none⟩ = some (.int .i64 0) := by rw [hV]; go_simp
  have k15 : V.cell? ⟨w2.heap.size + 1 + 1, 3, none⟩ = some (.int .i64 0) := by rw [hV]; go_simp
  have k16 : V.cell? ⟨w2.heap.size + 1 + 1, 4, none⟩ = some (.bool false) := by rw [hV]; go_simp
  have k17 : V.cell? ⟨w2.heap.size + 1 + 1, 5, none⟩ = some (.slice (some ⟨w2.heap.size + 1 + 1 + 1 + 1, 0, none⟩) 2 2) := by rw [hV]; go_simp
  have k18 : V.cell? ⟨w2.heap.size + 1 + 1 + 1 + 1, 0, none⟩ = some (.int .i64 0) := by rw [hV]; go_simp
  have k19 : V.cell? ⟨w2.heap.size + 1 + 1 + 1 + 1, 1, none⟩ = some (.int .i64 (-1)) := by rw [hV]; go_simp
  have HV := Lib.hid hV; clear hV
  have k20 : V.cell? ⟨w1.heap.size + 1 + 1, 0, none⟩ = some (.int .i64 0) := keepl hVb g6
  have k21 : V.cell? ⟨w1.heap.size + 1 + 1, 1, none⟩ = some (.int .i64 0) := keepl hVb g7
  have hE4 := hE3.below hVb
  have hi1 := ints2 k20 k21
  have hi2 := ints2 k18 k19
  have hBV : Below w.heap.size w V := hB2.trans (hVb.mono hB2.size)
  have HK : Hid (∀ w' : World, Below V.heap.size V w' → (w'.cell? ⟨w2.heap.size + 1, 0, none⟩ = some (.int .i64 2) ∧ w'.cell? ⟨w2.heap.size + 1, 1, none⟩ = some (.int .i64 0) ∧ w'.cell? ⟨w2.heap.size + 1, 2, none⟩ = some (.int .i64 0) ∧ w'.cell? ⟨w2.heap.size + 1, 3, none⟩ = some (.int .i64 (-1)) ∧ w'.cell? ⟨w2.heap.size + 1, 4, none⟩ = some (.bool false) ∧ w'.cell? ⟨w2.heap.size + 1, 5, none⟩ = some (.slice (some ⟨w1.heap.size + 1 + 1, 0, none⟩) 2 2) ∧ w'.cell? ⟨w2.heap.size + 1 + 1, 0, none⟩ = some (.int .i64 2) ∧ w'.cell? ⟨w2.heap.size + 1 + 1, 1, none⟩ = some (.int .i64 0) ∧ w'.cell? ⟨w2.heap.size + 1 + 1, 2, none⟩ = some (.int .i64 0) ∧ w'.cell? ⟨w2.heap.size + 1 + 1, 3, none⟩ = some (.int .i64 0) ∧ w'.cell? ⟨w2.heap.size + 1 + 1, 4, none⟩ = some (.bool false) ∧ w'.cell? ⟨w2.heap.size + 1 + 1, 5, none⟩ = some (.slice (some ⟨w2.heap.size + 1 + 1 + 1 + 1, 0, none⟩) 2 2))) := fun w' h => ⟨keepl h k6, keepl h k7, keepl h k8, keepl h k9, keepl h k10, keepl h k11, keepl h k12, keepl h k13, keepl h k14, keepl h k15, keepl h k16, keepl h k17⟩
  clear g0 g1 g2 g3 g4 g5 g6 g7 k20 k21 k18 k19 k6 k7 k8 k9 k10 k11 k12 k13 k14 k15 k16 k17
  have V0 : Below V.heap.size V V := Below.refl _ _
  refine (C2.out _ _ (hi1.below V0)).mono ?_
  rintro e v1 ⟨rfl, hb⟩
  have V1 : Below V.heap.size V v1 := V0.trans (hb.mono V0.size)
  clear hb
  go_wp2_with fail
  refine (D2.out _ (hE4.below V1)).mono ?_
  rintro e v2 ⟨rfl, hb⟩
  have V2 : Below V.heap.size V v2 := V1.trans (hb.mono V1.size)
  clear hb
  obtain ⟨k6, k7, k8, k9, k10, k11, k12, k13, k14, k15, k16, k17⟩ := HK.out v2 V2
  go_wp2_with fail
  refine (C3.out _ _ (hi1.below V2)).mono ?_
  rintro e v3 ⟨rfl, hb⟩
  have V3 : Below V.heap.size V v3 := V2.trans (hb.mono V2.size)
  clear hb
  clear k6 k7 k8 k9 k10 k11 k12 k13 k14 k15 k16 k17
  go_wp2_with fail
  refine (D3.out _ (hE4.below V3)).mono ?_
  rintro e v4 ⟨rfl, hb⟩
  have V4 : Below V.heap.size V v4 := V3.trans (hb.mono V3.size)
  clear hb
  obtain ⟨k6, k7, k8, k9, k10, k11, k12, k13, k14, k15, k16, k17⟩ := HK.out v4 V4
  go_wp2_with fail
  refine (C4.out _ _ (hi2.below V4)).mono ?_
  rintro e v5 ⟨rfl, hb⟩
  have V5 : Below V.heap.size V v5 := V4.trans (hb.mono V4.size)
  clear hb
  go_wp2_with fail
  refine (D4.out _ (hE4.below V5)).mono ?_
  rintro e v6 ⟨rfl, hb⟩
  have V6 : Below V.heap.size V v6 := V5.trans (hb.mono V5.size)
  clear hb
  go_wp2
  go_ret
  exact ⟨rfl, hBV.trans (V6.mono hBV.size)⟩
set_option maxHeartbeats 4000000 in
set_option maxRecDepth 100000 in
theorem opLimits_3_false (a : Int) (h0 : (0 : Int) ≤ a) (h1 : a < 256) (hr : a.tmod 6 = 2) (w : World) (hE : ErrType w) :
    Calls Tryd.prog 9 #[.int .u8 a, .bool false] w fun r w' => r = .returned (.bool true) ∧ Below w.heap.size w w' := by
  have C10 := fun s w => opCheck_any 3 1073741824 1073741824 1048576 false (.slice (some s) 2 2) [1099511627776, 0] 2 w (by decide)
  rw [show checkE 3 1073741824 1073741824 1048576 [1099511627776, 0] 2 = none from rfl] at C10
  change ∀ s w, _ → Calls _ _ _ _ fun r w' => r = .returned (.nilIface) ∧ _ at C10
  have C1 := Lib.hid C10; clear C10
  have C20 := fun s w => opCheck_any 3 1073741825 1073741824 1048576 false (.slice (some s) 2 2) [1099511627776, 0] 2 w (by decide)
  rw [show checkE 3 1073741825 1073741824 1048576 [1099511627776, 0] 2 = some (.placed 3 (.fault 2 0)) from rfl] at C20
  change ∀ s w, _ → Calls _ _ _ _ fun r w' => r = .returned (.iface 140 (.agg #[.int .i64 3, .iface 106 (.agg #[.int .i64 2, .int .i64 0])])) ∧ _ at C20
  have C2 := Lib.hid C20; clear C20
  have D20 := fun w hE => code03_any (some (.placed 3 (.fault 2 0))) w hE
  change ∀ w, ErrType w → Calls _ _ #[.iface 140 (.agg #[.int .i64 3, .iface 106 (.agg #[.int .i64 2, .int .i64 0])])] _ fun r w' => r = .returned (.int .i64 2) ∧ _ at D20
  have D2 := Lib.hid D20; clear D20
  have C30 := fun s w => opCheck_any 3 1073741824 1073741824 1048577 false (.slice (some s) 2 2) [1099511627776, 0] 2 w (by decide)
  rw [show checkE 3 1073741824 1073741824 1048577 [1099511627776, 0] 2 = none from rfl] at C30
  change ∀ s w, _ → Calls _ _ _ _ fun r w' => r = .returned (.nilIface) ∧ _ at C30
  have C3 := Lib.hid C30; clear C30
  have D30 := fun w hE => code03_any (none) w hE
  change ∀ w, ErrType w → Calls _ _ #[.nilIface] _ fun r w' => r = .returned (.int .i64 0) ∧ _ at D30
  have D3 := Lib.hid D30; clear D30
  have C40 := fun s w => opCheck_any 3 1073741824 1073741824 1048576 false (.slice (some s) 2 2) [0, 1099511627777] 2 w (by decide)
  rw [show checkE 3 1073741824 1073741824 1048576 [0, 1099511627777] 2 = none from rfl] at C40
  change ∀ s w, _ → Calls _ _ _ _ fun r w' => r = .returned (.nilIface) ∧ _ at C40
  have C4 := Lib.hid C40; clear C40
  have D40 := fun w hE => code03_any (none) w hE
  change ∀ w, ErrType w → Calls _ _ #[.nilIface] _ fun r w' => r = .returned (.int .i64 0) ∧ _ at D40
  have D4 := Lib.hid D40; clear D40
  go_enter Tryd.func9, Tryd.ntmps9
  go_wp2_with fail
  refine (awake03_any _ hE).mono ?_
  rintro e w1 ⟨rfl, B1⟩
  have hE1 := hE.below B1
  go_wp2_with fail
  refine calls_named fun W hW => ?_
  have hWb : Below w1.heap.size w1 W := by rw [hW]; repeat (first | exact Below.refl _ _ | refine Below.setCell ?_ (by show _ ≤ _; first | exact Nat.le_refl _ | exact Nat.le_succ _ | (simp; omega)) _ | refine Below.alloc ?_ (by first | exact Nat.le_refl _ | (simp; done) | (simp; omega)) _)
  have f0 : W.cell? ⟨w1.heap.size + 1, 0, none⟩ = some (.int .i64 3) := by rw [hW]; go_simp
  have f1 : W.cell? ⟨w1.heap.size + 1, 1, none⟩ = some (.int .i64 1073741824) := by rw [hW]; go_simp
  have f2 : W.cell? ⟨w1.heap.size + 1, 2, none⟩ = some (.int .i64 1073741824) := by rw [hW]; go_simp
  have f3 : W.cell? ⟨w1.heap.size + 1, 3, none⟩ = some (.int .i64 1048576) := by rw [hW]; go_simp
  have f4 : W.cell? ⟨w1.heap.size + 1, 4, none⟩ = some (.bool false) := by rw [hW]; go_simp
  have f5 : W.cell? ⟨w1.heap.size + 1, 5, none⟩ = some (.slice (some ⟨w1.heap.size, 0, none⟩) 2 2) := by rw [hW]; go_simp
  have f6 : W.cell? ⟨w1.heap.size, 0, none⟩ = some (.int .i64 1099511627776) := by rw [hW]; go_simp
  have f7 : W.cell? ⟨w1.heap.size, 1, none⟩ = some (.int .i64 0) := by rw [hW]; go_simp
  have HW := Lib.hid hW; clear hW
  have hE2 := hE1.below hWb
  have hw1W := hWb.size
  refine (C1.out _ _ (ints2 f6 f7)).mono ?_
  rintro e w2 ⟨rfl, B2⟩
  have g0 := keepl B2 f0
  have g1 := keepl B2 f1
  have g2 := keepl B2 f2
  have g3 := keepl B2 f3
  have g4 := keepl B2 f4
  have g5 := keepl B2 f5
  have g6 := keepl B2 f6
  have g7 := keepl B2 f7
  have hlat := cell_lt g0
  have hn0 : w1.heap.size < w2.heap.size := by omega
  have hn1 : w1.heap.size < w2.heap.size + 1 := by omega
  have hB2 : Below w.heap.size w w2 := (B1.trans (hWb.mono B1.size)).trans (B2.mono (Nat.le_trans B1.size hWb.size))
  have hE3 := hE2.below B2
  clear f0 f1 f2 f3 f4 f5 f6 f7 hE1 hE2
  go_wp2_with fail
  refine calls_named fun V hV => ?_
  have hVb : Below w2.heap.size w2 V := by rw [hV]; repeat (first | exact Below.refl _ _ | refine Below.setCell ?_ (by show _ ≤ _; first | exact Nat.le_refl _ | exact Nat.le_succ _ | (simp; omega)) _ | refine Below.alloc ?_ (by first | exact Nat.le_refl _ | (simp; done) | (simp; omega)) _)
  have k0 : V.cell? ⟨w2.heap.size, 0, none⟩ = some (.int .i64 3) := by rw [hV]; go_simp
  have k1 : V.cell? ⟨w2.heap.size, 1, none⟩ = some (.int .i64 1073741825) := by rw [hV]; go_simp
  have k2 : V.cell? ⟨w2.heap.size, 2, none⟩ = some (.int .i64 1073741824) := by rw [hV]; go_simp
  have k3 : V.cell? ⟨w2.heap.size, 3, none⟩ = some (.int .i64 1048576) := by rw [hV]; go_simp
  have k4 : V.cell? ⟨w2.heap.size, 4, none⟩ = some (.bool false) := by rw [hV]; go_simp
  have k5 : V.cell? ⟨w2.heap.size, 5, none⟩ = some (.slice (some ⟨w1.heap.size, 0, none⟩) 2 2) := by rw [hV]; go_simp
  have k6 : V.cell? ⟨w2.heap.size + 1, 0, none⟩ = some (.int .i64 3) := by rw [hV]; go_simp
  have k7 : V.cell? ⟨w2.heap.size + 1, 1, none⟩ = some (.int .i64 1073741824) := by rw [hV]; go_simp
  have k8 : V.cell? ⟨w2.heap.size + 1, 2, none⟩ = some (.int .i64 1073741824) := by rw [hV]; go_simp
  have k9 : V.cell? ⟨w2.heap.size + 1, 3, none⟩ = some (.int .i64 1048577) := by rw [hV]; go_simp
  have k10 : V.cell? ⟨w2.heap.size + 1, 4, none⟩ = some (.bool false) := by rw [hV]; go_simp
  have k11 : V.cell? ⟨w2.heap.size + 1, 5, none⟩ = some (.slice (some ⟨w1.heap.size, 0, none⟩) 2 2) := by rw [hV]; go_simp
  have k12 : V.cell? ⟨w2.heap.size + 1 + 1, 0, none⟩ = some (.int .i64 3) := by rw [hV]; go_simp
  have k13 : V.cell? ⟨w2.heap.size + 1 + 1, 1, none⟩ = some (.int .i64 1073741824) := by rw [hV]; go_simp
  have k14 : V.cell? ⟨w2.heap.size + 1 + 1, 2, none⟩ = some (.int .i64 1073741824) := by rw [hV]; go_simp
  have k15 : V.cell? ⟨w2.heap.size + 1 + 1, 3, none⟩ = some (.int .i64 1048576) := by rw [hV]; go_simp
  have k16 : V.cell? ⟨w2.heap.size + 1 + 1, 4, none⟩ = some (.bool false) := by rw [hV]; go_simp
  have k17 : V.cell? ⟨w2.heap.size + 1 + 1, 5, none⟩ = some (.slice (some ⟨w2.heap.size + 1 + 1 + 1, 0, none⟩) 2 2) := by rw [hV]; go_simp
  have k18 : V.cell? ⟨w2.heap.size + 1 + 1 + 1, 0, none⟩ = some (.int .i64 0) := by rw [hV]; go_simp
  have k19 : V.cell? ⟨w2.heap.size + 1 + 1 + 1, 1, none⟩ = some (.int .i64 1099511627777) := by rw [hV]; go_simp
  have HV := Lib.hid hV; clear hV
  have k20 : V.cell? ⟨w1.heap.size, 0, none⟩ = some (.int .i64 1099511627776) := keepl hVb g6
  have k21 : V.cell? ⟨w1.heap.size, 1, none⟩ = some (.int .i64 0) := keepl hVb g7
  have hE4 := hE3.below hVb
  have hi1 := ints2 k20 k21
  have hi2 := ints2 k18 k19
  have hBV : Below w.heap.size w V := hB2.trans (hVb.mono hB2.size)
  have HK : Hid (∀ w' : World, Below V.heap.size V w' → (w'.cell? ⟨w2.heap.size + 1, 0, none⟩ = some (.int .i64 3) ∧ w'.cell? ⟨w2.heap.size + 1, 1, none⟩ = some (.int .i64 1073741824) ∧ w'.cell? ⟨w2.heap.size + 1, 2, none⟩ = some (.int .i64 1073741824) ∧ w'.cell? ⟨w2.heap.size + 1, 3, none⟩ = some (.int .i64 1048577) ∧ w'.cell? ⟨w2.heap.size + 1, 4, none⟩ = some (.bool false) ∧ w'.cell? ⟨w2.heap.size + 1, 5, none⟩ = some (.slice (some ⟨w1.heap.size, 0, none⟩) 2 2) ∧ w'.cell? ⟨w2.heap.size + 1 + 1, 0, none⟩ = some (.int .i64 3) ∧ w'.cell? ⟨w2.heap.size + 1 + 1, 1, none⟩ = some (.int .i64 1073741824) ∧ w'.cell? ⟨w2.heap.size + 1 + 1, 2, none⟩ = some (.int .i64 1073741824) ∧ w'.cell? ⟨w2.heap.size + 1 + 1, 3, none⟩ = some (.int .i64 1048576) ∧ w'.cell? ⟨w2.heap.size + 1 + 1, 4, none⟩ = some (.bool false) ∧ w'.cell? ⟨w2.heap.size + 1 + 1, 5, none⟩ = some (.slice (some ⟨w2.heap.size + 1 + 1 + 1, 0, none⟩) 2 2))) := fun w' h => ⟨keepl h k6, keepl h k7, keepl h k8, keepl h k9, keepl h k10, keepl h k11, keepl h k12, keepl h k13, keepl h k14, keepl h k15, keepl h k16, keepl h k17⟩
  clear g0 g1 g2 g3 g4 g5 g6 g7 k20 k21 k18 k19 k6 k7 k8 k9 k10 k11 k12 k13 k14 k15 k16 k17
  have V0 : Below V.heap.size V V := Below.refl _ _
  refine (C2.out _ _ (hi1.below V0)).mono ?_
  rintro e v1 ⟨rfl, hb⟩
  have V1 : Below V.heap.size V v1 := V0.trans (hb.mono V0.size)
  clear hb
  go_wp2_with fail
  refine (D2.out _ (hE4.below V1)).mono ?_
  rintro e v2 ⟨rfl, hb⟩
  have V2 : Below V.heap.size V v2 := V1.trans (hb.mono V1.size)
  clear hb
  obtain ⟨k6, k7, k8, k9, k10, k11, k12, k13, k14, k15, k16, k17⟩ := HK.out v2 V2
  go_wp2_with fail
  refine (C3.out _ _ (hi1.below V2)).mono ?_
  rintro e v3 ⟨rfl, hb⟩
  have V3 : Below V.heap.size V v3 := V2.trans (hb.mono V2.size)
  clear hb
  clear k6 k7 k8 k9 k10 k11 k12 k13 k14 k15 k16 k17
  go_wp2_with fail
  refine (D3.out _ (hE4.below V3)).mono ?_
  rintro e v4 ⟨rfl, hb⟩
  have V4 : Below V.heap.size V v4 := V3.trans (hb.mono V3.size)
  clear hb
  obtain ⟨k6, k7, k8, k9, k10, k11, k12, k13, k14, k15, k16, k17⟩ := HK.out v4 V4
  go_wp2_with fail
  refine (C4.out _ _ (hi2.below V4)).mono ?_
  rintro e v5 ⟨rfl, hb⟩
  have V5 : Below V.heap.size V v5 := V4.trans (hb.mono V4.size)
  clear hb
  go_wp2_with fail
  refine (D4.out _ (hE4.below V5)).mono ?_
  rintro e v6 ⟨rfl, hb⟩
  have V6 : Below V.heap.size V v6 := V5.trans (hb.mono V5.size)
  clear hb
  go_wp2
  go_ret
  exact ⟨rfl, hBV.trans (V6.mono hBV.size)⟩
set_option maxHeartbeats 4000000 in
set_option maxRecDepth 100000 in
theorem opLimits_3_true (a : Int) (h0 : (0 : Int) ≤ a) (h1 : a < 256) (hr : a.tmod 6 = 2) (w : World) (hE : ErrType w) :
    Calls Tryd.prog 9 #[.int .u8 a, .bool true] w fun r w' => r = .returned (.bool true) ∧ Below w.heap.size w w' := by
  have C10 := fun s w => opCheck_any 3 0 0 0 false (.slice (some s) 2 2) [0, 0] 2 w (by decide)
  rw [show checkE 3 0 0 0 [0, 0] 2 = none from rfl] at C10
  change ∀ s w, _ → Calls _ _ _ _ fun r w' => r = .returned (.nilIface) ∧ _ at C10
  have C1 := Lib.hid C10; clear C10
  have C20 := fun s w => opCheck_any 3 (-1) 0 0 false (.slice (some s) 2 2) [0, 0] 2 w (by decide)
  rw [show checkE 3 (-1) 0 0 [0, 0] 2 = some (.placed 3 (.fault 2 0)) from rfl] at C20
  change ∀ s w, _ → Calls _ _ _ _ fun r w' => r = .returned (.iface 140 (.agg #[.int .i64 3, .iface 106 (.agg #[.int .i64 2, .int .i64 0])])) ∧ _ at C20
  have C2 := Lib.hid C20; clear C20
  have D20 := fun w hE => code03_any (some (.placed 3 (.fault 2 0))) w hE
  change ∀ w, ErrType w → Calls _ _ #[.iface 140 (.agg #[.int .i64 3, .iface 106 (.agg #[.int .i64 2, .int .i64 0])])] _ fun r w' => r = .returned (.int .i64 2) ∧ _ at D20
  have D2 := Lib.hid D20; clear D20
  have C30 := fun s w => opCheck_any 3 0 0 (-1) false (.slice (some s) 2 2) [0, 0] 2 w (by decide)
  rw [show checkE 3 0 0 (-1) [0, 0] 2 = none from rfl] at C30
  change ∀ s w, _ → Calls _ _ _ _ fun r w' => r = .returned (.nilIface) ∧ _ at C30
  have C3 := Lib.hid C30; clear C30
  have D30 := fun w hE => code03_any (none) w hE
  change ∀ w, ErrType w → Calls _ _ #[.nilIface] _ fun r w' => r = .returned (.int .i64 0) ∧ _ at D30
  have D3 := Lib.hid D30; clear D30
  have C40 := fun s w => opCheck_any 3 0 0 0 false (.slice (some s) 2 2) [0, -1] 2 w (by decide)
  rw [show checkE 3 0 0 0 [0, -1] 2 = none from rfl] at C40
  change ∀ s w, _ → Calls _ _ _ _ fun r w' => r = .returned (.nilIface) ∧ _ at C40
  have C4 := Lib.hid C40; clear C40
  have D40 := fun w hE => code03_any (none) w hE
  change ∀ w, ErrType w → Calls _ _ #[.nilIface] _ fun r w' => r = .returned (.int .i64 0) ∧ _ at D40
  have D4 := Lib.hid D40; clear D40
  go_enter Tryd.func9, Tryd.ntmps9
  go_wp2_with fail
  refine (awake03_any _ hE).mono ?_
  rintro e w1 ⟨rfl, B1⟩
  have hE1 := hE.below B1
  go_wp2_with fail
  refine calls_named fun W hW => ?_
  have hWb : Below w1.heap.size w1 W := by rw [hW]; repeat (first | exact Below.refl _ _ | refine Below.setCell ?_ (by show _ ≤ _; first | exact Nat.le_refl _ | exact Nat.le_succ _ | (simp; omega)) _ | refine Below.alloc ?_ (by first | exact Nat.le_refl _ | (simp; done) | (simp; omega)) _)
  have f0 : W.cell? ⟨w1.heap.size + 1, 0, none⟩ = some (.int .i64 3) := by rw [hW]; go_simp
  have f1 : W.cell? ⟨w1.heap.size + 1, 1, none⟩ = some (.int .i64 0) := by rw [hW]; go_simp
  have f2 : W.cell? ⟨w1.heap.size + 1, 2, none⟩ = some (.int .i64 0) := by rw [hW]; go_simp
  have f3 : W.cell? ⟨w1.heap.size + 1, 3, none⟩ = some (.int .i64 0) := by rw [hW]; go_simp
  have f4 : W.cell? ⟨w1.heap.size + 1, 4, none⟩ = some (.bool false) := by rw [hW]; go_simp
  have f5 : W.cell? ⟨w1.heap.size + 1, 5, none⟩ = some (.slice (some ⟨w1.heap.size + 1 + 1, 0, none⟩) 2 2) := by rw [hW]; go_simp
  have f6 : W.cell? ⟨w1.heap.size + 1 + 1, 0, none⟩ = some (.int .i64 0) := by rw [hW]; go_simp
  have f7 : W.cell? ⟨w1.heap.size + 1 + 1, 1, none⟩ = some (.int .i64 0) := by rw [hW]; go_simp
  have HW := Lib.hid hW; clear hW
  have hE2 := hE1.below hWb
  have hw1W := hWb.size
  refine (C1.out _ _ (ints2 f6 f7)).mono ?_
  rintro e w2 ⟨rfl, B2⟩
  have g0 := keepl B2 f0
  have g1 := keepl B2 f1
  have g2 := keepl B2 f2
  have g3 := keepl B2 f3
  have g4 := keepl B2 f4
  have g5 := keepl B2 f5
  have g6 := keepl B2 f6
  have g7 := keepl B2 f7
  have hlat := cell_lt g0
  have hn0 : w1.heap.size < w2.heap.size := by omega
  have hn1 : w1.heap.size < w2.heap.size + 1 := by omega
  have hB2 : Below w.heap.size w w2 := (B1.trans (hWb.mono B1.size)).trans (B2.mono (Nat.le_trans B1.size hWb.size))
  have hE3 := hE2.below B2
  clear f0 f1 f2 f3 f4 f5 f6 f7 hE1 hE2
  go_wp2_with fail
  refine calls_named fun V hV => ?_
  have hVb : Below w2.heap.size w2 V := by rw [hV]; repeat (first | exact Below.refl _ _ | refine Below.setCell ?_ (by show _ ≤ _; first | exact Nat.le_refl _ | exact Nat.le_succ _ | (simp; omega)) _ | refine Below.alloc ?_ (by first | exact Nat.le_refl _ | (simp; done) | (simp; omega)) _)
  have k0 : V.cell? ⟨w2.heap.size, 0, none⟩ = some (.int .i64 3) := by rw [hV]; go_simp
  have k1 : V.cell? ⟨w2.heap.size, 1, none⟩ = some (.int .i64 (-1)) := by rw [hV]; go_simp
  have k2 : V.cell? ⟨w2.heap.size, 2, none⟩ = some (.int .i64 0) := by rw [hV]; go_simp
  have k3 : V.cell? ⟨w2.heap.size, 3, none⟩ = some (.int .i64 0) := by rw [hV]; go_simp
  have k4 : V.cell? ⟨w2.heap.size, 4, none⟩ = some (.bool false) := by rw [hV]; go_simp
  have k5 : V.cell? ⟨w2.heap.size, 5, none⟩ = some (.slice (some ⟨w1.heap.size + 1 + 1, 0, none⟩) 2 2) := by rw [hV]; go_simp
  have k6 : V.cell? ⟨w2.heap.size + 1, 0, none⟩ = some (.int .i64 3) := by rw [hV]; go_simp
  have k7 : V.cell? ⟨w2.heap.size + 1, 1, none⟩ = some (.int .i64 0) := by rw [hV]; go_simp
  have k8 : V.cell? ⟨w2.heap.size + 1, 2, none⟩ = some (.int .i64 0) := by rw [hV]; go_simp
  have k9 : V.cell? ⟨w2.heap.size + 1, 3, none⟩ = some (.int .i64 (-1)) := by rw [hV]; go_simp
  have k10 : V.cell? ⟨w2.heap.size + 1, 4, none⟩ = some (.bool false) := by rw [hV]; go_simp
  have k11 : V.cell? ⟨w2.heap.size + 1, 5, none⟩ = some (.slice (some ⟨w1.heap.size + 1 + 1, 0, none⟩) 2 2) := by rw [hV]; go_simp
  have k12 : V.cell? ⟨w2.heap.size + 1 + 1, 0, none⟩ = some (.int .i64 3) := by rw [hV]; go_simp
  have k13 : V.cell? ⟨w2.heap.size + 1 + 1, 1, none⟩ = some (.int .i64 0) := by rw [hV]; go_simp
  have k14 : V.cell? ⟨w2.heap.size + 1 + 1, 2, none⟩ = some (.int .i64 0) := by rw [hV]; go_simp
  have k15 : V.cell? ⟨w2.heap.size + 1 + 1, 3, none⟩ = some (.int .i64 0) := by rw [hV]; go_simp
  have k16 : V.cell? ⟨w2.heap.size + 1 + 1, 4, none⟩ = some (.bool false) := by rw [hV]; go_simp
  have k17 : V.cell? ⟨w2.heap.size + 1 + 1, 5, none⟩ = some (.slice (some ⟨w2.heap.size + 1 + 1 + 1 + 1, 0, none⟩) 2 2) := by rw [hV]; go_simp
  have k18 : V.cell? ⟨w2.heap.size + 1 + 1 + 1 + 1, 0, none⟩ = some (.int .i64 0) := by rw [hV]; go_simp
  have k19 : V.cell? ⟨w2.heap.size + 1 + 1 + 1 + 1, 1, none⟩ = some (.int .i64 (-1)) := by rw [hV]; go_simp
  have HV := Lib.hid hV; clear hV
  have k20 : V.cell? ⟨w1.heap.size + 1 + 1, 0, none⟩ = some (.int .i64 0) := keepl hVb g6
  have k21 : V.cell? ⟨w1.heap.size + 1 + 1, 1, none⟩ = some (.int .i64 0) := keepl hVb g7
  have hE4 := hE3.below hVb
  have hi1 := ints2 k20 k21
  have hi2 := ints2 k18 k19
  have hBV : Below w.heap.size w V := hB2.trans (hVb.mono hB2.size)
  have HK : Hid (∀ w' : World, Below V.heap.size V w' → (w'.cell? ⟨w2.heap.size + 1, 0, none⟩ = some (.int .i64 3) ∧ w'.cell? ⟨w2.heap.size + 1, 1, none⟩ = some (.int .i64 0) ∧ w'.cell? ⟨w2.heap.size + 1, 2, none⟩ = some (.int .i64 0) ∧ w'.cell? ⟨w2.heap.size + 1, 3, none⟩ = some (.int .i64 (-1)) ∧ w'.cell? ⟨w2.heap.size + 1, 4, none⟩ = some (.bool false) ∧ w'.cell? ⟨w2.heap.size + 1, 5, none⟩ = some (.slice (some ⟨w1.heap.size + 1 + 1, 0, none⟩) 2 2) ∧ w'.cell? ⟨w2.heap.size + 1 + 1, 0, none⟩ = some (.int .i64 3) ∧ w'.cell? ⟨w2.heap.size + 1 + 1, 1, none⟩ = some (.int .i64 0) ∧ w'.cell? ⟨w2.heap.size + 1 + 1, 2, none⟩ = some (.int .i64 0) ∧ w'.cell? ⟨w2.heap.size + 1 + 1, 3, none⟩ = some (.int .i64 0) ∧ w'.cell? ⟨w2.heap.size + 1 + 1, 4, none⟩ = some (.bool false) ∧ w'.cell? ⟨w2.heap.size + 1 + 1, 5, none⟩ = some (.slice (some ⟨w2.heap.size + 1 + 1 + 1 + 1, 0, none⟩) 2 2))) := fun w' h => ⟨keepl h k6, keepl h k7, keepl h k8, keepl h k9, keepl h k10, keepl h k11, keepl h k12, keepl h k13, keepl h k14, keepl h k15, keepl h k16, keepl h k17⟩
  clear g0 g1 g2 g3 g4 g5 g6 g7 k20 k21 k18 k19 k6 k7 k8 k9 k10 k11 k12 k13 k14 k15 k16 k17
  have V0 : Below V.heap.size V V := Below.refl _ _
  refine (C2.out _ _ (hi1.below V0)).mono ?_
  rintro e v1 ⟨rfl, hb⟩
  have V1 : Below V.heap.size V v1 := V0.trans (hb.mono V0.size)
  clear hb
  go_wp2_with fail
  refine (D2.out _ (hE4.below V1)).mono ?_
  rintro e v2 ⟨rfl, hb⟩
  have V2 : Below V.heap.size V v2 := V1.trans (hb.mono V1.size)
  clear hb
  obtain ⟨k6, k7, k8, k9, k10, k11, k12, k13, k14, k15, k16, k17⟩ := HK.out v2 V2
  go_wp2_with fail
  refine (C3.out _ _ (hi1.below V2)).mono ?_
  rintro e v3 ⟨rfl, hb⟩
  have V3 : Below V.heap.size V v3 := V2.trans (hb.mono V2.size)
  clear hb
  clear k6 k7 k8 k9 k10 k11 k12 k13 k14 k15 k16 k17
  go_wp2_with fail
  refine (D3.out _ (hE4.below V3)).mono ?_
  rintro e v4 ⟨rfl, hb⟩
  have V4 : Below V.heap.size V v4 := V3.trans (hb.mono V3.size)
  clear hb
  obtain ⟨k6, k7, k8, k9, k10, k11, k12, k13, k14, k15, k16, k17⟩ := HK.out v4 V4
  go_wp2_with fail
  refine (C4.out _ _ (hi2.below V4)).mono ?_
  rintro e v5 ⟨rfl, hb⟩
  have V5 : Below V.heap.size V v5 := V4.trans (hb.mono V4.size)
  clear hb
  go_wp2_with fail
  refine (D4.out _ (hE4.below V5)).mono ?_
  rintro e v6 ⟨rfl, hb⟩
  have V6 : Below V.heap.size V v6 := V5.trans (hb.mono V5.size)
  clear hb
  go_wp2
  go_ret
  exact ⟨rfl, hBV.trans (V6.mono hBV.size)⟩
end Go.Proofs.YtcegipkhmibdeaaDoor
