/- Small pieces that building a cluster calls. -/
import Derived.Test.YtllipidegjpidaaGreatDoorClone
import Derived.Test.YtllipidegjpidaaGreatDoorAuE
import Derived.Test.YtllipidegjpidaaGreatDoorAuR
import Derived.Deep.QuietTactic
namespace Go.Proofs.YtllipidegjpidaaGreatDoor
set_option linter.all false
open Go.RowKit

set_option maxRecDepth 100000 in
theorem asNil_any (t : Value) (w : World) : Calls Tryz.prog 52 #[.nilIface, t] w fun e w' => e = .returned (.bool false) ∧ w = w' := by
  go_enter Tryz.func52, Tryz.ntmps52
  go_wp2
  go_ret
  exact ⟨rfl, rfl⟩
set_option maxRecDepth 100000 in
theorem wrongC_any (x : Int) (w : World) (h0 : 0 ≤ x) (h1 : x ≤ 1099511627776) : Calls Tryz.prog 54 #[.int .i64 x] w fun e w' => e = .returned (.bool false) ∧ w = w' := by
  have h2 : ¬ (x < 0) := by omega
  have h3 : ¬ (1099511627776 < x) := by omega
  go_enter Tryz.func54, Tryz.ntmps54
  go_wp2
  go_ret
  exact ⟨rfl, rfl⟩
set_option maxRecDepth 100000 in
theorem index1_any (x : Int) (b o c : Nat) (w : World) (h0 : 0 ≤ x) (h1 : x ≤ 1099511627776) (h : w.cell? ⟨b, o, none⟩ = some (.int .i64 x)) :
    Calls Tryz.prog 53 #[.slice (some ⟨b, o, none⟩) 1 c, .func (Fn.func 54) #[] #[]] w fun e w' => e = .returned (.int .i64 (-1)) ∧ w = w' := by
  have HC := Lib.hid fun w' => wrongC_any x w' h0 h1
  clear h0 h1
  go_enter Tryz.func53, Tryz.ntmps53
  go_wp2
  refine wp_loop_rounds 2 ?_
  rw [rounds_succ]
  go_wp2_with (go_at_call 54; refine (HC.out _).mono ?_; rintro e w1 ⟨rfl, rfl⟩)
  rw [rounds_succ]
  go_wp2
  go_ret
  exact ⟨rfl, rfl⟩
set_option maxRecDepth 100000 in
/-- vec.Wrong of one amount within its bounds, in one dimension. -/
theorem wrong1_any (x : Int) (b o c : Nat) (w : World) (h0 : 0 ≤ x) (h1 : x ≤ 1099511627776) (h : w.cell? ⟨b, o, none⟩ = some (.int .i64 x)) :
    Calls Tryz.prog 34 #[.slice (some ⟨b, o, none⟩) 1 c, .int .i64 1] w fun e w' => e = .returned (.int .i64 (-1)) ∧ w = w' := by
  have HC := Lib.hid (index1_any x b o c w h0 h1 h)
  clear h0 h1 h
  go_enter Tryz.func34, Tryz.ntmps34
  go_wp2_with fail
  refine HC.out.mono ?_
  rintro e w1 ⟨rfl, rfl⟩
  go_wp2
  go_ret
  exact ⟨rfl, rfl⟩
/-- slices.Clone of one element. -/
theorem clone1_any (x : Int) (b o c : Nat) (w : World) (h : w.cell? ⟨b, o, none⟩ = some (.int .i64 x)) :
    Calls Tryz.prog 49 #[.slice (some ⟨b, o, none⟩) 1 c] w fun e w' => ∃ b' o' c', e = .returned (.slice (some ⟨b', o', none⟩) 1 c') ∧ w'.cell? ⟨b', o', none⟩ = some (.int .i64 x) ∧ w.heap.size ≤ b' ∧ Below w.heap.size w w' := by
  have hi : IntsAt w (.slice (some ⟨b, o, none⟩) 1 c) [x] := ⟨_, _, rfl, .inr ⟨b, o, rfl, cell_lt h, fun j hj => by
    match j, hj with
    | 0, _ => exact h⟩⟩
  refine (clone_any _ [x] w (by simp) hi).mono ?_
  rintro e w' ⟨a, cap, rfl, hr, hb⟩
  obtain ⟨a', c', he, h0 | ⟨b', off, rfl, h2, h3, h4⟩⟩ := new_of_row (zs := [x]) hr
  · cases h0
  · cases he
    exact ⟨b', off, cap, rfl, h4 0 (by simp), h2, hb⟩
theorem cloneNil_any (w : World) : Calls Tryz.prog 49 #[.slice none 0 0] w fun e w' => e = .returned (.slice none 0 0) ∧ w = w' := clone_nil 0 0 w
/-- vec.Zero of one dimension. -/
theorem zero1_any (w : World) : Calls Tryz.prog 51 #[.int .i64 1] w fun e w' => ∃ b o c, e = .returned (.slice (some ⟨b, o, none⟩) 1 c) ∧ w'.cell? ⟨b, o, none⟩ = some (.int .i64 0) ∧ w.heap.size ≤ b ∧ Below w.heap.size w w' := by
  refine (zero_any 1 w (by omega)).mono ?_
  rintro e w' ⟨a, cp, rfl, hi, hb⟩
  obtain ⟨a', c', he, h0 | ⟨b', off, rfl, h2, h3, h4⟩⟩ := hi
  · cases h0
  · cases he
    exact ⟨b', off, cp, rfl, h4 0 (by decide), h2, hb⟩
/-- A pod's value. -/
abbrev podVal (i pr : Int) (q : Bool) (g : Int) (r : Value) (ar ph no de : Int) : Value := .agg #[.int .i64 i, .int .i64 pr, .bool q, .int .i64 g, r, .int .i64 ar, .int .i64 ph, .int .i64 no, .int .i64 de]
set_option maxHeartbeats 1000000 in
set_option maxRecDepth 100000 in
/-- pod.copied of a pod with one amount. -/
theorem copied1_any (i pr : Int) (q : Bool) (g ar ph no de x : Int) (b o c : Nat) (w : World) (h : w.cell? ⟨b, o, none⟩ = some (.int .i64 x)) :
    Calls Tryz.prog 56 #[podVal i pr q g (.slice (some ⟨b, o, none⟩) 1 c) ar ph no de] w fun e w' => ∃ b' o' c', e = .returned (podVal i pr q g (.slice (some ⟨b', o', none⟩) 1 c') ar ph no de) ∧ w'.cell? ⟨b', o', none⟩ = some (.int .i64 x) ∧ w.heap.size ≤ b' ∧ Below w.heap.size w w' := by
  have HC : Hid (∀ X, From w X → Calls Tryz.prog 49 #[.slice (some ⟨b, o, none⟩) 1 c] X fun e w' => ∃ b' o' c', e = .returned (.slice (some ⟨b', o', none⟩) 1 c') ∧ w'.cell? ⟨b', o', none⟩ = some (.int .i64 x) ∧ X.heap.size ≤ b' ∧ Below X.heap.size X w') := fun X f => clone1_any x b o c X (f.cell h)
  clear h
  go_enter Tryz.func56, Tryz.ntmps56
  go_wp2_with fail
  refine calls_named fun X hX => ?_
  have F1 : From w X := by rw [hX]; exact ((From.refl w).alloc _).alloc _
  have hs : X.heap.size = w.heap.size + 2 := by rw [hX]; simp
  have HS := Lib.hid hs
  have e0 : X.cell? ⟨w.heap.size, 0, none⟩ = some (.int .i64 i) := by rw [hX]; go_simp
  have e1 : X.cell? ⟨w.heap.size, 1, none⟩ = some (.int .i64 pr) := by rw [hX]; go_simp
  have e2 : X.cell? ⟨w.heap.size, 2, none⟩ = some (.bool q) := by rw [hX]; go_simp
  have e3 : X.cell? ⟨w.heap.size, 3, none⟩ = some (.int .i64 g) := by rw [hX]; go_simp
  have e4 : X.cell? ⟨w.heap.size, 4, none⟩ = some (.slice (some ⟨b, o, none⟩) 1 c) := by rw [hX]; go_simp
  have e5 : X.cell? ⟨w.heap.size, 5, none⟩ = some (.int .i64 ar) := by rw [hX]; go_simp
  have e6 : X.cell? ⟨w.heap.size, 6, none⟩ = some (.int .i64 ph) := by rw [hX]; go_simp
  have e7 : X.cell? ⟨w.heap.size, 7, none⟩ = some (.int .i64 no) := by rw [hX]; go_simp
  have e8 : X.cell? ⟨w.heap.size, 8, none⟩ = some (.int .i64 de) := by rw [hX]; go_simp
  have z0 : X.cell? ⟨w.heap.size + 1, 0, none⟩ = some (.int .i64 0) := by rw [hX]; go_simp
  have z1 : X.cell? ⟨w.heap.size + 1, 1, none⟩ = some (.int .i64 0) := by rw [hX]; go_simp
  have z2 : X.cell? ⟨w.heap.size + 1, 2, none⟩ = some (.bool false) := by rw [hX]; go_simp
  have z3 : X.cell? ⟨w.heap.size + 1, 3, none⟩ = some (.int .i64 0) := by rw [hX]; go_simp
  have z4 : X.cell? ⟨w.heap.size + 1, 4, none⟩ = some (.slice none 0 0) := by rw [hX]; go_simp
  have z5 : X.cell? ⟨w.heap.size + 1, 5, none⟩ = some (.int .i64 0) := by rw [hX]; go_simp
  have z6 : X.cell? ⟨w.heap.size + 1, 6, none⟩ = some (.int .i64 0) := by rw [hX]; go_simp
  have z7 : X.cell? ⟨w.heap.size + 1, 7, none⟩ = some (.int .i64 0) := by rw [hX]; go_simp
  have z8 : X.cell? ⟨w.heap.size + 1, 8, none⟩ = some (.int .i64 0) := by rw [hX]; go_simp
  have fe : ∀ j, X.frozen? ⟨w.heap.size, j, none⟩ = false := fun j => by rw [hX]; go_simp
  have fz : ∀ j, X.frozen? ⟨w.heap.size + 1, j, none⟩ = false := fun j => by rw [hX]; go_simp
  clear hX hs
  refine (HC.out _ F1).mono ?_
  rintro e W ⟨b', o', c', rfl, hc, hlb, hb⟩
  have F2 : From X W := ⟨hb⟩
  have hb1 := cell_lt e0
  have hb2 := cell_lt z0
  have hX := HS.out
  have e0 := F2.cell e0
  have z0 := F2.cell z0
  have g0 := (hb.frozen (p := ⟨w.heap.size, 0, none⟩) hb1).trans (fe 0)
  have k0 := (hb.frozen (p := ⟨w.heap.size + 1, 0, none⟩) hb2).trans (fz 0)
  have e1 := F2.cell e1
  have z1 := F2.cell z1
  have g1 := (hb.frozen (p := ⟨w.heap.size, 1, none⟩) hb1).trans (fe 1)
  have k1 := (hb.frozen (p := ⟨w.heap.size + 1, 1, none⟩) hb2).trans (fz 1)
  have e2 := F2.cell e2
  have z2 := F2.cell z2
  have g2 := (hb.frozen (p := ⟨w.heap.size, 2, none⟩) hb1).trans (fe 2)
  have k2 := (hb.frozen (p := ⟨w.heap.size + 1, 2, none⟩) hb2).trans (fz 2)
  have e3 := F2.cell e3
  have z3 := F2.cell z3
  have g3 := (hb.frozen (p := ⟨w.heap.size, 3, none⟩) hb1).trans (fe 3)
  have k3 := (hb.frozen (p := ⟨w.heap.size + 1, 3, none⟩) hb2).trans (fz 3)
  have e4 := F2.cell e4
  have z4 := F2.cell z4
  have g4 := (hb.frozen (p := ⟨w.heap.size, 4, none⟩) hb1).trans (fe 4)
  have k4 := (hb.frozen (p := ⟨w.heap.size + 1, 4, none⟩) hb2).trans (fz 4)
  have e5 := F2.cell e5
  have z5 := F2.cell z5
  have g5 := (hb.frozen (p := ⟨w.heap.size, 5, none⟩) hb1).trans (fe 5)
  have k5 := (hb.frozen (p := ⟨w.heap.size + 1, 5, none⟩) hb2).trans (fz 5)
  have e6 := F2.cell e6
  have z6 := F2.cell z6
  have g6 := (hb.frozen (p := ⟨w.heap.size, 6, none⟩) hb1).trans (fe 6)
  have k6 := (hb.frozen (p := ⟨w.heap.size + 1, 6, none⟩) hb2).trans (fz 6)
  have e7 := F2.cell e7
  have z7 := F2.cell z7
  have g7 := (hb.frozen (p := ⟨w.heap.size, 7, none⟩) hb1).trans (fe 7)
  have k7 := (hb.frozen (p := ⟨w.heap.size + 1, 7, none⟩) hb2).trans (fz 7)
  have e8 := F2.cell e8
  have z8 := F2.cell z8
  have g8 := (hb.frozen (p := ⟨w.heap.size, 8, none⟩) hb1).trans (fe 8)
  have k8 := (hb.frozen (p := ⟨w.heap.size + 1, 8, none⟩) hb2).trans (fz 8)
  have HF := Lib.hid (F1.trans F2)
  have HQ := Lib.hid hc
  have hn1 : ¬ b' = w.heap.size := by omega
  have hn2 : ¬ b' = w.heap.size + 1 := by omega
  have hn3 : ¬ w.heap.size = b' := by omega
  have hn4 : ¬ w.heap.size + 1 = b' := by omega
  have hlw : w.heap.size ≤ b' := by omega
  clear F1 F2 hb fe fz hX HS hlb hc
  go_wp2
  have hc := HQ.out
  refine bodyPost_ret (v := podVal i pr q g (.slice (some ⟨b', o', none⟩) 1 c') ar ph no de) ?_ rfl ⟨b', o', c', rfl, ?_, hlw, ?_⟩
  · simp only [results, Tryz.results56]; go_simp
  · go_simp
  · have := HF.out.out
    repeat (first | (with_reducible exact this) | (with_reducible refine below_set ?_ (by omega) _))
end Go.Proofs.YtllipidegjpidaaGreatDoor
