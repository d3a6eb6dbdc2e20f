/- hammockref03.Check. -/
import Derived.Test.YtcegipkhmibdeaaDoorErr
import Derived.Test.YtcegipkhmibdeaaDoorOp
namespace Go.Proofs.YtcegipkhmibdeaaDoor
set_option linter.all false
open Go.RowKit

/-- A number outside of a range. -/
def outP (n least most : Int) : Bool := decide (n < least ∨ most < n)
/-- The code (0: no error) and the index, as the reference tells them. -/
def checkR (k i c n : Int) (zs : List Int) (d : Int) : Int × Int :=
  if outP k 1 7 then (1, 0)
  else if decide (k ≤ 5) && outP i 0 1073741824 then (2, 0)
  else if decide (k = 4) && outP c 0 1073741824 then (2, 1)
  else if (decide (k = 1) && outP n (-1073741824) 1073741824) || (decide (k = 4 ∨ k = 6) && outP n 0 1048576) then (4, 0)
  else if decide (k = 2 ∨ k = 4) && decide (0 ≤ wrongP zs d) then (3, wrongP zs d)
  else (0, 0)
set_option maxRecDepth 100000 in
theorem refCheck_1 (i c n : Int) (f : Bool) (am : Value) (zs : List Int) (d : Int) (w : World) :
    Calls Tryd.prog 37 #[opV 1 i c n f am, .int .i64 d] w fun e w' => e = .returned (.tuple #[.int .i64 (checkR 1 i c n zs d).1, .int .i64 (checkR 1 i c n zs d).2]) ∧ Below w.heap.size w w' := by
  have C0 := outside_any 1 1 7
  rw [show decide ((1 : Int) < 1 ∨ (7 : Int) < 1) = false by decide] at C0
  have H0 := Lib.hid C0; clear C0
  have Ci := outside_any i 0 1073741824
  rw [show decide (i < 0 ∨ 1073741824 < i) = outP i 0 1073741824 from rfl] at Ci
  have Cn := outside_any n (-1073741824) 1073741824
  rw [show decide (n < (-1073741824) ∨ 1073741824 < n) = outP n (-1073741824) 1073741824 from rfl] at Cn
  have hr : checkR 1 i c n zs d = if outP i 0 1073741824 then (2, 0) else if outP n (-1073741824) 1073741824 then (4, 0) else (0, 0) := by
    unfold checkR
    simp [show outP 1 1 7 = false by decide]
  rw [hr]; clear hr
  generalize outP i 0 1073741824 = bi at *
  generalize outP n (-1073741824) 1073741824 = bn at *
  cases bi with
  | true =>
    have Hi := Lib.hid Ci; clear Ci
    simp only [if_true, Bool.false_eq_true, if_false]
    go_enter Tryd.func37, Tryd.ntmps37
    go_wp2_with fail
    refine (H0.out _).mono ?_
    rintro e w0 ⟨rfl, rfl⟩
    go_wp2_with fail
    refine (Hi.out _).mono ?_
    rintro e w1 ⟨rfl, rfl⟩
    go_wp2
    go_ret2
    exact ⟨rfl, (Below.refl _ w).alloc (Nat.le_refl _) _⟩
  | false =>
  have Hi := Lib.hid Ci; clear Ci
  cases bn with
  | true =>
    have Hn := Lib.hid Cn; clear Cn
    simp only [if_true, Bool.false_eq_true, if_false]
    go_enter Tryd.func37, Tryd.ntmps37
    go_wp2_with fail
    refine (H0.out _).mono ?_
    rintro e w0 ⟨rfl, rfl⟩
    go_wp2_with fail
    refine (Hi.out _).mono ?_
    rintro e w1 ⟨rfl, rfl⟩
    go_wp2_with fail
    refine (Hn.out _).mono ?_
    rintro e w1 ⟨rfl, rfl⟩
    go_wp2
    go_ret2
    exact ⟨rfl, (Below.refl _ w).alloc (Nat.le_refl _) _⟩
  | false =>
  have Hn := Lib.hid Cn; clear Cn
  try simp only [Bool.false_eq_true, if_false]
  go_enter Tryd.func37, Tryd.ntmps37
  go_wp2_with fail
  refine (H0.out _).mono ?_
  rintro e w0 ⟨rfl, rfl⟩
  go_wp2_with fail
  refine (Hi.out _).mono ?_
  rintro e w1 ⟨rfl, rfl⟩
  go_wp2_with fail
  refine (Hn.out _).mono ?_
  rintro e w1 ⟨rfl, rfl⟩
  go_wp2
  go_ret2
  exact ⟨rfl, (Below.refl _ w).alloc (Nat.le_refl _) _⟩
set_option maxRecDepth 100000 in
theorem refCheck_2 (i c n : Int) (f : Bool) (a : Option Addr) (cp : Nat) (zs : List Int) (d : Int) (w : World) (hx : zs.length * 8 ≤ 140737488351232) (h : IntsAt w (.slice a zs.length cp) zs) :
    Calls Tryd.prog 37 #[opV 2 i c n f (.slice a zs.length cp), .int .i64 d] w fun e w' => e = .returned (.tuple #[.int .i64 (checkR 2 i c n zs d).1, .int .i64 (checkR 2 i c n zs d).2]) ∧ Below w.heap.size w w' := by
  have C0 := outside_any 2 1 7
  rw [show decide ((2 : Int) < 1 ∨ (7 : Int) < 2) = false by decide] at C0
  have H0 := Lib.hid C0; clear C0
  have Ci := outside_any i 0 1073741824
  rw [show decide (i < 0 ∨ 1073741824 < i) = outP i 0 1073741824 from rfl] at Ci
  have Cz := wrong01_any (.slice a zs.length cp) zs d
  have hg : wrongP zs d = -1 ∨ 0 ≤ wrongP zs d := by have := badAt_ge zs 0 (Int.le_refl _); unfold wrongP; split <;> (try split) <;> omega
  have hr : checkR 2 i c n zs d = if outP i 0 1073741824 then (2, 0) else if 0 ≤ wrongP zs d then (3, wrongP zs d) else (0, 0) := by
    unfold checkR
    simp [show outP 2 1 7 = false by decide]
  rw [hr]; clear hr
  generalize outP i 0 1073741824 = bi at *
  generalize wrongP zs d = j at *
  have Hz := Lib.hid Cz; clear Cz
  have HX := Lib.hid hx; clear hx
  have HH := Lib.hid h; clear h
  generalize zs.length = l at *
  cases bi with
  | true =>
    have Hi := Lib.hid Ci; clear Ci
    simp only [if_true, Bool.false_eq_true, if_false]
    go_enter Tryd.func37, Tryd.ntmps37
    go_wp2_with fail
    refine (H0.out _).mono ?_
    rintro e w0 ⟨rfl, rfl⟩
    go_wp2_with fail
    refine (Hi.out _).mono ?_
    rintro e w1 ⟨rfl, rfl⟩
    go_wp2
    go_ret2
    exact ⟨rfl, (Below.refl _ w).alloc (Nat.le_refl _) _⟩
  | false =>
  have Hi := Lib.hid Ci; clear Ci
  simp only [Bool.false_eq_true, if_false]
  rcases hg with rfl | hg
  · rw [if_neg (by decide)]
    go_enter Tryd.func37, Tryd.ntmps37
    go_wp2_with fail
    refine (H0.out _).mono ?_
    rintro e w0 ⟨rfl, rfl⟩
    go_wp2_with fail
    refine (Hi.out _).mono ?_
    rintro e w1 ⟨rfl, rfl⟩
    go_wp2_with fail
    refine (Hz.out _ HX.out (HH.out.below ((Below.refl _ w).alloc (Nat.le_refl _) _))).mono ?_
    rintro e w2 ⟨rfl, hb⟩
    obtain ⟨hc, hf⟩ := bcell hb
    go_wp2
    go_ret2
    exact ⟨rfl, ((Below.refl _ w).alloc (Nat.le_refl _) _).trans (hb.mono (by simp))⟩
  · rw [if_pos hg]
    go_enter Tryd.func37, Tryd.ntmps37
    go_wp2_with fail
    refine (H0.out _).mono ?_
    rintro e w0 ⟨rfl, rfl⟩
    go_wp2_with fail
    refine (Hi.out _).mono ?_
    rintro e w1 ⟨rfl, rfl⟩
    go_wp2_with fail
    refine (Hz.out _ HX.out (HH.out.below ((Below.refl _ w).alloc (Nat.le_refl _) _))).mono ?_
    rintro e w2 ⟨rfl, hb⟩
    obtain ⟨hc, hf⟩ := bcell hb
    go_wp2
    go_ret2
    exact ⟨rfl, ((Below.refl _ w).alloc (Nat.le_refl _) _).trans (hb.mono (by simp))⟩
set_option maxRecDepth 100000 in
theorem refCheck_3 (i c n : Int) (f : Bool) (am : Value) (zs : List Int) (d : Int) (w : World) :
    Calls Tryd.prog 37 #[opV 3 i c n f am, .int .i64 d] w fun e w' => e = .returned (.tuple #[.int .i64 (checkR 3 i c n zs d).1, .int .i64 (checkR 3 i c n zs d).2]) ∧ Below w.heap.size w w' := by
  have C0 := outside_any 3 1 7
  rw [show decide ((3 : Int) < 1 ∨ (7 : Int) < 3) = false by decide] at C0
  have H0 := Lib.hid C0; clear C0
  have Ci := outside_any i 0 1073741824
  rw [show decide (i < 0 ∨ 1073741824 < i) = outP i 0 1073741824 from rfl] at Ci
  have hr : checkR 3 i c n zs d = if outP i 0 1073741824 then (2, 0) else (0, 0) := by
    unfold checkR
    simp [show outP 3 1 7 = false by decide]
  rw [hr]; clear hr
  generalize outP i 0 1073741824 = bi at *
  cases bi with
  | true =>
    have Hi := Lib.hid Ci; clear Ci
    simp only [if_true, Bool.false_eq_true, if_false]
    go_enter Tryd.func37, Tryd.ntmps37
    go_wp2_with fail
    refine (H0.out _).mono ?_
    rintro e w0 ⟨rfl, rfl⟩
    go_wp2_with fail
    refine (Hi.out _).mono ?_
    rintro e w1 ⟨rfl, rfl⟩
    go_wp2
    go_ret2
    exact ⟨rfl, (Below.refl _ w).alloc (Nat.le_refl _) _⟩
  | false =>
  have Hi := Lib.hid Ci; clear Ci
  try simp only [Bool.false_eq_true, if_false]
  go_enter Tryd.func37, Tryd.ntmps37
  go_wp2_with fail
  refine (H0.out _).mono ?_
  rintro e w0 ⟨rfl, rfl⟩
  go_wp2_with fail
  refine (Hi.out _).mono ?_
  rintro e w1 ⟨rfl, rfl⟩
  go_wp2
  go_ret2
  exact ⟨rfl, (Below.refl _ w).alloc (Nat.le_refl _) _⟩
set_option maxRecDepth 100000 in
theorem refCheck_4 (i c n : Int) (f : Bool) (a : Option Addr) (cp : Nat) (zs : List Int) (d : Int) (w : World) (hx : zs.length * 8 ≤ 140737488351232) (h : IntsAt w (.slice a zs.length cp) zs) :
    Calls Tryd.prog 37 #[opV 4 i c n f (.slice a zs.length cp), .int .i64 d] w fun e w' => e = .returned (.tuple #[.int .i64 (checkR 4 i c n zs d).1, .int .i64 (checkR 4 i c n zs d).2]) ∧ Below w.heap.size w w' := by
  have C0 := outside_any 4 1 7
  rw [show decide ((4 : Int) < 1 ∨ (7 : Int) < 4) = false by decide] at C0
  have H0 := Lib.hid C0; clear C0
  have Ci := outside_any i 0 1073741824
  rw [show decide (i < 0 ∨ 1073741824 < i) = outP i 0 1073741824 from rfl] at Ci
  have Cc := outside_any c 0 1073741824
  rw [show decide (c < 0 ∨ 1073741824 < c) = outP c 0 1073741824 from rfl] at Cc
  have Cn := outside_any n 0 1048576
  rw [show decide (n < 0 ∨ 1048576 < n) = outP n 0 1048576 from rfl] at Cn
  have Cz := wrong01_any (.slice a zs.length cp) zs d
  have hg : wrongP zs d = -1 ∨ 0 ≤ wrongP zs d := by have := badAt_ge zs 0 (Int.le_refl _); unfold wrongP; split <;> (try split) <;> omega
  have hr : checkR 4 i c n zs d = if outP i 0 1073741824 then (2, 0) else if outP c 0 1073741824 then (2, 1) else if outP n 0 1048576 then (4, 0) else if 0 ≤ wrongP zs d then (3, wrongP zs d) else (0, 0) := by
    unfold checkR
    simp [show outP 4 1 7 = false by decide]
  rw [hr]; clear hr
  generalize outP i 0 1073741824 = bi at *
  generalize outP c 0 1073741824 = bc at *
  generalize outP n 0 1048576 = bn at *
  generalize wrongP zs d = j at *
  have Hz := Lib.hid Cz; clear Cz
  have HX := Lib.hid hx; clear hx
  have HH := Lib.hid h; clear h
  generalize zs.length = l at *
  cases bi with
  | true =>
    have Hi := Lib.hid Ci; clear Ci
    simp only [if_true, Bool.false_eq_true, if_false]
    go_enter Tryd.func37, Tryd.ntmps37
    go_wp2_with fail
    refine (H0.out _).mono ?_
    rintro e w0 ⟨rfl, rfl⟩
    go_wp2_with fail
    refine (Hi.out _).mono ?_
    rintro e w1 ⟨rfl, rfl⟩
    go_wp2
    go_ret2
    exact ⟨rfl, (Below.refl _ w).alloc (Nat.le_refl _) _⟩
  | false =>
  have Hi := Lib.hid Ci; clear Ci
  cases bc with
  | true =>
    have Hc := Lib.hid Cc; clear Cc
    simp only [if_true, Bool.false_eq_true, if_false]
    go_enter Tryd.func37, Tryd.ntmps37
    go_wp2_with fail
    refine (H0.out _).mono ?_
    rintro e w0 ⟨rfl, rfl⟩
    go_wp2_with fail
    refine (Hi.out _).mono ?_
    rintro e w1 ⟨rfl, rfl⟩
    go_wp2_with fail
    refine (Hc.out _).mono ?_
    rintro e w1 ⟨rfl, rfl⟩
    go_wp2
    go_ret2
    exact ⟨rfl, (Below.refl _ w).alloc (Nat.le_refl _) _⟩
  | false =>
  have Hc := Lib.hid Cc; clear Cc
  cases bn with
  | true =>
    have Hn := Lib.hid Cn; clear Cn
    simp only [if_true, Bool.false_eq_true, if_false]
    go_enter Tryd.func37, Tryd.ntmps37
    go_wp2_with fail
    refine (H0.out _).mono ?_
    rintro e w0 ⟨rfl, rfl⟩
    go_wp2_with fail
    refine (Hi.out _).mono ?_
    rintro e w1 ⟨rfl, rfl⟩
    go_wp2_with fail
    refine (Hc.out _).mono ?_
    rintro e w1 ⟨rfl, rfl⟩
    go_wp2_with fail
    refine (Hn.out _).mono ?_
    rintro e w1 ⟨rfl, rfl⟩
    go_wp2
    go_ret2
    exact ⟨rfl, (Below.refl _ w).alloc (Nat.le_refl _) _⟩
  | false =>
  have Hn := Lib.hid Cn; clear Cn
  simp only [Bool.false_eq_true, if_false]
  rcases hg with rfl | hg
  · rw [if_neg (by decide)]
    go_enter Tryd.func37, Tryd.ntmps37
    go_wp2_with fail
    refine (H0.out _).mono ?_
    rintro e w0 ⟨rfl, rfl⟩
    go_wp2_with fail
    refine (Hi.out _).mono ?_
    rintro e w1 ⟨rfl, rfl⟩
    go_wp2_with fail
    refine (Hc.out _).mono ?_
    rintro e w1 ⟨rfl, rfl⟩
    go_wp2_with fail
    refine (Hn.out _).mono ?_
    rintro e w1 ⟨rfl, rfl⟩
    go_wp2_with fail
    refine (Hz.out _ HX.out (HH.out.below ((Below.refl _ w).alloc (Nat.le_refl _) _))).mono ?_
    rintro e w2 ⟨rfl, hb⟩
    obtain ⟨hc, hf⟩ := bcell hb
    go_wp2
    go_ret2
    exact ⟨rfl, ((Below.refl _ w).alloc (Nat.le_refl _) _).trans (hb.mono (by simp))⟩
  · rw [if_pos hg]
    go_enter Tryd.func37, Tryd.ntmps37
    go_wp2_with fail
    refine (H0.out _).mono ?_
    rintro e w0 ⟨rfl, rfl⟩
    go_wp2_with fail
    refine (Hi.out _).mono ?_
    rintro e w1 ⟨rfl, rfl⟩
    go_wp2_with fail
    refine (Hc.out _).mono ?_
    rintro e w1 ⟨rfl, rfl⟩
    go_wp2_with fail
    refine (Hn.out _).mono ?_
    rintro e w1 ⟨rfl, rfl⟩
    go_wp2_with fail
    refine (Hz.out _ HX.out (HH.out.below ((Below.refl _ w).alloc (Nat.le_refl _) _))).mono ?_
    rintro e w2 ⟨rfl, hb⟩
    obtain ⟨hc, hf⟩ := bcell hb
    go_wp2
    go_ret2
    exact ⟨rfl, ((Below.refl _ w).alloc (Nat.le_refl _) _).trans (hb.mono (by simp))⟩
set_option maxRecDepth 100000 in
theorem refCheck_5 (i c n : Int) (f : Bool) (am : Value) (zs : List Int) (d : Int) (w : World) :
    Calls Tryd.prog 37 #[opV 5 i c n f am, .int .i64 d] w fun e w' => e = .returned (.tuple #[.int .i64 (checkR 5 i c n zs d).1, .int .i64 (checkR 5 i c n zs d).2]) ∧ Below w.heap.size w w' := by
  have C0 := outside_any 5 1 7
  rw [show decide ((5 : Int) < 1 ∨ (7 : Int) < 5) = false by decide] at C0
  have H0 := Lib.hid C0; clear C0
  have Ci := outside_any i 0 1073741824
  rw [show decide (i < 0 ∨ 1073741824 < i) = outP i 0 1073741824 from rfl] at Ci
  have hr : checkR 5 i c n zs d = if outP i 0 1073741824 then (2, 0) else (0, 0) := by
    unfold checkR
    simp [show outP 5 1 7 = false by decide]
  rw [hr]; clear hr
  generalize outP i 0 1073741824 = bi at *
  cases bi with
  | true =>
    have Hi := Lib.hid Ci; clear Ci
    simp only [if_true, Bool.false_eq_true, if_false]
    go_enter Tryd.func37, Tryd.ntmps37
    go_wp2_with fail
    refine (H0.out _).mono ?_
    rintro e w0 ⟨rfl, rfl⟩
    go_wp2_with fail
    refine (Hi.out _).mono ?_
    rintro e w1 ⟨rfl, rfl⟩
    go_wp2
    go_ret2
    exact ⟨rfl, (Below.refl _ w).alloc (Nat.le_refl _) _⟩
  | false =>
  have Hi := Lib.hid Ci; clear Ci
  try simp only [Bool.false_eq_true, if_false]
  go_enter Tryd.func37, Tryd.ntmps37
  go_wp2_with fail
  refine (H0.out _).mono ?_
  rintro e w0 ⟨rfl, rfl⟩
  go_wp2_with fail
  refine (Hi.out _).mono ?_
  rintro e w1 ⟨rfl, rfl⟩
  go_wp2
  go_ret2
  exact ⟨rfl, (Below.refl _ w).alloc (Nat.le_refl _) _⟩
set_option maxRecDepth 100000 in
theorem refCheck_6 (i c n : Int) (f : Bool) (am : Value) (zs : List Int) (d : Int) (w : World) :
    Calls Tryd.prog 37 #[opV 6 i c n f am, .int .i64 d] w fun e w' => e = .returned (.tuple #[.int .i64 (checkR 6 i c n zs d).1, .int .i64 (checkR 6 i c n zs d).2]) ∧ Below w.heap.size w w' := by
  have C0 := outside_any 6 1 7
  rw [show decide ((6 : Int) < 1 ∨ (7 : Int) < 6) = false by decide] at C0
  have H0 := Lib.hid C0; clear C0
  have Cn := outside_any n 0 1048576
  rw [show decide (n < 0 ∨ 1048576 < n) = outP n 0 1048576 from rfl] at Cn
  have hr : checkR 6 i c n zs d = if outP n 0 1048576 then (4, 0) else (0, 0) := by
    unfold checkR
    simp [show outP 6 1 7 = false by decide]
  rw [hr]; clear hr
  generalize outP n 0 1048576 = bn at *
  cases bn with
  | true =>
    have Hn := Lib.hid Cn; clear Cn
    simp only [if_true, Bool.false_eq_true, if_false]
    go_enter Tryd.func37, Tryd.ntmps37
    go_wp2_with fail
    refine (H0.out _).mono ?_
    rintro e w0 ⟨rfl, rfl⟩
    go_wp2_with fail
    refine (Hn.out _).mono ?_
    rintro e w1 ⟨rfl, rfl⟩
    go_wp2
    go_ret2
    exact ⟨rfl, (Below.refl _ w).alloc (Nat.le_refl _) _⟩
  | false =>
  have Hn := Lib.hid Cn; clear Cn
  try simp only [Bool.false_eq_true, if_false]
  go_enter Tryd.func37, Tryd.ntmps37
  go_wp2_with fail
  refine (H0.out _).mono ?_
  rintro e w0 ⟨rfl, rfl⟩
  go_wp2_with fail
  refine (Hn.out _).mono ?_
  rintro e w1 ⟨rfl, rfl⟩
  go_wp2
  go_ret2
  exact ⟨rfl, (Below.refl _ w).alloc (Nat.le_refl _) _⟩
set_option maxRecDepth 100000 in
theorem refCheck_7 (i c n : Int) (f : Bool) (am : Value) (zs : List Int) (d : Int) (w : World) :
    Calls Tryd.prog 37 #[opV 7 i c n f am, .int .i64 d] w fun e w' => e = .returned (.tuple #[.int .i64 (checkR 7 i c n zs d).1, .int .i64 (checkR 7 i c n zs d).2]) ∧ Below w.heap.size w w' := by
  have C0 := outside_any 7 1 7
  rw [show decide ((7 : Int) < 1 ∨ (7 : Int) < 7) = false by decide] at C0
  have H0 := Lib.hid C0; clear C0
  have hr : checkR 7 i c n zs d = (0, 0) := by
    unfold checkR
    simp [show outP 7 1 7 = false by decide]
  rw [hr]; clear hr
  try simp only [Bool.false_eq_true, if_false]
  go_enter Tryd.func37, Tryd.ntmps37
  go_wp2_with fail
  refine (H0.out _).mono ?_
  rintro e w0 ⟨rfl, rfl⟩
  go_wp2
  go_ret2
  exact ⟨rfl, (Below.refl _ w).alloc (Nat.le_refl _) _⟩
set_option maxRecDepth 100000 in
theorem refCheck_l (k i c n : Int) (f : Bool) (am : Value) (zs : List Int) (d : Int) (w : World) (hk : outP k 1 7 = true) :
    Calls Tryd.prog 37 #[opV k i c n f am, .int .i64 d] w fun e w' => e = .returned (.tuple #[.int .i64 (checkR k i c n zs d).1, .int .i64 (checkR k i c n zs d).2]) ∧ Below w.heap.size w w' := by
  have C0 := outside_any k 1 7
  rw [show decide (k < 1 ∨ 7 < k) = true from hk] at C0
  have H0 := Lib.hid C0; clear C0
  unfold checkR
  rw [if_pos hk]
  clear hk
  go_enter Tryd.func37, Tryd.ntmps37
  go_wp2_with fail
  refine (H0.out _).mono ?_
  rintro e w0 ⟨rfl, rfl⟩
  go_wp2
  go_ret2
  exact ⟨rfl, (Below.refl _ w).alloc (Nat.le_refl _) _⟩
theorem refCheck_any (k i c n : Int) (f : Bool) (am : Value) (zs : List Int) (d : Int) (w : World) (hx : zs.length * 8 ≤ 140737488351232) (h : IntsAt w am zs) :
    Calls Tryd.prog 37 #[opV k i c n f am, .int .i64 d] w fun e w' => e = .returned (.tuple #[.int .i64 (checkR k i c n zs d).1, .int .i64 (checkR k i c n zs d).2]) ∧ Below w.heap.size w w' := by
  obtain ⟨a, cp, rfl, -⟩ := id h
  cases ho : outP k 1 7 with
  | true => exact refCheck_l _ _ _ _ _ _ _ _ _ ho
  | false =>
    have hk : 1 ≤ k ∧ k ≤ 7 := by
      have := of_decide_eq_false ho
      omega
    have hk7 : k = 1 ∨ k = 2 ∨ k = 3 ∨ k = 4 ∨ k = 5 ∨ k = 6 ∨ k = 7 := by omega
    rcases hk7 with rfl | rfl | rfl | rfl | rfl | rfl | rfl
    · exact refCheck_1 _ _ _ _ _ _ _ _
    · exact refCheck_2 _ _ _ _ _ _ _ _ _ hx h
    · exact refCheck_3 _ _ _ _ _ _ _ _
    · exact refCheck_4 _ _ _ _ _ _ _ _ _ hx h
    · exact refCheck_5 _ _ _ _ _ _ _ _
    · exact refCheck_6 _ _ _ _ _ _ _ _
    · exact refCheck_7 _ _ _ _ _ _ _ _
end Go.Proofs.YtcegipkhmibdeaaDoor
