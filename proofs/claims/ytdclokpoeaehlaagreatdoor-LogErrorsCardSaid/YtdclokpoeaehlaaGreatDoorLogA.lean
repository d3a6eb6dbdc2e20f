/- Names and numbers as words: hammockref02.Decimal, hammockref24.value, the names of kinds. -/
import Derived.Test.YtdclokpoeaehlaaGreatDoorKinds
import Derived.Test.YtdclokpoeaehlaaGreatDoorProg
import Derived.Deep.QuietTactic
import Derived.BigQuiet
import Derived.WalkSpells
import Derived.WalkLawsBesides
import Derived.Laws.BytesString
import Derived.IntWalk
namespace Go.Proofs.YtdclokpoeaehlaaGreatDoor
set_option linter.all false
open Go.RowKit

theorem str_append (a b : List UInt8) : str a ++ str b = str (a ++ b) := by
  apply ByteArray.ext
  rw [ByteArray.data_append]
  simp [str]
/-- Strings are joined, within a bound. -/
theorem add_str (w : World) (a b : List UInt8) (h : a.length + b.length ≤ 140737488355328) : (Op.stringOp .add (str a) (str b)).run Tryz.prog w = .ok (.string (str (a ++ b))) w := by
  rw [run_string_add_sum w _ _ (by rw [str_size, str_size]; omega), str_append]
theorem itoa_le (n : Int) (h0 : -9223372036854775808 ≤ n) (h1 : n ≤ 9223372036854775807) : (Lib.itoa n).length ≤ 21 := Lib.itoa_length_le n h0 h1
theorem decDigits_small {u : Nat} (h : u < 10) : Lib.decDigits u = [UInt8.ofNat (48 + u)] := by rw [Lib.decDigits, dif_pos h]
theorem decDigits_big {u : Nat} (h : ¬ u < 10) : Lib.decDigits u = Lib.decDigits (u / 10) ++ [UInt8.ofNat (48 + u % 10)] := by rw [Lib.decDigits, dif_neg h]
theorem itoa_pos_big (n : Int) (h : 10 ≤ n) : Lib.itoa n = Lib.itoa (n / 10) ++ Lib.itoa (n % 10) := by
  obtain ⟨u, rfl⟩ : ∃ u : Nat, n = u := ⟨n.toNat, by omega⟩
  rw [show ((u : Int) / 10) = ((u / 10 : Nat) : Int) by omega, show ((u : Int) % 10) = ((u % 10 : Nat) : Int) by omega, itoa_nat, itoa_nat, itoa_nat, decDigits_big (by omega), decDigits_small (u := u % 10) (by omega)]
theorem itoa_neg_big (n : Int) (h : n < -9) : Lib.itoa n = Lib.itoa (n.tdiv 10) ++ Lib.itoa (-(n.tmod 10)) := by
  obtain ⟨u, rfl⟩ : ∃ u : Nat, n = -(u : Int) := ⟨n.natAbs, by omega⟩
  have e1 : (-(u : Int)).tdiv 10 = -((u / 10 : Nat) : Int) := by rw [Int.neg_tdiv, Int.tdiv_eq_ediv_of_nonneg (by omega)]; omega
  have e2 : -((-(u : Int)).tmod 10) = ((u % 10 : Nat) : Int) := by rw [Int.neg_tmod, Int.tmod_eq_emod_of_nonneg (by omega)]; omega
  rw [e1, e2, itoa_neg' u (by omega), itoa_neg' (u / 10) (by omega), itoa_nat, decDigits_big (by omega), decDigits_small (u := u % 10) (by omega)]
  rfl
theorem itoa_neg_small (n : Int) (h : n < 0) : Lib.itoa n = 45 :: Lib.itoa (-n) := by
  obtain ⟨u, rfl⟩ : ∃ u : Nat, n = -(u : Int) := ⟨n.natAbs, by omega⟩
  rw [itoa_neg' u (by omega), Int.neg_neg, itoa_nat]
theorem digit_cut (d : Nat) (h : d < 10) : (⟨#[48, 49, 50, 51, 52, 53, 54, 55, 56, 57]⟩ : ByteArray).extract d (d + 1) = str (Lib.itoa (d : Int)) := by
  rw [itoa_nat, decDigits_small h]
  have : d = 0 ∨ d = 1 ∨ d = 2 ∨ d = 3 ∨ d = 4 ∨ d = 5 ∨ d = 6 ∨ d = 7 ∨ d = 8 ∨ d = 9 := by omega
  rcases this with rfl | rfl | rfl | rfl | rfl | rfl | rfl | rfl | rfl | rfl <;> decide +kernel
theorem quiet_adds {P : Program} {f : FuncId} {args : Array Value} {w : World} {n : Nat} {v : Value}
    (h : Calls P f args (w.drewN n) fun e w' => e = .returned v ∧ ∃ m, w' = (w.drewN n).drewN m) : Calls P f args (w.drewN n) fun e w'' => e = .returned v ∧ ∃ m, w'' = w.drewN m :=
  h.mono fun _ _ ⟨he, m, hm⟩ => ⟨he, n + m, by rw [hm, World.drewN_drewN]⟩
theorem tdiv_neg (n : Int) (h : n ≤ 0) : n.tdiv 10 = -((-n) / 10) ∧ n.tmod 10 = -((-n) % 10) := by
  obtain ⟨u, rfl⟩ : ∃ u : Nat, n = -(u : Int) := ⟨n.natAbs, by omega⟩
  rw [Int.neg_tdiv, Int.neg_tmod, Int.tdiv_eq_ediv_of_nonneg (by omega), Int.tmod_eq_emod_of_nonneg (by omega), Int.neg_neg]
  exact ⟨rfl, rfl⟩
set_option maxHeartbeats 1000000 in
set_option maxRecDepth 100000 in
theorem decimal_n (k : Nat) : ∀ (n : Int) (w : World), (if n < 0 then 2 * n.natAbs + 1 else 2 * n.natAbs) ≤ k → -9223372036854775807 ≤ n → n ≤ 9223372036854775807 →
    Calls Tryz.prog 71 #[.int .i64 n] w fun e w' => e = .returned (.string (str (Lib.itoa n))) ∧ ∃ q, w' = w.drewN q := by
  induction k using Nat.strongRecOn with
  | _ k ih =>
  intro n w hk h0 h1
  by_cases hA : n < -9
  · have e0 := itoa_neg_big n hA
    obtain ⟨t1, t2⟩ := tdiv_neg n (by omega)
    rw [if_pos (by omega)] at hk
    have I1 : ∀ w, Calls Tryz.prog 71 #[.int .i64 (n.tdiv 10)] w fun e w' => e = .returned (.string (str (Lib.itoa (n.tdiv 10)))) ∧ ∃ q, w' = w.drewN q := fun w => ih (k - 1) (by omega) (n.tdiv 10) w (by rw [t1]; split <;> omega) (by omega) (by omega)
    have I2 : ∀ w, Calls Tryz.prog 71 #[.int .i64 (-(n.tmod 10))] w fun e w' => e = .returned (.string (str (Lib.itoa (-(n.tmod 10))))) ∧ ∃ q, w' = w.drewN q := fun w => ih (k - 1) (by omega) (-(n.tmod 10)) w (by rw [t2]; split <;> omega) (by omega) (by omega)
    have J1 := Lib.hid I1; clear I1
    have J2 := Lib.hid I2; clear I2
    have E0 := Lib.hid e0; clear e0
    have ha : ∀ w, (Op.stringOp .add (str (Lib.itoa (n.tdiv 10))) (str (Lib.itoa (-(n.tmod 10))))).run Tryz.prog w = .ok (.string (str (Lib.itoa n))) w := fun w => by
      have l1 := itoa_le (n.tdiv 10) (by omega) (by omega)
      have l2 := itoa_le (-(n.tmod 10)) (by omega) (by omega)
      rw [add_str w _ _ (by omega), E0.out]
    have g1 : -9 ≤ n.tmod 10 := by omega
    have g2 : n.tmod 10 ≤ 0 := by omega
    clear ih hk t1 t2
    go_enter Tryz.func71, Tryz.ntmps71
    go_wp2_with fail
    refine (J1.out _).mono ?_
    rintro e w1 ⟨rfl, q1, rfl⟩
    go_wp2_with fail
    refine (J2.out _).mono ?_
    rintro e w2 ⟨rfl, q2, rfl⟩
    go_wp2
    go_ret
    exact ⟨rfl, _, rfl⟩
  by_cases hB : n < 0
  · have e0 := itoa_neg_small n hB
    rw [if_pos (by omega)] at hk
    have I1 : ∀ w, Calls Tryz.prog 71 #[.int .i64 (-n)] w fun e w' => e = .returned (.string (str (Lib.itoa (-n)))) ∧ ∃ q, w' = w.drewN q := fun w => ih (k - 1) (by omega) (-n) w (by rw [if_neg (by omega)]; omega) (by omega) (by omega)
    have J1 := Lib.hid I1; clear I1
    have ha : ∀ w, (Op.stringOp .add ⟨#[45]⟩ (str (Lib.itoa (-n)))).run Tryz.prog w = .ok (.string (str (Lib.itoa n))) w := fun w => by
      have l1 := itoa_le (-n) (by omega) (by omega)
      rw [e0]
      exact add_str w [45] _ (by simp; omega)
    clear ih hk e0
    go_enter Tryz.func71, Tryz.ntmps71
    go_wp2_with fail
    refine (J1.out _).mono ?_
    rintro e w1 ⟨rfl, q1, rfl⟩
    go_wp2
    go_ret
    exact ⟨rfl, _, rfl⟩
  by_cases hC : n < 10
  · obtain ⟨d, rfl⟩ : ∃ d : Nat, n = d := ⟨n.toNat, by omega⟩
    have e0 := digit_cut d (by omega)
    have hd : d < 10 := by omega
    have E0 := Lib.hid e0; clear e0
    clear ih hk
    go_enter Tryz.func71, Tryz.ntmps71
    go_wp2
    go_ret
    exact ⟨by rw [← E0.out]; rfl, 0, rfl⟩
  · have e0 := itoa_pos_big n (by omega)
    obtain ⟨u, rfl⟩ : ∃ u : Nat, n = u := ⟨n.toNat, by omega⟩
    have hu : 10 ≤ u := by omega
    rw [if_neg (by omega)] at hk
    have I1 : ∀ w, Calls Tryz.prog 71 #[.int .i64 ((u : Int) / 10)] w fun e w' => e = .returned (.string (str (Lib.itoa ((u : Int) / 10)))) ∧ ∃ q, w' = w.drewN q := fun w => ih (k - 1) (by omega) ((u : Int) / 10) w (by rw [if_neg (by omega)]; omega) (by omega) (by omega)
    have J1 := Lib.hid I1; clear I1
    have E0 := Lib.hid e0; clear e0
    have ha : ∀ w, (Op.stringOp .add (str (Lib.itoa ((u : Int) / 10))) (str (Lib.itoa ((u % 10 : Nat) : Int)))).run Tryz.prog w = .ok (.string (str (Lib.itoa u))) w := fun w => by
      have l1 := itoa_le ((u : Int) / 10) (by omega) (by omega)
      have l2 := itoa_le ((u % 10 : Nat) : Int) (by omega) (by omega)
      rw [add_str w _ _ (by omega), E0.out]; rfl
    obtain ⟨d, hd⟩ : ∃ d, d = u % 10 := ⟨_, rfl⟩
    obtain ⟨q, hq⟩ : ∃ q : Nat, q = u / 10 := ⟨_, rfl⟩
    have hd10 : d < 10 := by omega
    have hq0 : (0 : Int) ≤ (q : Int) := by omega
    have hd0 : (0 : Int) ≤ (d : Int) := by omega
    have eq1 : (u : Int) / 10 = (q : Int) := by omega
    have eq2 : (u : Int) % 10 = (d : Int) := by omega
    rw [← hd] at ha
    rw [eq1] at ha J1
    have r1 : IntKind.i64.wrap (q : Int) = (q : Int) := IntWalk.i64_in _ (by omega)
    have r2 : IntKind.i64.wrap (d : Int) = (d : Int) := IntWalk.i64_in _ (by omega)
    have r3 : IntKind.i64.wrap ((d : Int) + 1) = ((d + 1 : Nat) : Int) := IntWalk.i64_in _ (by omega)
    have r4 : (0 : Int) ≤ ((d + 1 : Nat) : Int) := by omega
    have r5 : (⟨#[48, 49, 50, 51, 52, 53, 54, 55, 56, 57]⟩ : ByteArray).extract d (d + 1) = str (Lib.itoa (d : Int)) := digit_cut d hd10
    have hu0 : (10 : Int) ≤ (u : Int) := by omega
    have hz : (⟨#[48, 49, 50, 51, 52, 53, 54, 55, 56, 57]⟩ : ByteArray).size = 10 := rfl
    clear ih hk hA hB hC hd hq E0
    go_enter Tryz.func71, Tryz.ntmps71
    go_wp2
    go_quiet ((go_at_call 71; exact quiet_adds (J1.out _)))
    go_wp2
    go_ret
    exact ⟨rfl, _, rfl⟩
theorem decimal_any (n : Int) (w : World) (h0 : -9223372036854775807 ≤ n) (h1 : n ≤ 9223372036854775807) :
    Calls Tryz.prog 71 #[.int .i64 n] w fun e w' => e = .returned (.string (str (Lib.itoa n))) ∧ ∃ q, w' = w.drewN q := decimal_n _ n w (Nat.le_refl _) h0 h1
end Go.Proofs.YtdclokpoeaehlaaGreatDoor
