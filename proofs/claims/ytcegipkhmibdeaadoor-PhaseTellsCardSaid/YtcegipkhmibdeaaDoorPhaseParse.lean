/- phase.Parse and its reference. -/
import Derived.Test.YtcegipkhmibdeaaDoorPhaseRun
namespace Go.Proofs.YtcegipkhmibdeaaDoor
open Go.RowKit

/-- The phase with a name, 0 if there is none. -/
def parseP (s : ByteArray) : Int :=
  if (phNames.getD 1 ⟨#[]⟩).toList = s.toList then 1 else if (phNames.getD 2 ⟨#[]⟩).toList = s.toList then 2 else if (phNames.getD 3 ⟨#[]⟩).toList = s.toList then 3
  else if (phNames.getD 4 ⟨#[]⟩).toList = s.toList then 4 else if (phNames.getD 5 ⟨#[]⟩).toList = s.toList then 5 else 0
theorem parseP_none {s : ByteArray} (h : ∀ j, 1 ≤ j → j < 6 → (phNames.getD j ⟨#[]⟩).toList ≠ s.toList) : parseP s = 0 := by
  unfold parseP
  rw [if_neg (h 1 (by omega) (by omega)), if_neg (h 2 (by omega) (by omega)), if_neg (h 3 (by omega) (by omega)), if_neg (h 4 (by omega) (by omega)), if_neg (h 5 (by omega) (by omega))]
theorem parseP_some {s : ByteArray} {k : Nat} (h1 : 1 ≤ k) (h6 : k < 6) (h : ∀ j, 1 ≤ j → j < k → (phNames.getD j ⟨#[]⟩).toList ≠ s.toList) (hk : (phNames.getD k ⟨#[]⟩).toList = s.toList) : parseP s = k := by
  have : k = 1 ∨ k = 2 ∨ k = 3 ∨ k = 4 ∨ k = 5 := by omega
  unfold parseP
  rcases this with rfl | rfl | rfl | rfl | rfl
  · rw [if_pos hk]; rfl
  · rw [if_neg (h 1 (by omega) (by omega)), if_pos hk]; rfl
  · rw [if_neg (h 1 (by omega) (by omega)), if_neg (h 2 (by omega) (by omega)), if_pos hk]; rfl
  · rw [if_neg (h 1 (by omega) (by omega)), if_neg (h 2 (by omega) (by omega)), if_neg (h 3 (by omega) (by omega)), if_pos hk]; rfl
  · rw [if_neg (h 1 (by omega) (by omega)), if_neg (h 2 (by omega) (by omega)), if_neg (h 3 (by omega) (by omega)), if_neg (h 4 (by omega) (by omega)), if_pos hk]; rfl

set_option maxRecDepth 100000 in
theorem parse_gen (n0 n1 n2 n3 n4 n5 s : ByteArray) (w : World) (h0 : w.cell? ⟨0, 0, none⟩ = some (.string n0)) (h1 : w.cell? ⟨0, 1, none⟩ = some (.string n1)) (h2 : w.cell? ⟨0, 2, none⟩ = some (.string n2))
    (h3 : w.cell? ⟨0, 3, none⟩ = some (.string n3)) (h4 : w.cell? ⟨0, 4, none⟩ = some (.string n4)) (h5 : w.cell? ⟨0, 5, none⟩ = some (.string n5)) (R : Int)
    (hR : ∀ k : Nat, 1 ≤ k → k < 6 → (∀ j, 1 ≤ j → j < k → ([n0, n1, n2, n3, n4, n5].getD j ⟨#[]⟩).toList ≠ s.toList) → ([n0, n1, n2, n3, n4, n5].getD k ⟨#[]⟩).toList = s.toList → R = k)
    (hR0 : (∀ j, 1 ≤ j → j < 6 → ([n0, n1, n2, n3, n4, n5].getD j ⟨#[]⟩).toList ≠ s.toList) → R = 0) :
    Calls Tryd.prog 33 #[.string s] w fun e w' => e = .returned (.tuple #[.int .i64 R, .bool (R != 0)]) ∧ w = w' := by
  have i0 : ∀ w, (Instr.index 120 (.agg #[.string n0, .string n1, .string n2, .string n3, .string n4, .string n5]) (.int .i64 0)).run Tryd.prog w = .ok (.string n0) w := fun _ => by kernel_rfl
  have i1 : ∀ w, (Instr.index 120 (.agg #[.string n0, .string n1, .string n2, .string n3, .string n4, .string n5]) (.int .i64 1)).run Tryd.prog w = .ok (.string n1) w := fun _ => by kernel_rfl
  have i2 : ∀ w, (Instr.index 120 (.agg #[.string n0, .string n1, .string n2, .string n3, .string n4, .string n5]) (.int .i64 2)).run Tryd.prog w = .ok (.string n2) w := fun _ => by kernel_rfl
  have i3 : ∀ w, (Instr.index 120 (.agg #[.string n0, .string n1, .string n2, .string n3, .string n4, .string n5]) (.int .i64 3)).run Tryd.prog w = .ok (.string n3) w := fun _ => by kernel_rfl
  have i4 : ∀ w, (Instr.index 120 (.agg #[.string n0, .string n1, .string n2, .string n3, .string n4, .string n5]) (.int .i64 4)).run Tryd.prog w = .ok (.string n4) w := fun _ => by kernel_rfl
  have i5 : ∀ w, (Instr.index 120 (.agg #[.string n0, .string n1, .string n2, .string n3, .string n4, .string n5]) (.int .i64 5)).run Tryd.prog w = .ok (.string n5) w := fun _ => by kernel_rfl
  obtain ⟨ns, hns⟩ : ∃ ns, ns = [n0, n1, n2, n3, n4, n5] := ⟨_, rfl⟩
  rw [← hns] at hR hR0
  have g1 : Hid (ns.getD 1 ⟨#[]⟩ = n1) := by rw [hns]; rfl
  have g2 : Hid (ns.getD 2 ⟨#[]⟩ = n2) := by rw [hns]; rfl
  have g3 : Hid (ns.getD 3 ⟨#[]⟩ = n3) := by rw [hns]; rfl
  have g4 : Hid (ns.getD 4 ⟨#[]⟩ = n4) := by rw [hns]; rfl
  have g5 : Hid (ns.getD 5 ⟨#[]⟩ = n5) := by rw [hns]; rfl
  clear hns
  have HR := Lib.hid hR; clear hR
  have HR0 := Lib.hid hR0; clear hR0
  go_enter Tryd.func33, Tryd.ntmps33
  go_wp2
  go_loop [7] (fun i => ∃ k : Nat, k ≤ 6 ∧ i = .int .i64 k ∧ Hid (∀ j, 1 ≤ j → j < k → (ns.getD j ⟨#[]⟩).toList ≠ s.toList)) (fun i => 6 - (intOf i).toNat)
  case atStart => exact ⟨0, by omega, rfl, fun j h1 h2 => by omega⟩
  case round =>
    obtain ⟨k, hk, rfl, hno⟩ := hrel
    have : k = 0 ∨ k = 1 ∨ k = 2 ∨ k = 3 ∨ k = 4 ∨ k = 5 ∨ k = 6 := by omega
    rcases this with rfl | rfl | rfl | rfl | rfl | rfl | rfl
    · cases hm : n0.toList == s.toList
      all_goals
        go_wp2
        go_round
        case rel => exact ⟨1, by omega, rfl, fun j h1 h2 => by omega⟩
        case measure => simp [intOf]
    · cases hm : n1.toList == s.toList
      · have hno' : Hid (∀ j, 1 ≤ j → j < 2 → (ns.getD j ⟨#[]⟩).toList ≠ s.toList) := fun j h1 h2 => by
          by_cases hj : j = 1
          · subst hj; rw [g1.out]; simpa using hm
          · exact hno.out j h1 (by omega)
        clear hno
        go_wp2
        go_round
        case rel => exact ⟨2, by omega, rfl, hno'⟩
        case measure => simp [intOf]
      · have hp : Hid (R = (1 : Nat)) := HR.out 1 (by omega) (by omega) hno.out (by rw [g1.out]; simpa using hm)
        go_wp2
        go_ret2
        exact ⟨by rw [hp.out]; rfl, rfl⟩
    · cases hm : n2.toList == s.toList
      · have hno' : Hid (∀ j, 1 ≤ j → j < 3 → (ns.getD j ⟨#[]⟩).toList ≠ s.toList) := fun j h1 h2 => by
          by_cases hj : j = 2
          · subst hj; rw [g2.out]; simpa using hm
          · exact hno.out j h1 (by omega)
        clear hno
        go_wp2
        go_round
        case rel => exact ⟨3, by omega, rfl, hno'⟩
        case measure => simp [intOf]
      · have hp : Hid (R = (2 : Nat)) := HR.out 2 (by omega) (by omega) hno.out (by rw [g2.out]; simpa using hm)
        go_wp2
        go_ret2
        exact ⟨by rw [hp.out]; rfl, rfl⟩
    · cases hm : n3.toList == s.toList
      · have hno' : Hid (∀ j, 1 ≤ j → j < 4 → (ns.getD j ⟨#[]⟩).toList ≠ s.toList) := fun j h1 h2 => by
          by_cases hj : j = 3
          · subst hj; rw [g3.out]; simpa using hm
          · exact hno.out j h1 (by omega)
        clear hno
        go_wp2
        go_round
        case rel => exact ⟨4, by omega, rfl, hno'⟩
        case measure => simp [intOf]
      · have hp : Hid (R = (3 : Nat)) := HR.out 3 (by omega) (by omega) hno.out (by rw [g3.out]; simpa using hm)
        go_wp2
        go_ret2
        exact ⟨by rw [hp.out]; rfl, rfl⟩
    · cases hm : n4.toList == s.toList
      · have hno' : Hid (∀ j, 1 ≤ j → j < 5 → (ns.getD j ⟨#[]⟩).toList ≠ s.toList) := fun j h1 h2 => by
          by_cases hj : j = 4
          · subst hj; rw [g4.out]; simpa using hm
          · exact hno.out j h1 (by omega)
        clear hno
        go_wp2
        go_round
        case rel => exact ⟨5, by omega, rfl, hno'⟩
        case measure => simp [intOf]
      · have hp : Hid (R = (4 : Nat)) := HR.out 4 (by omega) (by omega) hno.out (by rw [g4.out]; simpa using hm)
        go_wp2
        go_ret2
        exact ⟨by rw [hp.out]; rfl, rfl⟩
    · cases hm : n5.toList == s.toList
      · have hno' : Hid (∀ j, 1 ≤ j → j < 6 → (ns.getD j ⟨#[]⟩).toList ≠ s.toList) := fun j h1 h2 => by
          by_cases hj : j = 5
          · subst hj; rw [g5.out]; simpa using hm
          · exact hno.out j h1 (by omega)
        clear hno
        go_wp2
        go_round
        case rel => exact ⟨6, by omega, rfl, hno'⟩
        case measure => simp [intOf]
      · have hp : Hid (R = (5 : Nat)) := HR.out 5 (by omega) (by omega) hno.out (by rw [g5.out]; simpa using hm)
        go_wp2
        go_ret2
        exact ⟨by rw [hp.out]; rfl, rfl⟩
    · have hp : Hid (R = 0) := HR0.out hno.out
      clear hno
      go_wp2
      go_ret2
      exact ⟨by rw [hp.out]; rfl, rfl⟩

theorem parse_any (s : ByteArray) (w : World) (hg : NamesAt w) : Calls Tryd.prog 33 #[.string s] w fun e w' => e = .returned (.tuple #[.int .i64 (parseP s), .bool (parseP s != 0)]) ∧ w = w' :=
  parse_gen _ _ _ _ _ _ s w (hg 0 (by omega)) (hg 1 (by omega)) (hg 2 (by omega)) (hg 3 (by omega)) (hg 4 (by omega)) (hg 5 (by omega)) (parseP s)
    (fun _ h1 h2 h3 h4 => parseP_some h1 h2 h3 h4) (fun h => parseP_none h)

set_option maxRecDepth 100000 in
theorem refParse_any (s : ByteArray) (w : World) : Calls Tryd.prog 34 #[.string s] w fun e w' => e = .returned (.int .i64 (parseP s)) ∧ Below w.heap.size w w' := by
  go_enter Tryd.func34, Tryd.ntmps34
  go_wp2
  go_loopw [3] (fun i wr => ∃ k : Nat, 1 ≤ k ∧ k ≤ 6 ∧ i = .int .i64 k ∧ Hid (∀ j, 1 ≤ j → j < k → (phNames.getD j ⟨#[]⟩).toList ≠ s.toList) ∧ Below w.heap.size w wr) (fun i _ => 6 - (intOf i).toNat)
  case atStart => exact ⟨1, by omega, by omega, rfl, fun j h1 h2 => by omega, Below.refl _ _⟩
  case round =>
    obtain ⟨k, hk1, hk, rfl, hno, hbel⟩ := hrel
    by_cases h6 : k = 6
    · subst h6
      have hp : Hid (parseP s = 0) := parseP_none hno.out
      clear hno
      go_wp2
      go_ret
      exact ⟨by rw [hp.out]; rfl, hbel⟩
    · have hlt : k < 6 := by omega
      obtain ⟨n, hn⟩ : ∃ n, n = phName k := ⟨_, rfl⟩
      have hnk : Hid (phNames.getD k ⟨#[]⟩ = n) := by rw [hn]; unfold phName; rw [if_pos ⟨by omega, by omega⟩]; simp [Hid]
      have hc := refName_any (k : Int)
      rw [← hn] at hc
      clear hn h6
      have HC := Lib.hid hc; clear hc
      cases hm : n.toList == s.toList
      · have hno' : Hid (∀ j, 1 ≤ j → j < k + 1 → (phNames.getD j ⟨#[]⟩).toList ≠ s.toList) := fun j h1 h2 => by
          by_cases hj : j = k
          · subst hj; rw [hnk.out]; simpa using hm
          · exact hno.out j h1 (by omega)
        clear hno
        go_wp2_with (go_at_call 32; refine (HC.out _).mono ?_; rintro e1 w' ⟨rfl, hb1⟩)
        go_roundw
        case rel => exact ⟨k + 1, by omega, by omega, by go_num, hno', hbel.trans (hb1.mono hbel.size)⟩
        case measure => simp [intOf]; omega
      · have hp : Hid (parseP s = k) := parseP_some hk1 hlt hno.out (by rw [hnk.out]; simpa using hm)
        clear hno
        go_wp2_with (go_at_call 32; refine (HC.out _).mono ?_; rintro e1 w' ⟨rfl, hb1⟩)
        go_ret
        exact ⟨by rw [hp.out]; rfl, hbel.trans (hb1.mono hbel.size)⟩
end Go.Proofs.YtcegipkhmibdeaaDoor
