/- vec.Add of vectors whose elements are neither negative nor great. -/
import Derived.Test.YtllipidegjpidaaGreatDoorAuB
import Derived.OwnWalk
namespace Go.Proofs.YtllipidegjpidaaGreatDoor
set_option linter.all false
open Go.RowKit

set_option maxRecDepth 100000 in
theorem add1_any (a : Option Addr) (d cp g b off n cap : Nat) (aa : Option Addr) (cc : Nat) (w : World) (h0 : w.cell? ⟨g, 0, none⟩ = some (.slice (some ⟨b, off, none⟩) n cap)) (hn : 0 < n) (h1 : w.cell? ⟨b, off, none⟩ = some (.slice aa d cc)) :
    Calls Tryz.prog 166 #[.slice a d cp, .pointer (some ⟨g, 0, none⟩)] w fun e w' => e = .returned (.bool false) ∧ w = w' := by
  go_enter Tryz.func166, Tryz.ntmps166
  go_wp2
  go_ret
  exact ⟨by simp, rfl⟩
set_option maxHeartbeats 4000000 in
set_option maxRecDepth 100000 in
theorem index_none (g d n b off cap : Nat) (w : World) (hn : n ≤ 1000) (h0 : w.cell? ⟨g, 0, none⟩ = some (.slice (some ⟨b, off, none⟩) n cap)) (hc : ∀ j, j < n → ∃ aa cc, w.cell? ⟨b, off + j, none⟩ = some (.slice aa d cc)) :
    Calls Tryz.prog 180 #[.slice (some ⟨b, off, none⟩) n cap, .func (Fn.func 166) #[] #[.pointer (some ⟨g, 0, none⟩)]] w fun e w' => e = .returned (.int .i64 (-1)) ∧ w = w' := by
  have HC := Lib.hid hc
  have H1 : Hid (∀ a cp, 0 < n → Calls Tryz.prog 166 #[.slice a d cp, .pointer (some ⟨g, 0, none⟩)] w fun e w' => e = .returned (.bool false) ∧ w = w') := fun a cp hp => by
    obtain ⟨aa, cc, h1⟩ := hc 0 hp
    exact add1_any a d cp g b off n cap aa cc w h0 hp h1
  clear hc h0
  go_enter Tryz.func180, Tryz.ntmps180
  go_wp2
  go_loop [8] (fun iv => ∃ k : Nat, k ≤ n ∧ iv = .int .i64 k) (fun iv => n - (intOf iv).toNat)
  case atStart => exact ⟨0, Nat.zero_le _, rfl⟩
  case round =>
    obtain ⟨k, hk, rfl⟩ := hrel
    have hki : (0 : Int) ≤ (k : Int) := by omega
    by_cases hlt : k < n
    · obtain ⟨aa, cc, pc⟩ := HC.out k hlt
      have hkl : (k : Int) < (n : Int) := by omega
      go_wp2_with fail
      refine (H1.out _ _ (by omega)).mono ?_
      rintro e w1 ⟨rfl, rfl⟩
      go_wp2
      go_round
      case rel => exact ⟨k + 1, by omega, by go_num⟩
      case measure => simp [intOf]; omega
    · have hkl : ¬ ((k : Int) < (n : Int)) := by omega
      go_wp2
      go_ret
      exact ⟨rfl, rfl⟩
set_option maxRecDepth 100000 in
theorem contains_none (g d n b off cap : Nat) (w : World) (hn : n ≤ 1000) (h0 : w.cell? ⟨g, 0, none⟩ = some (.slice (some ⟨b, off, none⟩) n cap)) (hc : ∀ j, j < n → ∃ aa cc, w.cell? ⟨b, off + j, none⟩ = some (.slice aa d cc)) :
    Calls Tryz.prog 165 #[.slice (some ⟨b, off, none⟩) n cap, .func (Fn.func 166) #[] #[.pointer (some ⟨g, 0, none⟩)]] w fun e w' => e = .returned (.bool false) ∧ w = w' := by
  have H1 := Lib.hid (index_none g d n b off cap w hn h0 hc)
  clear hc h0
  go_enter Tryz.func165, Tryz.ntmps165
  go_wp2_with fail
  refine H1.out.mono ?_
  rintro e w1 ⟨rfl, rfl⟩
  go_wp2
  go_ret
  exact ⟨rfl, rfl⟩
/-- The sums of vectors of length d. -/
def vsum (d : Nat) (vs : List (List Int)) : List Int := (List.range d).map (colsum vs)
theorem vsum_len (d : Nat) (vs : List (List Int)) : (vsum d vs).length = d := by unfold vsum; simp
theorem vsum_get {d : Nat} {vs : List (List Int)} {j : Nat} (h : j < d) : (vsum d vs).getD j 0 = colsum vs j := by
  unfold vsum
  rw [List.getD_eq_getElem?_getD, List.getElem?_map, List.getElem?_range h]
  rfl
end Go.Proofs.YtllipidegjpidaaGreatDoor
