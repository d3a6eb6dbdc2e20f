/- The laws of layer 5, part 3. -/
import Derived.Test.YtcegipkhmibdeaaDoorPhaseLaws2
namespace Go.Proofs.YtcegipkhmibdeaaDoor
open Go.RowKit

theorem once_none (a : Option Addr) (cap : Nat) (w : World) (hg : NamesAt w) :
    Calls Tryd.prog 6 #[.slice a 0 cap] w fun r w' => r = .returned (.bool true) ∧ Below w.heap.size w w' := by
  have HG := Lib.hid hg; clear hg
  go_enter Tryd.func6, Tryd.ntmps6
  go_wp2_with (first
    | (go_at_call 23; refine (awake5 _ HG.out).mono ?_; rintro e1 w1 ⟨rfl, B1⟩)
    | (go_at_call 26; refine (run_none 1 a cap _).mono ?_; rintro e1 w2 ⟨rfl, B2⟩; have B2' := B1.trans (B2.mono B1.size); clear B2))
  refine wp_loop_rounds 1 ?_
  rw [rounds_succ]
  go_wp2
  go_ret
  exact ⟨rfl, B2'⟩
theorem once_big (a : Option Addr) (len cap : Nat) (w : World) (hg : NamesAt w) (hl : 1000 < len) :
    Calls Tryd.prog 6 #[.slice a len cap] w fun r w' => r = .returned (.bool true) ∧ Below w.heap.size w w' := by
  have HG := Lib.hid hg; clear hg
  go_enter Tryd.func6, Tryd.ntmps6
  go_wp2_with fail
  refine (awake5 _ HG.out).mono ?_
  rintro e1 w1 ⟨rfl, B1⟩
  have g1 := HG.out.below B1
  go_wp2_with fail
  refine (awake5 _ g1).mono ?_
  rintro e1 w2 ⟨rfl, B2⟩
  go_wp2
  go_ret
  exact ⟨rfl, B1.trans (B2.mono B1.size)⟩
theorem once_walk (v : Value) (zs : List Int) (w : World) (hg : NamesAt w) (h : IntsAt w v zs) :
    Calls Tryd.prog 6 #[v] w fun r w' => r = .returned (.bool true) ∧ Below w.heap.size w w' := by
  obtain ⟨a, cap, rfl, h⟩ := h
  by_cases hl : 1000 < zs.length
  · exact once_big a zs.length cap w hg hl
  · rcases h with rfl | ⟨b, off, rfl, hlt, hc⟩
    · exact once_none a cap w hg
    · exact once_some b off cap zs w hg (by omega) hlt hc

/-- Some event up to k applies. -/
def anyNx (p : Int) (k : Nat) : Bool := (List.range k).any fun e => nx p ((e : Int) + 1) != 0
theorem anyNx_succ (p : Int) (k : Nat) : anyNx p (k + 1) = (anyNx p k || (nx p ((k : Int) + 1) != 0)) := by simp [anyNx, List.range_succ]
theorem anyNx_five (p : Int) : anyNx p 5 = (decide (1 ≤ p) && decide (p < 5)) := by
  by_cases h : 1 ≤ p ∧ p < 5
  · have : p = 1 ∨ p = 2 ∨ p = 3 ∨ p = 4 := by omega
    rcases this with rfl | rfl | rfl | rfl <;> decide
  · have hz : ∀ e, nx p e = 0 := by
      intro e
      by_cases h0 : nx p e = 0
      · exact h0
      · exfalso; rcases nx_cases h0 with h1 | h1 | h1 | h1 | h1 | h1 | h1 | h1 | h1 | h1 <;> omega
    have : (decide (1 ≤ p) && decide (p < 5)) = false := by
      simp only [Bool.and_eq_false_iff, decide_eq_false_iff_not]; omega
    rw [this]
    simp [anyNx, hz]

/-- The world with the paths. -/
def pathsW (w : World) : World := (((((w.alloc (.cells #[] 3)).alloc (.cells #[.int .i64 2] 3)).alloc (.cells #[.int .i64 1] 3)).alloc (.cells #[.int .i64 1, .int .i64 4] 3)).alloc (.cells #[.int .i64 1, .int .i64 5] 3)).alloc
  (.cells #[.slice (some ⟨w.heap.size, 0, none⟩) 0 0, .slice (some ⟨w.heap.size + 1, 0, none⟩) 1 1, .slice (some ⟨w.heap.size + 1 + 1, 0, none⟩) 1 1, .slice (some ⟨w.heap.size + 1 + 1 + 1, 0, none⟩) 2 2, .slice (some ⟨w.heap.size + 1 + 1 + 1 + 1, 0, none⟩) 2 2] 27)
theorem pathsW_size (w : World) : (pathsW w).heap.size = w.heap.size + 1 + 1 + 1 + 1 + 1 + 1 := by simp [pathsW]
theorem pathsW_below (w : World) : Below w.heap.size w (pathsW w) := by
  unfold pathsW
  exact ((((((Below.refl _ w).alloc (Nat.le_refl _) _).alloc (by simp) _).alloc (by simp; omega) _).alloc (by simp; omega) _).alloc (by simp; omega) _).alloc (by simp; omega) _
theorem pathsW_0 (w : World) : (pathsW w).cell? ⟨w.heap.size + 1 + 1 + 1 + 1 + 1, 0, none⟩ = some (.slice (some ⟨w.heap.size, 0, none⟩) 0 0) := by unfold pathsW; go_simp
theorem pathsW_1 (w : World) : (pathsW w).cell? ⟨w.heap.size + 1 + 1 + 1 + 1 + 1, 1, none⟩ = some (.slice (some ⟨w.heap.size + 1, 0, none⟩) 1 1) := by unfold pathsW; go_simp
theorem pathsW_2 (w : World) : (pathsW w).cell? ⟨w.heap.size + 1 + 1 + 1 + 1 + 1, 2, none⟩ = some (.slice (some ⟨w.heap.size + 1 + 1, 0, none⟩) 1 1) := by unfold pathsW; go_simp
theorem pathsW_3 (w : World) : (pathsW w).cell? ⟨w.heap.size + 1 + 1 + 1 + 1 + 1, 3, none⟩ = some (.slice (some ⟨w.heap.size + 1 + 1 + 1, 0, none⟩) 2 2) := by unfold pathsW; go_simp
theorem pathsW_4 (w : World) : (pathsW w).cell? ⟨w.heap.size + 1 + 1 + 1 + 1 + 1, 4, none⟩ = some (.slice (some ⟨w.heap.size + 1 + 1 + 1 + 1, 0, none⟩) 2 2) := by unfold pathsW; go_simp
theorem ints0 (w : World) : IntsAt (pathsW w) (.slice (some ⟨w.heap.size, 0, none⟩) 0 0) [] := ⟨_, _, rfl, .inl rfl⟩
theorem ints1 (w : World) : IntsAt (pathsW w) (.slice (some ⟨w.heap.size + 1, 0, none⟩) 1 1) [2] := ⟨_, _, rfl, .inr ⟨_, _, rfl, by rw [pathsW_size]; omega, fun j hj => by
  obtain rfl : j = 0 := by simp at hj; omega
  unfold pathsW; go_simp⟩⟩
theorem ints2 (w : World) : IntsAt (pathsW w) (.slice (some ⟨w.heap.size + 1 + 1, 0, none⟩) 1 1) [1] := ⟨_, _, rfl, .inr ⟨_, _, rfl, by rw [pathsW_size]; omega, fun j hj => by
  obtain rfl : j = 0 := by simp at hj; omega
  unfold pathsW; go_simp⟩⟩
theorem ints3 (w : World) : IntsAt (pathsW w) (.slice (some ⟨w.heap.size + 1 + 1 + 1, 0, none⟩) 2 2) [1, 4] := ⟨_, _, rfl, .inr ⟨_, _, rfl, by rw [pathsW_size]; omega, fun j hj => by
  have : j = 0 ∨ j = 1 := by simp at hj; omega
  rcases this with rfl | rfl <;> (unfold pathsW; go_simp)⟩⟩
theorem ints4 (w : World) : IntsAt (pathsW w) (.slice (some ⟨w.heap.size + 1 + 1 + 1 + 1, 0, none⟩) 2 2) [1, 5] := ⟨_, _, rfl, .inr ⟨_, _, rfl, by rw [pathsW_size]; omega, fun j hj => by
  have : j = 0 ∨ j = 1 := by simp at hj; omega
  rcases this with rfl | rfl <;> (unfold pathsW; go_simp)⟩⟩

set_option maxHeartbeats 1000000 in
set_option maxRecDepth 100000 in
theorem reaches_walk (p : Int) (w : World) (hg : NamesAt w) :
    Calls Tryd.prog 7 #[.int .i64 p] w fun r w' => r = .returned (.bool true) ∧ Below w.heap.size w w' := by
  have HG := Lib.hid hg; clear hg
  go_enter Tryd.func7, Tryd.ntmps7
  go_wp2_with fail
  refine (awake5 _ HG.out).mono ?_
  rintro e1 w1 ⟨rfl, B1⟩
  have S := pathsW_size w1
  have BP := pathsW_below w1
  go_wp2
  go_loopw [4] (fun i wr => ∃ k : Nat, k ≤ 5 ∧ i = .int .i64 k ∧ Below (pathsW w1).heap.size (pathsW w1) wr) (fun i _ => 5 - (intOf i).toNat)
  case atStart => exact ⟨0, by omega, rfl, Below.refl _ (pathsW w1)⟩
  case round =>
    obtain ⟨k, hk, rfl, hb⟩ := hrel
    have : k = 0 ∨ k = 1 ∨ k = 2 ∨ k = 3 ∨ k = 4 ∨ k = 5 := by omega
    rcases this with rfl | rfl | rfl | rfl | rfl | rfl
    · have hc := (hb.cell (p := ⟨w1.heap.size + 1 + 1 + 1 + 1 + 1, 0, none⟩) (by show w1.heap.size + 1 + 1 + 1 + 1 + 1 < _; omega)).trans (pathsW_0 w1)
      have c := run_any 1 _ [] wr (by simp) ((ints0 w1).below hb)
      rw [show runP 1 [] = (1, 0) from by decide] at c
      have C := Lib.hid c; clear c
      go_wp2_with (go_at_call 26; refine C.out.mono ?_; rintro e2 w2 ⟨rfl, B2⟩; have hc2 := (B2.cell (p := ⟨w1.heap.size + 1 + 1 + 1 + 1 + 1, 0, none⟩) (by have := hb.size; show w1.heap.size + 1 + 1 + 1 + 1 + 1 < _; omega)).trans hc)
      go_roundw
      case rel => exact ⟨1, by omega, by go_num, hb.trans (B2.mono hb.size)⟩
      case measure => simp [intOf]
    · have hc := (hb.cell (p := ⟨w1.heap.size + 1 + 1 + 1 + 1 + 1, 1, none⟩) (by show w1.heap.size + 1 + 1 + 1 + 1 + 1 < _; omega)).trans (pathsW_1 w1)
      have c := run_any 1 _ [2] wr (by simp) ((ints1 w1).below hb)
      rw [show runP 1 [2] = (2, 1) from by decide] at c
      have C := Lib.hid c; clear c
      go_wp2_with (go_at_call 26; refine C.out.mono ?_; rintro e2 w2 ⟨rfl, B2⟩; have hc2 := (B2.cell (p := ⟨w1.heap.size + 1 + 1 + 1 + 1 + 1, 1, none⟩) (by have := hb.size; show w1.heap.size + 1 + 1 + 1 + 1 + 1 < _; omega)).trans hc)
      go_roundw
      case rel => exact ⟨2, by omega, by go_num, hb.trans (B2.mono hb.size)⟩
      case measure => simp [intOf]
    · have hc := (hb.cell (p := ⟨w1.heap.size + 1 + 1 + 1 + 1 + 1, 2, none⟩) (by show w1.heap.size + 1 + 1 + 1 + 1 + 1 < _; omega)).trans (pathsW_2 w1)
      have c := run_any 1 _ [1] wr (by simp) ((ints2 w1).below hb)
      rw [show runP 1 [1] = (3, 1) from by decide] at c
      have C := Lib.hid c; clear c
      go_wp2_with (go_at_call 26; refine C.out.mono ?_; rintro e2 w2 ⟨rfl, B2⟩; have hc2 := (B2.cell (p := ⟨w1.heap.size + 1 + 1 + 1 + 1 + 1, 2, none⟩) (by have := hb.size; show w1.heap.size + 1 + 1 + 1 + 1 + 1 < _; omega)).trans hc)
      go_roundw
      case rel => exact ⟨3, by omega, by go_num, hb.trans (B2.mono hb.size)⟩
      case measure => simp [intOf]
    · have hc := (hb.cell (p := ⟨w1.heap.size + 1 + 1 + 1 + 1 + 1, 3, none⟩) (by show w1.heap.size + 1 + 1 + 1 + 1 + 1 < _; omega)).trans (pathsW_3 w1)
      have c := run_any 1 _ [1, 4] wr (by simp) ((ints3 w1).below hb)
      rw [show runP 1 [1, 4] = (4, 2) from by decide] at c
      have C := Lib.hid c; clear c
      go_wp2_with (go_at_call 26; refine C.out.mono ?_; rintro e2 w2 ⟨rfl, B2⟩; have hc2 := (B2.cell (p := ⟨w1.heap.size + 1 + 1 + 1 + 1 + 1, 3, none⟩) (by have := hb.size; show w1.heap.size + 1 + 1 + 1 + 1 + 1 < _; omega)).trans hc)
      go_roundw
      case rel => exact ⟨4, by omega, by go_num, hb.trans (B2.mono hb.size)⟩
      case measure => simp [intOf]
    · have hc := (hb.cell (p := ⟨w1.heap.size + 1 + 1 + 1 + 1 + 1, 4, none⟩) (by show w1.heap.size + 1 + 1 + 1 + 1 + 1 < _; omega)).trans (pathsW_4 w1)
      have c := run_any 1 _ [1, 5] wr (by simp) ((ints4 w1).below hb)
      rw [show runP 1 [1, 5] = (5, 2) from by decide] at c
      have C := Lib.hid c; clear c
      go_wp2_with (go_at_call 26; refine C.out.mono ?_; rintro e2 w2 ⟨rfl, B2⟩; have hc2 := (B2.cell (p := ⟨w1.heap.size + 1 + 1 + 1 + 1 + 1, 4, none⟩) (by have := hb.size; show w1.heap.size + 1 + 1 + 1 + 1 + 1 < _; omega)).trans hc)
      go_roundw
      case rel => exact ⟨5, by omega, by go_num, hb.trans (B2.mono hb.size)⟩
      case measure => simp [intOf]
    · clear hk
      simp only [show ((5 : Nat) : Int) = (5 : Int) from rfl]
      go_wp2
      go_loopw [7, 8] (fun a i w5 => ∃ k : Nat, k ≤ 5 ∧ i = .int .i64 ((k : Int) + 1) ∧ a = .bool (anyNx p k) ∧ Below wr.heap.size wr w5) (fun _ i _ => 6 - (intOf i).toNat)
      case atStart => exact ⟨0, by omega, rfl, rfl, Below.refl _ _⟩
      case round =>
        obtain ⟨k, hk, rfl, rfl, hb5⟩ := hrel
        have hs := anyNx_succ p k
        by_cases hlt : k < 5
        · cases ha : anyNx p k
          · rw [ha, Bool.false_or] at hs
            have HS := Lib.hid hs; clear hs
            have HA := Lib.hid ha
            go_wp2_with (go_at_call 24; refine (next_any _ _ _).mono ?_; rintro e2 w2 ⟨rfl, B2⟩)
            go_roundw
            case rel => exact ⟨k + 1, by omega, by go_num, by rw [HS.out], hb5.trans (B2.mono hb5.size)⟩
            case measure => simp [intOf]; omega
          · rw [ha, Bool.true_or] at hs
            have HS := Lib.hid hs; clear hs
            go_wp2_with (go_at_call 24; refine (next_any _ _ _).mono ?_; rintro e2 w2 ⟨rfl, B2⟩)
            go_roundw
            case rel => exact ⟨k + 1, by omega, by go_num, by rw [HS.out], hb5.trans (B2.mono hb5.size)⟩
            case measure => simp [intOf]; omega
        · obtain rfl : k = 5 := by omega
          clear hs
          have h5 := anyNx_five p
          by_cases h1 : 1 ≤ p
          · by_cases h2 : p < 5
            · have h5' : anyNx p 5 = true := by rw [h5]; simp [h1, h2]
              clear h5
              go_wp2
              go_ret
              exact ⟨rfl, B1.trans ((BP.trans (hb.mono (by omega))).trans (hb5.mono (by have := hb.size; omega)) |>.mono B1.size)⟩
            · have h5' : anyNx p 5 = false := by rw [h5]; simp [h2]
              clear h5
              go_wp2
              go_ret
              exact ⟨rfl, B1.trans ((BP.trans (hb.mono (by omega))).trans (hb5.mono (by have := hb.size; omega)) |>.mono B1.size)⟩
          · have h5' : anyNx p 5 = false := by rw [h5]; simp [h1]
            clear h5
            go_wp2
            go_ret
            exact ⟨rfl, B1.trans ((BP.trans (hb.mono (by omega))).trans (hb5.mono (by have := hb.size; omega)) |>.mono B1.size)⟩
end Go.Proofs.YtcegipkhmibdeaaDoor
