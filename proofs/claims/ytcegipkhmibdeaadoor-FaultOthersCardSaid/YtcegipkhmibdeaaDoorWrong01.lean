/- hammockref01.Wrong. -/
import Derived.Test.YtcegipkhmibdeaaDoorWrong
namespace Go.Proofs.YtcegipkhmibdeaaDoor
set_option linter.all false
open Go.RowKit

set_option maxHeartbeats 2000000 in
set_option maxRecDepth 100000 in
theorem wrong01_some (b off cap : Nat) (zs : List Int) (d : Int) (w : World) (hx : zs.length * 8 ≤ 140737488351232)
    (hc : ∀ j, j < zs.length → w.cell? ⟨b, off + j, none⟩ = some (.int .i64 (zs.getD j 0))) :
    Calls Tryd.prog 94 #[.slice (some ⟨b, off, none⟩) zs.length cap, .int .i64 d] w fun e w' => e = .returned (.int .i64 (wrongP zs d)) ∧ Below w.heap.size w w' := by
  have hW : wrongP zs d = if 0 ≤ badAt zs 0 then badAt zs 0 else if (zs.length : Int) = d then -1 else if d < 0 then 0 else if d < zs.length then d else zs.length := by
    unfold wrongP; repeat (first | rfl | omega | split)
  obtain ⟨l, hl⟩ : ∃ n, n = zs.length := ⟨_, rfl⟩
  rw [← hl] at hx hc hW ⊢
  have HW := Lib.hid hW; clear hW
  have HL := Lib.hid hl; clear hl
  have HC := Lib.hid hc; clear hc
  go_enter Tryd.func94, Tryd.ntmps94
  go_wp2
  go_loopg [5] l (fun gg i wr => ∃ k : Nat, k ≤ l ∧ l - k ≤ gg ∧ i = .int .i64 k ∧ Hid (badAt zs 0 = badAt (zs.drop k) k) ∧ ∃ m, wr = w.drewN m)
  case atStart => exact ⟨0, Nat.zero_le _, by omega, rfl, rfl, 0, rfl⟩
  case round =>
    obtain ⟨k, hk, hg, rfl, hrun, m, rfl⟩ := hrel
    by_cases hlt : k < l
    · obtain ⟨x, hxk⟩ : ∃ x, x = zs.getD k 0 := ⟨_, rfl⟩
      have h1 : w.cell? ⟨b, off + k, none⟩ = some (.int .i64 x) := by rw [hxk]; exact HC.out k hlt
      have hs := badAt_step (zs := zs) (k := k) (by rw [← HL.out]; exact hlt)
      rw [← hxk] at hs
      clear hxk
      have hki : (0 : Int) ≤ (k : Int) := by omega
      have hkl : (k : Int) < (l : Int) := by omega
      unfold badN at hs
      by_cases h0 : x < 0
      · rw [decide_eq_true h0] at hs
        have hfin : Hid (badAt zs 0 = k) := by rw [hrun.out, hs]; rfl
        have hW : wrongP zs d = k := by rw [HW.out, hfin.out, if_pos (by omega)]
        have HV := Lib.hid hW
        clear hs hrun hfin hW HW
        go_wp2
        go_ret
        exact ⟨by rw [HV.out]; rfl, below_drewN (Below.refl _ _) _⟩
      · rw [decide_eq_false h0] at hs
        by_cases h2 : 1099511627776 < x
        · rw [decide_eq_true h2] at hs
          have hfin : Hid (badAt zs 0 = k) := by rw [hrun.out, hs]; rfl
          have hW : wrongP zs d = k := by rw [HW.out, hfin.out, if_pos (by omega)]
          have HV := Lib.hid hW
          clear hs hrun hfin hW HW
          go_wp2
          go_ret
          exact ⟨by rw [HV.out]; rfl, below_drewN (Below.refl _ _) _⟩
        · rw [decide_eq_false h2] at hs
          have hfin : Hid (badAt zs 0 = badAt (zs.drop (k + 1)) ((k + 1 : Nat) : Int)) := by rw [hrun.out, hs]; rfl
          clear hs hrun
          go_wp2
          go_roundg (l - (k + 1))
          case measure => omega
          case rel => exact ⟨k + 1, by omega, by omega, by go_num, hfin, _, rfl⟩
    · have hfin : Hid (badAt zs 0 = -1) := by rw [hrun.out, badAt_end (by rw [← HL.out]; omega)]; rfl
      have hW : wrongP zs d = if (l : Int) = d then -1 else if d < 0 then 0 else if d < l then d else l := by rw [HW.out, hfin.out, if_neg (by decide)]
      clear hrun hfin HW
      by_cases hd : (l : Int) = d
      · rw [if_pos hd] at hW
        have HV := Lib.hid hW; clear hW
        go_wp2
        go_ret
        exact ⟨by rw [HV.out]; rfl, below_drewN (Below.refl _ _) _⟩
      rw [if_neg hd] at hW
      by_cases hn : d < 0
      · rw [if_pos hn] at hW
        have HV := Lib.hid hW; clear hW
        go_wp2
        go_ret
        exact ⟨by rw [HV.out]; rfl, below_drewN (Below.refl _ _) _⟩
      rw [if_neg hn] at hW
      by_cases hm : d < l
      · rw [if_pos hm] at hW
        have HV := Lib.hid hW; clear hW
        go_wp2
        go_ret
        exact ⟨by rw [HV.out]; rfl, below_drewN (Below.refl _ _) _⟩
      · rw [if_neg hm] at hW
        have HV := Lib.hid hW; clear hW
        go_wp2
        go_ret
        exact ⟨by rw [HV.out]; rfl, below_drewN (Below.refl _ _) _⟩

set_option maxRecDepth 100000 in
theorem wrong01_none (a : Option Addr) (cap : Nat) (d : Int) (w : World) :
    Calls Tryd.prog 94 #[.slice a 0 cap, .int .i64 d] w fun e w' => e = .returned (.int .i64 (if (0 : Int) = d then -1 else 0)) ∧ w = w' := by
  by_cases hd : (0 : Int) = d
  · subst hd
    go_enter Tryd.func94, Tryd.ntmps94
    go_wp2
    refine wp_loop_rounds 1 ?_
    rw [rounds_succ]
    go_wp2
    go_ret
    exact ⟨rfl, rfl⟩
  · rw [if_neg hd]
    go_enter Tryd.func94, Tryd.ntmps94
    go_wp2
    refine wp_loop_rounds 1 ?_
    rw [rounds_succ]
    by_cases hn : d < 0
    · go_wp2
      go_ret
      exact ⟨rfl, rfl⟩
    · go_wp2
      go_ret
      exact ⟨rfl, rfl⟩
theorem wrong01_any (v : Value) (zs : List Int) (d : Int) (w : World) (hx : zs.length * 8 ≤ 140737488351232) (h : IntsAt w v zs) :
    Calls Tryd.prog 94 #[v, .int .i64 d] w fun e w' => e = .returned (.int .i64 (wrongP zs d)) ∧ Below w.heap.size w w' := by
  obtain ⟨a, c, rfl, h⟩ := h
  rcases h with rfl | ⟨b, o, rfl, lt, hc⟩
  · refine (wrong01_none a c d w).mono fun e w' ⟨he, hw⟩ => ⟨?_, hw ▸ Below.refl _ _⟩
    rw [he]
    congr 2
    unfold wrongP
    simp only [badAt, List.length_nil]
    repeat (first | rfl | omega | split)
  · exact wrong01_some b o c zs d w hx hc
end Go.Proofs.YtcegipkhmibdeaaDoor
