/- The first wrong amount of a vector: slices.IndexFunc at vec.Wrong$1, vec.Wrong, hammockref01.Wrong. -/
import Derived.Test.YtcegipkhmibdeaaDoorVec
namespace Go.Proofs.YtcegipkhmibdeaaDoor
set_option linter.all false
open Go.RowKit

/-- An amount outside of its range. -/
def badN (x : Int) : Bool := decide (x < 0) || decide (1099511627776 < x)
/-- The first index, from `k` on, of an amount outside of its range, or -1. -/
def badAt : List Int → Int → Int
  | [], _ => -1
  | x :: xs, k => bif badN x then k else badAt xs (k + 1)
/-- The index that a vector is wrong at, or -1. -/
def wrongP (zs : List Int) (d : Int) : Int :=
  if 0 ≤ badAt zs 0 then badAt zs 0 else if (zs.length : Int) = d then -1 else max (min d zs.length) 0

theorem badAt_step {zs : List Int} {k : Nat} (h : k < zs.length) : badAt (zs.drop k) k = bif badN (zs.getD k 0) then (k : Int) else badAt (zs.drop (k + 1)) ((k + 1 : Nat) : Int) := by
  rw [List.drop_eq_getElem_cons h, badAt, List.getD_eq_getElem?_getD, List.getElem?_eq_getElem h]; rfl
theorem badAt_end {zs : List Int} {k : Nat} (h : zs.length ≤ k) : badAt (zs.drop k) k = -1 := by
  rw [List.drop_eq_nil_of_le h]; rfl
theorem badAt_ge : ∀ (zs : List Int) (k : Int), 0 ≤ k → badAt zs k = -1 ∨ 0 ≤ badAt zs k
  | [], _, _ => .inl rfl
  | x :: xs, k, h => by
    unfold badAt
    cases badN x
    · exact badAt_ge xs (k + 1) (by omega)
    · exact .inr h

set_option maxRecDepth 100000 in
theorem wrong1_any (x : Int) (w : World) : Calls Tryd.prog 126 #[.int .i64 x] w fun e w' => e = .returned (.bool (badN x)) ∧ w = w' := by
  unfold badN
  by_cases h1 : x < 0
  · rw [decide_eq_true h1]
    go_enter Tryd.func126, Tryd.ntmps126
    go_wp2
    go_ret
    exact ⟨rfl, rfl⟩
  · rw [decide_eq_false h1]
    by_cases h2 : 1099511627776 < x
    · rw [decide_eq_true h2]
      go_enter Tryd.func126, Tryd.ntmps126
      go_wp2
      go_ret
      exact ⟨rfl, rfl⟩
    · rw [decide_eq_false h2]
      go_enter Tryd.func126, Tryd.ntmps126
      go_wp2
      go_ret
      exact ⟨rfl, rfl⟩

set_option maxHeartbeats 1000000 in
set_option maxRecDepth 100000 in
theorem index_some (b off cap : Nat) (zs : List Int) (w : World) (hx : zs.length * 8 ≤ 140737488351232)
    (hc : ∀ j, j < zs.length → w.cell? ⟨b, off + j, none⟩ = some (.int .i64 (zs.getD j 0))) :
    Calls Tryd.prog 125 #[.slice (some ⟨b, off, none⟩) zs.length cap, .func (.func 126) #[] #[]] w fun e w' => e = .returned (.int .i64 (badAt zs 0)) ∧ Below w.heap.size w w' := by
  obtain ⟨l, hl⟩ : ∃ n, n = zs.length := ⟨_, rfl⟩
  rw [← hl] at hx hc ⊢
  have HL := Lib.hid hl; clear hl
  have HC := Lib.hid hc; clear hc
  go_enter Tryd.func125, Tryd.ntmps125
  go_wp2
  go_loopg [5, 8] l (fun gg _ i wr => ∃ k : Nat, k ≤ l ∧ l - k ≤ gg ∧ i = .int .i64 k ∧ Hid (badAt zs 0 = badAt (zs.drop k) k) ∧ ∃ m, wr = w.drewN m)
  case atStart => exact ⟨0, Nat.zero_le _, by omega, rfl, rfl, 0, rfl⟩
  case round =>
    obtain ⟨k, hk, hg, rfl, hrun, m, rfl⟩ := hrel
    by_cases hlt : k < l
    · obtain ⟨x, hxk⟩ : ∃ x, x = zs.getD k 0 := ⟨_, rfl⟩
      have h1 : w.cell? ⟨b, off + k, none⟩ = some (.int .i64 x) := by rw [hxk]; exact HC.out k hlt
      have hs := badAt_step (zs := zs) (k := k) (by rw [← HL.out]; exact hlt)
      rw [← hxk] at hs
      clear hxk
      have hcall := wrong1_any x
      have hki : (0 : Int) ≤ (k : Int) := by omega
      have hkl : (k : Int) < (l : Int) := by omega
      cases hb : badN x
      · rw [hb] at hcall hs
        have hfin : Hid (badAt zs 0 = badAt (zs.drop (k + 1)) ((k + 1 : Nat) : Int)) := by rw [hrun.out, hs]; rfl
        clear hs hrun hb
        have HCALL := Lib.hid hcall; clear hcall
        go_wp2_with fail
        refine (HCALL.out _).mono ?_
        rintro e w' ⟨rfl, rfl⟩
        go_wp2
        go_roundg (l - (k + 1))
        case measure => omega
        case rel => exact ⟨k + 1, by omega, by omega, by go_num, hfin, _, rfl⟩
      · rw [hb] at hcall hs
        have hfin : Hid (badAt zs 0 = k) := by rw [hrun.out, hs]; rfl
        clear hs hrun hb
        have HCALL := Lib.hid hcall; clear hcall
        go_wp2_with fail
        refine (HCALL.out _).mono ?_
        rintro e w' ⟨rfl, rfl⟩
        go_wp2
        go_ret
        exact ⟨by rw [hfin.out]; rfl, below_drewN (Below.refl _ _) _⟩
    · have hfin : Hid (badAt zs 0 = -1) := by rw [hrun.out, badAt_end (by rw [← HL.out]; omega)]; rfl
      clear hrun
      go_wp2
      go_ret
      exact ⟨by rw [hfin.out]; rfl, below_drewN (Below.refl _ _) _⟩


set_option maxRecDepth 100000 in
theorem index_none (a : Option Addr) (cap : Nat) (fv : Value) (w : World) :
    Calls Tryd.prog 125 #[.slice a 0 cap, fv] w fun e w' => e = .returned (.int .i64 (-1)) ∧ w = w' := by
  go_enter Tryd.func125, Tryd.ntmps125
  go_wp2
  refine wp_loop_rounds 1 ?_
  rw [rounds_succ]
  go_wp2
  go_ret
  exact ⟨rfl, rfl⟩
theorem index_any (v : Value) (zs : List Int) (w : World) (hx : zs.length * 8 ≤ 140737488351232) (h : IntsAt w v zs) :
    Calls Tryd.prog 125 #[v, .func (.func 126) #[] #[]] w fun e w' => e = .returned (.int .i64 (badAt zs 0)) ∧ Below w.heap.size w w' := by
  obtain ⟨a, c, rfl, h⟩ := h
  rcases h with rfl | ⟨b, o, rfl, lt, hc⟩
  · exact (index_none a c _ w).mono fun e w' ⟨he, hw⟩ => ⟨by rw [he]; rfl, hw ▸ Below.refl _ _⟩
  · exact index_some b o c zs w hx hc

set_option maxRecDepth 100000 in
theorem wrong_any (v : Value) (zs : List Int) (d : Int) (w : World) (hx : zs.length * 8 ≤ 140737488351232) (h : IntsAt w v zs) :
    Calls Tryd.prog 119 #[v, .int .i64 d] w fun e w' => e = .returned (.int .i64 (wrongP zs d)) ∧ Below w.heap.size w w' := by
  have hi := index_any v zs
  obtain ⟨a, c, rfl, -⟩ := id h
  have hg := badAt_ge zs 0 (Int.le_refl _)
  unfold wrongP
  generalize badAt zs 0 = i at *
  obtain ⟨l, hl⟩ : ∃ n, n = zs.length := ⟨_, rfl⟩
  rw [← hl]
  have HI := Lib.hid hi; clear hi
  rw [← hl] at h HI hx
  have HX := Lib.hid hx
  have HL := Lib.hid hl; clear hl
  have HH := Lib.hid h; clear h
  rcases hg with rfl | hg
  · rw [if_neg (by decide)]
    by_cases hd : (l : Int) = d
    · rw [if_pos hd]
      go_enter Tryd.func119, Tryd.ntmps119
      go_wp2_with fail
      refine (HI.out _ HX.out HH.out).mono ?_
      rintro e w1 ⟨rfl, hb⟩
      go_wp2
      go_ret
      exact ⟨rfl, hb⟩
    · rw [if_neg hd]
      go_enter Tryd.func119, Tryd.ntmps119
      go_wp2_with fail
      refine (HI.out _ HX.out HH.out).mono ?_
      rintro e w1 ⟨rfl, hb⟩
      go_wp2
      all_goals
        go_ret
        refine ⟨?_, hb⟩
        show Ending.returned (.int .i64 _) = Ending.returned (.int .i64 _)
        congr 2
        omega
  · rw [if_pos hg]
    go_enter Tryd.func119, Tryd.ntmps119
    go_wp2_with fail
    refine (HI.out _ HX.out HH.out).mono ?_
    rintro e w1 ⟨rfl, hb⟩
    go_wp2
    go_ret
    exact ⟨rfl, hb⟩
end Go.Proofs.YtcegipkhmibdeaaDoor
