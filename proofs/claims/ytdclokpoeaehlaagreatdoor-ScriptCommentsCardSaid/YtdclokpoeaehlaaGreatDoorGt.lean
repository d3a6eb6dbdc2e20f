/- ScrOps, ScrWrong, Vec, OpEq, ScrO: together in one text. -/
import Derived.Test.YtdclokpoeaehlaaGreatDoorGl
import Derived.Test.YtdclokpoeaehlaaGreatDoorGk
import Derived.Deep.QuietTactic
import Derived.BigQuiet
import Derived.Test.YtdclokpoeaehlaaGreatDoorGp
import Derived.Test.YtdclokpoeaehlaaGreatDoorGs
import Derived.Deep.RegionHeld3
/- op.Tick, op.Class, op.Pod, op.Node. -/
namespace Go.Proofs.YtdclokpoeaehlaaGreatDoor
set_option linter.all false
open Go.RowKit

set_option maxRecDepth 100000 in
theorem tick_any (n : Int) (w : World) : Calls Tryz.prog 62 #[.int .i64 n] w fun e w' => e = .returned (opV 6 0 0 n false (.slice none 0 0)) ∧ Below w.heap.size w w' := by
  go_enter Tryz.func62, Tryz.ntmps62
  go_wp2
  refine bodyPost_ret (v := opV 6 0 0 n false (.slice none 0 0)) ?_ rfl ⟨rfl, ?_⟩
  · simp only [results, Tryz.results62]
    go_simp
  · exact (Below.refl _ _).alloc (Nat.le_refl _) _
set_option maxRecDepth 100000 in
theorem class_any (i n : Int) (f : Bool) (w : World) : Calls Tryz.prog 61 #[.int .i64 i, .int .i64 n, .bool f] w fun e w' => e = .returned (opV 1 i 0 n f (.slice none 0 0)) ∧ Below w.heap.size w w' := by
  go_enter Tryz.func61, Tryz.ntmps61
  go_wp2
  refine bodyPost_ret (v := opV 1 i 0 n f (.slice none 0 0)) ?_ rfl ⟨rfl, ?_⟩
  · simp only [results, Tryz.results61]
    go_simp
  · exact (Below.refl _ _).alloc (Nat.le_refl _) _
set_option maxRecDepth 100000 in
theorem node_any (i : Int) (am : Value) (zs : List Int) (w : World) (hz : zs.length * 8 ≤ 140737488351232) (h : IntsAt w am zs) :
    Calls Tryz.prog 63 #[.int .i64 i, am] w (RetOp w 2 i 0 0 false zs) := by
  have F1 : From w (w.alloc (.cells #[.int .i64 0, .int .i64 0, .int .i64 0, .int .i64 0, .bool false, .slice none 0 0] 58)) := (From.refl w).alloc _
  have HCl := Lib.hid (opClone_any 2 i 0 0 false am zs _ hz (h.from_ F1))
  obtain ⟨al, acp, rfl, -⟩ := h
  obtain ⟨X, hX⟩ : ∃ X, X = w.alloc (.cells #[.int .i64 0, .int .i64 0, .int .i64 0, .int .i64 0, .bool false, .slice none 0 0] 58) := ⟨_, rfl⟩
  have c0 : X.cell? ⟨w.heap.size, 0, none⟩ = some (.int .i64 0) := by rw [hX]; go_simp
  have c1 : X.cell? ⟨w.heap.size, 1, none⟩ = some (.int .i64 0) := by rw [hX]; go_simp
  have c2 : X.cell? ⟨w.heap.size, 2, none⟩ = some (.int .i64 0) := by rw [hX]; go_simp
  have c3 : X.cell? ⟨w.heap.size, 3, none⟩ = some (.int .i64 0) := by rw [hX]; go_simp
  have c4 : X.cell? ⟨w.heap.size, 4, none⟩ = some (.bool false) := by rw [hX]; go_simp
  have c5 : X.cell? ⟨w.heap.size, 5, none⟩ = some (.slice none 0 0) := by rw [hX]; go_simp
  have hfz : ∀ j, X.frozen? ⟨w.heap.size, j, none⟩ = false := fun j => by rw [hX]; go_simp
  have hlt : w.heap.size < X.heap.size := by rw [hX]; simp
  rw [← hX] at HCl F1
  have HX := Lib.hid hX
  go_enter Tryz.func63, Tryz.ntmps63
  go_wp2_with fail
  rw [← HX.out]
  refine HCl.out.mono ?_
  rintro e w' ⟨a', c', rfl, hown, hb⟩
  have F2 : From X w' := ⟨hb⟩
  have r0 := F2.cell c0
  have r1 := F2.cell c1
  have r2 := F2.cell c2
  have r3 := F2.cell c3
  have r4 := F2.cell c4
  have r5 := F2.cell c5
  have f0 : ∀ j, w'.frozen? ⟨w.heap.size, j, none⟩ = false := fun j => (hb.frozen (p := ⟨w.heap.size, j, none⟩) hlt).trans (hfz j)
  have hO := Lib.hid hown
  have hbw := (F1.trans F2).out
  clear c0 c1 c2 c3 c4 c5 hfz hX hown
  go_wp2
  refine bodyPost_ret (v := opV 2 i 0 0 false (.slice a' zs.length c')) ?_ rfl ⟨a', c', rfl, ?_, ?_⟩
  · simp [results, Tryz.results63, go_sem, r0, r1, r2, r3, r4, r5]
  · have hown := hO.out
    refine ownsRow_low ?_ (show w.heap.size ≤ X.heap.size by omega)
    repeat (first | (with_reducible exact hown) | refine ownsRow_setCell_below ?_ (by show _ < _; simp only []; omega) _)
  · repeat (first | (with_reducible exact hbw) | refine below_set ?_ (Nat.le_refl _) _)
set_option maxRecDepth 100000 in
theorem pod_any (i c n : Int) (am : Value) (zs : List Int) (w : World) (hz : zs.length * 8 ≤ 140737488351232) (h : IntsAt w am zs) :
    Calls Tryz.prog 60 #[.int .i64 i, .int .i64 c, .int .i64 n, am] w (RetOp w 4 i c n false zs) := by
  have F1 : From w (w.alloc (.cells #[.int .i64 0, .int .i64 0, .int .i64 0, .int .i64 0, .bool false, .slice none 0 0] 58)) := (From.refl w).alloc _
  have HCl := Lib.hid (opClone_any 4 i c n false am zs _ hz (h.from_ F1))
  obtain ⟨al, acp, rfl, -⟩ := h
  obtain ⟨X, hX⟩ : ∃ X, X = w.alloc (.cells #[.int .i64 0, .int .i64 0, .int .i64 0, .int .i64 0, .bool false, .slice none 0 0] 58) := ⟨_, rfl⟩
  have c0 : X.cell? ⟨w.heap.size, 0, none⟩ = some (.int .i64 0) := by rw [hX]; go_simp
  have c1 : X.cell? ⟨w.heap.size, 1, none⟩ = some (.int .i64 0) := by rw [hX]; go_simp
  have c2 : X.cell? ⟨w.heap.size, 2, none⟩ = some (.int .i64 0) := by rw [hX]; go_simp
  have c3 : X.cell? ⟨w.heap.size, 3, none⟩ = some (.int .i64 0) := by rw [hX]; go_simp
  have c4 : X.cell? ⟨w.heap.size, 4, none⟩ = some (.bool false) := by rw [hX]; go_simp
  have c5 : X.cell? ⟨w.heap.size, 5, none⟩ = some (.slice none 0 0) := by rw [hX]; go_simp
  have hfz : ∀ j, X.frozen? ⟨w.heap.size, j, none⟩ = false := fun j => by rw [hX]; go_simp
  have hlt : w.heap.size < X.heap.size := by rw [hX]; simp
  rw [← hX] at HCl F1
  have HX := Lib.hid hX
  go_enter Tryz.func60, Tryz.ntmps60
  go_wp2_with fail
  rw [← HX.out]
  refine HCl.out.mono ?_
  rintro e w' ⟨a', c', rfl, hown, hb⟩
  have F2 : From X w' := ⟨hb⟩
  have r0 := F2.cell c0
  have r1 := F2.cell c1
  have r2 := F2.cell c2
  have r3 := F2.cell c3
  have r4 := F2.cell c4
  have r5 := F2.cell c5
  have f0 : ∀ j, w'.frozen? ⟨w.heap.size, j, none⟩ = false := fun j => (hb.frozen (p := ⟨w.heap.size, j, none⟩) hlt).trans (hfz j)
  have hO := Lib.hid hown
  have hbw := (F1.trans F2).out
  clear c0 c1 c2 c3 c4 c5 hfz hX hown
  go_wp2
  refine bodyPost_ret (v := opV 4 i c n false (.slice a' zs.length c')) ?_ rfl ⟨a', c', rfl, ?_, ?_⟩
  · simp [results, Tryz.results60, go_sem, r0, r1, r2, r3, r4, r5]
  · have hown := hO.out
    refine ownsRow_low ?_ (show w.heap.size ≤ X.heap.size by omega)
    repeat (first | (with_reducible exact hown) | refine ownsRow_setCell_below ?_ (by show _ < _; simp only []; omega) _)
  · repeat (first | (with_reducible exact hbw) | refine below_set ?_ (Nat.le_refl _) _)
end Go.Proofs.YtdclokpoeaehlaaGreatDoor
/- hammocklaw04.wrong at a fault. -/
namespace Go.Proofs.YtdclokpoeaehlaaGreatDoor
set_option linter.all false
open Go.RowKit

set_option maxHeartbeats 4000000 in
set_option maxRecDepth 100000 in
theorem wrong_fault (c a code at_ : Int) (w : World) (hE : ErrType w) :
    Calls Tryz.prog 35 #[.iface 113 (.agg #[.int .i64 c, .int .i64 a]), .int .i64 code, .int .i64 at_] w fun r w' => r = .returned (.bool (c == code && a == at_)) ∧ Below w.heap.size w w' := by
  have HC : Hid (∀ w', From w w' → Calls Tryz.prog 54 #[.iface 113 (.agg #[.int .i64 c, .int .i64 a])] w' fun r w'' => r = .returned (.tuple #[.int .i64 c, .bool true]) ∧ Below w'.heap.size w' w'') := fun w' hf => faultCode_any (some (.fault c a)) w' (hE.below hf.out)
  have HA : Hid (∀ w', From w w' → Calls Tryz.prog 65 #[.iface 113 (.agg #[.int .i64 c, .int .i64 a])] w' fun r w'' => r = .returned (.tuple #[.int .i64 a, .bool true]) ∧ Below w'.heap.size w' w'') := fun w' hf => faultAt_any (some (.fault c a)) w' (hE.below hf.out)
  have F0 := From.refl w
  clear hE
  have key : ∀ q1 q2, (c == code) = q1 → (a == at_) = q2 → Calls Tryz.prog 35 #[.iface 113 (.agg #[.int .i64 c, .int .i64 a]), .int .i64 code, .int .i64 at_] w fun r w' => r = .returned (.bool (q1 && q2)) ∧ Below w.heap.size w w' := by
    intro q1 q2 h1 h2
    cases q1 <;> cases q2
    all_goals
      go_enter Tryz.func35, Tryz.ntmps35
      go_wp2_with fail
      refine (HC.out _ F0).mono ?_
      rintro e w1 ⟨rfl, hb⟩
      have F1 := F0.step hb
      clear hb
      go_wp2_with fail
      refine (HA.out _ F1).mono ?_
      rintro e w2 ⟨rfl, hb⟩
      have F2 := F1.step hb
      clear hb
      go_wp2
      go_ret
      exact ⟨rfl, F2.out⟩
  exact key _ _ rfl rfl
end Go.Proofs.YtdclokpoeaehlaaGreatDoor
/- Comparisons of vectors: hammockref01.Fits, hammockref01.Same, slices.Equal, vec.Same. -/
namespace Go.Proofs.YtdclokpoeaehlaaGreatDoor
set_option linter.all false
open Go.RowKit

def fitsP : List Int → List Int → Bool
  | x :: xs, y :: ys => if x ≤ y then fitsP xs ys else false
  | [], [] => true
  | _, _ => false
theorem fitsP_both : ∀ xs ys : List Int, (fitsP xs ys && fitsP ys xs) = (xs == ys)
  | [], [] => rfl
  | [], _ :: _ => rfl
  | _ :: _, [] => rfl
  | x :: xs, y :: ys => by
    have ih := fitsP_both xs ys
    simp only [fitsP]
    by_cases h1 : x ≤ y
    · by_cases h2 : y ≤ x
      · have : x = y := by omega
        subst this
        rw [if_pos h1, if_pos h2, ih]
        simp
      · have : (x == y) = false := by simp; omega
        rw [if_neg h2, Bool.and_false]
        show _ = (x == y && xs == ys)
        rw [this]; rfl
    · have : (x == y) = false := by simp; omega
      rw [if_neg h1, Bool.false_and]
      show _ = (x == y && xs == ys)
      rw [this]; rfl
theorem fitsP_step {xs ys : List Int} {k : Nat} (h1 : k < xs.length) (h2 : k < ys.length) : fitsP (xs.drop k) (ys.drop k) = if xs.getD k 0 ≤ ys.getD k 0 then fitsP (xs.drop (k + 1)) (ys.drop (k + 1)) else false := by
  rw [List.drop_eq_getElem_cons h1, List.drop_eq_getElem_cons h2, fitsP, List.getD_eq_getElem?_getD, List.getD_eq_getElem?_getD, List.getElem?_eq_getElem h1, List.getElem?_eq_getElem h2]; rfl
theorem fitsP_len {xs ys : List Int} (h : xs = [] ∨ ys = []) : fitsP xs ys = ((xs.length : Int) == (ys.length : Int)) := by
  rcases h with rfl | rfl
  · cases ys
    · rfl
    · simp [fitsP]; omega
  · cases xs
    · rfl
    · simp [fitsP]; omega

set_option maxRecDepth 100000 in
theorem fits_some (b1 off1 cap1 b2 off2 cap2 : Nat) (xs ys : List Int) (w : World) (hx : xs.length * 8 ≤ 140737488351232) (hy : ys.length * 8 ≤ 140737488351232)
    (hc1 : ∀ j, j < xs.length → w.cell? ⟨b1, off1 + j, none⟩ = some (.int .i64 (xs.getD j 0))) (hc2 : ∀ j, j < ys.length → w.cell? ⟨b2, off2 + j, none⟩ = some (.int .i64 (ys.getD j 0))) :
    Calls Tryz.prog 84 #[.slice (some ⟨b1, off1, none⟩) xs.length cap1, .slice (some ⟨b2, off2, none⟩) ys.length cap2] w fun e w' => e = .returned (.bool (fitsP xs ys)) ∧ Below w.heap.size w w' := by
  obtain ⟨l1, hl1⟩ : ∃ n, n = xs.length := ⟨_, rfl⟩
  obtain ⟨l2, hl2⟩ : ∃ n, n = ys.length := ⟨_, rfl⟩
  rw [← hl1] at hx hc1 ⊢
  rw [← hl2] at hy hc2 ⊢
  have HL1 := Lib.hid hl1; clear hl1
  have HL2 := Lib.hid hl2; clear hl2
  have HC1 := Lib.hid hc1; clear hc1
  have HC2 := Lib.hid hc2; clear hc2
  go_enter Tryz.func84, Tryz.ntmps84
  go_wp2
  go_loopw [5] (fun i wr => ∃ k : Nat, k ≤ l1 ∧ k ≤ l2 ∧ i = .int .i64 k ∧ Hid (fitsP xs ys = fitsP (xs.drop k) (ys.drop k)) ∧ ∃ m, wr = w.drewN m) (fun i _ => l1 - (intOf i).toNat)
  case atStart => exact ⟨0, Nat.zero_le _, Nat.zero_le _, rfl, rfl, 0, rfl⟩
  case round =>
    obtain ⟨k, hk1, hk2, rfl, hrun, m, rfl⟩ := hrel
    by_cases hlt1 : k < l1
    · by_cases hlt2 : k < l2
      · obtain ⟨x, hxk⟩ : ∃ x, x = xs.getD k 0 := ⟨_, rfl⟩
        obtain ⟨y, hyk⟩ : ∃ y, y = ys.getD k 0 := ⟨_, rfl⟩
        have h1 : w.cell? ⟨b1, off1 + k, none⟩ = some (.int .i64 x) := by rw [hxk]; exact HC1.out k hlt1
        have h2 : w.cell? ⟨b2, off2 + k, none⟩ = some (.int .i64 y) := by rw [hyk]; exact HC2.out k hlt2
        have hs := fitsP_step (xs := xs) (ys := ys) (k := k) (by rw [← HL1.out]; exact hlt1) (by rw [← HL2.out]; exact hlt2)
        rw [← hxk, ← hyk] at hs
        clear hxk hyk
        have hki : (0 : Int) ≤ (k : Int) := by omega
        have hk1i : (k : Int) < (l1 : Int) := by omega
        have hk2i : (k : Int) < (l2 : Int) := by omega
        by_cases hxy : x ≤ y
        · have hfin : Hid (fitsP xs ys = fitsP (xs.drop (k + 1)) (ys.drop (k + 1))) := by rw [hrun.out, hs, if_pos hxy]; rfl
          clear hs hrun
          go_wp2
          go_quiet (fail)
          go_wp2
          go_roundw
          case rel => exact ⟨k + 1, by omega, by omega, by go_num, hfin, _, rfl⟩
          case measure => simp [intOf]; omega
        · have hfin : Hid (fitsP xs ys = false) := by rw [hrun.out, hs, if_neg hxy]; rfl
          clear hs hrun
          go_wp2
          go_quiet (fail)
          go_wp2
          go_ret
          exact ⟨by rw [hfin.out]; rfl, below_drewN (below_drewN (Below.refl _ _) _) _⟩
      · have hfin : Hid (fitsP xs ys = ((l1 : Int) == (l2 : Int))) := by
          rw [hrun.out, fitsP_len (.inr (List.drop_eq_nil_of_le (by rw [← HL2.out]; omega)))]
          have := HL1.out; have := HL2.out
          simp only [List.length_drop, ← HL1.out, ← HL2.out]
          show _ = _
          rw [Bool.eq_iff_iff]; simp; omega
        clear hrun
        go_wp2
        go_ret
        exact ⟨by rw [hfin.out]; rfl, below_drewN (Below.refl _ _) _⟩
    · have hfin : Hid (fitsP xs ys = ((l1 : Int) == (l2 : Int))) := by
        rw [hrun.out, fitsP_len (.inl (List.drop_eq_nil_of_le (by rw [← HL1.out]; omega)))]
        have := HL1.out; have := HL2.out
        simp only [List.length_drop, ← HL1.out, ← HL2.out]
        show _ = _
        rw [Bool.eq_iff_iff]; simp; omega
      clear hrun
      go_wp2
      go_ret
      exact ⟨by rw [hfin.out]; rfl, below_drewN (Below.refl _ _) _⟩

/-- One of the two has no elements: no round. -/
theorem fits_none (a1 a2 : Option Addr) (l1 l2 cap1 cap2 : Nat) (w : World) (h : l1 = 0 ∨ l2 = 0) (h1 : l1 * 8 ≤ 140737488351232) (h2 : l2 * 8 ≤ 140737488351232) :
    Calls Tryz.prog 84 #[.slice a1 l1 cap1, .slice a2 l2 cap2] w fun e w' => e = .returned (.bool ((l1 : Int) == (l2 : Int))) ∧ w = w' := by
  rcases h with rfl | rfl
  all_goals
    go_enter Tryz.func84, Tryz.ntmps84
    go_wp2
    refine wp_loop_rounds 1 ?_
    rw [rounds_succ]
    go_wp2
    all_goals
      go_ret
      exact ⟨rfl, rfl⟩
theorem fits_any (v1 v2 : Value) (xs ys : List Int) (w : World) (hx : xs.length * 8 ≤ 140737488351232) (hy : ys.length * 8 ≤ 140737488351232) (h1 : IntsAt w v1 xs) (h2 : IntsAt w v2 ys) :
    Calls Tryz.prog 84 #[v1, v2] w fun e w' => e = .returned (.bool (fitsP xs ys)) ∧ Below w.heap.size w w' := by
  obtain ⟨a1, c1, rfl, h1⟩ := h1
  obtain ⟨a2, c2, rfl, h2⟩ := h2
  have none : xs = [] ∨ ys = [] → Calls Tryz.prog 84 #[.slice a1 xs.length c1, .slice a2 ys.length c2] w fun e w' => e = .returned (.bool (fitsP xs ys)) ∧ Below w.heap.size w w' := fun h =>
    (fits_none a1 a2 xs.length ys.length c1 c2 w (h.imp (fun h => by rw [h]; rfl) (fun h => by rw [h]; rfl)) hx hy).mono fun e w' ⟨he, hw⟩ => ⟨by rw [he, fitsP_len h], hw ▸ Below.refl _ _⟩
  rcases h1 with rfl | ⟨b1, o1, rfl, lt1, hc1⟩
  · exact none (.inl rfl)
  rcases h2 with rfl | ⟨b2, o2, rfl, lt2, hc2⟩
  · exact none (.inr rfl)
  exact fits_some b1 o1 c1 b2 o2 c2 xs ys w hx hy hc1 hc2

theorem same01_any (v1 v2 : Value) (xs ys : List Int) (w : World) (hx : xs.length * 8 ≤ 140737488351232) (hy : ys.length * 8 ≤ 140737488351232) (h1 : IntsAt w v1 xs) (h2 : IntsAt w v2 ys) :
    Calls Tryz.prog 66 #[v1, v2] w fun e w' => e = .returned (.bool (xs == ys)) ∧ Below w.heap.size w w' := by
  have hb := fitsP_both xs ys
  have c1 := fits_any v1 v2 xs ys
  have c2 := fits_any v2 v1 ys xs
  cases h : fitsP xs ys
  · rw [h] at c1
    rw [h, Bool.false_and] at hb
    rw [← hb]
    have C1 := Lib.hid c1; clear c1 c2 hb h
    go_enter Tryz.func66, Tryz.ntmps66
    go_wp2_with fail
    refine (C1.out w hx hy h1 h2).mono ?_
    rintro e w1 ⟨rfl, B1⟩
    go_wp2
    go_ret
    exact ⟨rfl, B1⟩
  · rw [h] at c1
    rw [h, Bool.true_and] at hb
    rw [hb] at c2
    have C1 := Lib.hid c1; clear c1
    have C2 := Lib.hid c2; clear c2 hb h
    cases hr : xs == ys
    all_goals
      rw [hr] at C2
      have C3 := Lib.hid C2; clear C2 hr
      go_enter Tryz.func66, Tryz.ntmps66
      go_wp2_with fail
      refine (C1.out w hx hy h1 h2).mono ?_
      rintro e w1 ⟨rfl, B1⟩
      have h2' := h2.below B1
      have h1' := h1.below B1
      go_wp2_with fail
      refine (C3.out.out _ hy hx h2' h1').mono ?_
      rintro e w2 ⟨rfl, B2⟩
      go_wp2
      go_ret
      exact ⟨rfl, B1.trans (B2.mono B1.size)⟩

theorem eq_step {xs ys : List Int} {k : Nat} (h1 : k < xs.length) (h2 : k < ys.length) : (xs.drop k == ys.drop k) = ((xs.getD k 0 == ys.getD k 0) && (xs.drop (k + 1) == ys.drop (k + 1))) := by
  rw [List.drop_eq_getElem_cons h1, List.drop_eq_getElem_cons h2, List.getD_eq_getElem?_getD, List.getD_eq_getElem?_getD, List.getElem?_eq_getElem h1, List.getElem?_eq_getElem h2]; rfl
end Go.Proofs.YtdclokpoeaehlaaGreatDoor
/- hammockref03.Equal: all fields of two operations are compared. -/
namespace Go.Proofs.YtdclokpoeaehlaaGreatDoor
set_option linter.all false
open Go.RowKit

def eqOp (k i c n : Int) (f : Bool) (zs : List Int) (k' i' c' n' : Int) (f' : Bool) (zs' : List Int) : Bool := (((((k == k') && (i == i')) && (c == c')) && (n == n')) && (f == f')) && (zs == zs')
set_option maxRecDepth 100000 in
theorem refEqual_0 (k i c n : Int) (f : Bool) (am : Value) (zs : List Int) (k' i' c' n' : Int) (f' : Bool) (am' : Value) (zs' : List Int) (w : World) (hx : zs.length * 8 ≤ 140737488351232) (hy : zs'.length * 8 ≤ 140737488351232) (h : IntsAt w am zs) (h' : IntsAt w am' zs') (h0 : (k == k') = false) :
    Calls Tryz.prog 36 #[opV k i c n f am, opV k' i' c' n' f' am'] w fun e w' => e = .returned (.bool false) ∧ Below w.heap.size w w' := by
  go_enter Tryz.func36, Tryz.ntmps36
  go_wp2
  go_ret
  exact ⟨rfl, (by repeat (first | exact Below.refl _ _ | refine Below.drew ?_ | refine Below.alloc ?_ (by first | omega | (simp; done) | (simp; omega)) _))⟩
set_option maxRecDepth 100000 in
theorem refEqual_1 (k i c n : Int) (f : Bool) (am : Value) (zs : List Int) (k' i' c' n' : Int) (f' : Bool) (am' : Value) (zs' : List Int) (w : World) (hx : zs.length * 8 ≤ 140737488351232) (hy : zs'.length * 8 ≤ 140737488351232) (h : IntsAt w am zs) (h' : IntsAt w am' zs') (h0 : (k == k') = true) (h1 : (i == i') = false) :
    Calls Tryz.prog 36 #[opV k i c n f am, opV k' i' c' n' f' am'] w fun e w' => e = .returned (.bool false) ∧ Below w.heap.size w w' := by
  go_enter Tryz.func36, Tryz.ntmps36
  go_wp2
  go_ret
  exact ⟨rfl, (by repeat (first | exact Below.refl _ _ | refine Below.drew ?_ | refine Below.alloc ?_ (by first | omega | (simp; done) | (simp; omega)) _))⟩
set_option maxRecDepth 100000 in
theorem refEqual_2 (k i c n : Int) (f : Bool) (am : Value) (zs : List Int) (k' i' c' n' : Int) (f' : Bool) (am' : Value) (zs' : List Int) (w : World) (hx : zs.length * 8 ≤ 140737488351232) (hy : zs'.length * 8 ≤ 140737488351232) (h : IntsAt w am zs) (h' : IntsAt w am' zs') (h0 : (k == k') = true) (h1 : (i == i') = true) (h2 : (c == c') = false) :
    Calls Tryz.prog 36 #[opV k i c n f am, opV k' i' c' n' f' am'] w fun e w' => e = .returned (.bool false) ∧ Below w.heap.size w w' := by
  go_enter Tryz.func36, Tryz.ntmps36
  go_wp2
  go_ret
  exact ⟨rfl, (by repeat (first | exact Below.refl _ _ | refine Below.drew ?_ | refine Below.alloc ?_ (by first | omega | (simp; done) | (simp; omega)) _))⟩
set_option maxRecDepth 100000 in
theorem refEqual_3 (k i c n : Int) (f : Bool) (am : Value) (zs : List Int) (k' i' c' n' : Int) (f' : Bool) (am' : Value) (zs' : List Int) (w : World) (hx : zs.length * 8 ≤ 140737488351232) (hy : zs'.length * 8 ≤ 140737488351232) (h : IntsAt w am zs) (h' : IntsAt w am' zs') (h0 : (k == k') = true) (h1 : (i == i') = true) (h2 : (c == c') = true) (h3 : (n == n') = false) :
    Calls Tryz.prog 36 #[opV k i c n f am, opV k' i' c' n' f' am'] w fun e w' => e = .returned (.bool false) ∧ Below w.heap.size w w' := by
  go_enter Tryz.func36, Tryz.ntmps36
  go_wp2
  go_ret
  exact ⟨rfl, (by repeat (first | exact Below.refl _ _ | refine Below.drew ?_ | refine Below.alloc ?_ (by first | omega | (simp; done) | (simp; omega)) _))⟩
set_option maxRecDepth 100000 in
theorem refEqual_4 (k i c n : Int) (f : Bool) (am : Value) (zs : List Int) (k' i' c' n' : Int) (f' : Bool) (am' : Value) (zs' : List Int) (w : World) (hx : zs.length * 8 ≤ 140737488351232) (hy : zs'.length * 8 ≤ 140737488351232) (h : IntsAt w am zs) (h' : IntsAt w am' zs') (h0 : (k == k') = true) (h1 : (i == i') = true) (h2 : (c == c') = true) (h3 : (n == n') = true) (h4 : (f == f') = false) :
    Calls Tryz.prog 36 #[opV k i c n f am, opV k' i' c' n' f' am'] w fun e w' => e = .returned (.bool false) ∧ Below w.heap.size w w' := by
  go_enter Tryz.func36, Tryz.ntmps36
  go_wp2
  go_ret
  exact ⟨rfl, (by repeat (first | exact Below.refl _ _ | refine Below.drew ?_ | refine Below.alloc ?_ (by first | omega | (simp; done) | (simp; omega)) _))⟩
set_option maxRecDepth 100000 in
theorem refEqual_5 (k i c n : Int) (f : Bool) (am : Value) (zs : List Int) (k' i' c' n' : Int) (f' : Bool) (am' : Value) (zs' : List Int) (w : World) (hx : zs.length * 8 ≤ 140737488351232) (hy : zs'.length * 8 ≤ 140737488351232) (h : IntsAt w am zs) (h' : IntsAt w am' zs') (h0 : (k == k') = true) (h1 : (i == i') = true) (h2 : (c == c') = true) (h3 : (n == n') = true) (h4 : (f == f') = true) :
    Calls Tryz.prog 36 #[opV k i c n f am, opV k' i' c' n' f' am'] w fun e w' => e = .returned (.bool (zs == zs')) ∧ Below w.heap.size w w' := by
  go_enter Tryz.func36, Tryz.ntmps36
  go_wp2_with fail
  refine (same01_any am am' zs zs' _ hx hy (h.below (by repeat (first | exact Below.refl _ _ | refine Below.drew ?_ | refine Below.alloc ?_ (by first | omega | (simp; done) | (simp; omega)) _))) (h'.below (by repeat (first | exact Below.refl _ _ | refine Below.drew ?_ | refine Below.alloc ?_ (by first | omega | (simp; done) | (simp; omega)) _)))).mono ?_
  rintro e w1 ⟨rfl, B1⟩
  go_wp2
  go_ret
  exact ⟨rfl, Below.trans (by repeat (first | exact Below.refl _ _ | refine Below.drew ?_ | refine Below.alloc ?_ (by first | omega | (simp; done) | (simp; omega)) _)) (B1.mono (by first | omega | (simp; done) | (simp; omega)))⟩
theorem refEqual_any (k i c n : Int) (f : Bool) (am : Value) (zs : List Int) (k' i' c' n' : Int) (f' : Bool) (am' : Value) (zs' : List Int) (w : World) (hx : zs.length * 8 ≤ 140737488351232) (hy : zs'.length * 8 ≤ 140737488351232) (h : IntsAt w am zs) (h' : IntsAt w am' zs') :
    Calls Tryz.prog 36 #[opV k i c n f am, opV k' i' c' n' f' am'] w fun e w' => e = .returned (.bool (eqOp k i c n f zs k' i' c' n' f' zs')) ∧ Below w.heap.size w w' := by
  unfold eqOp
  cases h0 : k == k'
  · exact refEqual_0 k i c n f am zs k' i' c' n' f' am' zs' w hx hy h h' h0
  cases h1 : i == i'
  · exact refEqual_1 k i c n f am zs k' i' c' n' f' am' zs' w hx hy h h' h0 h1
  cases h2 : c == c'
  · exact refEqual_2 k i c n f am zs k' i' c' n' f' am' zs' w hx hy h h' h0 h1 h2
  cases h3 : n == n'
  · exact refEqual_3 k i c n f am zs k' i' c' n' f' am' zs' w hx hy h h' h0 h1 h2 h3
  cases h4 : f == f'
  · exact refEqual_4 k i c n f am zs k' i' c' n' f' am' zs' w hx hy h h' h0 h1 h2 h3 h4
  exact refEqual_5 k i c n f am zs k' i' c' n' f' am' zs' w hx hy h h' h0 h1 h2 h3 h4
end Go.Proofs.YtdclokpoeaehlaaGreatDoor
/- hammockref03.Few; hammocklaw04.awake. -/
namespace Go.Proofs.YtdclokpoeaehlaaGreatDoor
set_option linter.all false
open Go.RowKit

def fewB (os : List OpS) : Bool := (os.all fun o => decide (o.am.length ≤ 20)) && decide (os.length ≤ 300)
theorem fewB_iff {os : List OpS} : fewB os = true ↔ (∀ j, j < os.length → (opAt os j).am.length ≤ 20) ∧ os.length ≤ 300 := by
  unfold fewB
  rw [Bool.and_eq_true, List.all_eq_true, decide_eq_true_eq]
  refine and_congr_left fun _ => ⟨fun h j hj => ?_, fun h o ho => ?_⟩
  · have := h (opAt os j) (List.mem_of_getElem? (opAt_get hj))
    exact of_decide_eq_true this
  · obtain ⟨j, hj, rfl⟩ := opAt_mem ho
    exact decide_eq_true (h j hj)
set_option maxHeartbeats 4000000 in
set_option maxRecDepth 100000 in
theorem few_any (v : Value) (os : List OpS) (w : World) (hx : os.length * 64 ≤ 140737488351232) (h : AtOps w v os) :
    Calls Tryz.prog 41 #[v] w fun e w' => e = .returned (.bool (fewB os)) ∧ w = w' := by
  obtain ⟨a, cap, rfl, hget⟩ := h.get
  have HG := Lib.hid hget
  clear h hget
  obtain ⟨l, hl⟩ : ∃ n, n = os.length := ⟨_, rfl⟩
  rw [← hl] at hx ⊢
  have HL := Lib.hid hl
  clear hl
  go_enter Tryz.func41, Tryz.ntmps41
  go_wp2
  go_loop [3] (fun i => ∃ k : Nat, k ≤ l ∧ i = .int .i64 k ∧ Hid (∀ j, j < k → (opAt os j).am.length ≤ 20)) (fun i => l - (intOf i).toNat)
  case atStart => exact ⟨0, Nat.zero_le _, rfl, fun j hj => absurd hj (Nat.not_lt_zero _)⟩
  case round =>
    obtain ⟨k, hk, rfl, HA⟩ := hrel
    have hki : (0 : Int) ≤ (k : Int) := by omega
    by_cases hlt : k < l
    · obtain ⟨b, off, aa, cc, rfl, hb, hc, -⟩ := HG.out k (by rw [← HL.out]; exact hlt)
      have p5 := hc.c5
      have hkl : (k : Int) < (l : Int) := by omega
      clear hc
      by_cases hq : (opAt os k).am.length ≤ 20
      · have HN : Hid (∀ j, j < k + 1 → (opAt os j).am.length ≤ 20) := fun j hj => by
          rcases Nat.lt_or_ge j k with h | h
          · exact HA.out j h
          · rw [show j = k by omega]; exact hq
        have hq' : ¬ ((20 : Int) < ((opAt os k).am.length : Int)) := by omega
        generalize (opAt os k).am.length = m at *
        go_wp2
        go_round
        case rel => exact ⟨k + 1, by omega, by go_num, HN.out⟩
        case measure => simp [intOf]; omega
      · have HF : Hid (fewB os = false) := by
          cases hf : fewB os with
          | false => rfl
          | true => exact absurd ((fewB_iff.1 hf).1 k (by rw [← HL.out]; exact hlt)) hq
        have hq' : (20 : Int) < ((opAt os k).am.length : Int) := by omega
        generalize (opAt os k).am.length = m at *
        go_wp2
        go_ret
        exact ⟨by rw [HF.out]; rfl, rfl⟩
    · have he : l ≤ k := by omega
      have HF : Hid (fewB os = decide ((l : Int) ≤ 300)) := by
        rw [Bool.eq_iff_iff, fewB_iff, decide_eq_true_eq]
        refine ⟨fun h => by have := h.2; rw [← HL.out] at this; omega, fun h => ⟨fun j hj => HA.out j (by rw [← HL.out] at hj; omega), by rw [← HL.out]; omega⟩⟩
      have hkl : ¬ ((k : Int) < (l : Int)) := by omega
      go_wp2
      go_ret
      exact ⟨by rw [HF.out]; rfl, rfl⟩
theorem ints_one {X : World} (x : Int) : IntsAt (X.alloc (.cells #[.int .i64 x] 2)) (.slice (some ⟨X.heap.size, 0, none⟩) 1 1) [x] :=
  ⟨_, 1, rfl, .inr ⟨X.heap.size, 0, rfl, by simp, fun j hj => by
    have : j = 0 := by simp only [List.length_cons, List.length_nil] at hj; omega
    subst this
    go_simp⟩⟩
theorem ints_two {X : World} (x y : Int) : IntsAt (X.alloc (.cells #[.int .i64 x, .int .i64 y] 2)) (.slice (some ⟨X.heap.size, 0, none⟩) 2 2) [x, y] :=
  ⟨_, 2, rfl, .inr ⟨X.heap.size, 0, rfl, by simp, fun j hj => by
    have : j = 0 ∨ j = 1 := by simp only [List.length_cons, List.length_nil] at hj; omega
    rcases this with rfl | rfl
    · go_simp
    · go_simp⟩⟩
theorem ops_one {X : World} (o : OpS) (h : o.am = []) : AtOps (X.alloc (.cells #[.int .i64 o.kind, .int .i64 o.id, .int .i64 o.cls, .int .i64 o.n, .bool o.flag, .slice none 0 0] 58)) (.slice (some ⟨X.heap.size, 0, none⟩) 1 1) [o] := by
  refine ⟨[⟨o.kind, o.id, o.cls, o.n, o.flag, none, 0, 0⟩], kOp_one (by go_simp) (by go_simp) (by go_simp) (by go_simp) (by go_simp) (by go_simp), rfl, fun j x o' hx ho => ?_⟩
  match j, hx, ho with
  | 0, hx, ho =>
    cases hx
    cases ho
    exact ⟨rfl, rfl, rfl, rfl, rfl, by rw [h]; rfl, .inl h⟩
end Go.Proofs.YtdclokpoeaehlaaGreatDoor
