/- The laws of layer 5: what each returns. -/
import Derived.Test.YtcegipkhmibdeaaDoorPhaseParse
namespace Go.Proofs.YtcegipkhmibdeaaDoor
open Go.RowKit

theorem awake5 (w : World) (hg : NamesAt w) : Calls Tryd.prog 23 #[] w fun e w' => e = .returned (.bool true) ∧ Below w.heap.size w w' := by
  have c1 : ∀ w : World, IntsAt (w.alloc (.cells #[.int .i64 2, .int .i64 1, .int .i64 4] 3)) (.slice (some ⟨w.heap.size, 0, none⟩) 3 3) [2, 1, 4] := fun w =>
    ⟨_, _, rfl, .inr ⟨_, _, rfl, by simp, fun j hj => by
      have : j = 0 ∨ j = 1 ∨ j = 2 := by simp at hj; omega
      rcases this with rfl | rfl | rfl <;> simp⟩⟩
  have hr := fun w => run_any 1 _ [2, 1, 4] _ (by simp) (c1 w)
  have r1 : runP 1 [2, 1, 4] = (4, 3) := by decide
  have n1 := next_any 5 5
  have e1 : nx 5 5 = 0 := by decide
  have hp : parseP ⟨#[98, 111, 117, 110, 100]⟩ = 3 := by unfold parseP; simp [phNames, ByteArray.toList_eq]
  have hn : phName 5 = ⟨#[103, 111, 110, 101]⟩ := by decide
  rw [r1] at hr; rw [e1] at n1
  have HR := Lib.hid hr; clear hr
  have HG := Lib.hid hg; clear hg
  have HP := Lib.hid hp; clear hp
  have HN := Lib.hid hn; clear hn
  have HN1 := Lib.hid n1; clear n1
  clear r1 e1 c1
  go_enter Tryd.func23, Tryd.ntmps23
  go_wp2_with (first
    | (go_at_call 26; refine (HR.out _).mono ?_; rintro e1 w1 ⟨rfl, hb1⟩; have B1 : Below w.heap.size w w1 := ((Below.refl _ _).alloc (Nat.le_refl _) _).trans (hb1.mono (by simp)); clear hb1)
    | (go_at_call 24; refine (HN1.out _).mono ?_; rintro e2 w2 ⟨rfl, hb2⟩; have B2 : Below w.heap.size w w2 := B1.trans (hb2.mono B1.size); clear hb2; have g2 := HG.out.below B2)
    | (go_at_call 33; refine (parse_any _ _ g2).mono ?_; rintro e3 w3 ⟨rfl, rfl⟩; rw [HP.out])
    | (go_at_call 31; refine (name_any _ _ g2).mono ?_; rintro e3 w3 ⟨rfl, rfl⟩; rw [HN.out])
    | (go_at_call 28; refine (waits_any _ _).mono ?_; rintro e3 w3 ⟨rfl, rfl⟩)
    | (go_at_call 29; refine (holds_any _ _).mono ?_; rintro e3 w3 ⟨rfl, rfl⟩)
    | (go_at_call 30; refine (placed_any _ _).mono ?_; rintro e3 w3 ⟨rfl, rfl⟩))
  go_ret
  exact ⟨rfl, B2⟩

theorem matches_walk (p e : Int) (w : World) (hg : NamesAt w) : Calls Tryd.prog 3 #[.int .i64 p, .int .i64 e] w fun r w' => r = .returned (.bool true) ∧ Below w.heap.size w w' := by
  have HG := Lib.hid hg; clear hg
  cases hx : (nx p e != 0)
  all_goals
    go_enter Tryd.func3, Tryd.ntmps3
    go_wp2_with (first
      | (go_at_call 23; refine (awake5 _ HG.out).mono ?_; rintro e1 w1 ⟨rfl, B1⟩)
      | (go_at_call 24; refine (next_any _ _ _).mono ?_; rintro e2 w2 ⟨rfl, hb2⟩; have B2 : Below w.heap.size w w2 := B1.trans (hb2.mono B1.size); clear hb2)
      | (go_at_call 25; refine (refNext_any _ _ _).mono ?_; rintro e3 w3 ⟨rfl, rfl⟩))
    go_ret
    exact ⟨rfl, B2⟩

theorem runs_walk (p : Int) (v : Value) (zs : List Int) (w : World) (hg : NamesAt w) (hz : zs.length ≤ 140737488351232) (h : IntsAt w v zs) :
    Calls Tryd.prog 4 #[.int .i64 p, v] w fun r w' => r = .returned (.bool true) ∧ Below w.heap.size w w' := by
  have HG := Lib.hid hg; clear hg
  have HV := Lib.hid h
  obtain ⟨a, cap, rfl, h'⟩ := h
  clear h'
  obtain ⟨len, hlen⟩ : ∃ n, n = zs.length := ⟨_, rfl⟩
  rw [← hlen] at hz HV ⊢
  have HL := Lib.hid hlen; clear hlen
  by_cases hl : 1000 < len
  · go_enter Tryd.func4, Tryd.ntmps4
    go_wp2_with fail
    refine (awake5 _ HG.out).mono ?_
    rintro e1 w1 ⟨rfl, B1⟩
    have g1 := HG.out.below B1
    go_wp2_with fail
    refine (awake5 _ g1).mono ?_
    rintro e1 w2 ⟨rfl, B2⟩
    go_wp2
    go_ret
    exact ⟨rfl, B1.trans (B2.mono B1.size)⟩
  · obtain ⟨r, hr⟩ : ∃ r, r = runP p zs := ⟨_, rfl⟩
    have c1 := run_any p (.slice a len cap) zs
    have c2 := refRun_any p (.slice a len cap) zs
    rw [← hr] at c1 c2
    have C1 := Lib.hid c1; clear c1
    have C2 := Lib.hid c2; clear c2
    have HZ : Hid (zs.length ≤ 140737488351232) := by rw [← HL.out]; exact hz
    clear hr
    go_enter Tryd.func4, Tryd.ntmps4
    go_wp2_with fail
    refine (awake5 _ HG.out).mono ?_
    rintro e1 w1 ⟨rfl, B1⟩
    have v1 := HV.out.below B1
    go_wp2_with fail
    refine (C1.out _ HZ.out v1).mono ?_
    rintro e1 w2 ⟨rfl, B2⟩
    have v2 := v1.below B2
    go_wp2_with fail
    refine (C2.out _ HZ.out v2).mono ?_
    rintro e1 w3 ⟨rfl, rfl⟩
    go_wp2
    go_ret
    exact ⟨rfl, B1.trans (B2.mono B1.size)⟩
end Go.Proofs.YtcegipkhmibdeaaDoor
