/- The functions of package phase and of its reference: what each returns. -/
import Derived.Test.YtcegipkhmibdeaaDoorNext
import Derived.WalkSpells
import Derived.WalkLawsBesides
import Derived.Deep.Cut
namespace Go.Proofs.YtcegipkhmibdeaaDoor
set_option linter.all false
open Go.RowKit

theorem ret_bool {a b : Bool} (h : a = b) : Ending.returned (.bool a) = Ending.returned (.bool b) := by rw [h]

theorem waits_any (p : Int) (w : World) : Calls Tryd.prog 28 #[.int .i64 p] w fun e w' => e = .returned (.bool (p == 1 || p == 2)) ∧ w = w' := by
  by_cases h1 : p = 1
  · subst h1; go_enter Tryd.func28, Tryd.ntmps28; go_wp2; go_ret; exact ⟨rfl, rfl⟩
  by_cases h2 : p = 2
  · subst h2; go_enter Tryd.func28, Tryd.ntmps28; go_wp2; go_ret; exact ⟨rfl, rfl⟩
  go_enter Tryd.func28, Tryd.ntmps28
  go_wp2
  go_ret
  exact ⟨rfl, rfl⟩
theorem placed_any (p : Int) (w : World) : Calls Tryd.prog 30 #[.int .i64 p] w fun e w' => e = .returned (.bool (p == 2 || p == 3 || p == 4)) ∧ w = w' := by
  by_cases h1 : p = 2
  · subst h1; go_enter Tryd.func30, Tryd.ntmps30; go_wp2; go_ret; exact ⟨rfl, rfl⟩
  by_cases h2 : p = 3
  · subst h2; go_enter Tryd.func30, Tryd.ntmps30; go_wp2; go_ret; exact ⟨rfl, rfl⟩
  by_cases h3 : p = 4
  · subst h3; go_enter Tryd.func30, Tryd.ntmps30; go_wp2; go_ret; exact ⟨rfl, rfl⟩
  have e : (p == 2 || p == 3 || p == 4) = false := by simp [h1, h2, h3]
  rw [e]
  go_enter Tryd.func30, Tryd.ntmps30
  go_wp2
  go_ret
  exact ⟨rfl, rfl⟩
theorem holds_any (p : Int) (w : World) : Calls Tryd.prog 29 #[.int .i64 p] w fun e w' => e = .returned (.bool (p == 3 || p == 4)) ∧ w = w' := by
  have hp := placed_any p
  have hw := waits_any p
  by_cases h1 : p = 2
  · subst h1; go_enter Tryd.func29, Tryd.ntmps29
    go_wp2_with (first | (go_at_call 30; refine (hp _).mono ?_; rintro e w' ⟨rfl, rfl⟩) | (go_at_call 28; refine (hw _).mono ?_; rintro e w' ⟨rfl, rfl⟩))
    go_ret; exact ⟨rfl, rfl⟩
  by_cases h2 : p = 3
  · subst h2; go_enter Tryd.func29, Tryd.ntmps29
    go_wp2_with (first | (go_at_call 30; refine (hp _).mono ?_; rintro e w' ⟨rfl, rfl⟩) | (go_at_call 28; refine (hw _).mono ?_; rintro e w' ⟨rfl, rfl⟩))
    go_ret; exact ⟨rfl, rfl⟩
  by_cases h3 : p = 4
  · subst h3; go_enter Tryd.func29, Tryd.ntmps29
    go_wp2_with (first | (go_at_call 30; refine (hp _).mono ?_; rintro e w' ⟨rfl, rfl⟩) | (go_at_call 28; refine (hw _).mono ?_; rintro e w' ⟨rfl, rfl⟩))
    go_ret; exact ⟨rfl, rfl⟩
  have e : (p == 2 || p == 3 || p == 4) = false := by simp [h1, h2, h3]
  have e' : (p == 3 || p == 4) = false := by simp [h2, h3]
  rw [e'] 
  rw [e] at hp
  go_enter Tryd.func29, Tryd.ntmps29
  go_wp2_with (go_at_call 30; refine (hp _).mono ?_; rintro e w' ⟨rfl, rfl⟩)
  go_ret; exact ⟨rfl, rfl⟩
def phNames : List ByteArray := [⟨#[]⟩, ⟨#[112, 101, 110, 100, 105, 110, 103]⟩, ⟨#[110, 111, 109, 105, 110, 97, 116, 101, 100]⟩, ⟨#[98, 111, 117, 110, 100]⟩, ⟨#[116, 101, 114, 109, 105, 110, 97, 116, 105, 110, 103]⟩, ⟨#[103, 111, 110, 101]⟩]
/-- The name of a phase. -/
def phName (p : Int) : ByteArray := if 0 ≤ p ∧ p < 6 then phNames.getD p.toNat ⟨#[]⟩ else ⟨#[]⟩
/-- The variable phase.names holds the names. -/
def NamesAt (w : World) : Prop := ∀ i, i < 6 → w.cell? ⟨0, i, none⟩ = some (.string (phNames.getD i ⟨#[]⟩))
theorem NamesAt.lt {w : World} (h : NamesAt w) : 0 < w.heap.size := by
  have := h 0 (by omega)
  rcases Nat.lt_or_ge 0 w.heap.size with h1 | h1
  · exact h1
  · simp [World.cell?, Array.getElem?_eq_none h1] at this
theorem NamesAt.below {w w' : World} (h : NamesAt w) (hb : Below w.heap.size w w') : NamesAt w' := fun i hi => (hb.cell (p := ⟨0, i, none⟩) h.lt).trans (h i hi)
theorem six {p : Int} (h : 0 ≤ p ∧ p < 6) : p = 0 ∨ p = 1 ∨ p = 2 ∨ p = 3 ∨ p = 4 ∨ p = 5 := by omega

theorem name_any (p : Int) (w : World) (hg : NamesAt w) : Calls Tryd.prog 31 #[.int .i64 p] w fun e w' => e = .returned (.string (phName p)) ∧ w = w' := by
  by_cases hp : 0 ≤ p ∧ p < 6
  · rcases six hp with rfl | rfl | rfl | rfl | rfl | rfl
    · have h := hg 0 (by omega); clear hg; simp only [phNames, List.getD_eq_getElem?_getD, List.getElem?_cons_zero, List.getElem?_cons_succ, Option.getD_some] at h
      go_enter Tryd.func31, Tryd.ntmps31; go_wp2; go_ret; exact ⟨rfl, rfl⟩
    · have h := hg 1 (by omega); clear hg; simp only [phNames, List.getD_eq_getElem?_getD, List.getElem?_cons_zero, List.getElem?_cons_succ, Option.getD_some] at h
      go_enter Tryd.func31, Tryd.ntmps31; go_wp2; go_ret; exact ⟨rfl, rfl⟩
    · have h := hg 2 (by omega); clear hg; simp only [phNames, List.getD_eq_getElem?_getD, List.getElem?_cons_zero, List.getElem?_cons_succ, Option.getD_some] at h
      go_enter Tryd.func31, Tryd.ntmps31; go_wp2; go_ret; exact ⟨rfl, rfl⟩
    · have h := hg 3 (by omega); clear hg; simp only [phNames, List.getD_eq_getElem?_getD, List.getElem?_cons_zero, List.getElem?_cons_succ, Option.getD_some] at h
      go_enter Tryd.func31, Tryd.ntmps31; go_wp2; go_ret; exact ⟨rfl, rfl⟩
    · have h := hg 4 (by omega); clear hg; simp only [phNames, List.getD_eq_getElem?_getD, List.getElem?_cons_zero, List.getElem?_cons_succ, Option.getD_some] at h
      go_enter Tryd.func31, Tryd.ntmps31; go_wp2; go_ret; exact ⟨rfl, rfl⟩
    · have h := hg 5 (by omega); clear hg; simp only [phNames, List.getD_eq_getElem?_getD, List.getElem?_cons_zero, List.getElem?_cons_succ, Option.getD_some] at h
      go_enter Tryd.func31, Tryd.ntmps31; go_wp2; go_ret; exact ⟨rfl, rfl⟩
  · have e : phName p = ⟨#[]⟩ := by unfold phName; rw [if_neg hp]
    rw [e]
    clear hg e
    by_cases h0 : p < 0
    · go_enter Tryd.func31, Tryd.ntmps31; go_wp2; go_ret; exact ⟨rfl, rfl⟩
    · have h6 : 6 ≤ p := by omega
      clear hp
      go_enter Tryd.func31, Tryd.ntmps31; go_wp2; go_ret; exact ⟨rfl, rfl⟩
theorem refName_any (p : Int) (w : World) : Calls Tryd.prog 32 #[.int .i64 p] w fun e w' => e = .returned (.string (phName p)) ∧ Below w.heap.size w w' := by
  by_cases hp : 1 ≤ p ∧ p < 6
  · have : p = 1 ∨ p = 2 ∨ p = 3 ∨ p = 4 ∨ p = 5 := by omega
    rcases this with rfl | rfl | rfl | rfl | rfl
    all_goals
      go_enter Tryd.func32, Tryd.ntmps32; go_wp2; go_ret; exact ⟨rfl, (Below.refl _ _).alloc (Nat.le_refl _) _⟩
  · have e : phName p = ⟨#[]⟩ := by
      unfold phName
      by_cases h : 0 ≤ p ∧ p < 6
      · have : p = 0 := by omega
        subst this; rfl
      · rw [if_neg h]
    rw [e]
    clear e
    by_cases h0 : p < 1
    · go_enter Tryd.func32, Tryd.ntmps32; go_wp2; go_ret; exact ⟨rfl, (Below.refl _ _).alloc (Nat.le_refl _) _⟩
    · have h6 : 5 < p := by omega
      clear hp
      go_enter Tryd.func32, Tryd.ntmps32; go_wp2; go_ret; exact ⟨rfl, (Below.refl _ _).alloc (Nat.le_refl _) _⟩
theorem refNext_any (p e : Int) (w : World) : Calls Tryd.prog 25 #[.int .i64 p, .int .i64 e] w fun r w' => r = .returned (.int .i64 (nx p e)) ∧ w = w' := by
  by_cases e1 : e = 1
  · subst e1
    by_cases p1 : p = 1
    · subst p1; go_enter Tryd.func25, Tryd.ntmps25; go_wp2; go_ret; exact ⟨rfl, rfl⟩
    by_cases p2 : p = 2
    · subst p2; go_enter Tryd.func25, Tryd.ntmps25; go_wp2; go_ret; exact ⟨rfl, rfl⟩
    have h : nx p 1 = 0 := by simp [nx, p1, p2]
    have hb : (p == 1 || p == 2) = false := by simp [p1, p2]
    rw [h]; clear h; go_enter Tryd.func25, Tryd.ntmps25; go_wp2; go_ret; exact ⟨rfl, rfl⟩
  by_cases e2 : e = 2
  · subst e2
    by_cases p1 : p = 1
    · subst p1; go_enter Tryd.func25, Tryd.ntmps25; go_wp2; go_ret; exact ⟨rfl, rfl⟩
    by_cases p2 : p = 2
    · subst p2; go_enter Tryd.func25, Tryd.ntmps25; go_wp2; go_ret; exact ⟨rfl, rfl⟩
    have h : nx p 2 = 0 := by simp [nx, p1, p2]
    have hb : (p == 1 || p == 2) = false := by simp [p1, p2]
    rw [h]; clear h; go_enter Tryd.func25, Tryd.ntmps25; go_wp2; go_ret; exact ⟨rfl, rfl⟩
  by_cases e3 : e = 3
  · subst e3
    by_cases p2 : p = 2
    · subst p2; go_enter Tryd.func25, Tryd.ntmps25; go_wp2; go_ret; exact ⟨rfl, rfl⟩
    have h : nx p 3 = 0 := by simp [nx, p2]
    rw [h]; clear h; go_enter Tryd.func25, Tryd.ntmps25; go_wp2; go_ret; exact ⟨rfl, rfl⟩
  by_cases e4 : e = 4
  · subst e4
    by_cases p2 : p = 3
    · subst p2; go_enter Tryd.func25, Tryd.ntmps25; go_wp2; go_ret; exact ⟨rfl, rfl⟩
    have h : nx p 4 = 0 := by simp [nx, p2]
    rw [h]; clear h; go_enter Tryd.func25, Tryd.ntmps25; go_wp2; go_ret; exact ⟨rfl, rfl⟩
  by_cases e5 : e = 5
  · subst e5
    by_cases p2 : 1 ≤ p
    · by_cases p3 : p ≤ 4
      · have h : nx p 5 = 5 := by simp [nx, p2, p3]
        rw [h]; clear h; go_enter Tryd.func25, Tryd.ntmps25; go_wp2; go_ret; exact ⟨rfl, rfl⟩
      · have h : nx p 5 = 0 := by simp [nx, p3]
        rw [h]; clear h; go_enter Tryd.func25, Tryd.ntmps25; go_wp2; go_ret; exact ⟨rfl, rfl⟩
    · have h : nx p 5 = 0 := by simp [nx, p2]
      rw [h]; clear h; go_enter Tryd.func25, Tryd.ntmps25; go_wp2; go_ret; exact ⟨rfl, rfl⟩
  have h : nx p e = 0 := by simp [nx, e1, e2, e3, e4, e5]
  rw [h]; clear h; go_enter Tryd.func25, Tryd.ntmps25; go_wp2; go_ret; exact ⟨rfl, rfl⟩
end Go.Proofs.YtcegipkhmibdeaaDoor
