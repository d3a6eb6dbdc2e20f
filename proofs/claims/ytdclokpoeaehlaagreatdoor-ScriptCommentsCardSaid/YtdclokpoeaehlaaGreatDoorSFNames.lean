/- fault.Name, fault.KindName and their references: each number's name, or none. -/
import Derived.Test.YtdclokpoeaehlaaGreatDoorGa
import Derived.Test.YtdclokpoeaehlaaGreatDoorProg
namespace Go.Proofs.YtdclokpoeaehlaaGreatDoor
set_option linter.all false
open Go.RowKit

def codeNames : List ByteArray := [⟨#[]⟩, ⟨#[107, 105, 110, 100]⟩, ⟨#[105, 100]⟩, ⟨#[97, 109, 111, 117, 110, 116]⟩, ⟨#[110, 117, 109, 98, 101, 114]⟩, ⟨#[117, 110, 107, 110, 111, 119, 110]⟩, ⟨#[100, 117, 112, 108, 105, 99, 97, 116, 101]⟩, ⟨#[102, 117, 108, 108]⟩, ⟨#[112, 104, 97, 115, 101]⟩, ⟨#[115, 121, 110, 116, 97, 120]⟩, ⟨#[111, 118, 101, 114, 102, 108, 111, 119]⟩]
/-- The name of a code, or none. -/
def codeName (c : Int) : ByteArray := if 0 ≤ c ∧ c < 11 then codeNames.getD c.toNat ⟨#[]⟩ else ⟨#[]⟩
/-- The variable fault.names holds the names. -/
def CodesAt (w : World) : Prop := ∀ i, i < 11 → w.cell? ⟨3, i, none⟩ = some (.string (codeNames.getD i ⟨#[]⟩))
theorem CodesAt.lt {w : World} (h : CodesAt w) : 3 < w.heap.size := by
  have := h 0 (by omega)
  rcases Nat.lt_or_ge 3 w.heap.size with h1 | h1
  · exact h1
  · simp [World.cell?, Array.getElem?_eq_none h1] at this
theorem CodesAt.below {w w' : World} (h : CodesAt w) (hb : Below w.heap.size w w') : CodesAt w' := fun i hi => (hb.cell (p := ⟨3, i, none⟩) h.lt).trans (h i hi)
def kindNames : List ByteArray := [⟨#[]⟩, ⟨#[99, 108, 97, 115, 115]⟩, ⟨#[110, 111, 100, 101]⟩, ⟨#[100, 114, 111, 112]⟩, ⟨#[112, 111, 100]⟩, ⟨#[100, 101, 108, 101, 116, 101]⟩, ⟨#[116, 105, 99, 107]⟩, ⟨#[99, 121, 99, 108, 101]⟩]
/-- The name of a kind, or none. -/
def kindName (c : Int) : ByteArray := if 0 ≤ c ∧ c < 8 then kindNames.getD c.toNat ⟨#[]⟩ else ⟨#[]⟩
/-- The variable fault.kinds holds the names. -/
def KindsAt (w : World) : Prop := ∀ i, i < 8 → w.cell? ⟨4, i, none⟩ = some (.string (kindNames.getD i ⟨#[]⟩))
theorem KindsAt.lt {w : World} (h : KindsAt w) : 4 < w.heap.size := by
  have := h 0 (by omega)
  rcases Nat.lt_or_ge 4 w.heap.size with h1 | h1
  · exact h1
  · simp [World.cell?, Array.getElem?_eq_none h1] at this
theorem KindsAt.below {w w' : World} (h : KindsAt w) (hb : Below w.heap.size w w') : KindsAt w' := fun i hi => (hb.cell (p := ⟨4, i, none⟩) h.lt).trans (h i hi)
set_option maxHeartbeats 4000000 in
theorem fCodeName_any (c : Int) (w : World) (hg : CodesAt w) : Calls Tryz.prog 55 #[.int .i64 c] w fun e w' => e = .returned (.string (codeName c)) ∧ w = w' := by
  by_cases hp : 0 ≤ c ∧ c < 11
  · have hc : c = 0 ∨ c = 1 ∨ c = 2 ∨ c = 3 ∨ c = 4 ∨ c = 5 ∨ c = 6 ∨ c = 7 ∨ c = 8 ∨ c = 9 ∨ c = 10 := by omega
    rcases hc with rfl | rfl | rfl | rfl | rfl | rfl | rfl | rfl | rfl | rfl | rfl
    · have h := hg 0 (by omega); clear hg; simp only [codeNames, List.getD_eq_getElem?_getD, List.getElem?_cons_zero, List.getElem?_cons_succ, Option.getD_some] at h
      go_enter Tryz.func55, Tryz.ntmps55; go_wp2; go_ret; exact ⟨rfl, rfl⟩
    · have h := hg 1 (by omega); clear hg; simp only [codeNames, List.getD_eq_getElem?_getD, List.getElem?_cons_zero, List.getElem?_cons_succ, Option.getD_some] at h
      go_enter Tryz.func55, Tryz.ntmps55; go_wp2; go_ret; exact ⟨rfl, rfl⟩
    · have h := hg 2 (by omega); clear hg; simp only [codeNames, List.getD_eq_getElem?_getD, List.getElem?_cons_zero, List.getElem?_cons_succ, Option.getD_some] at h
      go_enter Tryz.func55, Tryz.ntmps55; go_wp2; go_ret; exact ⟨rfl, rfl⟩
    · have h := hg 3 (by omega); clear hg; simp only [codeNames, List.getD_eq_getElem?_getD, List.getElem?_cons_zero, List.getElem?_cons_succ, Option.getD_some] at h
      go_enter Tryz.func55, Tryz.ntmps55; go_wp2; go_ret; exact ⟨rfl, rfl⟩
    · have h := hg 4 (by omega); clear hg; simp only [codeNames, List.getD_eq_getElem?_getD, List.getElem?_cons_zero, List.getElem?_cons_succ, Option.getD_some] at h
      go_enter Tryz.func55, Tryz.ntmps55; go_wp2; go_ret; exact ⟨rfl, rfl⟩
    · have h := hg 5 (by omega); clear hg; simp only [codeNames, List.getD_eq_getElem?_getD, List.getElem?_cons_zero, List.getElem?_cons_succ, Option.getD_some] at h
      go_enter Tryz.func55, Tryz.ntmps55; go_wp2; go_ret; exact ⟨rfl, rfl⟩
    · have h := hg 6 (by omega); clear hg; simp only [codeNames, List.getD_eq_getElem?_getD, List.getElem?_cons_zero, List.getElem?_cons_succ, Option.getD_some] at h
      go_enter Tryz.func55, Tryz.ntmps55; go_wp2; go_ret; exact ⟨rfl, rfl⟩
    · have h := hg 7 (by omega); clear hg; simp only [codeNames, List.getD_eq_getElem?_getD, List.getElem?_cons_zero, List.getElem?_cons_succ, Option.getD_some] at h
      go_enter Tryz.func55, Tryz.ntmps55; go_wp2; go_ret; exact ⟨rfl, rfl⟩
    · have h := hg 8 (by omega); clear hg; simp only [codeNames, List.getD_eq_getElem?_getD, List.getElem?_cons_zero, List.getElem?_cons_succ, Option.getD_some] at h
      go_enter Tryz.func55, Tryz.ntmps55; go_wp2; go_ret; exact ⟨rfl, rfl⟩
    · have h := hg 9 (by omega); clear hg; simp only [codeNames, List.getD_eq_getElem?_getD, List.getElem?_cons_zero, List.getElem?_cons_succ, Option.getD_some] at h
      go_enter Tryz.func55, Tryz.ntmps55; go_wp2; go_ret; exact ⟨rfl, rfl⟩
    · have h := hg 10 (by omega); clear hg; simp only [codeNames, List.getD_eq_getElem?_getD, List.getElem?_cons_zero, List.getElem?_cons_succ, Option.getD_some] at h
      go_enter Tryz.func55, Tryz.ntmps55; go_wp2; go_ret; exact ⟨rfl, rfl⟩
  · have e : codeName c = ⟨#[]⟩ := by unfold codeName; rw [if_neg hp]
    rw [e]
    clear hg e
    by_cases h0 : c < 0
    · go_enter Tryz.func55, Tryz.ntmps55; go_wp2; go_ret; exact ⟨rfl, rfl⟩
    · have h6 : 11 ≤ c := by omega
      clear hp
      go_enter Tryz.func55, Tryz.ntmps55; go_wp2; go_ret; exact ⟨rfl, rfl⟩
set_option maxHeartbeats 4000000 in
theorem rCodeName_any (c : Int) (w : World) : Calls Tryz.prog 29 #[.int .i64 c] w fun e w' => e = .returned (.string (codeName c)) ∧ Below w.heap.size w w' := by
  by_cases hp : 1 ≤ c ∧ c < 11
  · have hc : c = 1 ∨ c = 2 ∨ c = 3 ∨ c = 4 ∨ c = 5 ∨ c = 6 ∨ c = 7 ∨ c = 8 ∨ c = 9 ∨ c = 10 := by omega
    rcases hc with rfl | rfl | rfl | rfl | rfl | rfl | rfl | rfl | rfl | rfl
    all_goals
      go_enter Tryz.func29, Tryz.ntmps29; go_wp2; go_ret; exact ⟨rfl, (Below.refl _ _).alloc (Nat.le_refl _) _⟩
  · have e : codeName c = ⟨#[]⟩ := by
      unfold codeName
      by_cases h : 0 ≤ c ∧ c < 11
      · have : c = 0 := by omega
        subst this; rfl
      · rw [if_neg h]
    rw [e]
    clear e
    by_cases h0 : c < 1
    · go_enter Tryz.func29, Tryz.ntmps29; go_wp2; go_ret; exact ⟨rfl, (Below.refl _ _).alloc (Nat.le_refl _) _⟩
    · have h6 : 10 < c := by omega
      clear hp
      go_enter Tryz.func29, Tryz.ntmps29; go_wp2; go_ret; exact ⟨rfl, (Below.refl _ _).alloc (Nat.le_refl _) _⟩
set_option maxHeartbeats 4000000 in
theorem fKindName_any (c : Int) (w : World) (hg : KindsAt w) : Calls Tryz.prog 67 #[.int .i64 c] w fun e w' => e = .returned (.string (kindName c)) ∧ w = w' := by
  by_cases hp : 0 ≤ c ∧ c < 8
  · have hc : c = 0 ∨ c = 1 ∨ c = 2 ∨ c = 3 ∨ c = 4 ∨ c = 5 ∨ c = 6 ∨ c = 7 := by omega
    rcases hc with rfl | rfl | rfl | rfl | rfl | rfl | rfl | rfl
    · have h := hg 0 (by omega); clear hg; simp only [kindNames, List.getD_eq_getElem?_getD, List.getElem?_cons_zero, List.getElem?_cons_succ, Option.getD_some] at h
      go_enter Tryz.func67, Tryz.ntmps67; go_wp2; go_ret; exact ⟨rfl, rfl⟩
    · have h := hg 1 (by omega); clear hg; simp only [kindNames, List.getD_eq_getElem?_getD, List.getElem?_cons_zero, List.getElem?_cons_succ, Option.getD_some] at h
      go_enter Tryz.func67, Tryz.ntmps67; go_wp2; go_ret; exact ⟨rfl, rfl⟩
    · have h := hg 2 (by omega); clear hg; simp only [kindNames, List.getD_eq_getElem?_getD, List.getElem?_cons_zero, List.getElem?_cons_succ, Option.getD_some] at h
      go_enter Tryz.func67, Tryz.ntmps67; go_wp2; go_ret; exact ⟨rfl, rfl⟩
    · have h := hg 3 (by omega); clear hg; simp only [kindNames, List.getD_eq_getElem?_getD, List.getElem?_cons_zero, List.getElem?_cons_succ, Option.getD_some] at h
      go_enter Tryz.func67, Tryz.ntmps67; go_wp2; go_ret; exact ⟨rfl, rfl⟩
    · have h := hg 4 (by omega); clear hg; simp only [kindNames, List.getD_eq_getElem?_getD, List.getElem?_cons_zero, List.getElem?_cons_succ, Option.getD_some] at h
      go_enter Tryz.func67, Tryz.ntmps67; go_wp2; go_ret; exact ⟨rfl, rfl⟩
    · have h := hg 5 (by omega); clear hg; simp only [kindNames, List.getD_eq_getElem?_getD, List.getElem?_cons_zero, List.getElem?_cons_succ, Option.getD_some] at h
      go_enter Tryz.func67, Tryz.ntmps67; go_wp2; go_ret; exact ⟨rfl, rfl⟩
    · have h := hg 6 (by omega); clear hg; simp only [kindNames, List.getD_eq_getElem?_getD, List.getElem?_cons_zero, List.getElem?_cons_succ, Option.getD_some] at h
      go_enter Tryz.func67, Tryz.ntmps67; go_wp2; go_ret; exact ⟨rfl, rfl⟩
    · have h := hg 7 (by omega); clear hg; simp only [kindNames, List.getD_eq_getElem?_getD, List.getElem?_cons_zero, List.getElem?_cons_succ, Option.getD_some] at h
      go_enter Tryz.func67, Tryz.ntmps67; go_wp2; go_ret; exact ⟨rfl, rfl⟩
  · have e : kindName c = ⟨#[]⟩ := by unfold kindName; rw [if_neg hp]
    rw [e]
    clear hg e
    by_cases h0 : c < 0
    · go_enter Tryz.func67, Tryz.ntmps67; go_wp2; go_ret; exact ⟨rfl, rfl⟩
    · have h6 : 8 ≤ c := by omega
      clear hp
      go_enter Tryz.func67, Tryz.ntmps67; go_wp2; go_ret; exact ⟨rfl, rfl⟩
set_option maxHeartbeats 4000000 in
theorem rKindName_any (c : Int) (w : World) : Calls Tryz.prog 69 #[.int .i64 c] w fun e w' => e = .returned (.string (kindName c)) ∧ Below w.heap.size w w' := by
  by_cases hp : 1 ≤ c ∧ c < 8
  · have hc : c = 1 ∨ c = 2 ∨ c = 3 ∨ c = 4 ∨ c = 5 ∨ c = 6 ∨ c = 7 := by omega
    rcases hc with rfl | rfl | rfl | rfl | rfl | rfl | rfl
    all_goals
      go_enter Tryz.func69, Tryz.ntmps69; go_wp2; go_ret; exact ⟨rfl, (Below.refl _ _).alloc (Nat.le_refl _) _⟩
  · have e : kindName c = ⟨#[]⟩ := by
      unfold kindName
      by_cases h : 0 ≤ c ∧ c < 8
      · have : c = 0 := by omega
        subst this; rfl
      · rw [if_neg h]
    rw [e]
    clear e
    by_cases h0 : c < 1
    · go_enter Tryz.func69, Tryz.ntmps69; go_wp2; go_ret; exact ⟨rfl, (Below.refl _ _).alloc (Nat.le_refl _) _⟩
    · have h6 : 7 < c := by omega
      clear hp
      go_enter Tryz.func69, Tryz.ntmps69; go_wp2; go_ret; exact ⟨rfl, (Below.refl _ _).alloc (Nat.le_refl _) _⟩
end Go.Proofs.YtdclokpoeaehlaaGreatDoor
