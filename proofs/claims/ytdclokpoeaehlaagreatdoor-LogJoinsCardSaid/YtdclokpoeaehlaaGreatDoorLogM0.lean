/- The kind with a name, found by going through all. Plain. -/
import Derived.Test.YtdclokpoeaehlaaGreatDoorLogSpec
namespace Go.Proofs.YtdclokpoeaehlaaGreatDoor
set_option linter.all false
/-- The last of the kinds 1 .. n with a name; 0: none. -/
def kindTo (x : List UInt8) : Nat → Nat
  | 0 => 0
  | n + 1 => if dname ((n + 1 : Nat) : Int) = x then n + 1 else kindTo x n
theorem kindTo_11 (x : List UInt8) : kindTo x 11 = kindOf x := by
  by_cases h1 : x = dname 1
  · subst h1; decide
  by_cases h2 : x = dname 2
  · subst h2; decide
  by_cases h3 : x = dname 3
  · subst h3; decide
  by_cases h4 : x = dname 4
  · subst h4; decide
  by_cases h5 : x = dname 5
  · subst h5; decide
  by_cases h6 : x = dname 6
  · subst h6; decide
  by_cases h7 : x = dname 7
  · subst h7; decide
  by_cases h8 : x = dname 8
  · subst h8; decide
  by_cases h9 : x = dname 9
  · subst h9; decide
  by_cases h10 : x = dname 10
  · subst h10; decide
  by_cases h11 : x = dname 11
  · subst h11; decide
  have e1 : kindTo x 11 = 0 := by
    simp only [kindTo]
    rw [if_neg (fun h => h11 h.symm), if_neg (fun h => h10 h.symm), if_neg (fun h => h9 h.symm), if_neg (fun h => h8 h.symm), if_neg (fun h => h7 h.symm), if_neg (fun h => h6 h.symm), if_neg (fun h => h5 h.symm), if_neg (fun h => h4 h.symm), if_neg (fun h => h3 h.symm), if_neg (fun h => h2 h.symm), if_neg (fun h => h1 h.symm)]
  have e2 : kindOf x = 0 := by
    unfold kindOf
    have : decNames.tail.findIdx? (· == x) = none := by
      rw [List.findIdx?_eq_none_iff]
      intro y hy
      have hn : decNames.tail = [dname 1, dname 2, dname 3, dname 4, dname 5, dname 6, dname 7, dname 8, dname 9, dname 10, dname 11] := by decide
      rw [hn] at hy
      simp only [List.mem_cons, List.not_mem_nil, or_false] at hy
      rw [beq_eq_false_iff_ne]
      intro e
      subst e
      rcases hy with h | h | h | h | h | h | h | h | h | h | h <;> contradiction
    rw [this]
  rw [e1, e2]
end Go.Proofs.YtdclokpoeaehlaaGreatDoor
