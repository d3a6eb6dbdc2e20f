/- How loops over the bytes of a string cut it. Plain: no program. -/
import Derived.Test.YtdclokpoeaehlaaGreatDoorCut
namespace Go.Proofs.YtdclokpoeaehlaaGreatDoor
set_option linter.all false

theorem drop_get (L : List UInt8) (f j : Nat) : (L.drop f)[j]? = L[f + j]? := List.getElem?_drop
theorem split1_end {L : List UInt8} {f : Nat} {c : UInt8} (h : ∀ j, f ≤ j → L[j]? ≠ some c) : Lib.split (L.drop f) [c] = [L.drop f] :=
  split_none fun j e => h (f + j) (by omega) (by rw [← drop_get]; exact e)
theorem split1_hit {L : List UInt8} {f k : Nat} {c : UInt8} (hf : f ≤ k) (hk : L[k]? = some c) (h : ∀ j, f ≤ j → j < k → L[j]? ≠ some c) :
    Lib.split (L.drop f) [c] = (L.drop f).take (k - f) :: Lib.split (L.drop (k + 1)) [c] := by
  have hl : k < L.length := (List.getElem?_eq_some_iff.1 hk).1
  have hc : (L.drop f)[k - f]? = some c := by rw [drop_get, show f + (k - f) = k by omega]; exact hk
  rw [split_at (s := L.drop f) (sep := [c]) (i := k - f) (by simp) (by rw [List.length_drop]; omega) ?_ (noOcc_first fun j hj e => h (f + j) (by omega) (by omega) (by rw [← drop_get]; exact e))]
  · rw [List.drop_drop, List.length_singleton, show f + (k - f + 1) = k + 1 by omega]
  · unfold Lib.occAt
    rw [List.drop_eq_getElem_cons (by rw [List.length_drop]; omega)]
    rw [List.getElem?_eq_getElem (by rw [List.length_drop]; omega)] at hc
    simp only [Option.some.injEq] at hc
    simp [hc]
theorem occ2 {s : List UInt8} {a b : UInt8} {j : Nat} : Lib.occAt s [a, b] j = true ↔ s[j]? = some a ∧ s[j + 1]? = some b := by
  unfold Lib.occAt
  have e0 : s[j]? = (s.drop j)[0]? := by rw [drop_get]; rfl
  have e1 : s[j + 1]? = (s.drop j)[1]? := by rw [drop_get]
  rw [e0, e1]
  cases s.drop j with
  | nil => simp
  | cons x r =>
    cases r with
    | nil => simp [List.isPrefixOf]
    | cons y t =>
      simp only [List.isPrefixOf, Bool.and_true, Bool.and_eq_true, beq_iff_eq, List.getElem?_cons_zero, List.getElem?_cons_succ, Option.some.injEq]
      constructor <;> (rintro ⟨rfl, rfl⟩; exact ⟨rfl, rfl⟩)
theorem split2_end {L : List UInt8} {f : Nat} {a b : UInt8} (h : ∀ j, f ≤ j → ¬ (L[j]? = some a ∧ L[j + 1]? = some b)) : Lib.split (L.drop f) [a, b] = [L.drop f] := by
  refine split_miss (Lib.index_none fun j _ => ?_)
  rw [Bool.eq_false_iff]
  intro e
  have := occ2.1 e
  rw [drop_get, drop_get] at this
  exact h (f + j) (by omega) this
theorem split2_hit {L : List UInt8} {f k : Nat} {a b : UInt8} (hf : f ≤ k) (hk : L[k]? = some a ∧ L[k + 1]? = some b) (h : ∀ j, f ≤ j → j < k → ¬ (L[j]? = some a ∧ L[j + 1]? = some b)) :
    Lib.split (L.drop f) [a, b] = (L.drop f).take (k - f) :: Lib.split (L.drop (k + 2)) [a, b] := by
  have hl : k < L.length := (List.getElem?_eq_some_iff.1 hk.1).1
  rw [split_at (s := L.drop f) (sep := [a, b]) (i := k - f) (by simp) (by rw [List.length_drop]; omega) ?_ ?_]
  · rw [List.drop_drop, show [a, b].length = 2 from rfl, show f + (k - f + 2) = k + 2 by omega]
  · rw [occ2, drop_get, drop_get, show f + (k - f) = k by omega, show f + (k - f + 1) = k + 1 by omega]
    exact hk
  · intro j hj
    rw [Bool.eq_false_iff]
    intro e
    have := occ2.1 e
    rw [drop_get, drop_get] at this
    exact h (f + j) (by omega) (by omega) this
theorem extract_list (s : ByteArray) (f k : Nat) (hk : k ≤ s.size) : (s.extract f k).data.toList = (s.data.toList.drop f).take (k - f) := by
  rw [ByteArray.data_extract, Array.toList_extract, List.extract_eq_drop_take]
theorem byte_get (s : ByteArray) (k : Nat) (h : k < s.size) : s.data.toList[k]? = some s[k] := by
  rw [List.getElem?_eq_getElem (by rw [size_toList]; exact h)]
  rfl
theorem byte_none (s : ByteArray) (k : Nat) (h : s.size ≤ k) : s.data.toList[k]? = none := List.getElem?_eq_none (by rw [size_toList]; exact h)
theorem byte_eq {s : ByteArray} {k : Nat} (h : k < s.size) {c : UInt8} : s.data.toList[k]? = some c ↔ s[k].toNat = c.toNat := by
  rw [byte_get s k h]
  constructor
  · intro e; rw [Option.some.inj e]
  · intro e; congr 1; exact UInt8.toNat_inj.1 e
end Go.Proofs.YtdclokpoeaehlaaGreatDoor
