/- Rows of elements of one kind, each some cells: slices that are read, and slices of the call's own. -/
import Derived.Test.YtllipidegjpidaaGreatDoorKit
import Derived.Test.YtllipidegjpidaaGreatDoorProg
import Derived.OwnWalk
namespace Go.Proofs.YtllipidegjpidaaGreatDoor
set_option linter.all false
open Go.RowKit

/-- A kind of elements: its slice type, its own type, its cells. -/
structure Kin (α : Type) where
  t : TypeId
  e : TypeId
  size : Nat
  bytes : Nat
  zero : Value
  enc : α → List Value
  ht : Tryz.prog.underlying t = some (.slice e)
  hi : (Tryz.prog.info? e).map (fun i => (i.zero, i.size, i.bytes)) = some (some zero, size, bytes)
  hz : zero.cells.size = size
  pos : 0 < size
  len : ∀ x, (enc x).length = size
  one : ∀ x, ∀ u ∈ enc x, u.oneCell' = true

/-- The cells of many elements. -/
def Kin.row {α : Type} (k : Kin α) : List α → List Value
  | [] => []
  | x :: r => k.enc x ++ k.row r
theorem Kin.row_length {α : Type} (k : Kin α) : ∀ xs : List α, (k.row xs).length = xs.length * k.size
  | [] => by simp [Kin.row]
  | x :: r => by simp only [Kin.row, List.length_append, k.len, k.row_length r, List.length_cons, Nat.succ_mul]; omega
theorem Kin.row_append {α : Type} (k : Kin α) : ∀ xs ys : List α, k.row (xs ++ ys) = k.row xs ++ k.row ys
  | [], _ => rfl
  | x :: r, ys => by simp only [List.cons_append, Kin.row, k.row_append r ys, List.append_assoc]
theorem Kin.row_one {α : Type} (k : Kin α) : ∀ xs : List α, ∀ u ∈ k.row xs, u.oneCell' = true
  | [], u, h => by simp [Kin.row] at h
  | x :: r, u, h => by
    rcases List.mem_append.1 h with h | h
    · exact k.one x u h
    · exact k.row_one r u h
theorem Kin.row_get {α : Type} (k : Kin α) : ∀ (xs : List α) (j i : Nat) (x : α) (u : Value), xs[j]? = some x → (k.enc x)[i]? = some u → (k.row xs)[j * k.size + i]? = some u
  | [], j, i, x, u, h, _ => by simp at h
  | y :: r, 0, i, x, u, h, hu => by
    simp only [List.getElem?_cons_zero, Option.some.injEq] at h
    subst h
    have hi : i < (k.enc y).length := (List.getElem?_eq_some_iff.1 hu).1
    simp only [Kin.row, Nat.zero_mul, Nat.zero_add]
    rw [List.getElem?_append_left hi]; exact hu
  | y :: r, j + 1, i, x, u, h, hu => by
    simp only [List.getElem?_cons_succ] at h
    have ih := k.row_get r j i x u h hu
    simp only [Kin.row]
    rw [List.getElem?_append_right (by rw [k.len, Nat.succ_mul]; omega), k.len, show (j + 1) * k.size + i - k.size = j * k.size + i by rw [Nat.succ_mul]; omega]
    exact ih

/-- A slice of elements that is read. -/
def Kin.At {α : Type} (k : Kin α) (w : World) (v : Value) (xs : List α) : Prop :=
  ∃ a cap, v = .slice a xs.length cap ∧ (xs = [] ∨ ∃ b off, a = some ⟨b, off, none⟩ ∧ b < w.heap.size ∧ ∀ j x, xs[j]? = some x → ∀ i u, (k.enc x)[i]? = some u → w.cell? ⟨b, off + j * k.size + i, none⟩ = some u)
/-- A slice of elements in a row of the call's own. -/
def Kin.Own {α : Type} (k : Kin α) (base : Nat) (w : World) (v : Value) (xs : List α) : Prop := w.ownsRow base k.e k.size v xs.length (k.row xs)
theorem Kin.At.below {α : Type} {k : Kin α} {w w' : World} {v : Value} {xs : List α} (h : k.At w v xs) (hb : Below w.heap.size w w') : k.At w' v xs := by
  obtain ⟨a, cap, rfl, h | ⟨b, off, rfl, hlt, hc⟩⟩ := h
  · exact ⟨a, cap, rfl, .inl h⟩
  · exact ⟨_, cap, rfl, .inr ⟨b, off, rfl, Nat.lt_of_lt_of_le hlt hb.size, fun j x hx i u hu => keepc hb hlt (hc j x hx i u hu)⟩⟩
theorem Kin.Own.nil {α : Type} (k : Kin α) (base : Nat) (w : World) : k.Own base w (.slice none 0 0) [] := World.ownsRow_nil _ _ _ _
theorem Kin.Own.shape {α : Type} {k : Kin α} {base : Nat} {w : World} {v : Value} {xs : List α} (h : k.Own base w v xs) : ∃ a cap, v = .slice a xs.length cap := ownsRow_shape h
theorem Kin.Own.at_ {α : Type} {k : Kin α} {base : Nat} {w : World} {v : Value} {xs : List α} (h : k.Own base w v xs) : k.At w v xs := by
  have h' : w.ownsRow base k.e k.size v xs.length (k.row xs) := h
  rcases h'.2 with ⟨rfl, h0⟩ | ⟨g, cap, cur, rfl, hb, hg, hn, hc, hs, ht⟩
  · exact ⟨_, _, by rw [h0], .inl (List.eq_nil_of_length_eq_zero h0)⟩
  · refine ⟨_, cap, rfl, .inr ⟨g, 0, rfl, (Array.getElem?_eq_some_iff.1 hg).1, fun j x hx i u hu => ?_⟩⟩
    have h1 := h'.cells (g := g) rfl (j * k.size + i) u (k.row_get xs j i x u hx hu)
    rw [add_mk] at h1
    rw [Nat.add_assoc]
    exact h1
theorem Kin.Own.below {α : Type} {k : Kin α} {base : Nat} {w w' : World} {v : Value} {xs : List α} (h : k.Own base w v xs) (hb : Below w.heap.size w w') : k.Own base w' v xs := ownsRow_below h hb
theorem Kin.Own.low {α : Type} {k : Kin α} {base base' : Nat} {w : World} {v : Value} {xs : List α} (h : k.Own base w v xs) (hb : base' ≤ base) : k.Own base' w v xs := ownsRow_low h hb
theorem Kin.Own.alloc {α : Type} {k : Kin α} {base : Nat} {w : World} {v : Value} {xs : List α} (h : k.Own base w v xs) (o : Obj) : k.Own base (w.alloc o) v xs := World.ownsRow.alloc h o
theorem Kin.Own.drew {α : Type} {k : Kin α} {base : Nat} {w : World} {v : Value} {xs : List α} (h : k.Own base w v xs) : k.Own base w.drew v xs := h
/-- append of one element, whose cells lie in a new block. -/
theorem Kin.append1 {α : Type} (k : Kin α) {w : World} {ops : Array Oper} {rest : List Oper} {o : Oper} {a : Act} {Q : Exit → Act → World → Prop} (hgd : o.guard = none) (s x : Operand)
    (ho : o.op = .call { callee := .builtin .append, args := #[s, x], argTypes := #[k.t, k.t] }) (base : Nat)
    (v : Value) (xs : List α) (hs : a.eval s = v) (hown : k.Own base w v xs) (g : Nat) (y : α) (hx : a.eval x = .slice (some ⟨g, 0, none⟩) 1 1)
    (hc : ∀ j u, (k.enc y)[j]? = some u → w.cell? ⟨g, j, none⟩ = some u) (hn : xs.length + 1 ≤ maxLen) (hby : (xs.length + 1) * k.bytes ≤ 140737488355328) (hbase : base ≤ w.heap.size)
    (h : ∀ v' w', k.Own base w' v' (xs ++ [y]) → Below base w w' → w.grownBy w' v.ownBlock → wpList Tryz.prog ops Q rest (a.put o.dst v') w') : wpList Tryz.prog ops Q (o :: rest) a w := by
  obtain ⟨i0, hi, hz0, hz1, hz2⟩ := info_parts k.hi
  have hrowge : ∀ b, v.ownBlock = some b → base ≤ b := fun b hb => (World.ownsRow.lt hown b hb).1
  refine wpList_append_own w hgd s x k.t ho base k.e i0 k.zero k.size k.bytes k.ht hi hz0 hz1 hz2 k.hz k.pos v xs.length (k.row xs) hs hown ⟨g, 0, none⟩ 1 1 (k.enc y) hx (by rw [k.len]; omega)
    (fun j u hu => by rw [add_mk, Nat.zero_add]; exact hc j u hu) (k.one y) hn hby hbase (fun v' w' h1 h2 _ => ?_)
  refine h v' w' ?_ ((Below.refl _ _).grown h2 hbase hrowge) h2
  have e : k.row (xs ++ [y]) = k.row xs ++ k.enc y := by rw [k.row_append]; simp [Kin.row]
  unfold Kin.Own
  rw [e, List.length_append]; exact h1
end Go.Proofs.YtllipidegjpidaaGreatDoor
