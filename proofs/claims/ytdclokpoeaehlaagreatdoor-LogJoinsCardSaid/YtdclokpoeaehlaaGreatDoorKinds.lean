/- The kinds of elements of this seat: strings, decisions. -/
import Derived.Test.YtdclokpoeaehlaaGreatDoorRow
import Derived.Test.YtdclokpoeaehlaaGreatDoorLogSpec
namespace Go.Proofs.YtdclokpoeaehlaaGreatDoor
set_option linter.all false
open Go.RowKit

/-- Strings, as lists of bytes. -/
def kStr : Kin (List UInt8) where
  t := 71
  e := 9
  size := 1
  bytes := 16
  zero := .string ByteArray.empty
  enc := fun x => [.string (str x)]
  ht := Tryz.underlying71
  hi := by kernel_rfl
  hz := rfl
  pos := by decide
  len := fun _ => rfl
  one := fun _ u h => by rw [List.mem_singleton.1 h]; rfl
/-- Decisions. -/
def kDec : Kin Dec where
  t := 32
  e := 23
  size := 4
  bytes := 32
  zero := .agg #[.int .i64 0, .int .i64 0, .int .i64 0, .int .i64 0]
  enc := fun d => [.int .i64 d.kind, .int .i64 d.id, .int .i64 d.node, .int .i64 d.at_]
  ht := Tryz.underlying32
  hi := by kernel_rfl
  hz := rfl
  pos := by decide
  len := fun _ => rfl
  one := fun _ u h => by
    simp only [List.mem_cons, List.not_mem_nil, or_false] at h
    rcases h with rfl | rfl | rfl | rfl <;> rfl
/-- Whole numbers. -/
def kInt : Kin Int where
  t := 81
  e := 3
  size := 1
  bytes := 8
  zero := .int .i64 0
  enc := fun x => [.int .i64 x]
  ht := Tryz.underlying81
  hi := by kernel_rfl
  hz := rfl
  pos := by decide
  len := fun _ => rfl
  one := fun _ u h => by rw [List.mem_singleton.1 h]; rfl
/-- A decision's value. -/
abbrev decV (d : Dec) : Value := .agg #[.int .i64 d.kind, .int .i64 d.id, .int .i64 d.node, .int .i64 d.at_]
/-- A decision's four cells. -/
def DecCells (w : World) (b o : Nat) (d : Dec) : Prop :=
  w.cell? ⟨b, o, none⟩ = some (.int .i64 d.kind) ∧ w.cell? ⟨b, o + 1, none⟩ = some (.int .i64 d.id) ∧ w.cell? ⟨b, o + 2, none⟩ = some (.int .i64 d.node) ∧ w.cell? ⟨b, o + 3, none⟩ = some (.int .i64 d.at_)
theorem DecCells.below {w w' : World} {n b o : Nat} {d : Dec} (h : DecCells w b o d) (hb : Below n w w') (hl : b < n) : DecCells w' b o d :=
  ⟨keepc hb hl h.1, keepc hb hl h.2.1, keepc hb hl h.2.2.1, keepc hb hl h.2.2.2⟩
theorem cells4_of {w : World} {g : Nat} {d : Dec} (h0 : w.cell? ⟨g, 0, none⟩ = some (.int .i64 d.kind)) (h1 : w.cell? ⟨g, 1, none⟩ = some (.int .i64 d.id)) (h2 : w.cell? ⟨g, 2, none⟩ = some (.int .i64 d.node)) (h3 : w.cell? ⟨g, 3, none⟩ = some (.int .i64 d.at_)) :
    ∀ j u, (kDec.enc d)[j]? = some u → w.cell? ⟨g, j, none⟩ = some u
  | 0, _, h => by cases h; exact h0
  | 1, _, h => by cases h; exact h1
  | 2, _, h => by cases h; exact h2
  | 3, _, h => by cases h; exact h3
  | _ + 4, _, h => by cases h
def decAt (ds : List Dec) (j : Nat) : Dec := ds.getD j ⟨0, 0, 0, 0⟩
theorem decAt_get {ds : List Dec} {j : Nat} (h : j < ds.length) : ds[j]? = some (decAt ds j) := by unfold decAt; rw [List.getD_eq_getElem?_getD, List.getElem?_eq_getElem h]; rfl
def strAt (xs : List (List UInt8)) (j : Nat) : List UInt8 := xs.getD j []
theorem strAt_get {xs : List (List UInt8)} {j : Nat} (h : j < xs.length) : xs[j]? = some (strAt xs j) := by unfold strAt; rw [List.getD_eq_getElem?_getD, List.getElem?_eq_getElem h]; rfl
/-- What a slice of decisions holds, cell by cell. -/
theorem decs_cells {w : World} {b off : Nat} {ds : List Dec} (h : ∀ j x, ds[j]? = some x → ∀ i u, (kDec.enc x)[i]? = some u → w.cell? ⟨b, off + j * kDec.size + i, none⟩ = some u) : ∀ j, j < ds.length → DecCells w b (off + j * 4) (decAt ds j) :=
  fun j hj => ⟨h j _ (decAt_get hj) 0 _ rfl, h j _ (decAt_get hj) 1 _ rfl, h j _ (decAt_get hj) 2 _ rfl, h j _ (decAt_get hj) 3 _ rfl⟩
theorem strs_cells {w : World} {b off : Nat} {xs : List (List UInt8)} (h : ∀ j x, xs[j]? = some x → ∀ i u, (kStr.enc x)[i]? = some u → w.cell? ⟨b, off + j * kStr.size + i, none⟩ = some u) : ∀ j, j < xs.length → w.cell? ⟨b, off + j, none⟩ = some (.string (str (strAt xs j))) :=
  fun j hj => by have := h j _ (strAt_get hj) 0 _ rfl; simpa [kStr] using this
theorem cells1i_of {w : World} {g : Nat} {x : Int} (h0 : w.cell? ⟨g, 0, none⟩ = some (.int .i64 x)) : ∀ j u, (kInt.enc x)[j]? = some u → w.cell? ⟨g, j, none⟩ = some u
  | 0, _, h => by cases h; exact h0
  | _ + 1, _, h => by cases h
/-- Where an own row of numbers lies. -/
theorem Kin.Own.ints {base : Nat} {w : World} {v : Value} {xs : List Int} (h : kInt.Own base w v xs) (hne : xs ≠ []) : ∃ g cap, v = .slice (some ⟨g, 0, none⟩) xs.length cap ∧ base ≤ g ∧ ∀ (j : Nat) x, xs[j]? = some x → w.cell? ⟨g, j, none⟩ = some (.int .i64 x) := by
  have h' : w.ownsRow base kInt.e kInt.size v xs.length (kInt.row xs) := h
  rcases h'.2 with ⟨rfl, h0⟩ | ⟨g, cap, cur, rfl, hb, hg, hn, hc, hs, ht⟩
  · exact absurd (List.eq_nil_of_length_eq_zero h0) hne
  · refine ⟨g, cap, rfl, hb, fun j x hx => ?_⟩
    have h1 := h'.cells (g := g) rfl (j * kInt.size + 0) (.int .i64 x) (kInt.row_get xs j 0 x _ hx rfl)
    rw [add_mk] at h1
    simpa [kInt] using h1
end Go.Proofs.YtdclokpoeaehlaaGreatDoor
