/- How long a slice that came in may be. -/
import Derived.Test.YtllipidegjpidaaGreatDoorRows
import Derived.SizedLaws
import Derived.ProofKit
import Derived.OpenShut
namespace Go.Proofs.YtllipidegjpidaaGreatDoor
set_option linter.all false
open Go.ChangeShapes Go.WideShapes Go.RowKit
/-- A slice of whole numbers that came in is no longer than its weight allows. -/
theorem sized_ints_k {H : Type} {enc : TypeId × Value → H} {P : Program} {W : World} {base : Nat} {spare : Nat → Bool} {held : Bool} {t e : TypeId} {k : IntKind} {a : Option Addr} {len cap : Nat} {d : DataW H} {ps : List MemPlace} {ts : List TypeId} {ds : List (DataW H)} {j : Nat}
    (hsz : (DataW.weightsEach P ts ds).all (· ≤ reachBytes) = true) (ht : ts[j]? = some t) (hd : ds[j]? = some d) (hu : P.underlying t = some (.slice e)) (he : P.underlying e = some (.int k)) (hc : P.cellsOf e = 1) (hB : P.bytesOf e = 8)
    (h : DataW.Trod enc P W base spare held t (.slice a len cap) d ps) : len * 8 ≤ 140737488351232 := by
  obtain ⟨fuel, hf⟩ := h
  rcases open_ints hu he hc hf with ⟨hcs, _⟩ | ⟨x, l, c, zs, hcs, _, hl, _, hz, hx, _, _⟩
  · simp [Value.cells] at hcs
    obtain ⟨rfl, rfl, rfl⟩ := hcs
    simp
  · simp [Value.cells] at hcs
    obtain ⟨rfl, rfl, rfl⟩ := hcs
    obtain ⟨hx, _⟩ := Prod.mk.inj hx
    subst hx
    have z := sized_slice hsz ht hd hu
    rw [hB] at z
    have hl2 : len ≤ zs.length := by rw [hz]; split <;> omega
    simp only [lits, List.length_map, List.length_take, List.length_drop] at z
    have : zs.length * 8 ≤ reachBytes := by
      rw [show min len zs.length + (zs.length - len) = zs.length by omega] at z
      exact z
    unfold reachBytes at this
    omega
end Go.Proofs.YtllipidegjpidaaGreatDoor
