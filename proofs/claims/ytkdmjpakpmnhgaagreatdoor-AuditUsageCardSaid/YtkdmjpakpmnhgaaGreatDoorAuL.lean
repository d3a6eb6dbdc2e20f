/- The usage of a node without one pod. Plain: no program. -/
import Derived.Test.YtkdmjpakpmnhgaaGreatDoorAuF
namespace Go.Proofs.YtkdmjpakpmnhgaaGreatDoor
set_option linter.all false

/-- The pods without the k-th. -/
def lessAt (k : Nat) (ps : List PodS) : List PodS := ps.take k ++ ps.drop (k + 1)
theorem colsum_append (a b : List (List Int)) (i : Nat) : colsum (a ++ b) i = colsum a i + colsum b i := by
  unfold colsum
  rw [List.map_append, List.sum_append]
theorem colsum_cons (v : List Int) (r : List (List Int)) (i : Nat) : colsum (v :: r) i = v.getD i 0 + colsum r i := by
  unfold colsum
  simp
theorem pods_split {ps : List PodS} {k : Nat} (h : k < ps.length) : ps = ps.take k ++ pAt ps k :: ps.drop (k + 1) := by
  have e : pAt ps k = ps[k] := by unfold pAt; rw [List.getD_eq_getElem?_getD, List.getElem?_eq_getElem h]; rfl
  rw [e, ← List.drop_eq_getElem_cons h, List.take_append_drop]
def ureqs (node dims : Int) (ps : List PodS) : List (List Int) := (ps.filter (countsB node dims)).map (·.req)
theorem ureqs_append (node dims : Int) (a b : List PodS) : ureqs node dims (a ++ b) = ureqs node dims a ++ ureqs node dims b := by
  unfold ureqs
  rw [List.filter_append, List.map_append]
theorem uvecs_eq (node dims : Int) (ps : List PodS) : uvecs node dims ps = zeros dims.toNat :: ureqs node dims ps := rfl
theorem ureqs_split (node dims : Int) {ps : List PodS} {k : Nat} (h : k < ps.length) (i : Nat) : colsum (uvecs node dims ps) i = colsum (uvecs node dims (lessAt k ps)) i + (if countsB node dims (pAt ps k) = true then (pAt ps k).req.getD i 0 else 0) := by
  have e := pods_split h
  rw [uvecs_eq, uvecs_eq, colsum_cons, colsum_cons]
  have h1 : ureqs node dims ps = ureqs node dims (ps.take k) ++ (ureqs node dims [pAt ps k] ++ ureqs node dims (ps.drop (k + 1))) := by
    rw [← ureqs_append, ← ureqs_append]
    exact congrArg (ureqs node dims) (by rw [List.singleton_append]; exact e)
  have h2 : ureqs node dims (lessAt k ps) = ureqs node dims (ps.take k) ++ ureqs node dims (ps.drop (k + 1)) := ureqs_append node dims _ _
  have h3 : colsum (ureqs node dims [pAt ps k]) i = if countsB node dims (pAt ps k) = true then (pAt ps k).req.getD i 0 else 0 := by
    unfold ureqs
    by_cases hc : countsB node dims (pAt ps k) = true
    · rw [if_pos hc, List.filter_cons_of_pos hc]
      simp [colsum]
    · rw [if_neg hc, List.filter_cons_of_neg hc]
      simp [colsum]
  rw [h1, h2, colsum_append, colsum_append, colsum_append, h3]
  omega
/-- A pod that does not count leaves the usage as it is. -/
theorem usage_skip (node dims : Int) {ps : List PodS} {k : Nat} (h : k < ps.length) (hc : countsB node dims (pAt ps k) = false) : usage node dims (lessAt k ps) = usage node dims ps := by
  unfold usage vsum
  refine List.map_congr_left fun i _ => ?_
  rw [ureqs_split node dims h i, if_neg (by rw [hc]; decide)]
  omega
/-- A pod that counts: the usage without it and its request make up the usage. -/
theorem usage_add (node dims : Int) {ps : List PodS} {k : Nat} (h : k < ps.length) (hc : countsB node dims (pAt ps k) = true) : vsum dims.toNat [usage node dims (lessAt k ps), (pAt ps k).req] = usage node dims ps := by
  unfold usage
  show (List.range dims.toNat).map _ = (List.range dims.toNat).map _
  refine List.map_congr_left fun i hi => ?_
  rw [ureqs_split node dims h i, if_pos hc, colsum_cons, colsum_cons, vsum_get (List.mem_range.1 hi)]
  show _ + (_ + colsum [] i) = _
  rw [colsum_nil]
  omega
end Go.Proofs.YtkdmjpakpmnhgaaGreatDoor
