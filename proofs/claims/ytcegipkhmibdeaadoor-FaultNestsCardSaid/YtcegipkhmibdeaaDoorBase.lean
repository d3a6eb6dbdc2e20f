/- General lemmas of this seat's proofs: a region that draws its order, by an invariant over what has been done. -/
import Derived.WalkKit
namespace Go.Proofs.YtcegipkhmibdeaaDoor
set_option linter.all false
open Go.RowKit
/-- How many places are not yet marked. -/
def unlisted (listed : Array Bool) : Nat := listed.toList.countP (fun b => !b)

theorem unlisted_set (listed : Array Bool) (i : Nat) (h : i < listed.size) (hf : listed[i] = false) : unlisted (listed.setIfInBounds i true) + 1 = unlisted listed := by
  unfold unlisted
  have e : (listed.setIfInBounds i true).toList = listed.toList.set i true := by simp [Array.setIfInBounds, h]
  rw [e]
  have hl : i < listed.toList.length := by simpa using h
  have hf' : listed.toList[i] = false := by simpa using hf
  have hpos : 0 < listed.toList.countP (fun b => !b) := List.countP_pos_iff.2 ⟨listed.toList[i], List.getElem_mem hl, by rw [hf']; rfl⟩
  rw [List.countP_set hl, hf']
  simp only [Bool.not_false, Bool.not_true, if_true, Bool.false_eq_true, if_false]
  omega

/-- A region that draws its order, by an invariant over what has been done. -/
theorem wpAny_inv {P : Program} {md : Region.Mode} {ops : Array Oper} {Q : Exit → Act → World → Prop} (I : Array Bool → Act → World → Prop)
    (hsize : ∀ listed a w, I listed a w → listed.size = ops.size)
    (hstep : ∀ listed a w i, I listed a w → i ∈ Region.ready md ops listed → wpOp P ops Q i (I (listed.setIfInBounds i true)) a w)
    (hend : ∀ listed a w, I listed a w → Region.ready md ops listed = [] → Q .normal a w) :
    ∀ fuel listed a w, I listed a w → unlisted listed ≤ fuel → wpAny P md ops Q fuel listed a w := by
  intro fuel
  induction fuel with
  | zero =>
    intro listed a w hI hf
    have hr : Region.ready md ops listed = [] := by
      apply List.eq_nil_iff_forall_not_mem.2
      intro i hi
      have hm := List.mem_filter.1 hi
      have h1 : i < ops.size := List.mem_range.1 hm.1
      have hsz := hsize _ _ _ hI
      have h2 : listed.getD i true = false := by
        have := hm.2; simp only [Bool.and_eq_true, Bool.not_eq_true'] at this; exact this.1
      have h3 : listed[i]'(by omega) = false := by rw [Array.getD_eq_getD_getElem?, Array.getElem?_eq_getElem (by omega)] at h2; simpa using h2
      have := unlisted_set listed i (by omega) h3
      omega
    exact ⟨hr, hend _ _ _ hI hr⟩
  | succ fuel ih =>
    intro listed a w hI hf
    refine ⟨hend _ _ _ hI, fun i hi => ?_⟩
    have hm := List.mem_filter.1 hi
    have h1 : i < ops.size := List.mem_range.1 hm.1
    have hsz := hsize _ _ _ hI
    have h2 : listed.getD i true = false := by
      have := hm.2; simp only [Bool.and_eq_true, Bool.not_eq_true'] at this; exact this.1
    have h3 : listed[i]'(by omega) = false := by rw [Array.getD_eq_getD_getElem?, Array.getElem?_eq_getElem (by omega)] at h2; simpa using h2
    have hu := unlisted_set listed i (by omega) h3
    exact wpOp_mono (fun a w h => ih _ a w h (by omega)) (hstep _ _ _ _ hI hi)

theorem yields_wp {P : Program} {ops : Array Oper} {Q : Exit → Act → World → Prop} {K : Act → World → Prop} {i : Nat} {a : Act} {w w' : World} {o : Oper} (ho : ops[i]? = some o) (hg : o.guard = none) (v : Value)
    (hrun : (execOp a.eval o).run P w = .ok (.value v) w') (hK : K (a.put o.dst v) w') : wpOp P ops Q i K a w := by
  unfold wpOp
  rw [ho]
  simp only [Region.wanted, hg, if_true]
  left
  unfold Oper.wp
  rw [hrun]
  exact hK

end Go.Proofs.YtcegipkhmibdeaaDoor
