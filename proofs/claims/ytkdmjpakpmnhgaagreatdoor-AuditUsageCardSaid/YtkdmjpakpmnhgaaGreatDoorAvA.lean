/- append of a whole slice as one operation of a region; the slices before and behind an element; the pods without one. -/
import Derived.Test.YtkdmjpakpmnhgaaGreatDoorAuL
import Derived.Test.YtkdmjpakpmnhgaaGreatDoorAuK
namespace Go.Proofs.YtkdmjpakpmnhgaaGreatDoor
set_option linter.all false
open Go.RowKit

theorem Kin.row_at {α : Type} (k : Kin α) : ∀ (ys : List α) (j : Nat) (u : Value), (k.row ys)[j]? = some u → ∃ q i x, ys[q]? = some x ∧ (k.enc x)[i]? = some u ∧ j = q * k.size + i
  | [], j, u, h => by simp [Kin.row] at h
  | y :: r, j, u, h => by
    simp only [Kin.row] at h
    rcases Nat.lt_or_ge j (k.enc y).length with hj | hj
    · rw [List.getElem?_append_left hj] at h
      exact ⟨0, j, y, rfl, h, by omega⟩
    · rw [List.getElem?_append_right hj] at h
      obtain ⟨q, i, x, h1, h2, h3⟩ := k.row_at r _ u h
      rw [k.len] at h3 hj
      exact ⟨q + 1, i, x, h1, h2, by rw [Nat.succ_mul]; omega⟩
/-- append of all elements of a slice that is there, as one operation of a region. -/
theorem Kin.appendAll_op {α : Type} (k : Kin α) {w : World} {o : Oper} {a : Act} {K : Act → World → Prop} {Q : Exit → Act → World → Prop} (s x : Operand)
    (ho : o.op = .call { callee := .builtin .append, args := #[s, x], argTypes := #[k.t, k.t] }) (base : Nat)
    (v : Value) (xs : List α) (hs : a.eval s = v) (hown : k.Own base w v xs) (b off cap : Nat) (ys : List α) (n : Nat) (hnl : n = ys.length) (hx : a.eval x = .slice (some ⟨b, off, none⟩) n cap)
    (hc : ∀ j y, ys[j]? = some y → ∀ i u, (k.enc y)[i]? = some u → w.cell? ⟨b, off + j * k.size + i, none⟩ = some u)
    (hn : xs.length + ys.length ≤ maxLen) (hby : (xs.length + ys.length) * k.bytes ≤ 140737488355328) (hbase : base ≤ w.heap.size)
    (h : ∀ v' w', k.Own base w' v' (xs ++ ys) → Below base w w' → K (a.put o.dst v') w') : o.wp Tryz.prog a w K Q := by
  subst hnl
  obtain ⟨i, hi, hz, hz1, hz2⟩ := info_parts k.hi
  have hrowge : ∀ b, v.ownBlock = some b → base ≤ b := fun b hb => (World.ownsRow.lt hown b hb).1
  refine wp_append_own w s x k.t ho base k.e i k.zero k.size k.bytes k.ht hi hz hz1 hz2 k.hz k.pos v xs.length (k.row xs) hs hown ⟨b, off, none⟩ ys.length cap (k.row ys) hx (k.row_length ys) (fun j u hu => ?_) (k.row_one ys) hn hby hbase (fun v' w' h1 h2 _ => ?_)
  · rw [add_mk]
    obtain ⟨q, i, x0, hx0, hi0, e⟩ := k.row_at ys j u hu
    rw [e, ← Nat.add_assoc]
    exact hc q x0 hx0 i u hi0
  · refine h v' w' ?_ ((Below.refl _ _).grown h2 hbase hrowge)
    unfold Kin.Own
    rw [k.row_append, List.length_append]; exact h1
/-- Pods that lie in memory, without the k-th. -/
theorem less_at {W w : World} {base : Nat} {v : Value} {xs : List PodR} {ps : List PodS} {k : Nat} (hl : xs.length = ps.length) (hk : k < ps.length) (hp : ∀ (j : Nat) x p, xs[j]? = some x → ps[j]? = some p → PodIs W x p)
    (hf : From W w) (ho : kPod.Own base w v (xs.take k ++ xs.drop (k + 1))) : AtPods w v (lessAt k ps) := by
  refine ⟨_, ho.at_, ?_, fun j x p hx hq => ?_⟩
  · unfold lessAt
    simp [hl]
  · unfold lessAt at hq
    have e1 : (xs.take k).length = k := by simp; omega
    have e2 : (ps.take k).length = k := by simp; omega
    rcases Nat.lt_or_ge j k with hj | hj
    · rw [List.getElem?_append_left (by omega), List.getElem?_take_of_lt hj] at hx hq
      exact (hp j x p hx hq).below hf.out
    · rw [List.getElem?_append_right (by omega), List.getElem?_drop] at hx hq
      rw [e1] at hx
      rw [e2] at hq
      exact (hp _ x p hx hq).below hf.out
theorem less_len {ps : List PodS} {k : Nat} (hk : k < ps.length) : (lessAt k ps).length + 1 = ps.length := by
  unfold lessAt
  simp
  omega
theorem less_mild {ps : List PodS} {k : Nat} (h : MildPods ps) : MildPods (lessAt k ps) := fun p hp i => by
  unfold lessAt at hp
  rcases List.mem_append.1 hp with hp | hp
  · exact h p (List.mem_of_mem_take hp) i
  · exact h p (List.mem_of_mem_drop hp) i
end Go.Proofs.YtkdmjpakpmnhgaaGreatDoor
