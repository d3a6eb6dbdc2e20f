/- What Few says; AuditUsage of views that are not few, or have no pods. -/
import Derived.Test.YtkdmjpakpmnhgaaGreatDoorAvA
import Derived.Test.YtkdmjpakpmnhgaaGreatDoorAuJ
import Derived.Test.YtkdmjpakpmnhgaaGreatDoorAuZ
import Derived.Deep.RegionHeld3
namespace Go.Proofs.YtkdmjpakpmnhgaaGreatDoor
set_option linter.all false
open Go.RowKit

/-- What is known of a view that is few. -/
structure FewPods (dims : Int) (ps : List PodS) : Prop where
  mild : MildPods ps
  low : ∀ p ∈ ps, ∀ i, 0 ≤ p.req.getD i 0 ∧ p.req.getD i 0 ≤ 1099511627776
  len : ps.length ≤ 100
  dims : dims ≤ 20
theorem few26_true {dims : Int} {ns : List NodeS} {ps : List PodS} {la lk : Nat} (h : few26 dims ns ps la lk = true) : FewPods dims ps := by
  unfold few26 at h
  simp only [Bool.and_eq_true, decide_eq_true_eq, List.all_eq_true] at h
  obtain ⟨⟨⟨⟨⟨⟨h1, h2⟩, h3⟩, h4⟩, h5⟩, h6⟩, h7⟩ := h
  have hlow : ∀ p ∈ ps, ∀ i, 0 ≤ p.req.getD i 0 ∧ p.req.getD i 0 ≤ 1099511627776 := fun p hp i => by
    have := h7 p hp
    rcases Nat.lt_or_ge i p.req.length with hi | hi
    · exact amsB_iff.1 this i hi
    · rw [List.getD_eq_getElem?_getD, List.getElem?_eq_none hi]
      exact ⟨Int.le_refl 0, by decide⟩
  exact ⟨fun p hp i => ⟨(hlow p hp i).1, Int.le_trans (hlow p hp i).2 (by decide)⟩, hlow, (few06_iff.1 h1).2, h5⟩
theorem colsum_bound {B : Int} (hB : 0 ≤ B) : ∀ {vs : List (List Int)} (i : Nat), (∀ v ∈ vs, 0 ≤ v.getD i 0 ∧ v.getD i 0 ≤ B) → 0 ≤ colsum vs i ∧ colsum vs i ≤ (vs.length : Int) * B
  | [], i, _ => by rw [colsum_nil]; simp
  | v :: r, i, h => by
    have h1 := h v (by simp)
    have h2 := colsum_bound hB (vs := r) i (fun u hu => h u (by simp [hu]))
    rw [colsum_cons, List.length_cons]
    have e : ((r.length + 1 : Nat) : Int) * B = (r.length : Int) * B + B := by rw [Int.natCast_add, Int.add_mul]; simp
    rw [e]
    omega
/-- The usage without a pod, and its request, are not great. -/
theorem add_mild {dims node : Int} {ps : List PodS} (h : FewPods dims ps) {l : List PodS} (hl : ∀ p ∈ l, p ∈ ps) (hn : l.length ≤ 100) {p : PodS} (hp : p ∈ ps) : Mild [usage node dims l, p.req] := fun j => by
  refine vAt_mem (P := fun v => ∀ i, 0 ≤ v.getD i 0 ∧ v.getD i 0 ≤ 281474976710656) (fun v hv i => ?_) (fun i => by simp) j
  rcases List.mem_cons.1 hv with rfl | hv
  · unfold usage
    rcases Nat.lt_or_ge i dims.toNat with hi | hi
    · rw [vsum_get hi]
      have hb := colsum_bound (B := 1099511627776) (by decide) (vs := uvecs node dims l) i (fun v hv => by
        rcases uvecs_mem hv with rfl | ⟨q, hq, -, rfl⟩
        · rw [zeros_get]; decide
        · exact h.low q (hl q hq) i)
      have hlen := uvecs_len node dims l
      refine ⟨hb.1, Int.le_trans hb.2 ?_⟩
      omega
    · have : (vsum dims.toNat (uvecs node dims l)).length ≤ i := by unfold vsum; simp; omega
      rw [List.getD_eq_getElem?_getD, List.getElem?_eq_none this]
      exact ⟨Int.le_refl 0, by decide⟩
  · rcases List.mem_cons.1 hv with rfl | hv
    · exact h.mild p hp i
    · cases hv
theorem lessAt_mem {k : Nat} {ps : List PodS} : ∀ p ∈ lessAt k ps, p ∈ ps := fun p hp => by
  unfold lessAt at hp
  rcases List.mem_append.1 hp with hp | hp
  · exact List.mem_of_mem_take hp
  · exact List.mem_of_mem_drop hp
theorem pAt_mem {ps : List PodS} {k : Nat} (h : k < ps.length) : pAt ps k ∈ ps := List.mem_of_getElem? (pAt_get h)
set_option maxHeartbeats 4000000 in
set_option maxRecDepth 100000 in
/-- A view that is not few, or has no pods. -/
theorem auditUsage_out (dims node which : Int) (an ap aa ak : Option Addr) (ln cn la ca lk ck cp : Nat) (ns : List NodeS) (ps : List PodS) (w : World) (s : ByteArray) (hx : ps.length ≤ 9223372036854775807) (hcap : ∀ j, j < ns.length → (nAt ns j).cap.length ≤ 9223372036854775807)
    (hs : s.toList.isEmpty = false) (hnm : w.cell? ⟨1, 3, none⟩ = some (.string s)) (ham : w.cell? ⟨0, 5, none⟩ = some (.string ⟨#[116, 119, 105, 99, 101]⟩))
    (hn : AtNodes w (.slice an ln cn) ns) (hp : AtPods w (.slice ap ps.length cp) ps) (hb : few26 dims ns ps la lk = false ∨ ps.length = 0) :
    Calls Tryz.prog 3 #[viewV dims (.slice an ln cn) (.slice ap ps.length cp) (.slice aa la ca) (.slice ak lk ck), .int .u8 which, .int .i64 node] w fun e w' => e = .returned (.bool true) ∧ Below w.heap.size w w' := by
  have HA : Hid (∀ X, From w X → Calls Tryz.prog 4 #[] X fun e w' => e = .returned (.bool true) ∧ Below X.heap.size X w') := fun X f => awake26_any X s hs (f.cell hnm) (f.cell ham)
  have HF : Hid (∀ X, From w X → Calls Tryz.prog 5 #[viewV dims (.slice an ln cn) (.slice ap ps.length cp) (.slice aa la ca) (.slice ak lk ck)] X fun e w' => e = .returned (.bool (few26 dims ns ps la lk)) ∧ Below X.heap.size X w') := fun X f => few26_any dims _ _ aa ak la lk ca ck ns ps X hx hcap (hn.below f.out) (hp.below f.out)
  clear hn hp hnm ham hcap hx
  generalize few26 dims ns ps la lk = q at *
  generalize ps.length = pl at *
  obtain ⟨X0, hX0⟩ : ∃ X0, X0 = w.alloc (.cells #[.int .i64 dims, .slice an ln cn, .slice ap pl cp, .slice aa la ca, .slice ak lk ck] 26) := ⟨_, rfl⟩
  have F0 : From w X0 := by rw [hX0]; exact (From.refl w).alloc _
  have b0 : X0.cell? ⟨w.heap.size, 0, none⟩ = some (.int .i64 dims) := by rw [hX0]; go_simp
  have b1 : X0.cell? ⟨w.heap.size, 1, none⟩ = some (.slice an ln cn) := by rw [hX0]; go_simp
  have b2 : X0.cell? ⟨w.heap.size, 2, none⟩ = some (.slice ap pl cp) := by rw [hX0]; go_simp
  have b3 : X0.cell? ⟨w.heap.size, 3, none⟩ = some (.slice aa la ca) := by rw [hX0]; go_simp
  have b4 : X0.cell? ⟨w.heap.size, 4, none⟩ = some (.slice ak lk ck) := by rw [hX0]; go_simp
  have HF0 := Lib.hid F0
  clear F0
  go_enter Tryz.func3, Tryz.ntmps3
  go_wp2_with fail
  rw [← hX0]
  clear hX0
  refine (HA.out _ HF0.out).mono ?_
  rintro e W1 ⟨rfl, hb1⟩
  have F1 : From X0 W1 := ⟨hb1⟩
  have d0 := F1.cell b0
  have d1 := F1.cell b1
  have d2 := F1.cell b2
  have d3 := F1.cell b3
  have d4 := F1.cell b4
  have HF1 := Lib.hid (HF0.out.trans F1)
  clear hb1 F1 b0 b1 b2 b3 b4
  go_wp2_with fail
  refine (HF.out _ HF1.out).mono ?_
  rintro e W2 ⟨rfl, hb2⟩
  have F2 : From W1 W2 := ⟨hb2⟩
  have e2 := F2.cell d2
  have HF2 := Lib.hid (HF1.out.trans F2)
  clear hb2 F2 d0 d1 d2 d3 d4
  cases q
  · go_wp2_with fail
    refine (HA.out _ HF2.out).mono ?_
    rintro e W3 ⟨rfl, hb3⟩
    have HF3 := Lib.hid (HF2.out.step hb3)
    clear hb3
    go_wp2
    go_ret
    exact ⟨rfl, HF3.out.out⟩
  · have hpl : pl = 0 := by
      rcases hb with h | h
      · cases h
      · exact h
    subst hpl
    clear hb
    go_wp2_with fail
    refine (HA.out _ HF2.out).mono ?_
    rintro e W3 ⟨rfl, hb3⟩
    have HF3 := Lib.hid (HF2.out.step hb3)
    clear hb3
    go_wp2
    go_ret
    exact ⟨rfl, HF3.out.out⟩
end Go.Proofs.YtkdmjpakpmnhgaaGreatDoor
