/- hammockref26.Few. -/
import Derived.Test.YtkdmjpakpmnhgaaGreatDoorAuH
import Derived.Deep.QuietTactic
namespace Go.Proofs.YtkdmjpakpmnhgaaGreatDoor
set_option linter.all false
open Go.RowKit

/-- The index of the first amount that is out of its bounds, or -1. -/
def wrongI (zs : List Int) : Int := match zs.findIdx? (fun x => !amB x) with | some i => (i : Int) | none => -1
theorem amB_iff (x : Int) : amB x = true ↔ 0 ≤ x ∧ x ≤ 1099511627776 := by unfold amB; exact decide_eq_true_iff
theorem wrongI_at {zs : List Int} {k : Nat} (hk : k < zs.length) (hb : ¬ (0 ≤ zs.getD k 0 ∧ zs.getD k 0 ≤ 1099511627776)) (ha : ∀ j, j < k → 0 ≤ zs.getD j 0 ∧ zs.getD j 0 ≤ 1099511627776) : wrongI zs = k := by
  have e : ∀ j (hj : j < zs.length), zs.getD j 0 = zs[j] := fun j hj => by rw [List.getD_eq_getElem?_getD, List.getElem?_eq_getElem hj]; rfl
  have h : zs.findIdx? (fun x => !amB x) = some k := by
    rw [List.findIdx?_eq_some_iff_getElem]
    refine ⟨hk, ?_, fun j hj => ?_⟩
    · rw [e k hk] at hb
      simp only [Bool.not_eq_true']
      cases hq : amB zs[k] with
      | false => rfl
      | true => exact absurd ((amB_iff _).1 hq) hb
    · have h1 := ha j hj
      rw [e j (by omega)] at h1
      simp [(amB_iff _).2 h1]
  unfold wrongI
  rw [h]
theorem wrongI_none {zs : List Int} (h : amsB zs = true) : wrongI zs = -1 := by
  have h1 : zs.findIdx? (fun x => !amB x) = none := by
    rw [List.findIdx?_eq_none_iff]
    intro x hx
    unfold amsB at h
    rw [List.all_eq_true] at h
    simp [h x hx]
  unfold wrongI
  rw [h1]
set_option maxHeartbeats 4000000 in
set_option maxRecDepth 100000 in
theorem wrong01_val (v : Value) (zs : List Int) (w : World) (hz : zs.length ≤ 9223372036854775807) (h : IntsAt w v zs) :
    Calls Tryz.prog 14 #[v, .int .i64 zs.length] w fun e w' => e = .returned (.int .i64 (wrongI zs)) ∧ w = w' := by
  obtain ⟨a, cap, rfl, hi⟩ := h
  obtain ⟨q, hq⟩ : ∃ q, q = zs.length := ⟨_, rfl⟩
  have HC : Hid (∀ j, j < q → ∃ b off, a = some ⟨b, off, none⟩ ∧ w.cell? ⟨b, off + j, none⟩ = some (.int .i64 (zs.getD j 0))) := fun j hj => by
    rcases hi with hi | ⟨b, off, h1, _, h2⟩
    · subst hi; simp at hq; omega
    · exact ⟨b, off, h1, h2 j (by rw [← hq]; exact hj)⟩
  rw [← hq] at hz ⊢
  have HQ := Lib.hid hq
  clear hi hq
  go_enter Tryz.func14, Tryz.ntmps14
  go_wp2
  go_loop [5] (fun iv => ∃ k : Nat, k ≤ q ∧ iv = .int .i64 k ∧ Hid (∀ j, j < k → 0 ≤ zs.getD j 0 ∧ zs.getD j 0 ≤ 1099511627776)) (fun iv => q - (intOf iv).toNat)
  case atStart => exact ⟨0, Nat.zero_le _, rfl, fun j hj => absurd hj (Nat.not_lt_zero _)⟩
  case round =>
    obtain ⟨k, hk, rfl, HA⟩ := hrel
    have hki : (0 : Int) ≤ (k : Int) := by omega
    by_cases hlt : k < q
    · obtain ⟨b, off, rfl, pc⟩ := HC.out k hlt
      have hkl : (k : Int) < (q : Int) := by omega
      have HN : Hid (0 ≤ zs.getD k 0 ∧ zs.getD k 0 ≤ 1099511627776 → ∀ j, j < k + 1 → 0 ≤ zs.getD j 0 ∧ zs.getD j 0 ≤ 1099511627776) := fun h j hj => by
        rcases Nat.lt_or_ge j k with h1 | h1
        · exact HA.out j h1
        · rw [show j = k by omega]; exact h
      have HB : Hid (¬ (0 ≤ zs.getD k 0 ∧ zs.getD k 0 ≤ 1099511627776) → wrongI zs = k) := fun h => wrongI_at (by rw [← HQ.out]; exact hlt) h HA.out
      generalize zs.getD k 0 = x at *
      rcases (by omega : x < 0 ∨ (0 ≤ x ∧ x ≤ 1099511627776) ∨ (0 ≤ x ∧ 1099511627776 < x)) with h1 | ⟨h1, h2⟩ | ⟨h1, h2⟩
      · have HB2 := Lib.hid (HB.out (by omega))
        go_wp2
        go_ret
        exact ⟨by rw [HB2.out]; rfl, rfl⟩
      · have HN2 := Lib.hid (HN.out ⟨h1, h2⟩)
        have h3 : ¬ (x < 0) := by omega
        have h4 : ¬ (1099511627776 < x) := by omega
        go_wp2
        go_round
        case rel => exact ⟨k + 1, by omega, by go_num, HN2.out⟩
        case measure => simp [intOf]; omega
      · have HB2 := Lib.hid (HB.out (by omega))
        have h3 : ¬ (x < 0) := by omega
        go_wp2
        go_ret
        exact ⟨by rw [HB2.out]; rfl, rfl⟩
    · have hkl : ¬ ((k : Int) < (q : Int)) := by omega
      have HT : Hid (wrongI zs = -1) := wrongI_none (amsB_iff.2 fun j hj => HA.out j (by rw [← HQ.out] at hj; omega))
      go_wp2
      go_ret
      exact ⟨by rw [HT.out]; rfl, rfl⟩
theorem wrongI_pos {zs : List Int} (h : amsB zs = false) : 0 ≤ wrongI zs := by
  unfold wrongI
  cases hq : zs.findIdx? (fun x => !amB x) with
  | some i => simp
  | none =>
    rw [List.findIdx?_eq_none_iff] at hq
    have : amsB zs = true := by
      unfold amsB
      rw [List.all_eq_true]
      intro x hx
      have := hq x hx
      simpa using this
    rw [this] at h
    cases h
/-- Nodes. -/
structure NodeR where
  id : Int
  a : Option Addr
  l : Nat
  cp : Nat
structure NodeS where
  id : Int
  cap : List Int
def kNode : Kin NodeR where
  t := 22
  e := 40
  size := 2
  bytes := 32
  zero := .agg #[.int .i64 0, .slice none 0 0]
  enc := fun p => [.int .i64 p.id, .slice p.a p.l p.cp]
  ht := Tryz.underlying22
  hi := by kernel_rfl
  hz := rfl
  pos := by decide
  len := fun _ => rfl
  one := fun _ u h => by
    simp only [List.mem_cons, List.not_mem_nil, or_false] at h
    rcases h with rfl | rfl <;> rfl
/-- A slice of nodes that is read. -/
def AtNodes (w : World) (v : Value) (ns : List NodeS) : Prop :=
  ∃ xs : List NodeR, kNode.At w v xs ∧ xs.length = ns.length ∧ ∀ (j : Nat) x p, xs[j]? = some x → ns[j]? = some p → x.id = p.id ∧ x.l = p.cap.length ∧ IntsAt w (.slice x.a p.cap.length x.cp) p.cap
theorem AtNodes.below {w w' : World} {v : Value} {ns : List NodeS} (h : AtNodes w v ns) (hb : Below w.heap.size w w') : AtNodes w' v ns := by
  obtain ⟨xs, h1, h2, h3⟩ := h
  exact ⟨xs, h1.below hb, h2, fun j x p hx hp => ⟨(h3 j x p hx hp).1, (h3 j x p hx hp).2.1, (h3 j x p hx hp).2.2.below hb⟩⟩
def nAt (ns : List NodeS) (j : Nat) : NodeS := ns.getD j ⟨0, []⟩
theorem nAt_get {ns : List NodeS} {j : Nat} (h : j < ns.length) : ns[j]? = some (nAt ns j) := by unfold nAt; rw [List.getD_eq_getElem?_getD, List.getElem?_eq_getElem h]; rfl
theorem AtNodes.get {w : World} {v : Value} {ns : List NodeS} (h : AtNodes w v ns) : ∃ a cap, v = .slice a ns.length cap ∧ ∀ j, j < ns.length → ∃ b off aa cc, a = some ⟨b, off, none⟩ ∧ b < w.heap.size ∧ w.cell? ⟨b, off + j * 2, none⟩ = some (.int .i64 (nAt ns j).id) ∧ w.cell? ⟨b, off + j * 2 + 1, none⟩ = some (.slice aa (nAt ns j).cap.length cc) ∧ IntsAt w (.slice aa (nAt ns j).cap.length cc) (nAt ns j).cap := by
  obtain ⟨xs, ⟨a, cap, e, h1⟩, h2, h3⟩ := h
  refine ⟨a, cap, by rw [← h2]; exact e, fun j hj => ?_⟩
  rcases h1 with h1 | ⟨b, off, e1, hlt, hc⟩
  · subst h1; simp at h2; omega
  · have hj' : j < xs.length := by omega
    have hx : xs[j]? = some xs[j] := List.getElem?_eq_getElem hj'
    obtain ⟨i1, i2, i3⟩ := h3 j _ _ hx (nAt_get hj)
    have q0 := hc j _ hx 0 _ rfl
    have q1 := hc j _ hx 1 _ rfl
    rw [i1] at q0
    rw [i2] at q1
    exact ⟨b, off, xs[j].a, xs[j].cp, e1, hlt, q0, q1, i3⟩
end Go.Proofs.YtkdmjpakpmnhgaaGreatDoor
