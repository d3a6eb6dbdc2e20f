/- Slices of pods; vec.Zero. -/
import Derived.Test.YtllipidegjpidaaGreatDoorAuD
namespace Go.Proofs.YtllipidegjpidaaGreatDoor
set_option linter.all false
open Go.RowKit

/-- A pod. -/
structure PodS where
  id : Int
  prio : Int
  pre : Bool
  grace : Int
  req : List Int
  arr : Int
  phase : Int
  node : Int
  dead : Int
/-- A pod as it lies in memory. -/
structure PodR where
  id : Int
  prio : Int
  pre : Bool
  grace : Int
  a : Option Addr
  l : Nat
  cp : Nat
  arr : Int
  phase : Int
  node : Int
  dead : Int
/-- Pods. -/
def kPod : Kin PodR where
  t := 41
  e := 40
  size := 9
  bytes := 88
  zero := .agg #[.int .i64 0, .int .i64 0, .bool false, .int .i64 0, .slice none 0 0, .int .i64 0, .int .i64 0, .int .i64 0, .int .i64 0]
  enc := fun p => [.int .i64 p.id, .int .i64 p.prio, .bool p.pre, .int .i64 p.grace, .slice p.a p.l p.cp, .int .i64 p.arr, .int .i64 p.phase, .int .i64 p.node, .int .i64 p.dead]
  ht := Tryz.underlying41
  hi := by kernel_rfl
  hz := rfl
  pos := by decide
  len := fun _ => rfl
  one := fun _ u h => by
    simp only [List.mem_cons, List.not_mem_nil, or_false] at h
    rcases h with rfl | rfl | rfl | rfl | rfl | rfl | rfl | rfl | rfl <;> rfl
/-- What lies in memory is this pod. -/
structure PodIs (w : World) (x : PodR) (p : PodS) : Prop where
  id : x.id = p.id
  prio : x.prio = p.prio
  pre : x.pre = p.pre
  grace : x.grace = p.grace
  l : x.l = p.req.length
  arr : x.arr = p.arr
  phase : x.phase = p.phase
  node : x.node = p.node
  dead : x.dead = p.dead
  req : IntsAt w (.slice x.a p.req.length x.cp) p.req
theorem PodIs.below {w w' : World} {x : PodR} {p : PodS} (h : PodIs w x p) (hb : Below w.heap.size w w') : PodIs w' x p :=
  ⟨h.id, h.prio, h.pre, h.grace, h.l, h.arr, h.phase, h.node, h.dead, h.req.below hb⟩
/-- A slice of pods that is read. -/
def AtPods (w : World) (v : Value) (ps : List PodS) : Prop :=
  ∃ xs : List PodR, kPod.At w v xs ∧ xs.length = ps.length ∧ ∀ (j : Nat) x p, xs[j]? = some x → ps[j]? = some p → PodIs w x p
theorem AtPods.below {w w' : World} {v : Value} {ps : List PodS} (h : AtPods w v ps) (hb : Below w.heap.size w w') : AtPods w' v ps := by
  obtain ⟨xs, h1, h2, h3⟩ := h
  exact ⟨xs, h1.below hb, h2, fun j x p hx hp => (h3 j x p hx hp).below hb⟩
def pAt (ps : List PodS) (j : Nat) : PodS := ps.getD j ⟨0, 0, false, 0, [], 0, 0, 0, 0⟩
theorem pAt_get {ps : List PodS} {j : Nat} (h : j < ps.length) : ps[j]? = some (pAt ps j) := by unfold pAt; rw [List.getD_eq_getElem?_getD, List.getElem?_eq_getElem h]; rfl
/-- The nine cells of a pod. -/
structure PodCells (w : World) (b q : Nat) (p : PodS) (rv : Value) : Prop where
  c0 : w.cell? ⟨b, q, none⟩ = some (.int .i64 p.id)
  c1 : w.cell? ⟨b, q + 1, none⟩ = some (.int .i64 p.prio)
  c2 : w.cell? ⟨b, q + 2, none⟩ = some (.bool p.pre)
  c3 : w.cell? ⟨b, q + 3, none⟩ = some (.int .i64 p.grace)
  c4 : w.cell? ⟨b, q + 4, none⟩ = some rv
  c5 : w.cell? ⟨b, q + 5, none⟩ = some (.int .i64 p.arr)
  c6 : w.cell? ⟨b, q + 6, none⟩ = some (.int .i64 p.phase)
  c7 : w.cell? ⟨b, q + 7, none⟩ = some (.int .i64 p.node)
  c8 : w.cell? ⟨b, q + 8, none⟩ = some (.int .i64 p.dead)
theorem PodCells.from_ {w w' : World} {b q : Nat} {p : PodS} {rv : Value} (h : PodCells w b q p rv) (hf : From w w') : PodCells w' b q p rv :=
  ⟨hf.cell h.c0, hf.cell h.c1, hf.cell h.c2, hf.cell h.c3, hf.cell h.c4, hf.cell h.c5, hf.cell h.c6, hf.cell h.c7, hf.cell h.c8⟩
theorem AtPods.get {w : World} {v : Value} {ps : List PodS} (h : AtPods w v ps) : ∃ a cap, v = .slice a ps.length cap ∧ ∀ j, j < ps.length → ∃ b off aa cc, a = some ⟨b, off, none⟩ ∧ b < w.heap.size ∧ PodCells w b (off + j * 9) (pAt ps j) (.slice aa (pAt ps j).req.length cc) ∧ IntsAt w (.slice aa (pAt ps j).req.length cc) (pAt ps j).req := by
  obtain ⟨xs, ⟨a, cap, e, h1⟩, h2, h3⟩ := h
  refine ⟨a, cap, by rw [← h2]; exact e, fun j hj => ?_⟩
  rcases h1 with h1 | ⟨b, off, e1, hlt, hc⟩
  · subst h1; simp at h2; omega
  · have hj' : j < xs.length := by omega
    have hx : xs[j]? = some xs[j] := List.getElem?_eq_getElem hj'
    have hi := h3 j _ _ hx (pAt_get hj)
    have hcc := hc j _ hx
    have q0 := hcc 0 _ rfl
    have q1 := hcc 1 _ rfl
    have q2 := hcc 2 _ rfl
    have q3 := hcc 3 _ rfl
    have q4 := hcc 4 _ rfl
    have q5 := hcc 5 _ rfl
    have q6 := hcc 6 _ rfl
    have q7 := hcc 7 _ rfl
    have q8 := hcc 8 _ rfl
    rw [hi.id] at q0
    rw [hi.prio] at q1
    rw [hi.pre] at q2
    rw [hi.grace] at q3
    rw [hi.l] at q4
    rw [hi.arr] at q5
    rw [hi.phase] at q6
    rw [hi.node] at q7
    rw [hi.dead] at q8
    exact ⟨b, off, xs[j].a, xs[j].cp, e1, hlt, ⟨q0, q1, q2, q3, q4, q5, q6, q7, q8⟩, hi.req⟩
def zeros (d : Nat) : List Int := List.replicate d 0
theorem zeros_len (d : Nat) : (zeros d).length = d := List.length_replicate ..
theorem zeros_get (d j : Nat) : (zeros d).getD j 0 = 0 := by
  unfold zeros
  rw [List.getD_eq_getElem?_getD, List.getElem?_replicate]
  split <;> rfl
theorem make_run0 (w : World) : (Instr.makeSlice 35 (.int .i64 0) (.int .i64 0)).run Tryz.prog w = .ok (.slice (some ⟨w.heap.size, 0, none⟩) 0 0) (w.alloc (.cells (madeCells #[.int .i64 0] 0) 2)) := make_run 0 (by omega) w
set_option maxRecDepth 100000 in
theorem zero_any (dims : Int) (w : World) (hd : dims ≤ 1000) :
    Calls Tryz.prog 51 #[.int .i64 dims] w fun e w' => ∃ a cp, e = .returned (.slice a dims.toNat cp) ∧ IntsNew w.heap.size w' (.slice a dims.toNat cp) (zeros dims.toNat) ∧ Below w.heap.size w w' := by
  rcases (by omega : dims < 0 ∨ 0 ≤ dims) with h0 | h0
  · have hmk := make_run0 w
    have hz : dims.toNat = 0 := by omega
    rw [hz]
    have hg : ¬ (0 < dims) := by omega
    have hg2 : ¬ (0 ≤ dims) := by omega
    have hg3 : dims ≤ 0 := by omega
    clear hz hd
    go_enter Tryz.func51, Tryz.ntmps51
    go_wp2
    all_goals
      go_ret
      exact ⟨_, _, rfl, ⟨_, _, rfl, .inl rfl⟩, (Below.refl _ _).alloc (Nat.le_refl _) _⟩
  · obtain ⟨d, rfl⟩ : ∃ d : Nat, dims = (d : Int) := ⟨dims.toNat, by omega⟩
    rw [Int.toNat_natCast]
    have hmk := make_run d (by omega) w
    have HR := Lib.hid (RowOf.made w d)
    by_cases hd0 : d = 0
    · subst hd0
      have hmk := make_run0 w
      clear hd h0
      go_enter Tryz.func51, Tryz.ntmps51
      go_wp2
      go_ret
      exact ⟨_, _, rfl, ⟨_, _, rfl, .inl rfl⟩, (Below.refl _ _).alloc (Nat.le_refl _) _⟩
    have hg : (0 : Int) < (d : Int) := by omega
    have hg2 : ¬ ((d : Int) < 0) := by omega
    have hg3 : ¬ ((d : Int) ≤ 0) := by omega
    have hg4 : (0 : Int) ≤ (d : Int) := by omega
    clear hd h0 hd0
    go_enter Tryz.func51, Tryz.ntmps51
    go_wp2
    all_goals
      go_ret
      refine ⟨_, _, rfl, ⟨_, d, by rw [zeros_len], .inr ⟨w.heap.size, 0, rfl, Nat.le_refl _, by simp, fun j hj => ?_⟩⟩, (Below.refl _ _).alloc (Nat.le_refl _) _⟩
      rw [zeros_len] at hj
      rw [zeros_get, Nat.zero_add]
      exact (HR.out j hj).1
end Go.Proofs.YtllipidegjpidaaGreatDoor
