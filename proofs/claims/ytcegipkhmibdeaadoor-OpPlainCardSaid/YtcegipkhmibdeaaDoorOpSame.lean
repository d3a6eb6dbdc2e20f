/- hammockref03.Same and op.Same. -/
import Derived.Test.YtcegipkhmibdeaaDoorOpEq
import Derived.Deep.RegionWith
import Derived.Deep.RegionHeld3
import Derived.Deep.DeepFit
namespace Go.Proofs.YtcegipkhmibdeaaDoor
set_option linter.all false
open Go.RowKit

/-- A world with two new blocks. -/
def two (w : World) (A B : Array Value) (T : TypeId) : World := (w.alloc (.cells A T)).alloc (.cells B T)
theorem two_1 (w : World) (A B : Array Value) (T : TypeId) (j : Nat) : (two w A B T).cell? ⟨w.heap.size, j, none⟩ = A[j]? := by unfold two; go_simp
theorem two_2 (w : World) (A B : Array Value) (T : TypeId) (j : Nat) : (two w A B T).cell? ⟨w.heap.size + 1, j, none⟩ = B[j]? := by unfold two; go_simp
def sameOp (k i c n : Int) (f : Bool) (zs : List Int) (k' i' c' n' : Int) (f' : Bool) (zs' : List Int) : Bool :=
  eqOp k (pI k i) (pC k c) (pN k n) (pF k f) (pZ k zs) k' (pI k' i') (pC k' c') (pN k' n') (pF k' f') (pZ k' zs')
theorem ints_pA {w : World} {k : Int} {am : Value} {zs : List Int} (h : IntsAt w am zs) : IntsAt w (pA k am) (pZ k zs) := by
  unfold pA pZ
  split
  · exact h
  · exact ⟨_, _, rfl, .inl rfl⟩

theorem rplain_sl (k i c n : Int) (f : Bool) (a : Option Addr) (l cp : Nat) (w : World) :
    Calls Tryd.prog 39 #[opV k i c n f (.slice a l cp)] w (RetOpR w k (pI k i) (pC k c) (pN k n) (pF k f) (pA k (.slice a l cp))) := by
  rcases kinds k with rfl | rfl | rfl | rfl | rfl | rfl | hk
  · exact rplain_1 i c n f a l cp w
  · exact rplain_2 i c n f a l cp w
  · exact rplain_3 i c n f a l cp w
  · exact rplain_4 i c n f a l cp w
  · exact rplain_5 i c n f a l cp w
  · exact rplain_6 i c n f a l cp w
  · have e1 : pI k i = 0 := by unfold pI; rw [if_neg (by omega)]
    have e2 : pC k c = 0 := by unfold pC; rw [if_neg (by omega)]
    have e3 : pN k n = 0 := by unfold pN; rw [if_neg (by omega)]
    have e4 : pF k f = false := by unfold pF; rw [if_neg (by omega)]
    have e5 : pA k (.slice a l cp) = .slice none 0 0 := by unfold pA; rw [if_neg (by omega)]
    rw [e1, e2, e3, e4, e5]
    rcases hk with hk | hk
    · exact rplain_l k hk i c n f a l cp w
    · exact rplain_g k hk i c n f a l cp w

set_option maxRecDepth 100000 in
theorem refSame_any (k i c n : Int) (f : Bool) (a : Option Addr) (l cp : Nat) (zs : List Int) (k' i' c' n' : Int) (f' : Bool) (a' : Option Addr) (l' cp' : Nat) (zs' : List Int) (w : World) (hx : zs.length * 8 ≤ 140737488351232) (hy : zs'.length * 8 ≤ 140737488351232) (h : IntsAt w (.slice a l cp) zs) (h' : IntsAt w (.slice a' l' cp') zs') :
    Calls Tryd.prog 41 #[opV k i c n f (.slice a l cp), opV k' i' c' n' f' (.slice a' l' cp')] w fun e w' => e = .returned (.bool (sameOp k i c n f zs k' i' c' n' f' zs')) ∧ Below w.heap.size w w' := by
  have hx' : (pZ k zs).length * 8 ≤ 140737488351232 := by unfold pZ; split <;> first | omega | simp
  have hy' : (pZ k' zs').length * 8 ≤ 140737488351232 := by unfold pZ; split <;> first | omega | simp
  have hA := ints_pA (k := k) h
  have hA' := ints_pA (k := k') h'
  have R1 := rplain_sl k i c n f a l cp
  have R2 := rplain_sl k' i' c' n' f' a' l' cp'
  have R3 := refEqual_any k (pI k i) (pC k c) (pN k n) (pF k f) (pA k (.slice a l cp)) (pZ k zs) k' (pI k' i') (pC k' c') (pN k' n') (pF k' f') (pA k' (.slice a' l' cp')) (pZ k' zs')
  obtain ⟨a1, l1, c1, hA1⟩ : ∃ a1 l1 c1, pA k (.slice a l cp) = .slice a1 l1 c1 := by obtain ⟨x, y, z, _⟩ := hA; exact ⟨_, _, _, z⟩
  obtain ⟨a2, l2, c2, hA2⟩ : ∃ a2 l2 c2, pA k' (.slice a' l' cp') = .slice a2 l2 c2 := by obtain ⟨x, y, z, _⟩ := hA'; exact ⟨_, _, _, z⟩
  rw [hA1] at R1 R3 hA
  rw [hA2] at R2 R3 hA'
  clear hA1 hA2 h h'
  unfold sameOp
  generalize pI k i = i1 at *
  generalize pC k c = cc1 at *
  generalize pN k n = n1 at *
  generalize pF k f = f1 at *
  generalize pI k' i' = i2 at *
  generalize pC k' c' = cc2 at *
  generalize pN k' n' = n2 at *
  generalize pF k' f' = f2 at *
  generalize pZ k zs = z1 at *
  generalize pZ k' zs' = z2 at *
  generalize eqOp k i1 cc1 n1 f1 z1 k' i2 cc2 n2 f2 z2 = res at *
  have HR1 := Lib.hid R1; clear R1
  have HR2 := Lib.hid R2; clear R2
  have HR3 := Lib.hid R3; clear R3
  go_enter Tryd.func41, Tryd.ntmps41
  go_wp2
  obtain ⟨w0, hw0⟩ : ∃ w0, w0 = two w #[.int .i64 k, .int .i64 i, .int .i64 c, .int .i64 n, .bool f, .slice a l cp] #[.int .i64 k', .int .i64 i', .int .i64 c', .int .i64 n', .bool f', .slice a' l' cp'] 41 := ⟨_, rfl⟩
  change Code.wp _ _ _ _ (two w #[.int .i64 k, .int .i64 i, .int .i64 c, .int .i64 n, .bool f, .slice a l cp] #[.int .i64 k', .int .i64 i', .int .i64 c', .int .i64 n', .bool f', .slice a' l' cp'] 41)
  rw [← hw0]
  have p0 : w0.cell? ⟨w.heap.size, 0, none⟩ = some (.int .i64 k) := by rw [hw0]; exact two_1 ..
  have p1 : w0.cell? ⟨w.heap.size, 1, none⟩ = some (.int .i64 i) := by rw [hw0]; exact two_1 ..
  have p2 : w0.cell? ⟨w.heap.size, 2, none⟩ = some (.int .i64 c) := by rw [hw0]; exact two_1 ..
  have p3 : w0.cell? ⟨w.heap.size, 3, none⟩ = some (.int .i64 n) := by rw [hw0]; exact two_1 ..
  have p4 : w0.cell? ⟨w.heap.size, 4, none⟩ = some (.bool f) := by rw [hw0]; exact two_1 ..
  have p5 : w0.cell? ⟨w.heap.size, 5, none⟩ = some (.slice a l cp) := by rw [hw0]; exact two_1 ..
  have q0 : w0.cell? ⟨w.heap.size + 1, 0, none⟩ = some (.int .i64 k') := by rw [hw0]; exact two_2 ..
  have q1 : w0.cell? ⟨w.heap.size + 1, 1, none⟩ = some (.int .i64 i') := by rw [hw0]; exact two_2 ..
  have q2 : w0.cell? ⟨w.heap.size + 1, 2, none⟩ = some (.int .i64 c') := by rw [hw0]; exact two_2 ..
  have q3 : w0.cell? ⟨w.heap.size + 1, 3, none⟩ = some (.int .i64 n') := by rw [hw0]; exact two_2 ..
  have q4 : w0.cell? ⟨w.heap.size + 1, 4, none⟩ = some (.bool f') := by rw [hw0]; exact two_2 ..
  have q5 : w0.cell? ⟨w.heap.size + 1, 5, none⟩ = some (.slice a' l' cp') := by rw [hw0]; exact two_2 ..
  have hs : w0.heap.size = w.heap.size + 1 + 1 := by rw [hw0]; simp [two]
  have hB : Below w.heap.size w w0 := by rw [hw0]; exact ((Below.refl _ w).alloc (Nat.le_refl _) _).alloc (by simp) _
  have hlt : w.heap.size < w0.heap.size := by omega
  have hlt1 : w.heap.size + 1 < w0.heap.size := by omega
  clear hw0
  have HS := Lib.hid hs; clear hs
  have HK : Hid (∀ w' : World, Below w0.heap.size w0 w' → (w'.cell? ⟨w.heap.size, 0, none⟩ = some (.int .i64 k) ∧ w'.cell? ⟨w.heap.size, 1, none⟩ = some (.int .i64 i) ∧ w'.cell? ⟨w.heap.size, 2, none⟩ = some (.int .i64 c) ∧ w'.cell? ⟨w.heap.size, 3, none⟩ = some (.int .i64 n) ∧ w'.cell? ⟨w.heap.size, 4, none⟩ = some (.bool f) ∧ w'.cell? ⟨w.heap.size, 5, none⟩ = some (.slice a l cp) ∧ w'.cell? ⟨w.heap.size + 1, 0, none⟩ = some (.int .i64 k') ∧ w'.cell? ⟨w.heap.size + 1, 1, none⟩ = some (.int .i64 i') ∧ w'.cell? ⟨w.heap.size + 1, 2, none⟩ = some (.int .i64 c') ∧ w'.cell? ⟨w.heap.size + 1, 3, none⟩ = some (.int .i64 n') ∧ w'.cell? ⟨w.heap.size + 1, 4, none⟩ = some (.bool f') ∧ w'.cell? ⟨w.heap.size + 1, 5, none⟩ = some (.slice a' l' cp'))) := fun w' h => ⟨(h.cell (p := ⟨w.heap.size, 0, none⟩) hlt).trans p0, (h.cell (p := ⟨w.heap.size, 1, none⟩) hlt).trans p1, (h.cell (p := ⟨w.heap.size, 2, none⟩) hlt).trans p2, (h.cell (p := ⟨w.heap.size, 3, none⟩) hlt).trans p3, (h.cell (p := ⟨w.heap.size, 4, none⟩) hlt).trans p4, (h.cell (p := ⟨w.heap.size, 5, none⟩) hlt).trans p5, (h.cell (p := ⟨w.heap.size + 1, 0, none⟩) hlt1).trans q0, (h.cell (p := ⟨w.heap.size + 1, 1, none⟩) hlt1).trans q1, (h.cell (p := ⟨w.heap.size + 1, 2, none⟩) hlt1).trans q2, (h.cell (p := ⟨w.heap.size + 1, 3, none⟩) hlt1).trans q3, (h.cell (p := ⟨w.heap.size + 1, 4, none⟩) hlt1).trans q4, (h.cell (p := ⟨w.heap.size + 1, 5, none⟩) hlt1).trans q5⟩
  have hB0 : Below w0.heap.size w0 w0.drew := (Below.refl _ w0).drew
  go_region_held3 (fun w' => w'.cell? ⟨w.heap.size, 0, none⟩ = some (.int .i64 k) ∧ w'.cell? ⟨w.heap.size, 1, none⟩ = some (.int .i64 i) ∧ w'.cell? ⟨w.heap.size, 2, none⟩ = some (.int .i64 c) ∧ w'.cell? ⟨w.heap.size, 3, none⟩ = some (.int .i64 n) ∧ w'.cell? ⟨w.heap.size, 4, none⟩ = some (.bool f) ∧ w'.cell? ⟨w.heap.size, 5, none⟩ = some (.slice a l cp) ∧ w'.cell? ⟨w.heap.size + 1, 0, none⟩ = some (.int .i64 k') ∧ w'.cell? ⟨w.heap.size + 1, 1, none⟩ = some (.int .i64 i') ∧ w'.cell? ⟨w.heap.size + 1, 2, none⟩ = some (.int .i64 c') ∧ w'.cell? ⟨w.heap.size + 1, 3, none⟩ = some (.int .i64 n') ∧ w'.cell? ⟨w.heap.size + 1, 4, none⟩ = some (.bool f') ∧ w'.cell? ⟨w.heap.size + 1, 5, none⟩ = some (.slice a' l' cp'))
    (first
      | exact HK.out _ hb3
      | exact HK.out _ hb2
      | exact HK.out _ hb1
      | go_keep)
    (first
    | (go_at_call 39; ((with_reducible refine (HR1.out _).mono ?_)); rintro e w1 ⟨rfl, hb⟩; have hb1 : Below w0.heap.size w0 w1 := hB0.trans hb; clear hb)
    | (go_at_call 39; ((with_reducible refine (HR2.out _).mono ?_)); rintro e w2 ⟨rfl, hb⟩; have hb2 : Below w0.heap.size w0 w2 := hb1.trans (hb.mono hb1.size); clear hb)
    | (go_at_call 38; refine (HR3.out _ hx' hy' (hA.below (hB.trans (hb2.mono hB.size))) (hA'.below (hB.trans (hb2.mono hB.size)))).mono ?_; rintro e w3 ⟨rfl, hb⟩; have hb3 : Below w0.heap.size w0 w3 := hb2.trans (hb.mono hb2.size); clear hb))
  go_wp2
  go_ret
  exact ⟨rfl, hB.trans (hb3.mono hB.size)⟩
theorem two_f1 (w : World) (A B : Array Value) (T : TypeId) (j : Nat) : (two w A B T).frozen? ⟨w.heap.size, j, none⟩ = false := by unfold two; go_simp
theorem two_f2 (w : World) (A B : Array Value) (T : TypeId) (j : Nat) : (two w A B T).frozen? ⟨w.heap.size + 1, j, none⟩ = false := by unfold two; go_simp
end Go.Proofs.YtcegipkhmibdeaaDoor
