/- hammocklaw03.OpPlain: the walk. -/
import Derived.Test.YtcegipkhmibdeaaDoorOpMakesW
import Derived.Test.YtcegipkhmibdeaaDoorRefCheck
import Derived.Test.YtcegipkhmibdeaaDoorNamed
namespace Go.Proofs.YtcegipkhmibdeaaDoor
set_option linter.all false
open Go.RowKit

theorem check_plain (k i c n : Int) (zs : List Int) (d : Int) : checkR k (pI k i) (pC k c) (pN k n) (pZ k zs) d = checkR k i c n zs d := by
  rcases kinds k with rfl | rfl | rfl | rfl | rfl | rfl | hk
  · simp [checkR, pI, pC, pN, pZ]
  · simp [checkR, pI, pC, pN, pZ]
  · simp [checkR, pI, pC, pN, pZ]
  · simp [checkR, pI, pC, pN, pZ]
  · simp [checkR, pI, pC, pN, pZ]
  · simp [checkR, pI, pC, pN, pZ]
  · by_cases h7 : k = 7
    · subst h7; simp [checkR]
    · have ho : outP k 1 7 = true := by unfold outP; exact decide_eq_true (by omega)
      unfold checkR; rw [if_pos ho, if_pos ho]
theorem pI2 (k i : Int) : pI k (pI k i) = pI k i := by unfold pI; split <;> rfl
theorem pC2 (k i : Int) : pC k (pC k i) = pC k i := by unfold pC; split <;> rfl
theorem pN2 (k i : Int) : pN k (pN k i) = pN k i := by unfold pN; split <;> rfl
theorem pF2 (k : Int) (i : Bool) : pF k (pF k i) = pF k i := by unfold pF; split <;> rfl
theorem pZ2 (k : Int) (i : List Int) : pZ k (pZ k i) = pZ k i := by unfold pZ; split <;> rfl
theorem same_plain (k i c n : Int) (f : Bool) (zs : List Int) : sameOp k i c n f zs k (pI k i) (pC k c) (pN k n) (pF k f) (pZ k zs) = true := by
  unfold sameOp; rw [pI2, pC2, pN2, pF2, pZ2, eqOp_self]
theorem two_size (w : World) (A B : Array Value) (T : TypeId) : (two w A B T).heap.size = w.heap.size + 1 + 1 := by simp [two]
theorem two_below (w : World) (A B : Array Value) (T : TypeId) : Below w.heap.size w (two w A B T) := ((Below.refl _ w).alloc (Nat.le_refl _) _).alloc (by simp) _
set_option maxRecDepth 100000 in
theorem opPlain_1 (k i c n : Int) (f : Bool) (a : Option Addr) (l cp : Nat) (zs : List Int) (k' i' c' n' : Int) (f' : Bool) (a' : Option Addr) (l' cp' : Nat) (zs' : List Int) (d : Int) (w : World) (hE : ErrType w) (h : IntsAt w (.slice a l cp) zs) (h' : IntsAt w (.slice a' l' cp') zs') (hl : (100 : Int) < (l : Int)) :
    Calls Tryd.prog 8 #[opV k i c n f (.slice a l cp), opV k' i' c' n' f' (.slice a' l' cp'), .int .i64 d] w fun r w' => r = .returned (.bool true) ∧ Below w.heap.size w w' := by
  have hE0 : ErrType (two w #[.int .i64 k, .int .i64 i, .int .i64 c, .int .i64 n, .bool f, .slice a l cp] #[.int .i64 k', .int .i64 i', .int .i64 c', .int .i64 n', .bool f', .slice a' l' cp'] 41) := hE.below (two_below _ _ _ _)
  go_enter Tryd.func8, Tryd.ntmps8
  go_wp2_with fail
  refine (awake03_any (two w #[.int .i64 k, .int .i64 i, .int .i64 c, .int .i64 n, .bool f, .slice a l cp] #[.int .i64 k', .int .i64 i', .int .i64 c', .int .i64 n', .bool f', .slice a' l' cp'] 41) hE0).mono ?_
  rintro e w1 ⟨rfl, B1⟩
  have p0 : w1.cell? ⟨w.heap.size, 0, none⟩ = some (.int .i64 k) := keepc B1 (by rw [two_size]; omega) (two_1 ..)
  have p1 : w1.cell? ⟨w.heap.size, 1, none⟩ = some (.int .i64 i) := keepc B1 (by rw [two_size]; omega) (two_1 ..)
  have p2 : w1.cell? ⟨w.heap.size, 2, none⟩ = some (.int .i64 c) := keepc B1 (by rw [two_size]; omega) (two_1 ..)
  have p3 : w1.cell? ⟨w.heap.size, 3, none⟩ = some (.int .i64 n) := keepc B1 (by rw [two_size]; omega) (two_1 ..)
  have p4 : w1.cell? ⟨w.heap.size, 4, none⟩ = some (.bool f) := keepc B1 (by rw [two_size]; omega) (two_1 ..)
  have p5 : w1.cell? ⟨w.heap.size, 5, none⟩ = some (.slice a l cp) := keepc B1 (by rw [two_size]; omega) (two_1 ..)
  have q0 : w1.cell? ⟨w.heap.size + 1, 0, none⟩ = some (.int .i64 k') := keepc B1 (by rw [two_size]; omega) (two_2 ..)
  have q1 : w1.cell? ⟨w.heap.size + 1, 1, none⟩ = some (.int .i64 i') := keepc B1 (by rw [two_size]; omega) (two_2 ..)
  have q2 : w1.cell? ⟨w.heap.size + 1, 2, none⟩ = some (.int .i64 c') := keepc B1 (by rw [two_size]; omega) (two_2 ..)
  have q3 : w1.cell? ⟨w.heap.size + 1, 3, none⟩ = some (.int .i64 n') := keepc B1 (by rw [two_size]; omega) (two_2 ..)
  have q4 : w1.cell? ⟨w.heap.size + 1, 4, none⟩ = some (.bool f') := keepc B1 (by rw [two_size]; omega) (two_2 ..)
  have q5 : w1.cell? ⟨w.heap.size + 1, 5, none⟩ = some (.slice a' l' cp') := keepc B1 (by rw [two_size]; omega) (two_2 ..)
  have hB1 : Below w.heap.size w w1 := (two_below _ _ _ _).trans (B1.mono (by rw [two_size]; omega))
  have hs1 : w.heap.size + 1 < w1.heap.size := by have := B1.size; rw [two_size] at this; omega
  have hE1 := hE.below hB1
  clear B1 hE0
  go_wp2_with fail
  refine (awake03_any _ hE1).mono ?_
  rintro e w2 ⟨rfl, B2⟩
  go_wp2
  go_ret
  exact ⟨rfl, hB1.trans (B2.mono hB1.size)⟩
set_option maxRecDepth 100000 in
theorem opPlain_2 (k i c n : Int) (f : Bool) (a : Option Addr) (l cp : Nat) (zs : List Int) (k' i' c' n' : Int) (f' : Bool) (a' : Option Addr) (l' cp' : Nat) (zs' : List Int) (d : Int) (w : World) (hE : ErrType w) (h : IntsAt w (.slice a l cp) zs) (h' : IntsAt w (.slice a' l' cp') zs') (hl0 : ¬ (100 : Int) < (l : Int)) (hl : (100 : Int) < (l' : Int)) :
    Calls Tryd.prog 8 #[opV k i c n f (.slice a l cp), opV k' i' c' n' f' (.slice a' l' cp'), .int .i64 d] w fun r w' => r = .returned (.bool true) ∧ Below w.heap.size w w' := by
  have hE0 : ErrType (two w #[.int .i64 k, .int .i64 i, .int .i64 c, .int .i64 n, .bool f, .slice a l cp] #[.int .i64 k', .int .i64 i', .int .i64 c', .int .i64 n', .bool f', .slice a' l' cp'] 41) := hE.below (two_below _ _ _ _)
  go_enter Tryd.func8, Tryd.ntmps8
  go_wp2_with fail
  refine (awake03_any (two w #[.int .i64 k, .int .i64 i, .int .i64 c, .int .i64 n, .bool f, .slice a l cp] #[.int .i64 k', .int .i64 i', .int .i64 c', .int .i64 n', .bool f', .slice a' l' cp'] 41) hE0).mono ?_
  rintro e w1 ⟨rfl, B1⟩
  have p0 : w1.cell? ⟨w.heap.size, 0, none⟩ = some (.int .i64 k) := keepc B1 (by rw [two_size]; omega) (two_1 ..)
  have p1 : w1.cell? ⟨w.heap.size, 1, none⟩ = some (.int .i64 i) := keepc B1 (by rw [two_size]; omega) (two_1 ..)
  have p2 : w1.cell? ⟨w.heap.size, 2, none⟩ = some (.int .i64 c) := keepc B1 (by rw [two_size]; omega) (two_1 ..)
  have p3 : w1.cell? ⟨w.heap.size, 3, none⟩ = some (.int .i64 n) := keepc B1 (by rw [two_size]; omega) (two_1 ..)
  have p4 : w1.cell? ⟨w.heap.size, 4, none⟩ = some (.bool f) := keepc B1 (by rw [two_size]; omega) (two_1 ..)
  have p5 : w1.cell? ⟨w.heap.size, 5, none⟩ = some (.slice a l cp) := keepc B1 (by rw [two_size]; omega) (two_1 ..)
  have q0 : w1.cell? ⟨w.heap.size + 1, 0, none⟩ = some (.int .i64 k') := keepc B1 (by rw [two_size]; omega) (two_2 ..)
  have q1 : w1.cell? ⟨w.heap.size + 1, 1, none⟩ = some (.int .i64 i') := keepc B1 (by rw [two_size]; omega) (two_2 ..)
  have q2 : w1.cell? ⟨w.heap.size + 1, 2, none⟩ = some (.int .i64 c') := keepc B1 (by rw [two_size]; omega) (two_2 ..)
  have q3 : w1.cell? ⟨w.heap.size + 1, 3, none⟩ = some (.int .i64 n') := keepc B1 (by rw [two_size]; omega) (two_2 ..)
  have q4 : w1.cell? ⟨w.heap.size + 1, 4, none⟩ = some (.bool f') := keepc B1 (by rw [two_size]; omega) (two_2 ..)
  have q5 : w1.cell? ⟨w.heap.size + 1, 5, none⟩ = some (.slice a' l' cp') := keepc B1 (by rw [two_size]; omega) (two_2 ..)
  have hB1 : Below w.heap.size w w1 := (two_below _ _ _ _).trans (B1.mono (by rw [two_size]; omega))
  have hs1 : w.heap.size + 1 < w1.heap.size := by have := B1.size; rw [two_size] at this; omega
  have hE1 := hE.below hB1
  clear B1 hE0
  go_wp2_with fail
  refine (awake03_any _ hE1).mono ?_
  rintro e w2 ⟨rfl, B2⟩
  go_wp2
  go_ret
  exact ⟨rfl, hB1.trans (B2.mono hB1.size)⟩
set_option maxHeartbeats 4000000 in
set_option maxRecDepth 100000 in
theorem opPlain_3 (k i c n : Int) (f : Bool) (a : Option Addr) (l cp : Nat) (zs : List Int) (k' i' c' n' : Int) (f' : Bool) (a' : Option Addr) (l' cp' : Nat) (zs' : List Int) (d : Int) (w : World) (hE : ErrType w) (h : IntsAt w (.slice a l cp) zs) (h' : IntsAt w (.slice a' l' cp') zs') (hx : zs.length * 8 ≤ 140737488351232) (hy : zs'.length * 8 ≤ 140737488351232) (hl : ¬ (100 : Int) < (l : Int)) (hl' : ¬ (100 : Int) < (l' : Int)) :
    Calls Tryd.prog 8 #[opV k i c n f (.slice a l cp), opV k' i' c' n' f' (.slice a' l' cp'), .int .i64 d] w fun r w' => r = .returned (.bool true) ∧ Below w.heap.size w w' := by
  have hz1 : (pZ k zs).length * 8 ≤ 140737488351232 := by unfold pZ; split <;> first | omega | simp
  have R1 := plain_any k i c n f (.slice a l cp) zs
  have R2 := refCheck_any k (pI k i) (pC k c) (pN k n) (pF k f)
  have R2' := fun am w hx => R2 am (pZ k zs) d w hx
  simp only [check_plain] at R2'
  clear R2
  have R3 := refCheck_any k i c n f (.slice a l cp) zs d
  have R4 := rplain_sl k i c n f a l cp
  have R5 := refEqual_any k (pI k i) (pC k c) (pN k n) (pF k f)
  have R5' := fun am am' w => R5 am (pZ k zs) k (pI k i) (pC k c) (pN k n) (pF k f) am' (pZ k zs) w
  simp only [eqOp_self] at R5'
  clear R5
  have R6 := opSame_any k i c n f a l cp zs k' i' c' n' f' a' l' cp' zs'
  have R7 := refSame_any k i c n f a l cp zs k' i' c' n' f' a' l' cp' zs'
  have R8 := fun a1 l1 c1 => opSame_any k i c n f a l cp zs k (pI k i) (pC k c) (pN k n) (pF k f) a1 l1 c1 (pZ k zs)
  simp only [same_plain] at R8
  have R9 := opClone_any k i c n f (.slice a l cp) zs
  have R10 := refEqual_any k i c n f
  have R10' := fun am am' w => R10 am zs k i c n f am' zs w
  simp only [eqOp_self] at R10'
  clear R10
  have hA := ints_pA (k := k) h
  obtain ⟨a3, l3, c3, hA3⟩ : ∃ a3 l3 c3, pA k (.slice a l cp) = .slice a3 l3 c3 := by obtain ⟨x, y, z, _⟩ := hA; exact ⟨_, _, _, z⟩
  rw [hA3] at R4 hA
  clear hA3
  generalize pI k i = i1 at *
  generalize pC k c = cc1 at *
  generalize pN k n = n1 at *
  generalize pF k f = f1 at *
  generalize pZ k zs = z1 at *
  generalize (checkR k i c n zs d).1 = X at *
  generalize (checkR k i c n zs d).2 = Y at *
  generalize sameOp k i c n f zs k' i' c' n' f' zs' = res at *
  have HR1 := Lib.hid R1; clear R1
  have HR2 := Lib.hid R2'; clear R2'
  have HR3 := Lib.hid R3; clear R3
  have HR4 := Lib.hid R4; clear R4
  have HR5 := Lib.hid R5'; clear R5'
  have HR6 := Lib.hid R6; clear R6
  have HR7 := Lib.hid R7; clear R7
  have HR8 := Lib.hid R8; clear R8
  have HR9 := Lib.hid R9; clear R9
  have HR10 := Lib.hid R10'; clear R10'
  have hE0 : ErrType (two w #[.int .i64 k, .int .i64 i, .int .i64 c, .int .i64 n, .bool f, .slice a l cp] #[.int .i64 k', .int .i64 i', .int .i64 c', .int .i64 n', .bool f', .slice a' l' cp'] 41) := hE.below (two_below _ _ _ _)
  go_enter Tryd.func8, Tryd.ntmps8
  go_wp2_with fail
  refine (awake03_any (two w #[.int .i64 k, .int .i64 i, .int .i64 c, .int .i64 n, .bool f, .slice a l cp] #[.int .i64 k', .int .i64 i', .int .i64 c', .int .i64 n', .bool f', .slice a' l' cp'] 41) hE0).mono ?_
  rintro e w1 ⟨rfl, B1⟩
  have p0 : w1.cell? ⟨w.heap.size, 0, none⟩ = some (.int .i64 k) := keepc B1 (by rw [two_size]; omega) (two_1 ..)
  have p1 : w1.cell? ⟨w.heap.size, 1, none⟩ = some (.int .i64 i) := keepc B1 (by rw [two_size]; omega) (two_1 ..)
  have p2 : w1.cell? ⟨w.heap.size, 2, none⟩ = some (.int .i64 c) := keepc B1 (by rw [two_size]; omega) (two_1 ..)
  have p3 : w1.cell? ⟨w.heap.size, 3, none⟩ = some (.int .i64 n) := keepc B1 (by rw [two_size]; omega) (two_1 ..)
  have p4 : w1.cell? ⟨w.heap.size, 4, none⟩ = some (.bool f) := keepc B1 (by rw [two_size]; omega) (two_1 ..)
  have p5 : w1.cell? ⟨w.heap.size, 5, none⟩ = some (.slice a l cp) := keepc B1 (by rw [two_size]; omega) (two_1 ..)
  have q0 : w1.cell? ⟨w.heap.size + 1, 0, none⟩ = some (.int .i64 k') := keepc B1 (by rw [two_size]; omega) (two_2 ..)
  have q1 : w1.cell? ⟨w.heap.size + 1, 1, none⟩ = some (.int .i64 i') := keepc B1 (by rw [two_size]; omega) (two_2 ..)
  have q2 : w1.cell? ⟨w.heap.size + 1, 2, none⟩ = some (.int .i64 c') := keepc B1 (by rw [two_size]; omega) (two_2 ..)
  have q3 : w1.cell? ⟨w.heap.size + 1, 3, none⟩ = some (.int .i64 n') := keepc B1 (by rw [two_size]; omega) (two_2 ..)
  have q4 : w1.cell? ⟨w.heap.size + 1, 4, none⟩ = some (.bool f') := keepc B1 (by rw [two_size]; omega) (two_2 ..)
  have q5 : w1.cell? ⟨w.heap.size + 1, 5, none⟩ = some (.slice a' l' cp') := keepc B1 (by rw [two_size]; omega) (two_2 ..)
  have hB1 : Below w.heap.size w w1 := (two_below _ _ _ _).trans (B1.mono (by rw [two_size]; omega))
  have hs1 : w.heap.size + 1 < w1.heap.size := by have := B1.size; rw [two_size] at this; omega
  have hE1 := hE.below hB1
  clear B1 hE0
  have HB1 := Lib.hid hB1; clear hB1
  go_wp2_with fail
  refine (HR1.out _ hx (h.below HB1.out)).mono ?_
  rintro e w2 ⟨a1, c1, rfl, ho1, hb2⟩
  have i1A := ints_of_row ho1
  clear ho1
  have hb2s := hb2.size
  obtain ⟨W, hW⟩ : ∃ W, W = w2.alloc (.cells #[.int .i64 k, .int .i64 i1, .int .i64 cc1, .int .i64 n1, .bool f1, .slice a1 z1.length c1] 41) := ⟨_, rfl⟩
  have hWb : Below w2.heap.size w2 W := by rw [hW]; exact (Below.refl _ w2).alloc (Nat.le_refl _) _
  have hWB : Below w1.heap.size w1 W := hb2.trans (hWb.mono hb2.size)
  have hWs : w2.heap.size < W.heap.size := by rw [hW]; simp
  have p0' := keepl hWB p0
  have p1' := keepl hWB p1
  have p2' := keepl hWB p2
  have p3' := keepl hWB p3
  have p4' := keepl hWB p4
  have p5' := keepl hWB p5
  have q0' := keepl hWB q0
  have q1' := keepl hWB q1
  have q2' := keepl hWB q2
  have q3' := keepl hWB q3
  have q4' := keepl hWB q4
  have q5' := keepl hWB q5
  have r0 : W.cell? ⟨w2.heap.size, 0, none⟩ = some (.int .i64 k) := by rw [hW]; go_simp
  have r1 : W.cell? ⟨w2.heap.size, 1, none⟩ = some (.int .i64 i1) := by rw [hW]; go_simp
  have r2 : W.cell? ⟨w2.heap.size, 2, none⟩ = some (.int .i64 cc1) := by rw [hW]; go_simp
  have r3 : W.cell? ⟨w2.heap.size, 3, none⟩ = some (.int .i64 n1) := by rw [hW]; go_simp
  have r4 : W.cell? ⟨w2.heap.size, 4, none⟩ = some (.bool f1) := by rw [hW]; go_simp
  have r5 : W.cell? ⟨w2.heap.size, 5, none⟩ = some (.slice a1 z1.length c1) := by rw [hW]; go_simp
  have i1W : IntsAt W (.slice a1 z1.length c1) z1 := i1A.below hWb
  have hWw : Below w.heap.size w W := HB1.out.trans (hWB.mono HB1.out.size)
  have hsz : w.heap.size + 1 < w2.heap.size := by omega
  have HW := Lib.hid hW; clear hW
  clear hb2 hWb hE1 i1A
  go_wp2_with fail
  rw [← HW.out]
  clear HW p0 p1 p2 p3 p4 p5 q0 q1 q2 q3 q4 q5
  refine (HR2.out _ _ hz1 i1W).mono ?_
  rintro e w4 ⟨rfl, B4⟩
  have HK : Hid (∀ w' : World, Below W.heap.size W w' → (w'.cell? ⟨w.heap.size, 0, none⟩ = some (.int .i64 k) ∧ w'.cell? ⟨w.heap.size, 1, none⟩ = some (.int .i64 i) ∧ w'.cell? ⟨w.heap.size, 2, none⟩ = some (.int .i64 c) ∧ w'.cell? ⟨w.heap.size, 3, none⟩ = some (.int .i64 n) ∧ w'.cell? ⟨w.heap.size, 4, none⟩ = some (.bool f) ∧ w'.cell? ⟨w.heap.size, 5, none⟩ = some (.slice a l cp) ∧ w'.cell? ⟨w.heap.size + 1, 0, none⟩ = some (.int .i64 k') ∧ w'.cell? ⟨w.heap.size + 1, 1, none⟩ = some (.int .i64 i') ∧ w'.cell? ⟨w.heap.size + 1, 2, none⟩ = some (.int .i64 c') ∧ w'.cell? ⟨w.heap.size + 1, 3, none⟩ = some (.int .i64 n') ∧ w'.cell? ⟨w.heap.size + 1, 4, none⟩ = some (.bool f') ∧ w'.cell? ⟨w.heap.size + 1, 5, none⟩ = some (.slice a' l' cp') ∧ w'.cell? ⟨w2.heap.size, 0, none⟩ = some (.int .i64 k) ∧ w'.cell? ⟨w2.heap.size, 1, none⟩ = some (.int .i64 i1) ∧ w'.cell? ⟨w2.heap.size, 2, none⟩ = some (.int .i64 cc1) ∧ w'.cell? ⟨w2.heap.size, 3, none⟩ = some (.int .i64 n1) ∧ w'.cell? ⟨w2.heap.size, 4, none⟩ = some (.bool f1) ∧ w'.cell? ⟨w2.heap.size, 5, none⟩ = some (.slice a1 z1.length c1))) := fun w' h => ⟨keepl h p0', keepl h p1', keepl h p2', keepl h p3', keepl h p4', keepl h p5', keepl h q0', keepl h q1', keepl h q2', keepl h q3', keepl h q4', keepl h q5', keepl h r0, keepl h r1, keepl h r2, keepl h r3, keepl h r4, keepl h r5⟩
  clear p0' p1' p2' p3' p4' p5' q0' q1' q2' q3' q4' q5' r0 r1 r2 r3 r4 r5
  obtain ⟨p0, p1, p2, p3, p4, p5, q0, q1, q2, q3, q4, q5, r0, r1, r2, r3, r4, r5⟩ := HK.out w4 B4
  go_wp2_with fail
  refine (HR3.out _ hx ((h.below hWw).below B4)).mono ?_
  rintro e w5 ⟨rfl, hb⟩
  have B5 : Below W.heap.size W w5 := B4.trans (hb.mono B4.size)
  clear hb p0 p1 p2 p3 p4 p5 q0 q1 q2 q3 q4 q5 r0 r1 r2 r3 r4 r5
  obtain ⟨p0, p1, p2, p3, p4, p5, q0, q1, q2, q3, q4, q5, r0, r1, r2, r3, r4, r5⟩ := HK.out w5 B5
  clear B4
  go_wp2
  have hv0 : Below W.heap.size W w5.drew := B5.drew
  clear B5
  have hI := h.below hWw
  have hI' := h'.below hWw
  have hAI := hA.below hWw
  go_region_held3 (fun w' => w'.cell? ⟨w.heap.size, 0, none⟩ = some (.int .i64 k) ∧ w'.cell? ⟨w.heap.size, 1, none⟩ = some (.int .i64 i) ∧ w'.cell? ⟨w.heap.size, 2, none⟩ = some (.int .i64 c) ∧ w'.cell? ⟨w.heap.size, 3, none⟩ = some (.int .i64 n) ∧ w'.cell? ⟨w.heap.size, 4, none⟩ = some (.bool f) ∧ w'.cell? ⟨w.heap.size, 5, none⟩ = some (.slice a l cp) ∧ w'.cell? ⟨w.heap.size + 1, 0, none⟩ = some (.int .i64 k') ∧ w'.cell? ⟨w.heap.size + 1, 1, none⟩ = some (.int .i64 i') ∧ w'.cell? ⟨w.heap.size + 1, 2, none⟩ = some (.int .i64 c') ∧ w'.cell? ⟨w.heap.size + 1, 3, none⟩ = some (.int .i64 n') ∧ w'.cell? ⟨w.heap.size + 1, 4, none⟩ = some (.bool f') ∧ w'.cell? ⟨w.heap.size + 1, 5, none⟩ = some (.slice a' l' cp') ∧ w'.cell? ⟨w2.heap.size, 0, none⟩ = some (.int .i64 k) ∧ w'.cell? ⟨w2.heap.size, 1, none⟩ = some (.int .i64 i1) ∧ w'.cell? ⟨w2.heap.size, 2, none⟩ = some (.int .i64 cc1) ∧ w'.cell? ⟨w2.heap.size, 3, none⟩ = some (.int .i64 n1) ∧ w'.cell? ⟨w2.heap.size, 4, none⟩ = some (.bool f1) ∧ w'.cell? ⟨w2.heap.size, 5, none⟩ = some (.slice a1 z1.length c1))
    (first
      | exact HK.out _ hv7
      | exact HK.out _ hv6
      | exact HK.out _ hv5
      | exact HK.out _ hv4
      | exact HK.out _ hv3
      | exact HK.out _ hv2
      | exact HK.out _ hv1
      | go_keep)
    (first
    | (go_at_call 39; ((with_reducible refine (HR4.out _).mono ?_)); rintro e v1 ⟨rfl, hb⟩; have hv1 : Below W.heap.size W v1 := hv0.trans (hb.mono hv0.size); clear hb)
    | (go_at_call 38; ((with_reducible refine (HR5.out _ _ _ hz1 hz1 (i1W.below hv1) (hAI.below hv1)).mono ?_)); rintro e v2 ⟨rfl, hb⟩; have hv2 : Below W.heap.size W v2 := hv1.trans (hb.mono hv1.size); clear hb)
    | (go_at_call 40; ((with_reducible refine (HR6.out _ hx hy (hI.below hv2) (hI'.below hv2)).mono ?_)); rintro e v3 ⟨rfl, hb⟩; have hv3 : Below W.heap.size W v3 := hv2.trans (hb.mono hv2.size); clear hb)
    | (go_at_call 41; ((with_reducible refine (HR7.out _ hx hy (hI.below hv3) (hI'.below hv3)).mono ?_)); rintro e v4 ⟨rfl, hb⟩; have hv4 : Below W.heap.size W v4 := hv3.trans (hb.mono hv3.size); clear hb)
    | (go_at_call 40; ((with_reducible refine (HR8.out _ _ _ _ hx hz1 (hI.below hv4) (i1W.below hv4)).mono ?_)); rintro e v5 ⟨rfl, hb⟩; have hv5 : Below W.heap.size W v5 := hv4.trans (hb.mono hv4.size); clear hb)
    | (go_at_call 42; ((with_reducible refine (HR9.out _ hx (hI.below hv5)).mono ?_)); rintro e v6 ⟨a6, cp6, rfl, hown, hb⟩; have hv6 : Below W.heap.size W v6 := hv5.trans (hb.mono hv5.size); clear hb; have hi6 := ints_of_row hown; clear hown)
    | (go_at_call 38; ((with_reducible refine (HR10.out _ _ _ hx hx hi6 (hI.below hv6)).mono ?_)); rintro e v7 ⟨rfl, hb⟩; have hv7 : Below W.heap.size W v7 := hv6.trans (hb.mono hv6.size); clear hb))
  go_wp2
  go_ret
  exact ⟨rfl, hWw.trans (hv7.mono hWw.size)⟩
theorem opPlain_walk (k i c n : Int) (f : Bool) (a : Option Addr) (l cp : Nat) (zs : List Int) (k' i' c' n' : Int) (f' : Bool) (a' : Option Addr) (l' cp' : Nat) (zs' : List Int) (d : Int) (w : World) (hE : ErrType w) (h : IntsAt w (.slice a l cp) zs) (h' : IntsAt w (.slice a' l' cp') zs') (e : zs.length = l) (e' : zs'.length = l') :
    Calls Tryd.prog 8 #[opV k i c n f (.slice a l cp), opV k' i' c' n' f' (.slice a' l' cp'), .int .i64 d] w fun r w' => r = .returned (.bool true) ∧ Below w.heap.size w w' := by
  by_cases h1 : (100 : Int) < (l : Int)
  · exact opPlain_1 k i c n f a l cp zs k' i' c' n' f' a' l' cp' zs' d w hE h h' h1
  by_cases h2 : (100 : Int) < (l' : Int)
  · exact opPlain_2 k i c n f a l cp zs k' i' c' n' f' a' l' cp' zs' d w hE h h' h1 h2
  exact opPlain_3 k i c n f a l cp zs k' i' c' n' f' a' l' cp' zs' d w hE h h' (by omega) (by omega) h1 h2
end Go.Proofs.YtcegipkhmibdeaaDoor
