/- load.Of, load.total, load.Fits. -/
import Derived.Test.YtllipidegjpidaaGreatDoorJV
import Derived.Deep.RegionHeld3
namespace Go.Proofs.YtllipidegjpidaaGreatDoor
set_option linter.all false
open Go.RowKit

theorem vecsAt2 {w : World} {g off cap b o c b' o' c' : Nat} {x y : Int} (h0 : w.cell? ⟨g, off, none⟩ = some (.slice (some ⟨b, o, none⟩) 1 c)) (h1 : w.cell? ⟨g, off + 1, none⟩ = some (.slice (some ⟨b', o', none⟩) 1 c')) (hx : w.cell? ⟨b, o, none⟩ = some (.int .i64 x)) (hy : w.cell? ⟨b', o', none⟩ = some (.int .i64 y)) : AtVecs w (.slice (some ⟨g, off, none⟩) 2 cap) [[x], [y]] := by
  refine ⟨[⟨some ⟨b, o, none⟩, 1, c⟩, ⟨some ⟨b', o', none⟩, 1, c'⟩], ⟨_, _, rfl, .inr ⟨g, off, rfl, cell_lt h0, fun j u hu i q hq => ?_⟩⟩, rfl, fun j u z hu hz => ?_⟩
  · match j, hu with
    | 0, hu =>
      cases hu
      match i, hq with
      | 0, hq => cases hq; exact h0
      | _ + 1, hq => cases hq
    | 1, hu =>
      cases hu
      match i, hq with
      | 0, hq => cases hq; exact h1
      | _ + 1, hq => cases hq
    | _ + 2, hu => cases hu
  · match j, hu, hz with
    | 0, hu, hz => cases hu; cases hz; exact ⟨rfl, ints_one hx⟩
    | 1, hu, hz => cases hu; cases hz; exact ⟨rfl, ints_one hy⟩
theorem vadd2c (x y : Int) (w : World) (g off cap b o c b' o' c' : Nat) (h0 : w.cell? ⟨g, off, none⟩ = some (.slice (some ⟨b, o, none⟩) 1 c)) (h1 : w.cell? ⟨g, off + 1, none⟩ = some (.slice (some ⟨b', o', none⟩) 1 c')) (hx : w.cell? ⟨b, o, none⟩ = some (.int .i64 x)) (hy : w.cell? ⟨b', o', none⟩ = some (.int .i64 y)) (k0 : 0 ≤ x) (k1 : x ≤ 281474976710656) (k2 : 0 ≤ y) (k3 : y ≤ 281474976710656) :
    Calls Tryz.prog 143 #[.slice (some ⟨g, off, none⟩) 2 cap] w (AddRet w (x + y)) := by
  refine (vadd_any _ [[x], [y]] 1 w (vecsAt2 h0 h1 hx hy) (by simp) (by simp) (by decide) (fun j hj => ?_) (mild_of fun z hz i => ?_)).mono ?_
  · match j, hj with
    | 0, _ => rfl
    | 1, _ => rfl
  · simp only [List.mem_cons, List.not_mem_nil, or_false] at hz; rcases hz with rfl | rfl
    · exact one_get x i k0 k1
    · exact one_get y i k2 k3
  · rintro e w' ⟨a, cp, he, hi, hb⟩
    have : vsum 1 [[x], [y]] = [x + y] := by simp [vsum, colsum, List.range_succ]
    rw [this] at hi
    exact addRet_of he hi hb
/-- An own row of two vectors, and a block of another kind. -/
theorem own2_shape {w : World} {base q : Nat} {v : Value} {x y : VecR} {cs : Array Value} (h : kVec.Own base w v [x, y]) (hq : w.heap[q]? = some (.cells cs 226)) :
    ∃ g cap, v = .slice (some ⟨g, 0, none⟩) 2 cap ∧ w.cell? ⟨g, 0, none⟩ = some (.slice x.a x.l x.cp) ∧ w.cell? ⟨g, 1, none⟩ = some (.slice y.a y.l y.cp) ∧ g ≠ q ∧ base ≤ g := by
  have h' : w.ownsRow base 35 1 v 2 (kVec.row [x, y]) := h
  rcases h'.2 with ⟨rfl, h0⟩ | ⟨g, cap, cur, rfl, hb, hg, hn, hc, hs, ht⟩
  · cases h0
  · refine ⟨g, cap, rfl, ?_, ?_, fun e => ?_, hb⟩
    · have h1 := h'.cells (g := g) rfl 0 _ rfl
      exact h1
    · have h1 := h'.cells (g := g) rfl 1 _ rfl
      exact h1
    · subst e
      rw [hg] at hq
      injection hq with hq
      injection hq with _ h2
      revert h2
      decide
set_option maxHeartbeats 4000000 in
set_option maxRecDepth 100000 in
theorem lof_any (b bp op cp : Nat) (w : World) (h : ClF w b) : Calls Tryz.prog 144 #[.pointer (some ⟨b + 6, 0, none⟩), pod1V bp op cp, .int .i64 7, .slice none 0 0] w fun e w' => ∃ g o c, e = .returned (.slice (some ⟨g, o, none⟩) 1 c) ∧ w'.cell? ⟨g, o, none⟩ = some (.int .i64 0) ∧ w.heap.size ≤ g ∧ Below w.heap.size w w' := by
  have HD : Hid (∀ X, From w X → Calls Tryz.prog 35 #[.pointer (some ⟨b + 6, 0, none⟩)] X fun e w' => e = .returned (.int .i64 1) ∧ From X w') := fun X f => by
    obtain ⟨br, orr, cr, bi, ci, b1, o1, c1, b2, o2, c2, hcl, -⟩ := h
    exact cdims_any b X (hcl.below f.out)
  have HZ := Lib.hid zero1_any
  have HN : Hid (∀ X, From w X → Calls Tryz.prog 142 #[.pointer (some ⟨b + 6, 0, none⟩), .int .i64 7] X fun e w' => ∃ b' o' c', e = .returned (.tuple #[nodeVal b' o' c', .bool true]) ∧ w'.cell? ⟨b', o', none⟩ = some (.int .i64 5) ∧ X.heap.size ≤ b' ∧ Below X.heap.size X w') := fun X f => cnode_any b X (h.below f.out)
  have HS : Hid (∀ X, From w X → Calls Tryz.prog 168 #[.pointer (some ⟨b + 6, 0, none⟩), pod1V bp op cp, .int .i64 7] X fun e w' => ∃ g o c, e = .returned (.slice (some ⟨g, o, none⟩) 1 c) ∧ w'.cell? ⟨g, o, none⟩ = some (.int .i64 0) ∧ X.heap.size ≤ g ∧ Below X.heap.size X w') := fun X f => rsum_any b bp op cp X (h.below f.out)
  have HO : Hid (∀ X, From w X → Calls Tryz.prog 130 #[.pointer (some ⟨b + 6, 0, none⟩), .int .i64 7] X fun e w' => e = .returned (.slice none 0 0) ∧ From X w') := fun X f => con_any b X (h.below f.out)
  have HA := Lib.hid fun w g off cap b o c b' o' c' h0 h1 hx hy => vadd2c 0 0 w g off cap b o c b' o' c' h0 h1 hx hy (by omega) (by omega) (by omega) (by omega)
  clear h
  obtain ⟨W0, hW0⟩ : ∃ W0, W0 = (w.alloc (.cells #[.int .i64 1, .int .i64 0, .bool false, .int .i64 0, .slice (some ⟨bp, op, none⟩) 1 cp, .int .i64 0, .int .i64 1, .int .i64 (-1), .int .i64 (-1)] 40)).alloc (.cells #[.slice none 0 0] 31) := ⟨_, rfl⟩
  have F0 : From w W0 := by rw [hW0]; exact ((From.refl w).alloc _).alloc _
  have p0 : W0.cell? ⟨w.heap.size, 0, none⟩ = some (.int .i64 1) := by rw [hW0]; go_simp
  have p1 : W0.cell? ⟨w.heap.size, 1, none⟩ = some (.int .i64 0) := by rw [hW0]; go_simp
  have p2 : W0.cell? ⟨w.heap.size, 2, none⟩ = some (.bool false) := by rw [hW0]; go_simp
  have p3 : W0.cell? ⟨w.heap.size, 3, none⟩ = some (.int .i64 0) := by rw [hW0]; go_simp
  have p4 : W0.cell? ⟨w.heap.size, 4, none⟩ = some (.slice (some ⟨bp, op, none⟩) 1 cp) := by rw [hW0]; go_simp
  have p5 : W0.cell? ⟨w.heap.size, 5, none⟩ = some (.int .i64 0) := by rw [hW0]; go_simp
  have p6 : W0.cell? ⟨w.heap.size, 6, none⟩ = some (.int .i64 1) := by rw [hW0]; go_simp
  have p7 : W0.cell? ⟨w.heap.size, 7, none⟩ = some (.int .i64 (-1)) := by rw [hW0]; go_simp
  have p8 : W0.cell? ⟨w.heap.size, 8, none⟩ = some (.int .i64 (-1)) := by rw [hW0]; go_simp
  go_enter Tryz.func144, Tryz.ntmps144
  go_wp2_with fail
  rw [← hW0]
  clear hW0
  refine (HD.out _ F0).mono ?_
  rintro e W1 ⟨rfl, f1⟩
  go_wp2_with fail
  refine (HZ.out _).mono ?_
  rintro e W2 ⟨g, o, c, rfl, hz, hg, hb⟩
  have f2 : From W1 W2 := ⟨hb⟩
  have f12 := f1.trans f2
  have p0 := f12.cell p0
  have p1 := f12.cell p1
  have p2 := f12.cell p2
  have p3 := f12.cell p3
  have p4 := f12.cell p4
  have p5 := f12.cell p5
  have p6 := f12.cell p6
  have p7 := f12.cell p7
  have p8 := f12.cell p8
  have HF2 := Lib.hid (F0.trans f12)
  have hwl := cell_lt p0
  have HZC := Lib.hid hz
  have HOW := Lib.hid (own_vec W2 ⟨some ⟨g, o, none⟩, 1, c⟩ (Nat.le_refl W2.heap.size))
  clear f1 f2 f12 F0 hz hb
  go_wp2_with fail
  refine calls_named fun X3 hX3 => ?_
  have f3 : From W2 X3 := by rw [hX3]; exact ((From.refl _).alloc _).alloc _
  have HOW : Hid (kVec.Own W2.heap.size X3 (.slice (some ⟨W2.heap.size, 0, none⟩) 1 1) [⟨some ⟨g, o, none⟩, 1, c⟩]) := by rw [hX3]; exact HOW.out.alloc _
  have l0 : X3.cell? ⟨W2.heap.size + 1, 0, none⟩ = some (.slice (some ⟨W2.heap.size, 0, none⟩) 1 1) := by rw [hX3]; go_simp
  have lf : X3.frozen? ⟨W2.heap.size + 1, 0, none⟩ = false := by rw [hX3]; go_simp
  have lb : X3.heap[W2.heap.size + 1]? = some (.cells #[.slice (some ⟨W2.heap.size, 0, none⟩) 1 1] 226) := by rw [hX3]; have := heap_alloc_new (W2.alloc (.cells #[.slice (some ⟨g, o, none⟩) 1 c] 35)) (.cells #[.slice (some ⟨W2.heap.size, 0, none⟩) 1 1] 226); rwa [World.size_alloc] at this
  clear hX3
  have hl3 := cell_lt l0
  refine (HN.out _ (HF2.out.trans f3)).mono ?_
  rintro e W3 ⟨b', o', c', rfl, hc5, hl5, hb⟩
  obtain ⟨W4, hW4⟩ : ∃ W4, W4 = W3.alloc (.cells #[.int .i64 7, .slice (some ⟨b', o', none⟩) 1 c'] 37) := ⟨_, rfl⟩
  have f34 : From X3 W4 := by rw [hW4]; exact (From.mk hb).alloc _
  have f4 : From W2 W4 := f3.trans f34
  have l0 := f34.cell l0
  have lf := (f34.out.frozen (p := ⟨W2.heap.size + 1, 0, none⟩) hl3).trans lf
  have lb := (f34.out.block _ hl3).trans lb
  have HOW := Lib.hid (HOW.out.below f34.out)
  have HF4 := Lib.hid (HF2.out.trans f4)
  have HZ4 := Lib.hid (f4.cell HZC.out)
  have p0 := f4.cell p0
  have p1 := f4.cell p1
  have p2 := f4.cell p2
  have p3 := f4.cell p3
  have p4 := f4.cell p4
  have p5 := f4.cell p5
  have p6 := f4.cell p6
  have p7 := f4.cell p7
  have p8 := f4.cell p8
  have HPX : Hid (∀ X, From W4 X → (X.cell? ⟨w.heap.size, 0, none⟩ = some (.int .i64 1) ∧ X.cell? ⟨w.heap.size, 1, none⟩ = some (.int .i64 0) ∧ X.cell? ⟨w.heap.size, 2, none⟩ = some (.bool false) ∧ X.cell? ⟨w.heap.size, 3, none⟩ = some (.int .i64 0) ∧ X.cell? ⟨w.heap.size, 4, none⟩ = some (.slice (some ⟨bp, op, none⟩) 1 cp) ∧ X.cell? ⟨w.heap.size, 5, none⟩ = some (.int .i64 0) ∧ X.cell? ⟨w.heap.size, 6, none⟩ = some (.int .i64 1) ∧ X.cell? ⟨w.heap.size, 7, none⟩ = some (.int .i64 (-1)) ∧ X.cell? ⟨w.heap.size, 8, none⟩ = some (.int .i64 (-1)))) := fun X f => ⟨f.cell p0, f.cell p1, f.cell p2, f.cell p3, f.cell p4, f.cell p5, f.cell p6, f.cell p7, f.cell p8⟩
  have hl4 := cell_lt l0
  have HL0 := Lib.hid l0
  have HLF := Lib.hid lf
  have HLB := Lib.hid lb
  have hw24 := f4.out.size
  clear f3 f4 f34 hb hc5 lb lf
  go_wp2
  rw [← hW4]
  clear hW4
  refine wp_region_held_drew (S := (fun w' => w'.cell? ⟨w.heap.size, 0, none⟩ = some (.int .i64 1) ∧ w'.cell? ⟨w.heap.size, 1, none⟩ = some (.int .i64 0) ∧ w'.cell? ⟨w.heap.size, 2, none⟩ = some (.bool false) ∧ w'.cell? ⟨w.heap.size, 3, none⟩ = some (.int .i64 0) ∧ w'.cell? ⟨w.heap.size, 4, none⟩ = some (.slice (some ⟨bp, op, none⟩) 1 cp) ∧ w'.cell? ⟨w.heap.size, 5, none⟩ = some (.int .i64 0) ∧ w'.cell? ⟨w.heap.size, 6, none⟩ = some (.int .i64 1) ∧ w'.cell? ⟨w.heap.size, 7, none⟩ = some (.int .i64 (-1)) ∧ w'.cell? ⟨w.heap.size, 8, none⟩ = some (.int .i64 (-1)))) (by kernel_rfl) ?_ (fun hHeld => ?_)
  · exact HPX.out _ (From.refl W4).drew
  refine wpAnyH_take (i := 1) (v := ?_) rfl (by kernel_rfl) (by kernel_rfl) (by kernel_rfl) (fun _ _ _ h => h) (Or.inl ⟨by rfl, ?_⟩) (by assumption) ?_
  rotate_left
  · intro w hSw
    (try dsimp only at hSw)
    go_simp
    try with_reducible rfl
  try simp only [Act.put, List.setIfInBounds_toArray, List.set_cons_zero, List.set_cons_succ, List.getElem_toArray, List.getElem_cons_zero, List.getElem_cons_succ]
  refine wpAnyH_take (i := 2) (v := ?_) rfl (by kernel_rfl) (by kernel_rfl) (by kernel_rfl) (fun _ _ _ h => h) (Or.inl ⟨by rfl, ?_⟩) (by assumption) ?_
  rotate_left
  · intro w hSw
    (try dsimp only at hSw)
    go_simp
    try with_reducible rfl
  try simp only [Act.put, List.setIfInBounds_toArray, List.set_cons_zero, List.set_cons_succ, List.getElem_toArray, List.getElem_cons_zero, List.getElem_cons_succ]
  refine wpAnyH_take (i := 3) (v := ?_) rfl (by kernel_rfl) (by kernel_rfl) (by kernel_rfl) (fun _ _ _ h => h) (Or.inl ⟨by rfl, ?_⟩) (by assumption) ?_
  rotate_left
  · intro w hSw
    (try dsimp only at hSw)
    go_simp
    try with_reducible rfl
  try simp only [Act.put, List.setIfInBounds_toArray, List.set_cons_zero, List.set_cons_succ, List.getElem_toArray, List.getElem_cons_zero, List.getElem_cons_succ]
  refine wpAnyH_ready (rs := [0, 4]) (by kernel_rfl) (by simp) ?_
  refine AllReadyH.cons rfl (fun K hK => ?_) (AllReadyH.cons rfl (fun K hK => ?_) AllReadyH.nil)
  · skip
    go_simp
    refine hK.out _ _ hHeld (fun hHeld => ?_)
    clear hK K
    try simp only [Act.put, List.setIfInBounds_toArray, List.set_cons_zero, List.set_cons_succ, List.getElem_toArray, List.getElem_cons_zero, List.getElem_cons_succ]
    refine wpAnyH_ready (rs := [4]) (by kernel_rfl) (by simp) ?_
    refine AllReadyH.cons rfl (fun K hK => ?_) AllReadyH.nil
    go_simp
    refine (HS.out _ HF4.out.drew).mono ?_
    rintro e V1 ⟨gs, os, cs, rfl, hcs, hgs, hbs⟩
    have hgs : W4.heap.size ≤ gs := hgs
    have fV : From W4 V1 := (From.refl W4).drew.step hbs
    have l0 := fV.cell l0
    have HCS := Lib.hid hcs
    have HFV := Lib.hid fV
    clear hcs hbs fV
    go_wp2_with fail
    refine hK.out _ _ (HPX.out _ HFV.out) (fun hHeld => ?_)
    clear hK K
    try simp only [Act.put, List.setIfInBounds_toArray, List.set_cons_zero, List.set_cons_succ, List.getElem_toArray, List.getElem_cons_zero, List.getElem_cons_succ]
    refine wpAnyH_ready (rs := [5]) (by kernel_rfl) (by simp) ?_
    refine AllReadyH.cons rfl (fun K hK => ?_) AllReadyH.nil
    go_simp
    refine hK.out _ _ (HPX.out _ (HFV.out.alloc _)) (fun hHeld => ?_)
    clear hK K
    try simp only [Act.put, List.setIfInBounds_toArray, List.set_cons_zero, List.set_cons_succ, List.getElem_toArray, List.getElem_cons_zero, List.getElem_cons_succ]
    refine wpAnyH_ready (rs := [6]) (by kernel_rfl) (by simp) ?_
    refine AllReadyH.cons rfl (fun K hK => ?_) AllReadyH.nil
    first | refine Kin.append1_op kVec (Operand.tmp 28) (Operand.tmp 33) rfl W2.heap.size (.slice (some ⟨W2.heap.size, 0, none⟩) 1 1) [⟨some ⟨g, o, none⟩, 1, c⟩] rfl (HOW.out.below (HFV.out.alloc _).out) V1.heap.size ⟨some ⟨gs, os, none⟩, 1, cs⟩ rfl (cellsVec_of (by go_simp)) (by simp [maxLen]) (by simp; decide) (by have := (HFV.out.alloc (.cells #[.slice (some ⟨gs, os, none⟩) 1 cs] 35)).out.size; omega) ?_ | (rw [if_pos (by rfl)]; refine Kin.append1_op kVec (Operand.tmp 28) (Operand.tmp 33) rfl W2.heap.size (.slice (some ⟨W2.heap.size, 0, none⟩) 1 1) [⟨some ⟨g, o, none⟩, 1, c⟩] rfl (HOW.out.below (HFV.out.alloc _).out) V1.heap.size ⟨some ⟨gs, os, none⟩, 1, cs⟩ rfl (cellsVec_of (by go_simp)) (by simp [maxLen]) (by simp; decide) (by have := (HFV.out.alloc (.cells #[.slice (some ⟨gs, os, none⟩) 1 cs] 35)).out.size; omega) ?_)
    intro v5 w5 hown5 hbel5 hgr5
    have hgr5 : (V1.alloc (.cells #[.slice (some ⟨gs, os, none⟩) 1 cs] 35)).grownBy w5 (some W2.heap.size) := hgr5
    have hbx : w5.heap[W2.heap.size + 1]? = some (.cells #[.slice (some ⟨W2.heap.size, 0, none⟩) 1 1] 226) := (hgr5.block _ (Nat.lt_of_lt_of_le hl4 (HFV.out.alloc _).out.size) (by simp)).trans (((HFV.out.alloc _).out.block _ hl4).trans HLB.out)
    obtain ⟨g5, c5, rfl, k0, k1, hne5, hge5⟩ := own2_shape hown5 hbx
    have hs4 := (HFV.out.alloc (.cells #[.slice (some ⟨gs, os, none⟩) 1 cs] 35)).out.size
    have F5 : Below w.heap.size w w5 := ((HF4.out.trans (HFV.out.alloc _)).out).trans (hbel5.mono HF2.out.out.size)
    have l5 : w5.cell? ⟨W2.heap.size + 1, 0, none⟩ = some (.slice (some ⟨W2.heap.size, 0, none⟩) 1 1) := by unfold World.cell?; rw [hbx]; rfl
    have lf5 : w5.frozen? ⟨W2.heap.size + 1, 0, none⟩ = false := by unfold World.frozen?; rw [hbx]; rfl
    have z5 : w5.cell? ⟨g, o, none⟩ = some (.int .i64 0) := by
      have hl := cell_lt HZC.out
      exact (hbel5.cell (p := ⟨g, o, none⟩) hl).trans ((HFV.out.alloc _).cell HZ4.out)
    have s5 : w5.cell? ⟨gs, os, none⟩ = some (.int .i64 0) := by
      have hl := cell_lt HCS.out
      have h1 := World.cell?_of_block (a := ⟨gs, os, none⟩) (hgr5.block gs (by simp; omega) (by intro e; injection e with e; omega))
      exact h1.trans (((From.refl V1).alloc _).cell HCS.out)
    have HF5 := Lib.hid F5
    have HZ5 := Lib.hid z5
    have HS5 := Lib.hid s5
    have HP5 : Hid (w5.cell? ⟨w.heap.size, 0, none⟩ = some (.int .i64 1) ∧ w5.cell? ⟨w.heap.size, 1, none⟩ = some (.int .i64 0) ∧ w5.cell? ⟨w.heap.size, 2, none⟩ = some (.bool false) ∧ w5.cell? ⟨w.heap.size, 3, none⟩ = some (.int .i64 0) ∧ w5.cell? ⟨w.heap.size, 4, none⟩ = some (.slice (some ⟨bp, op, none⟩) 1 cp) ∧ w5.cell? ⟨w.heap.size, 5, none⟩ = some (.int .i64 0) ∧ w5.cell? ⟨w.heap.size, 6, none⟩ = some (.int .i64 1) ∧ w5.cell? ⟨w.heap.size, 7, none⟩ = some (.int .i64 (-1)) ∧ w5.cell? ⟨w.heap.size, 8, none⟩ = some (.int .i64 (-1))) := by have h := HPX.out _ (HFV.out.alloc (.cells #[.slice (some ⟨gs, os, none⟩) 1 cs] 35)); obtain ⟨q0, q1, q2, q3, q4, q5, q6, q7, q8⟩ := h; exact ⟨(hbel5.cell (p := ⟨w.heap.size, 0, none⟩) hwl).trans q0, (hbel5.cell (p := ⟨w.heap.size, 1, none⟩) hwl).trans q1, (hbel5.cell (p := ⟨w.heap.size, 2, none⟩) hwl).trans q2, (hbel5.cell (p := ⟨w.heap.size, 3, none⟩) hwl).trans q3, (hbel5.cell (p := ⟨w.heap.size, 4, none⟩) hwl).trans q4, (hbel5.cell (p := ⟨w.heap.size, 5, none⟩) hwl).trans q5, (hbel5.cell (p := ⟨w.heap.size, 6, none⟩) hwl).trans q6, (hbel5.cell (p := ⟨w.heap.size, 7, none⟩) hwl).trans q7, (hbel5.cell (p := ⟨w.heap.size, 8, none⟩) hwl).trans q8⟩
    clear hown5 hbel5 hgr5 hbx F5 z5 s5
    refine hK.out _ _ HP5.out (fun hHeld => ?_)
    clear hK K
    try simp only [Act.put, List.setIfInBounds_toArray, List.set_cons_zero, List.set_cons_succ, List.getElem_toArray, List.getElem_cons_zero, List.getElem_cons_succ]
    refine wpAnyH_ready (rs := [7]) (by kernel_rfl) (by simp) ?_
    refine AllReadyH.cons rfl (fun K hK => ?_) AllReadyH.nil
    clear hHeld
    have hwn : ¬ w.heap.size = W2.heap.size + 1 := by omega
    go_simp
    refine hK.out _ _ ?_ (fun hHeld => ?_)
    · obtain ⟨q0, q1, q2, q3, q4, q5, q6, q7, q8⟩ := HP5.out
      refine ⟨?_, ?_, ?_, ?_, ?_, ?_, ?_, ?_, ?_⟩ <;> go_simp
    clear hK K
    try simp only [Act.put, List.setIfInBounds_toArray, List.set_cons_zero, List.set_cons_succ, List.getElem_toArray, List.getElem_cons_zero, List.getElem_cons_succ]
    refine wpAnyH_done (by kernel_rfl) ?_ _
    generalize hW6 : w5.setCell _ _ = W6
    have F6 : From w W6 := by rw [← hW6]; exact ⟨below_set HF5.out (by omega) _⟩
    have l6 : W6.cell? ⟨W2.heap.size + 1, 0, none⟩ = some (.slice (some ⟨g5, 0, none⟩) 2 c5) := by rw [← hW6]; clear hW6; go_simp
    have u0 : W6.cell? ⟨g5, 0, none⟩ = some (.slice (some ⟨g, o, none⟩) 1 c) := by rw [← hW6]; clear hW6; go_simp
    have u1 : W6.cell? ⟨g5, 1, none⟩ = some (.slice (some ⟨gs, os, none⟩) 1 cs) := by rw [← hW6]; clear hW6; go_simp
    have z6 : W6.cell? ⟨g, o, none⟩ = some (.int .i64 0) := by
      rw [← hW6]; clear hW6; have hl := cell_lt HZC.out; have hne : ¬ g = W2.heap.size + 1 := by omega
      have h5 := HZ5.out
      go_simp
    have s6 : W6.cell? ⟨gs, os, none⟩ = some (.int .i64 0) := by
      rw [← hW6]; clear hW6; have hne : ¬ gs = W2.heap.size + 1 := by omega
      have h5 := HS5.out
      go_simp
    have HF6 := Lib.hid F6
    clear F6 hW6 hHeld
    go_wp2_with fail
    refine (HO.out _ HF6.out).mono ?_
    rintro e W7 ⟨rfl, f7⟩
    have l7 := f7.cell l6
    have u0 := f7.cell u0
    have u1 := f7.cell u1
    have z7 := f7.cell z6
    have s7 := f7.cell s6
    have HF7 := Lib.hid (HF6.out.trans f7)
    clear f7
    go_wp2
    refine wp_loop_rounds 1 ?_
    rw [rounds_succ]
    go_wp2_with fail
    refine (HA.out _ _ _ _ _ _ _ _ _ _ u0 u1 z7 s7).mono ?_
    rintro e W8 ⟨g8, o8, c8, rfl, hc8, hg8, hb8⟩
    have HC8 := Lib.hid hc8
    have HB8 := Lib.hid (HF7.out.step hb8)
    have hs8 := HF7.out.out.size
    clear hc8 hb8
    go_wp2
    go_ret
    exact ⟨g8, o8, c8, rfl, HC8.out, by omega, HB8.out.out⟩
  · skip
    go_simp
    refine (HS.out _ HF4.out.drew).mono ?_
    rintro e V1 ⟨gs, os, cs, rfl, hcs, hgs, hbs⟩
    have hgs : W4.heap.size ≤ gs := hgs
    have fV : From W4 V1 := (From.refl W4).drew.step hbs
    have l0 := fV.cell l0
    have HCS := Lib.hid hcs
    have HFV := Lib.hid fV
    clear hcs hbs fV
    go_wp2_with fail
    refine hK.out _ _ (HPX.out _ HFV.out) (fun hHeld => ?_)
    clear hK K
    try simp only [Act.put, List.setIfInBounds_toArray, List.set_cons_zero, List.set_cons_succ, List.getElem_toArray, List.getElem_cons_zero, List.getElem_cons_succ]
    refine wpAnyH_ready (rs := [0, 5]) (by kernel_rfl) (by simp) ?_
    refine AllReadyH.cons rfl (fun K hK => ?_) (AllReadyH.cons rfl (fun K hK => ?_) AllReadyH.nil)
    · skip
      go_simp
      refine hK.out _ _ hHeld (fun hHeld => ?_)
      clear hK K
      try simp only [Act.put, List.setIfInBounds_toArray, List.set_cons_zero, List.set_cons_succ, List.getElem_toArray, List.getElem_cons_zero, List.getElem_cons_succ]
      refine wpAnyH_ready (rs := [5]) (by kernel_rfl) (by simp) ?_
      refine AllReadyH.cons rfl (fun K hK => ?_) AllReadyH.nil
      go_simp
      refine hK.out _ _ (HPX.out _ (HFV.out.alloc _)) (fun hHeld => ?_)
      clear hK K
      try simp only [Act.put, List.setIfInBounds_toArray, List.set_cons_zero, List.set_cons_succ, List.getElem_toArray, List.getElem_cons_zero, List.getElem_cons_succ]
      refine wpAnyH_ready (rs := [6]) (by kernel_rfl) (by simp) ?_
      refine AllReadyH.cons rfl (fun K hK => ?_) AllReadyH.nil
      first | refine Kin.append1_op kVec (Operand.tmp 28) (Operand.tmp 33) rfl W2.heap.size (.slice (some ⟨W2.heap.size, 0, none⟩) 1 1) [⟨some ⟨g, o, none⟩, 1, c⟩] rfl (HOW.out.below (HFV.out.alloc _).out) V1.heap.size ⟨some ⟨gs, os, none⟩, 1, cs⟩ rfl (cellsVec_of (by go_simp)) (by simp [maxLen]) (by simp; decide) (by have := (HFV.out.alloc (.cells #[.slice (some ⟨gs, os, none⟩) 1 cs] 35)).out.size; omega) ?_ | (rw [if_pos (by rfl)]; refine Kin.append1_op kVec (Operand.tmp 28) (Operand.tmp 33) rfl W2.heap.size (.slice (some ⟨W2.heap.size, 0, none⟩) 1 1) [⟨some ⟨g, o, none⟩, 1, c⟩] rfl (HOW.out.below (HFV.out.alloc _).out) V1.heap.size ⟨some ⟨gs, os, none⟩, 1, cs⟩ rfl (cellsVec_of (by go_simp)) (by simp [maxLen]) (by simp; decide) (by have := (HFV.out.alloc (.cells #[.slice (some ⟨gs, os, none⟩) 1 cs] 35)).out.size; omega) ?_)
      intro v5 w5 hown5 hbel5 hgr5
      have hgr5 : (V1.alloc (.cells #[.slice (some ⟨gs, os, none⟩) 1 cs] 35)).grownBy w5 (some W2.heap.size) := hgr5
      have hbx : w5.heap[W2.heap.size + 1]? = some (.cells #[.slice (some ⟨W2.heap.size, 0, none⟩) 1 1] 226) := (hgr5.block _ (Nat.lt_of_lt_of_le hl4 (HFV.out.alloc _).out.size) (by simp)).trans (((HFV.out.alloc _).out.block _ hl4).trans HLB.out)
      obtain ⟨g5, c5, rfl, k0, k1, hne5, hge5⟩ := own2_shape hown5 hbx
      have hs4 := (HFV.out.alloc (.cells #[.slice (some ⟨gs, os, none⟩) 1 cs] 35)).out.size
      have F5 : Below w.heap.size w w5 := ((HF4.out.trans (HFV.out.alloc _)).out).trans (hbel5.mono HF2.out.out.size)
      have l5 : w5.cell? ⟨W2.heap.size + 1, 0, none⟩ = some (.slice (some ⟨W2.heap.size, 0, none⟩) 1 1) := by unfold World.cell?; rw [hbx]; rfl
      have lf5 : w5.frozen? ⟨W2.heap.size + 1, 0, none⟩ = false := by unfold World.frozen?; rw [hbx]; rfl
      have z5 : w5.cell? ⟨g, o, none⟩ = some (.int .i64 0) := by
        have hl := cell_lt HZC.out
        exact (hbel5.cell (p := ⟨g, o, none⟩) hl).trans ((HFV.out.alloc _).cell HZ4.out)
      have s5 : w5.cell? ⟨gs, os, none⟩ = some (.int .i64 0) := by
        have hl := cell_lt HCS.out
        have h1 := World.cell?_of_block (a := ⟨gs, os, none⟩) (hgr5.block gs (by simp; omega) (by intro e; injection e with e; omega))
        exact h1.trans (((From.refl V1).alloc _).cell HCS.out)
      have HF5 := Lib.hid F5
      have HZ5 := Lib.hid z5
      have HS5 := Lib.hid s5
      have HP5 : Hid (w5.cell? ⟨w.heap.size, 0, none⟩ = some (.int .i64 1) ∧ w5.cell? ⟨w.heap.size, 1, none⟩ = some (.int .i64 0) ∧ w5.cell? ⟨w.heap.size, 2, none⟩ = some (.bool false) ∧ w5.cell? ⟨w.heap.size, 3, none⟩ = some (.int .i64 0) ∧ w5.cell? ⟨w.heap.size, 4, none⟩ = some (.slice (some ⟨bp, op, none⟩) 1 cp) ∧ w5.cell? ⟨w.heap.size, 5, none⟩ = some (.int .i64 0) ∧ w5.cell? ⟨w.heap.size, 6, none⟩ = some (.int .i64 1) ∧ w5.cell? ⟨w.heap.size, 7, none⟩ = some (.int .i64 (-1)) ∧ w5.cell? ⟨w.heap.size, 8, none⟩ = some (.int .i64 (-1))) := by have h := HPX.out _ (HFV.out.alloc (.cells #[.slice (some ⟨gs, os, none⟩) 1 cs] 35)); obtain ⟨q0, q1, q2, q3, q4, q5, q6, q7, q8⟩ := h; exact ⟨(hbel5.cell (p := ⟨w.heap.size, 0, none⟩) hwl).trans q0, (hbel5.cell (p := ⟨w.heap.size, 1, none⟩) hwl).trans q1, (hbel5.cell (p := ⟨w.heap.size, 2, none⟩) hwl).trans q2, (hbel5.cell (p := ⟨w.heap.size, 3, none⟩) hwl).trans q3, (hbel5.cell (p := ⟨w.heap.size, 4, none⟩) hwl).trans q4, (hbel5.cell (p := ⟨w.heap.size, 5, none⟩) hwl).trans q5, (hbel5.cell (p := ⟨w.heap.size, 6, none⟩) hwl).trans q6, (hbel5.cell (p := ⟨w.heap.size, 7, none⟩) hwl).trans q7, (hbel5.cell (p := ⟨w.heap.size, 8, none⟩) hwl).trans q8⟩
      clear hown5 hbel5 hgr5 hbx F5 z5 s5
      refine hK.out _ _ HP5.out (fun hHeld => ?_)
      clear hK K
      try simp only [Act.put, List.setIfInBounds_toArray, List.set_cons_zero, List.set_cons_succ, List.getElem_toArray, List.getElem_cons_zero, List.getElem_cons_succ]
      refine wpAnyH_ready (rs := [7]) (by kernel_rfl) (by simp) ?_
      refine AllReadyH.cons rfl (fun K hK => ?_) AllReadyH.nil
      clear hHeld
      have hwn : ¬ w.heap.size = W2.heap.size + 1 := by omega
      go_simp
      refine hK.out _ _ ?_ (fun hHeld => ?_)
      · obtain ⟨q0, q1, q2, q3, q4, q5, q6, q7, q8⟩ := HP5.out
        refine ⟨?_, ?_, ?_, ?_, ?_, ?_, ?_, ?_, ?_⟩ <;> go_simp
      clear hK K
      try simp only [Act.put, List.setIfInBounds_toArray, List.set_cons_zero, List.set_cons_succ, List.getElem_toArray, List.getElem_cons_zero, List.getElem_cons_succ]
      refine wpAnyH_done (by kernel_rfl) ?_ _
      generalize hW6 : w5.setCell _ _ = W6
      have F6 : From w W6 := by rw [← hW6]; exact ⟨below_set HF5.out (by omega) _⟩
      have l6 : W6.cell? ⟨W2.heap.size + 1, 0, none⟩ = some (.slice (some ⟨g5, 0, none⟩) 2 c5) := by rw [← hW6]; clear hW6; go_simp
      have u0 : W6.cell? ⟨g5, 0, none⟩ = some (.slice (some ⟨g, o, none⟩) 1 c) := by rw [← hW6]; clear hW6; go_simp
      have u1 : W6.cell? ⟨g5, 1, none⟩ = some (.slice (some ⟨gs, os, none⟩) 1 cs) := by rw [← hW6]; clear hW6; go_simp
      have z6 : W6.cell? ⟨g, o, none⟩ = some (.int .i64 0) := by
        rw [← hW6]; clear hW6; have hl := cell_lt HZC.out; have hne : ¬ g = W2.heap.size + 1 := by omega
        have h5 := HZ5.out
        go_simp
      have s6 : W6.cell? ⟨gs, os, none⟩ = some (.int .i64 0) := by
        rw [← hW6]; clear hW6; have hne : ¬ gs = W2.heap.size + 1 := by omega
        have h5 := HS5.out
        go_simp
      have HF6 := Lib.hid F6
      clear F6 hW6 hHeld
      go_wp2_with fail
      refine (HO.out _ HF6.out).mono ?_
      rintro e W7 ⟨rfl, f7⟩
      have l7 := f7.cell l6
      have u0 := f7.cell u0
      have u1 := f7.cell u1
      have z7 := f7.cell z6
      have s7 := f7.cell s6
      have HF7 := Lib.hid (HF6.out.trans f7)
      clear f7
      go_wp2
      refine wp_loop_rounds 1 ?_
      rw [rounds_succ]
      go_wp2_with fail
      refine (HA.out _ _ _ _ _ _ _ _ _ _ u0 u1 z7 s7).mono ?_
      rintro e W8 ⟨g8, o8, c8, rfl, hc8, hg8, hb8⟩
      have HC8 := Lib.hid hc8
      have HB8 := Lib.hid (HF7.out.step hb8)
      have hs8 := HF7.out.out.size
      clear hc8 hb8
      go_wp2
      go_ret
      exact ⟨g8, o8, c8, rfl, HC8.out, by omega, HB8.out.out⟩
    · skip
      go_simp
      refine hK.out _ _ (HPX.out _ (HFV.out.alloc _)) (fun hHeld => ?_)
      clear hK K
      try simp only [Act.put, List.setIfInBounds_toArray, List.set_cons_zero, List.set_cons_succ, List.getElem_toArray, List.getElem_cons_zero, List.getElem_cons_succ]
      have la := ((From.refl V1).alloc (.cells #[.slice (some ⟨gs, os, none⟩) 1 cs] 35)).cell l0
      refine wpAnyH_ready (rs := [0]) (by kernel_rfl) (by simp) ?_
      refine AllReadyH.cons rfl (fun K hK => ?_) AllReadyH.nil
      go_simp
      refine hK.out _ _ hHeld (fun hHeld => ?_)
      clear hK K
      try simp only [Act.put, List.setIfInBounds_toArray, List.set_cons_zero, List.set_cons_succ, List.getElem_toArray, List.getElem_cons_zero, List.getElem_cons_succ]
      refine wpAnyH_ready (rs := [6]) (by kernel_rfl) (by simp) ?_
      refine AllReadyH.cons rfl (fun K hK => ?_) AllReadyH.nil
      first | refine Kin.append1_op kVec (Operand.tmp 28) (Operand.tmp 33) rfl W2.heap.size (.slice (some ⟨W2.heap.size, 0, none⟩) 1 1) [⟨some ⟨g, o, none⟩, 1, c⟩] rfl (HOW.out.below (HFV.out.alloc _).out) V1.heap.size ⟨some ⟨gs, os, none⟩, 1, cs⟩ rfl (cellsVec_of (by go_simp)) (by simp [maxLen]) (by simp; decide) (by have := (HFV.out.alloc (.cells #[.slice (some ⟨gs, os, none⟩) 1 cs] 35)).out.size; omega) ?_ | (rw [if_pos (by rfl)]; refine Kin.append1_op kVec (Operand.tmp 28) (Operand.tmp 33) rfl W2.heap.size (.slice (some ⟨W2.heap.size, 0, none⟩) 1 1) [⟨some ⟨g, o, none⟩, 1, c⟩] rfl (HOW.out.below (HFV.out.alloc _).out) V1.heap.size ⟨some ⟨gs, os, none⟩, 1, cs⟩ rfl (cellsVec_of (by go_simp)) (by simp [maxLen]) (by simp; decide) (by have := (HFV.out.alloc (.cells #[.slice (some ⟨gs, os, none⟩) 1 cs] 35)).out.size; omega) ?_)
      intro v5 w5 hown5 hbel5 hgr5
      have hgr5 : (V1.alloc (.cells #[.slice (some ⟨gs, os, none⟩) 1 cs] 35)).grownBy w5 (some W2.heap.size) := hgr5
      have hbx : w5.heap[W2.heap.size + 1]? = some (.cells #[.slice (some ⟨W2.heap.size, 0, none⟩) 1 1] 226) := (hgr5.block _ (Nat.lt_of_lt_of_le hl4 (HFV.out.alloc _).out.size) (by simp)).trans (((HFV.out.alloc _).out.block _ hl4).trans HLB.out)
      obtain ⟨g5, c5, rfl, k0, k1, hne5, hge5⟩ := own2_shape hown5 hbx
      have hs4 := (HFV.out.alloc (.cells #[.slice (some ⟨gs, os, none⟩) 1 cs] 35)).out.size
      have F5 : Below w.heap.size w w5 := ((HF4.out.trans (HFV.out.alloc _)).out).trans (hbel5.mono HF2.out.out.size)
      have l5 : w5.cell? ⟨W2.heap.size + 1, 0, none⟩ = some (.slice (some ⟨W2.heap.size, 0, none⟩) 1 1) := by unfold World.cell?; rw [hbx]; rfl
      have lf5 : w5.frozen? ⟨W2.heap.size + 1, 0, none⟩ = false := by unfold World.frozen?; rw [hbx]; rfl
      have z5 : w5.cell? ⟨g, o, none⟩ = some (.int .i64 0) := by
        have hl := cell_lt HZC.out
        exact (hbel5.cell (p := ⟨g, o, none⟩) hl).trans ((HFV.out.alloc _).cell HZ4.out)
      have s5 : w5.cell? ⟨gs, os, none⟩ = some (.int .i64 0) := by
        have hl := cell_lt HCS.out
        have h1 := World.cell?_of_block (a := ⟨gs, os, none⟩) (hgr5.block gs (by simp; omega) (by intro e; injection e with e; omega))
        exact h1.trans (((From.refl V1).alloc _).cell HCS.out)
      have HF5 := Lib.hid F5
      have HZ5 := Lib.hid z5
      have HS5 := Lib.hid s5
      have HP5 : Hid (w5.cell? ⟨w.heap.size, 0, none⟩ = some (.int .i64 1) ∧ w5.cell? ⟨w.heap.size, 1, none⟩ = some (.int .i64 0) ∧ w5.cell? ⟨w.heap.size, 2, none⟩ = some (.bool false) ∧ w5.cell? ⟨w.heap.size, 3, none⟩ = some (.int .i64 0) ∧ w5.cell? ⟨w.heap.size, 4, none⟩ = some (.slice (some ⟨bp, op, none⟩) 1 cp) ∧ w5.cell? ⟨w.heap.size, 5, none⟩ = some (.int .i64 0) ∧ w5.cell? ⟨w.heap.size, 6, none⟩ = some (.int .i64 1) ∧ w5.cell? ⟨w.heap.size, 7, none⟩ = some (.int .i64 (-1)) ∧ w5.cell? ⟨w.heap.size, 8, none⟩ = some (.int .i64 (-1))) := by have h := HPX.out _ (HFV.out.alloc (.cells #[.slice (some ⟨gs, os, none⟩) 1 cs] 35)); obtain ⟨q0, q1, q2, q3, q4, q5, q6, q7, q8⟩ := h; exact ⟨(hbel5.cell (p := ⟨w.heap.size, 0, none⟩) hwl).trans q0, (hbel5.cell (p := ⟨w.heap.size, 1, none⟩) hwl).trans q1, (hbel5.cell (p := ⟨w.heap.size, 2, none⟩) hwl).trans q2, (hbel5.cell (p := ⟨w.heap.size, 3, none⟩) hwl).trans q3, (hbel5.cell (p := ⟨w.heap.size, 4, none⟩) hwl).trans q4, (hbel5.cell (p := ⟨w.heap.size, 5, none⟩) hwl).trans q5, (hbel5.cell (p := ⟨w.heap.size, 6, none⟩) hwl).trans q6, (hbel5.cell (p := ⟨w.heap.size, 7, none⟩) hwl).trans q7, (hbel5.cell (p := ⟨w.heap.size, 8, none⟩) hwl).trans q8⟩
      clear hown5 hbel5 hgr5 hbx F5 z5 s5
      refine hK.out _ _ HP5.out (fun hHeld => ?_)
      clear hK K
      try simp only [Act.put, List.setIfInBounds_toArray, List.set_cons_zero, List.set_cons_succ, List.getElem_toArray, List.getElem_cons_zero, List.getElem_cons_succ]
      refine wpAnyH_ready (rs := [7]) (by kernel_rfl) (by simp) ?_
      refine AllReadyH.cons rfl (fun K hK => ?_) AllReadyH.nil
      clear hHeld
      have hwn : ¬ w.heap.size = W2.heap.size + 1 := by omega
      go_simp
      refine hK.out _ _ ?_ (fun hHeld => ?_)
      · obtain ⟨q0, q1, q2, q3, q4, q5, q6, q7, q8⟩ := HP5.out
        refine ⟨?_, ?_, ?_, ?_, ?_, ?_, ?_, ?_, ?_⟩ <;> go_simp
      clear hK K
      try simp only [Act.put, List.setIfInBounds_toArray, List.set_cons_zero, List.set_cons_succ, List.getElem_toArray, List.getElem_cons_zero, List.getElem_cons_succ]
      refine wpAnyH_done (by kernel_rfl) ?_ _
      generalize hW6 : w5.setCell _ _ = W6
      have F6 : From w W6 := by rw [← hW6]; exact ⟨below_set HF5.out (by omega) _⟩
      have l6 : W6.cell? ⟨W2.heap.size + 1, 0, none⟩ = some (.slice (some ⟨g5, 0, none⟩) 2 c5) := by rw [← hW6]; clear hW6; go_simp
      have u0 : W6.cell? ⟨g5, 0, none⟩ = some (.slice (some ⟨g, o, none⟩) 1 c) := by rw [← hW6]; clear hW6; go_simp
      have u1 : W6.cell? ⟨g5, 1, none⟩ = some (.slice (some ⟨gs, os, none⟩) 1 cs) := by rw [← hW6]; clear hW6; go_simp
      have z6 : W6.cell? ⟨g, o, none⟩ = some (.int .i64 0) := by
        rw [← hW6]; clear hW6; have hl := cell_lt HZC.out; have hne : ¬ g = W2.heap.size + 1 := by omega
        have h5 := HZ5.out
        go_simp
      have s6 : W6.cell? ⟨gs, os, none⟩ = some (.int .i64 0) := by
        rw [← hW6]; clear hW6; have hne : ¬ gs = W2.heap.size + 1 := by omega
        have h5 := HS5.out
        go_simp
      have HF6 := Lib.hid F6
      clear F6 hW6 hHeld
      go_wp2_with fail
      refine (HO.out _ HF6.out).mono ?_
      rintro e W7 ⟨rfl, f7⟩
      have l7 := f7.cell l6
      have u0 := f7.cell u0
      have u1 := f7.cell u1
      have z7 := f7.cell z6
      have s7 := f7.cell s6
      have HF7 := Lib.hid (HF6.out.trans f7)
      clear f7
      go_wp2
      refine wp_loop_rounds 1 ?_
      rw [rounds_succ]
      go_wp2_with fail
      refine (HA.out _ _ _ _ _ _ _ _ _ _ u0 u1 z7 s7).mono ?_
      rintro e W8 ⟨g8, o8, c8, rfl, hc8, hg8, hb8⟩
      have HC8 := Lib.hid hc8
      have HB8 := Lib.hid (HF7.out.step hb8)
      have hs8 := HF7.out.out.size
      clear hc8 hb8
      go_wp2
      go_ret
      exact ⟨g8, o8, c8, rfl, HC8.out, by omega, HB8.out.out⟩
end Go.Proofs.YtllipidegjpidaaGreatDoor
