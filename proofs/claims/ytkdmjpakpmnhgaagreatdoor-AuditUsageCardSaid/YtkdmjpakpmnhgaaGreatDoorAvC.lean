/- AuditUsage of views that are few, with pods. -/
import Derived.Test.YtkdmjpakpmnhgaaGreatDoorAvB
import Derived.Deep.RegionHeld3
namespace Go.Proofs.YtkdmjpakpmnhgaaGreatDoor
set_option linter.all false
open Go.RowKit

set_option maxHeartbeats 8000000 in
set_option maxRecDepth 100000 in
theorem auditUsage_in (dims node : Int) (which : Nat) (an ap aa ak : Option Addr) (ln cn la ca lk ck cp : Nat) (ns : List NodeS) (ps : List PodS) (w : World) (s : ByteArray) (hx : ps.length ≤ 9223372036854775807) (hcap : ∀ j, j < ns.length → (nAt ns j).cap.length ≤ 9223372036854775807)
    (hs : s.toList.isEmpty = false) (hnm : w.cell? ⟨1, 3, none⟩ = some (.string s)) (ham : w.cell? ⟨0, 5, none⟩ = some (.string ⟨#[116, 119, 105, 99, 101]⟩))
    (hn : AtNodes w (.slice an ln cn) ns) (hp : AtPods w (.slice ap ps.length cp) ps) (hcp : ps.length ≤ cp) (hw : which < 256) (hb : few26 dims ns ps la lk = true) (hpos : 0 < ps.length) :
    Calls Tryz.prog 3 #[viewV dims (.slice an ln cn) (.slice ap ps.length cp) (.slice aa la ca) (.slice ak lk ck), .int .u8 which, .int .i64 node] w fun e w' => e = .returned (.bool true) ∧ Below w.heap.size w w' := by
  have HA : Hid (∀ X, From w X → Calls Tryz.prog 4 #[] X fun e w' => e = .returned (.bool true) ∧ Below X.heap.size X w') := fun X f => awake26_any X s hs (f.cell hnm) (f.cell ham)
  have HF : Hid (∀ X, From w X → Calls Tryz.prog 5 #[viewV dims (.slice an ln cn) (.slice ap ps.length cp) (.slice aa la ca) (.slice ak lk ck)] X fun e w' => e = .returned (.bool true) ∧ Below X.heap.size X w') := fun X f => by
    have := few26_any dims (.slice an ln cn) (.slice ap ps.length cp) aa ak la lk ca ck ns ps X hx hcap (hn.below f.out) (hp.below f.out)
    rw [hb] at this
    exact this
  have HFP := Lib.hid (few26_true hb)
  have hP := hp
  obtain ⟨xs, ⟨ap', cp', e9, hxs⟩, hxl, hxp⟩ := hp
  obtain ⟨rfl, -, rfl⟩ := Value.slice.inj e9
  clear e9
  obtain ⟨b, off, rfl, hbl, hxc⟩ : ∃ b off, ap = some ⟨b, off, none⟩ ∧ b < w.heap.size ∧ ∀ j x, xs[j]? = some x → ∀ i u, (kPod.enc x)[i]? = some u → w.cell? ⟨b, off + j * kPod.size + i, none⟩ = some u := by
    rcases hxs with h | h
    · subst h; simp at hxl; omega
    · exact h
  have HXC := Lib.hid hxc
  have HXP := Lib.hid hxp
  have HP := Lib.hid hP
  obtain ⟨k, hk⟩ : ∃ k, k = which % ps.length := ⟨_, rfl⟩
  have hkl : k < ps.length := by rw [hk]; exact Nat.mod_lt _ hpos
  have hrem : ((which : Int).tmod (ps.length : Int)) = (k : Int) := by rw [hk]; rfl
  have HXL := Lib.hid hxl
  clear hn hnm ham hcap hb hP hxs hxc hxp hxl hk
  obtain ⟨pl, hpl⟩ : ∃ n, n = ps.length := ⟨_, rfl⟩
  rw [← hpl] at HF HP hkl hrem hpos hcp hx HXL ⊢
  have HPL := Lib.hid hpl
  clear hpl
  obtain ⟨X0, hX0⟩ : ∃ X0, X0 = w.alloc (.cells #[.int .i64 dims, .slice an ln cn, .slice (some ⟨b, off, none⟩) pl cp, .slice aa la ca, .slice ak lk ck] 26) := ⟨_, rfl⟩
  have F0 : From w X0 := by rw [hX0]; exact (From.refl w).alloc _
  have b0 : X0.cell? ⟨w.heap.size, 0, none⟩ = some (.int .i64 dims) := by rw [hX0]; go_simp
  have b1 : X0.cell? ⟨w.heap.size, 1, none⟩ = some (.slice an ln cn) := by rw [hX0]; go_simp
  have b2 : X0.cell? ⟨w.heap.size, 2, none⟩ = some (.slice (some ⟨b, off, none⟩) pl cp) := by rw [hX0]; go_simp
  have b3 : X0.cell? ⟨w.heap.size, 3, none⟩ = some (.slice aa la ca) := by rw [hX0]; go_simp
  have b4 : X0.cell? ⟨w.heap.size, 4, none⟩ = some (.slice ak lk ck) := by rw [hX0]; go_simp
  have HF0 := Lib.hid F0
  clear F0
  go_enter Tryz.func3, Tryz.ntmps3
  go_wp2_with fail
  rw [← hX0]
  clear hX0
  refine (HA.out _ HF0.out).mono ?_
  rintro e W1 ⟨rfl, hb1⟩
  have F1 : From X0 W1 := ⟨hb1⟩
  have d0 := F1.cell b0
  have d1 := F1.cell b1
  have d2 := F1.cell b2
  have d3 := F1.cell b3
  have d4 := F1.cell b4
  have HF1 := Lib.hid (HF0.out.trans F1)
  clear hb1 F1 b0 b1 b2 b3 b4 HF0
  go_wp2_with fail
  refine (HF.out _ HF1.out).mono ?_
  rintro e W2 ⟨rfl, hb2⟩
  have F2 : From W1 W2 := ⟨hb2⟩
  have e0 := F2.cell d0
  have e1 := F2.cell d1
  have e2 := F2.cell d2
  have e3 := F2.cell d3
  have e4 := F2.cell d4
  have HF2 := Lib.hid (HF1.out.trans F2)
  have hwl := cell_lt e2
  clear hb2 F2 d0 d1 d2 d3 d4 HF1 HA HF
  have hpl0 : ((pl : Int) == 0) = false := by rw [beq_eq_false_iff_ne]; omega
  have hpl1 : ¬ ((pl : Int) = 0) := by omega
  -- the pod, the box of the pod, the box of the view
  obtain ⟨pr, hpr⟩ : ∃ pr, pr = xs.getD k ⟨0, 0, false, 0, none, 0, 0, 0, 0, 0, 0⟩ := ⟨_, rfl⟩
  have hxk : xs[k]? = some pr := by rw [hpr, List.getD_eq_getElem?_getD, List.getElem?_eq_getElem (by rw [HXL.out]; exact hkl)]; rfl
  have hpk := HXP.out k pr (pAt ps k) hxk (pAt_get (by rw [← HPL.out]; exact hkl))
  have HPK := Lib.hid hpk
  have c0 : W2.cell? ⟨b, off + k * 9, none⟩ = some (.int .i64 pr.id) := HF2.out.cell (HXC.out k pr hxk 0 _ rfl)
  have c1 : W2.cell? ⟨b, off + k * 9 + 1, none⟩ = some (.int .i64 pr.prio) := HF2.out.cell (HXC.out k pr hxk 1 _ rfl)
  have c2 : W2.cell? ⟨b, off + k * 9 + 2, none⟩ = some (.bool pr.pre) := HF2.out.cell (HXC.out k pr hxk 2 _ rfl)
  have c3 : W2.cell? ⟨b, off + k * 9 + 3, none⟩ = some (.int .i64 pr.grace) := HF2.out.cell (HXC.out k pr hxk 3 _ rfl)
  have c4 : W2.cell? ⟨b, off + k * 9 + 4, none⟩ = some (.slice pr.a pr.l pr.cp) := HF2.out.cell (HXC.out k pr hxk 4 _ rfl)
  have c5 : W2.cell? ⟨b, off + k * 9 + 5, none⟩ = some (.int .i64 pr.arr) := HF2.out.cell (HXC.out k pr hxk 5 _ rfl)
  have c6 : W2.cell? ⟨b, off + k * 9 + 6, none⟩ = some (.int .i64 pr.phase) := HF2.out.cell (HXC.out k pr hxk 6 _ rfl)
  have c7 : W2.cell? ⟨b, off + k * 9 + 7, none⟩ = some (.int .i64 pr.node) := HF2.out.cell (HXC.out k pr hxk 7 _ rfl)
  have c8 : W2.cell? ⟨b, off + k * 9 + 8, none⟩ = some (.int .i64 pr.dead) := HF2.out.cell (HXC.out k pr hxk 8 _ rfl)
  have hki : (0 : Int) ≤ (k : Int) := by omega
  have hki2 : (k : Int) < (pl : Int) := by omega
  clear hpr hpk
  go_wp2

  refine wp_named fun W3 hW3 => ?_
  have F3 : From W2 W3 := by rw [hW3]; exact ((From.refl _).alloc _).alloc _
  have g0 := F3.cell e0
  have g1 := F3.cell e1
  have g2 := F3.cell e2
  have g3 := F3.cell e3
  have g4 := F3.cell e4
  have p4 : W3.cell? ⟨W2.heap.size, 4, none⟩ = some (.slice pr.a pr.l pr.cp) := by rw [hW3]; go_simp
  have p6 : W3.cell? ⟨W2.heap.size, 6, none⟩ = some (.int .i64 pr.phase) := by rw [hW3]; go_simp
  have p7 : W3.cell? ⟨W2.heap.size, 7, none⟩ = some (.int .i64 pr.node) := by rw [hW3]; go_simp
  have l0 : W3.cell? ⟨W2.heap.size + 1, 0, none⟩ = some (.int .i64 dims) := by rw [hW3]; go_simp
  have l1 : W3.cell? ⟨W2.heap.size + 1, 1, none⟩ = some (.slice an ln cn) := by rw [hW3]; go_simp
  have l2 : W3.cell? ⟨W2.heap.size + 1, 2, none⟩ = some (.slice (some ⟨b, off, none⟩) pl cp) := by rw [hW3]; go_simp
  have l3 : W3.cell? ⟨W2.heap.size + 1, 3, none⟩ = some (.slice aa la ca) := by rw [hW3]; go_simp
  have l4 : W3.cell? ⟨W2.heap.size + 1, 4, none⟩ = some (.slice ak lk ck) := by rw [hW3]; go_simp
  have lf : W3.frozen? ⟨W2.heap.size + 1, 2, none⟩ = false := by rw [hW3]; go_simp
  have hs3 : W2.heap.size + 2 = W3.heap.size := by rw [hW3]; simp
  have HS3 := Lib.hid hs3
  have HF3 := Lib.hid (HF2.out.trans F3)
  clear hW3 F3 hs3 e0 e1 e2 e3 e4 c0 c1 c2 c3 c4 c5 c6 c7 c8
  have hcp0 : ¬ cp = 0 := by omega
  have hkcp : (k : Int) ≤ (cp : Int) := by omega
  have hk1 : (k : Int) + 1 ≤ (pl : Int) := by omega
  have hk0 : (0 : Int) ≤ (k : Int) + 1 := by omega
  have hwr : IntKind.i64.wrap ((k : Int) + 1) = (k : Int) + 1 := by rw [IntKind.wrap_i64]; omega
  have htn : ((k : Int) + 1).toNat = k + 1 := by omega
  obtain ⟨o2, ho2, ho3⟩ : ∃ o2, (if cp = k + 1 then some (⟨b, off, none⟩ : Addr) else some ⟨b, off + (k + 1) * 9, none⟩) = some ⟨b, o2, none⟩ ∧ (pl = k + 1 ∨ o2 = off + (k + 1) * 9) := by
    by_cases h : cp = k + 1
    · exact ⟨off, by rw [if_pos h], .inl (by omega)⟩
    · exact ⟨_, by rw [if_neg h], .inr rfl⟩
  have HO3 := Lib.hid ho3
  clear ho3
  have HCX : Hid (∀ X, From w X → ∀ j y, xs[j]? = some y → ∀ i u, (kPod.enc y)[i]? = some u → X.cell? ⟨b, off + j * kPod.size + i, none⟩ = some u) := fun X f j y hy i u hu => f.cell (HXC.out j y hy i u hu)
  have HFD : Hid (From w (W3.drew.alloc (.cells #[] 31))) := (HF3.out.drew).alloc _
  have HOE : Hid (kPod.Own W3.heap.size (W3.drew.alloc (.cells #[] 31)) (.slice (some ⟨W3.drew.heap.size, 0, none⟩) 0 0) []) := World.ownsRow_made W3.drew #[] 0 (Nat.le_refl _) (by decide) rfl
  have HBE : Hid (Below W3.heap.size W3 (W3.drew.alloc (.cells #[] 31))) := ((From.refl W3).drew.alloc _).out
  have htl : (xs.take k).length = k := by rw [List.length_take, HXL.out]; omega
  have hdl : (xs.drop (k + 1)).length = pl - (k + 1) := by rw [List.length_drop, HXL.out]
  have HTL := Lib.hid htl
  have HDL := Lib.hid hdl
  have HPLN : Hid (pl ≤ 100) := by have := HFP.out.len; rw [← HPL.out] at this; exact this
  have HTC : Hid (∀ X, From w X → ∀ j y, (xs.take k)[j]? = some y → ∀ i u, (kPod.enc y)[i]? = some u → X.cell? ⟨b, off + j * kPod.size + i, none⟩ = some u) := fun X f j y hy i u hu => by
    have hj : j < (xs.take k).length := (List.getElem?_eq_some_iff.1 hy).1
    rw [HTL.out] at hj
    rw [List.getElem?_take_of_lt hj] at hy
    exact HCX.out X f j y hy i u hu
  have HDC : Hid (∀ X, From w X → ∀ j y, (xs.drop (k + 1))[j]? = some y → ∀ i u, (kPod.enc y)[i]? = some u → X.cell? ⟨b, o2 + j * kPod.size + i, none⟩ = some u) := fun X f j y hy i u hu => by
    have hj : j < (xs.drop (k + 1)).length := (List.getElem?_eq_some_iff.1 hy).1
    rw [HDL.out] at hj
    rw [List.getElem?_drop] at hy
    have h := HCX.out X f _ y hy i u hu
    rcases HO3.out with h3 | h3
    · omega
    · rw [h3, show off + (k + 1) * 9 + j * kPod.size + i = off + (k + 1 + j) * kPod.size + i by show off + (k + 1) * 9 + j * 9 + i = off + (k + 1 + j) * 9 + i; omega]
      exact h
  clear htl hdl
  refine wp_region_held_drew (S := fun w' => w'.cell? ⟨w.heap.size, 2, none⟩ = some (.slice (some ⟨b, off, none⟩) pl cp)) (by kernel_rfl) ?_ (fun hHeld => ?_)
  · exact (From.refl W3).drew.cell g2
  refine wpAnyH_take (i := 1) (v := ?_) rfl (by kernel_rfl) (by kernel_rfl) (by kernel_rfl) (fun _ _ _ h => h) (Or.inl ⟨by rfl, ?_⟩) (by assumption) ?_
  rotate_left
  · intro w hSw
    (try dsimp only at hSw)
    go_simp
    try with_reducible rfl
  try simp only [Act.put, List.setIfInBounds_toArray, List.set_cons_zero, List.set_cons_succ, List.getElem_toArray, List.getElem_cons_zero, List.getElem_cons_succ]
  refine wpAnyH_take (i := 2) (v := ?_) rfl (by kernel_rfl) (by kernel_rfl) (by kernel_rfl) (fun _ _ _ h => h) (Or.inl ⟨by rfl, ?_⟩) (by assumption) ?_
  rotate_left
  · intro w hSw
    (try dsimp only at hSw)
    go_simp
    try with_reducible rfl
  try simp only [Act.put, List.setIfInBounds_toArray, List.set_cons_zero, List.set_cons_succ, List.getElem_toArray, List.getElem_cons_zero, List.getElem_cons_succ]
  refine wpAnyH_take (i := 3) (v := ?_) rfl (by kernel_rfl) (by kernel_rfl) (by kernel_rfl) (fun _ _ _ h => h) (Or.inl ⟨by rfl, ?_⟩) (by assumption) ?_
  rotate_left
  · intro w hSw
    (try dsimp only at hSw)
    go_simp
    try with_reducible rfl
  try simp only [Act.put, List.setIfInBounds_toArray, List.set_cons_zero, List.set_cons_succ, List.getElem_toArray, List.getElem_cons_zero, List.getElem_cons_succ]
  refine wpAnyH_take (i := 4) (v := ?_) rfl (by kernel_rfl) (by kernel_rfl) (by kernel_rfl) (fun _ _ _ h => h) (Or.inl ⟨by rfl, ?_⟩) (by assumption) ?_
  rotate_left
  · intro w hSw
    (try dsimp only at hSw)
    go_simp
    try with_reducible rfl
  try simp only [Act.put, List.setIfInBounds_toArray, List.set_cons_zero, List.set_cons_succ, List.getElem_toArray, List.getElem_cons_zero, List.getElem_cons_succ]
  refine wpAnyH_take (i := 6) (v := ?_) rfl (by kernel_rfl) (by kernel_rfl) (by kernel_rfl) (fun _ _ _ h => h) (Or.inl ⟨by rfl, ?_⟩) (by assumption) ?_
  rotate_left
  · intro w hSw
    (try dsimp only at hSw)
    go_simp
    try with_reducible rfl
  try simp only [Act.put, List.setIfInBounds_toArray, List.set_cons_zero, List.set_cons_succ, List.getElem_toArray, List.getElem_cons_zero, List.getElem_cons_succ]
  refine wpAnyH_take (i := 7) (v := ?_) rfl (by kernel_rfl) (by kernel_rfl) (by kernel_rfl) (fun _ _ _ h => h) (Or.inl ⟨by rfl, ?_⟩) (by assumption) ?_
  rotate_left
  · intro w hSw
    (try dsimp only at hSw)
    go_simp
    try with_reducible rfl
  try simp only [Act.put, List.setIfInBounds_toArray, List.set_cons_zero, List.set_cons_succ, List.getElem_toArray, List.getElem_cons_zero, List.getElem_cons_succ]
  refine wpAnyH_take (i := 8) (v := ?_) rfl (by kernel_rfl) (by kernel_rfl) (by kernel_rfl) (fun _ _ _ h => h) (Or.inl ⟨by rfl, ?_⟩) (by assumption) ?_
  rotate_left
  · intro w hSw
    (try dsimp only at hSw)
    go_simp
    try with_reducible rfl
  try simp only [Act.put, List.setIfInBounds_toArray, List.set_cons_zero, List.set_cons_succ, List.getElem_toArray, List.getElem_cons_zero, List.getElem_cons_succ]
  refine wpAnyH_take (i := 9) (v := ?_) rfl (by kernel_rfl) (by kernel_rfl) (by kernel_rfl) (fun _ _ _ h => h) (Or.inl ⟨by rfl, ?_⟩) (by assumption) ?_
  rotate_left
  · intro w hSw
    (try dsimp only at hSw)
    go_simp
    try with_reducible rfl
  try simp only [Act.put, List.setIfInBounds_toArray, List.set_cons_zero, List.set_cons_succ, List.getElem_toArray, List.getElem_cons_zero, List.getElem_cons_succ]
  refine wpAnyH_take (i := 10) (v := ?_) rfl (by kernel_rfl) (by kernel_rfl) (by kernel_rfl) (fun _ _ _ h => h) (Or.inl ⟨by rfl, ?_⟩) (by assumption) ?_
  rotate_left
  · intro w hSw
    (try dsimp only at hSw)
    go_simp
    try with_reducible rfl
  try simp only [Act.put, List.setIfInBounds_toArray, List.set_cons_zero, List.set_cons_succ, List.getElem_toArray, List.getElem_cons_zero, List.getElem_cons_succ]
  refine wpAnyH_ready (rs := [0]) (by kernel_rfl) (by simp) ?_
  refine AllReadyH.cons rfl (fun K hK => ?_) AllReadyH.nil
  go_simp
  refine hK.out _ _ (((From.refl W3).drew.alloc _).cell g2) (fun hHeld => ?_)
  clear hK K
  try simp only [Act.put, List.setIfInBounds_toArray, List.set_cons_zero, List.set_cons_succ, List.getElem_toArray, List.getElem_cons_zero, List.getElem_cons_succ]
  refine wpAnyH_ready (rs := [5]) (by kernel_rfl) (by simp) ?_
  refine AllReadyH.cons rfl (fun K hK => ?_) AllReadyH.nil
  first | refine Kin.appendAll_op kPod (Operand.tmp 40) (Operand.tmp 44) rfl W3.heap.size _ [] rfl HOE.out b off cp (xs.take k) k HTL.out.symm rfl (HTC.out _ HFD.out) (by have := HPLN.out; have := HTL.out; simp only [List.length_nil]; unfold maxLen; omega) (by have := HPLN.out; have := HTL.out; simp only [List.length_nil]; show _ * 88 ≤ _; omega) (Nat.le_of_lt (by simp)) ?_ | (rw [if_pos (by rfl)]; refine Kin.appendAll_op kPod (Operand.tmp 40) (Operand.tmp 44) rfl W3.heap.size _ [] rfl HOE.out b off cp (xs.take k) k HTL.out.symm rfl (HTC.out _ HFD.out) (by have := HPLN.out; have := HTL.out; simp only [List.length_nil]; unfold maxLen; omega) (by have := HPLN.out; have := HTL.out; simp only [List.length_nil]; show _ * 88 ≤ _; omega) (Nat.le_of_lt (by simp)) ?_) | fail
  intro v4 w4 hown4 hbel4
  have G4 : From W3 w4 := ⟨HBE.out.trans hbel4⟩
  have HG4 := Lib.hid G4
  have HO4 := Lib.hid hown4
  clear hown4 hbel4 G4
  refine hK.out _ _ (HG4.out.cell g2) (fun hHeld => ?_)
  clear hK K
  try simp only [Act.put, List.setIfInBounds_toArray, List.set_cons_zero, List.set_cons_succ, List.getElem_toArray, List.getElem_cons_zero, List.getElem_cons_succ]
  refine wpAnyH_ready (rs := [11]) (by kernel_rfl) (by simp) ?_
  refine AllReadyH.cons rfl (fun K hK => ?_) AllReadyH.nil
  first | refine Kin.appendAll_op kPod (Operand.tmp 45) (Operand.tmp 50) rfl W3.heap.size _ ([] ++ xs.take k) rfl HO4.out b o2 (cp - (k + 1)) (xs.drop (k + 1)) (pl - (k + 1)) HDL.out.symm rfl (HDC.out _ (HF3.out.trans HG4.out)) (by have := HPLN.out; have := HTL.out; have := HDL.out; simp only [List.nil_append]; unfold maxLen; omega) (by have := HPLN.out; have := HTL.out; have := HDL.out; simp only [List.nil_append]; show _ * 88 ≤ _; omega) HG4.out.out.size ?_ | (rw [if_pos (by rfl)]; refine Kin.appendAll_op kPod (Operand.tmp 45) (Operand.tmp 50) rfl W3.heap.size _ ([] ++ xs.take k) rfl HO4.out b o2 (cp - (k + 1)) (xs.drop (k + 1)) (pl - (k + 1)) HDL.out.symm rfl (HDC.out _ (HF3.out.trans HG4.out)) (by have := HPLN.out; have := HTL.out; have := HDL.out; simp only [List.nil_append]; unfold maxLen; omega) (by have := HPLN.out; have := HTL.out; have := HDL.out; simp only [List.nil_append]; show _ * 88 ≤ _; omega) HG4.out.out.size ?_) | fail
  intro v5 w5 hown5 hbel5
  have G5 : From W3 w5 := ⟨HG4.out.out.trans hbel5⟩
  obtain ⟨a5, c5, rfl⟩ := hown5.shape
  have HG5 := Lib.hid G5
  have HO5 := Lib.hid hown5
  clear hown5 hbel5 G5
  refine hK.out _ _ (HG5.out.cell g2) (fun hHeld => ?_)
  clear hK K
  try simp only [Act.put, List.setIfInBounds_toArray, List.set_cons_zero, List.set_cons_succ, List.getElem_toArray, List.getElem_cons_zero, List.getElem_cons_succ]
  refine wpAnyH_take (i := 12) (v := ?_) rfl (by kernel_rfl) (by kernel_rfl) (by kernel_rfl) (fun _ _ _ h => h) (Or.inl ⟨by rfl, ?_⟩) (by assumption) ?_
  rotate_left
  · intro w hSw
    (try dsimp only at hSw)
    go_simp
    try with_reducible rfl
  try simp only [Act.put, List.setIfInBounds_toArray, List.set_cons_zero, List.set_cons_succ, List.getElem_toArray, List.getElem_cons_zero, List.getElem_cons_succ]
  have m2 := HG5.out.cell l2
  have mf : w5.frozen? ⟨W2.heap.size + 1, 2, none⟩ = false := (HG5.out.out.frozen (p := ⟨W2.heap.size + 1, 2, none⟩) (by have := HS3.out; simp only []; omega)).trans lf
  refine wpAnyH_ready (rs := [13]) (by kernel_rfl) (by simp) ?_
  refine AllReadyH.cons rfl (fun K hK => ?_) AllReadyH.nil
  go_simp
  refine hK.out _ _ ?_ (fun hHeld => ?_)
  · have := HG5.out.cell g2
    have h1 : ¬ w.heap.size = W2.heap.size + 1 := by omega
    go_simp
  clear hK K
  try simp only [Act.put, List.setIfInBounds_toArray, List.set_cons_zero, List.set_cons_succ, List.getElem_toArray, List.getElem_cons_zero, List.getElem_cons_succ]
  refine wpAnyH_done (by kernel_rfl) ?_ _
  generalize hW6 : w5.setCell _ _ = W6
  have F6 : From w W6 := by rw [← hW6]; exact ⟨below_set ((HF3.out.trans HG5.out).out) (by omega) _⟩
  have h0 := HG5.out.cell g0
  have h1 := HG5.out.cell g1
  have h2 := HG5.out.cell g2
  have h3 := HG5.out.cell g3
  have h4 := HG5.out.cell g4
  have q4 := HG5.out.cell p4
  have q6 := HG5.out.cell p6
  have q7 := HG5.out.cell p7
  have m0 := HG5.out.cell l0
  have m1 := HG5.out.cell l1
  have m3 := HG5.out.cell l3
  have m4 := HG5.out.cell l4
  have hne1 : ¬ w.heap.size = W2.heap.size + 1 := by omega
  have hne2 : ¬ W2.heap.size = W2.heap.size + 1 := by omega
  have x0 : W6.cell? ⟨w.heap.size, 0, none⟩ = some (.int .i64 dims) := by rw [← hW6]; clear hW6; go_simp
  have x1 : W6.cell? ⟨w.heap.size, 1, none⟩ = some (.slice an ln cn) := by rw [← hW6]; clear hW6; go_simp
  have x2 : W6.cell? ⟨w.heap.size, 2, none⟩ = some (.slice (some ⟨b, off, none⟩) pl cp) := by rw [← hW6]; clear hW6; go_simp
  have x3 : W6.cell? ⟨w.heap.size, 3, none⟩ = some (.slice aa la ca) := by rw [← hW6]; clear hW6; go_simp
  have x4 : W6.cell? ⟨w.heap.size, 4, none⟩ = some (.slice ak lk ck) := by rw [← hW6]; clear hW6; go_simp
  have y4 : W6.cell? ⟨W2.heap.size, 4, none⟩ = some (.slice pr.a pr.l pr.cp) := by rw [← hW6]; clear hW6; go_simp
  have y6 : W6.cell? ⟨W2.heap.size, 6, none⟩ = some (.int .i64 pr.phase) := by rw [← hW6]; clear hW6; go_simp
  have y7 : W6.cell? ⟨W2.heap.size, 7, none⟩ = some (.int .i64 pr.node) := by rw [← hW6]; clear hW6; go_simp
  have z0 : W6.cell? ⟨W2.heap.size + 1, 0, none⟩ = some (.int .i64 dims) := by rw [← hW6]; clear hW6; go_simp
  have z1 : W6.cell? ⟨W2.heap.size + 1, 1, none⟩ = some (.slice an ln cn) := by rw [← hW6]; clear hW6; go_simp
  have z2 : W6.cell? ⟨W2.heap.size + 1, 2, none⟩ = some (.slice a5 ([] ++ xs.take k ++ xs.drop (k + 1)).length c5) := by rw [← hW6]; clear hW6; go_simp
  have z3 : W6.cell? ⟨W2.heap.size + 1, 3, none⟩ = some (.slice aa la ca) := by rw [← hW6]; clear hW6; go_simp
  have z4 : W6.cell? ⟨W2.heap.size + 1, 4, none⟩ = some (.slice ak lk ck) := by rw [← hW6]; clear hW6; go_simp
  have hO6 : kPod.Own W3.heap.size W6 (.slice a5 ([] ++ xs.take k ++ xs.drop (k + 1)).length c5) ([] ++ xs.take k ++ xs.drop (k + 1)) := by
    rw [← hW6]
    exact ownsRow_setCell_below (show World.ownsRow _ _ _ _ _ _ _ from HO5.out) (by have := HS3.out; show _ < _; simp only []; omega) _
  have hlps : ps.length = pl := HPL.out.symm
  have HLESS := Lib.hid (less_at (HXL.out.trans HPL.out) (by omega) HXP.out F6 hO6)
  have hlen5 : ([] ++ xs.take k ++ xs.drop (k + 1)).length = (lessAt k ps).length := by
    have := less_len (ps := ps) (k := k) (by omega)
    rw [List.length_append, List.length_append, HTL.out, HDL.out, List.length_nil]; omega
  have HF6 := Lib.hid F6
  clear hO6 hlps hW6 F6 HO5 HO4 HOE HBE HG4 HG5 HFD HCX HTC HDC
  clear g0 g1 g2 g3 g4 p4 p6 p7 l0 l1 l2 l3 l4 h0 h1 h2 h3 h4 q4 q6 q7 m0 m1 m2 m3 m4 lf mf hne1 hne2 hHeld ho2
  rw [hlen5] at z2 HLESS
  have HLL := Lib.hid (less_len (ps := ps) (k := k) (by rw [← HPL.out]; exact hkl))
  have HU1 : Hid (∀ X, From W6 X → Calls Tryz.prog 6 #[viewV dims (.slice an ln cn) (.slice (some ⟨b, off, none⟩) pl cp) (.slice aa la ca) (.slice ak lk ck), .int .i64 node] X fun e w' => ∃ a cp, e = .returned (.slice a dims.toNat cp) ∧ IntsNew X.heap.size w' (.slice a dims.toNat cp) (usage node dims ps) ∧ Below X.heap.size X w') := fun X f =>
    usage_any dims node an aa ak ln la lk cn ca ck _ ps X (by have := HFP.out.dims; omega) (by have := HFP.out.len; omega) HFP.out.mild (HP.out.below (HF6.out.trans f).out)
  have HU2 : Hid (∀ X, From W6 X → Calls Tryz.prog 6 #[viewV dims (.slice an ln cn) (.slice a5 (lessAt k ps).length c5) (.slice aa la ca) (.slice ak lk ck), .int .i64 node] X fun e w' => ∃ a cp, e = .returned (.slice a dims.toNat cp) ∧ IntsNew X.heap.size w' (.slice a dims.toNat cp) (usage node dims (lessAt k ps)) ∧ Below X.heap.size X w') := fun X f =>
    usage_any dims node an aa ak ln la lk cn ca ck _ (lessAt k ps) X (by have := HFP.out.dims; omega) (by have := HFP.out.len; have := HLL.out; omega) (less_mild HFP.out.mild) (HLESS.out.below f.out)
  have HUL : ∀ l : List PodS, (usage node dims l).length = dims.toNat := fun l => by unfold usage vsum; simp
  have HULh := Lib.hid HUL
  clear HUL hlen5
  have HSM : Hid (∀ (v1 v2 : Value) (xs ys : List Int) (X : World), xs.length ≤ 1000 → ys.length ≤ 1000 → xs = ys → IntsAt X v1 xs → IntsAt X v2 ys → Calls Tryz.prog 7 #[v1, v2] X fun e w' => e = .returned (.bool true) ∧ Below X.heap.size X w') := fun v1 v2 xs ys X h1 h2 h3 h4 h5 => by
    have := same01_any v1 v2 xs ys X (by omega) (by omega) h4 h5
    rw [show (xs == ys) = true by rw [h3]; exact beq_self_eq_true _] at this
    exact this
  generalize (lessAt k ps).length = nl at *
  go_wp2_with fail
  refine (HU1.out _ (From.refl W6)).mono ?_
  rintro e W7 ⟨ra, rc, rfl, hra, hb7⟩
  have F7 : From W6 W7 := ⟨hb7⟩
  have HRA := Lib.hid hra.at_
  have x0 := F7.cell x0
  have x1 := F7.cell x1
  have x2 := F7.cell x2
  have x3 := F7.cell x3
  have x4 := F7.cell x4
  have z0 := F7.cell z0
  have z1 := F7.cell z1
  have z2 := F7.cell z2
  have z3 := F7.cell z3
  have z4 := F7.cell z4
  have y4 := F7.cell y4
  have y6 := F7.cell y6
  have y7 := F7.cell y7
  have HF7 := Lib.hid F7
  clear hb7 F7 hra
  go_wp2_with fail
  refine (HU2.out _ HF7.out).mono ?_
  rintro e W8 ⟨rb, rd, rfl, hrb, hb8⟩
  have F8 : From W7 W8 := ⟨hb8⟩
  have HRB := Lib.hid hrb.at_
  have HRA := Lib.hid (HRA.out.below F8.out)
  have x0 := F8.cell x0
  have y4 := F8.cell y4
  have y6 := F8.cell y6
  have y7 := F8.cell y7
  have HF8 := Lib.hid (HF7.out.trans F8)
  have HPI : Hid (IntsAt W8 (.slice pr.a (pAt ps k).req.length pr.cp) (pAt ps k).req) := HPK.out.req.below (HF6.out.trans HF8.out).out
  clear hb8 F8 hrb x1 x2 x3 x4 z0 z1 z2 z3 z4
  rw [HPK.out.l] at y4
  rw [HPK.out.node] at y7
  rw [HPK.out.phase] at y6
  have hcb : countsB node dims (pAt ps k) = (((pAt ps k).node == node && holdsB (pAt ps k).phase) && ((pAt ps k).req.length : Int) == dims) := rfl
  have HSKIP : Hid (countsB node dims (pAt ps k) = false → usage node dims (lessAt k ps) = usage node dims ps) := usage_skip node dims (by rw [← HPL.out]; exact hkl)
  have HADD : Hid (countsB node dims (pAt ps k) = true → vsum dims.toNat [usage node dims (lessAt k ps), (pAt ps k).req] = usage node dims ps) := usage_add node dims (by rw [← HPL.out]; exact hkl)
  have HMILD : Hid (Mild [usage node dims (lessAt k ps), (pAt ps k).req]) := add_mild HFP.out lessAt_mem (by have h1 := HFP.out.len; have h2 := less_len (ps := ps) (k := k) (by rw [← HPL.out]; exact hkl); omega) (pAt_mem (by rw [← HPL.out]; exact hkl))
  have HDM : Hid (dims.toNat ≤ 1000) := by have := HFP.out.dims; show _ ≤ _; omega
  rw [hcb] at HSKIP HADD
  unfold holdsB at HSKIP HADD
  clear hcb hrem hki hki2 hk1 hk0 hwr htn hpl0 hpl1 hcp0 hkcp HU1 HU2 HLESS HPK hxk
  obtain ⟨req, hreq⟩ : ∃ r, r = (pAt ps k).req := ⟨_, rfl⟩
  rw [← hreq] at HSKIP HADD HMILD HPI y4
  generalize (pAt ps k).node = pno at *
  generalize (pAt ps k).phase = pph at *
  clear hreq
  obtain ⟨m, hm⟩ : ∃ m, m = req.length := ⟨_, rfl⟩
  rw [← hm] at HSKIP HADD y4
  have HM := Lib.hid hm
  clear hm
  cases hq1 : pno == node
  · rw [hq1] at HSKIP HADD
    have hq1p : ¬ pno = node := by simpa using hq1
    have HE := Lib.hid (HSKIP.out rfl)
    clear HSKIP HADD HMILD
    go_wp2_with fail
    refine (HSM.out _ _ (usage node dims ps) (usage node dims (lessAt k ps)) _ (by rw [HULh.out]; exact HDM.out) (by rw [HULh.out]; exact HDM.out) HE.out.symm HRA.out HRB.out).mono ?_
    rintro e W9 ⟨rfl, hb⟩
    have HZ := Lib.hid (HF6.out.trans (HF8.out.step hb))
    clear hb
    go_wp2
    go_ret
    exact ⟨rfl, HZ.out.out⟩
  · rw [hq1] at HSKIP HADD
    have hq1p : node = pno := (beq_iff_eq.1 hq1).symm
    subst hq1p
    cases hq2 : pph == 3
    · rw [hq2] at HSKIP HADD
      have hq2p : ¬ pph = 3 := by simpa using hq2
      cases hq3 : pph == 4
      · rw [hq3] at HSKIP HADD
        have hq3p : ¬ pph = 4 := by simpa using hq3
        have HE := Lib.hid (HSKIP.out rfl)
        clear HSKIP HADD HMILD
        go_wp2_with fail
        refine (HSM.out _ _ (usage node dims ps) (usage node dims (lessAt k ps)) _ (by rw [HULh.out]; exact HDM.out) (by rw [HULh.out]; exact HDM.out) HE.out.symm HRA.out HRB.out).mono ?_
        rintro e W9 ⟨rfl, hb⟩
        have HZ := Lib.hid (HF6.out.trans (HF8.out.step hb))
        clear hb
        go_wp2
        go_ret
        exact ⟨rfl, HZ.out.out⟩
      · rw [hq3] at HSKIP HADD
        have hq3p : pph = 4 := by simpa using hq3
        subst hq3p
        cases hq4 : (m : Int) == dims
        · rw [hq4] at HSKIP HADD
          have hq4p : ¬ (m : Int) = dims := by simpa using hq4
          have HE := Lib.hid (HSKIP.out rfl)
          clear HSKIP HADD HMILD
          go_wp2_with fail
          refine (HSM.out _ _ (usage node dims ps) (usage node dims (lessAt k ps)) _ (by rw [HULh.out]; exact HDM.out) (by rw [HULh.out]; exact HDM.out) HE.out.symm HRA.out HRB.out).mono ?_
          rintro e W9 ⟨rfl, hb⟩
          have HZ := Lib.hid (HF6.out.trans (HF8.out.step hb))
          clear hb
          go_wp2
          go_ret
          exact ⟨rfl, HZ.out.out⟩
        · rw [hq4] at HSKIP HADD
          have hq4p : (m : Int) = dims := by simpa using hq4
          have HE := Lib.hid (HADD.out rfl)
          have HMD : Hid (m = dims.toNat) := by show m = _; omega
          clear HSKIP HADD
          go_wp2_with fail
          refine calls_named fun W9 hW9 => ?_
          have F9 : From W8 W9 := by rw [hW9]; exact (From.refl _).alloc _
          have v0 : W9.cell? ⟨W8.heap.size, 0, none⟩ = some (.slice rb dims.toNat rd) := by rw [hW9]; go_simp
          have v1 : W9.cell? ⟨W8.heap.size, 1, none⟩ = some (.slice pr.a m pr.cp) := by rw [hW9]; go_simp
          have hlb : W8.heap.size < W9.heap.size := by rw [hW9]; simp
          have HAT : Hid (AtVecs W9 (.slice (some ⟨W8.heap.size, 0, none⟩) 2 2) [usage node dims (lessAt k ps), req]) := by
            refine ⟨[⟨rb, dims.toNat, rd⟩, ⟨pr.a, m, pr.cp⟩], ⟨_, _, rfl, .inr ⟨_, 0, rfl, hlb, fun j x hx i u hu => ?_⟩⟩, rfl, fun j x z hx hz => ?_⟩
            · match j, hx with
              | 0, hx =>
                cases hx
                match i, hu with
                | 0, hu => cases hu; exact v0
                | _ + 1, hu => cases hu
              | 1, hx =>
                cases hx
                match i, hu with
                | 0, hu => cases hu; exact v1
                | _ + 1, hu => cases hu
              | _ + 2, hx => cases hx
            · match j, hx, hz with
              | 0, hx, hz =>
                cases hx; cases hz
                refine ⟨(HULh.out _).symm, ?_⟩
                rw [HULh.out]
                exact HRB.out.below F9.out
              | 1, hx, hz =>
                cases hx; cases hz
                exact ⟨HM.out, HPI.out.below F9.out⟩
              | _ + 2, hx, hz => cases hx
          clear hW9 v0 v1 hlb
          refine (radd_any _ _ dims.toNat W9 HAT.out (by simp) (by simp) HDM.out (fun j hj => by
            match j, hj with
            | 0, _ => exact HULh.out _
            | 1, _ => exact HM.out.symm.trans HMD.out
            | _ + 2, hj => simp at hj; omega) HMILD.out).mono ?_
          rintro e W10 ⟨a10, c10, rfl, hi, hb⟩
          have F10 : From W8 W10 := F9.step hb
          rw [HE.out] at hi
          have HI := Lib.hid hi.at_
          have HRA := Lib.hid (HRA.out.below F10.out)
          have HF10 := Lib.hid (HF8.out.trans F10)
          clear hi hb F9 F10 HAT
          go_wp2_with fail
          refine (HSM.out _ _ (usage node dims ps) (usage node dims ps) _ (by rw [HULh.out]; exact HDM.out) (by rw [HULh.out]; exact HDM.out) rfl HI.out HRA.out).mono ?_
          rintro e W11 ⟨rfl, hb⟩
          have HZ := Lib.hid (HF6.out.trans (HF10.out.step hb))
          clear hb
          go_wp2
          go_ret
          exact ⟨rfl, HZ.out.out⟩
    · rw [hq2] at HSKIP HADD
      have hq2p : pph = 3 := by simpa using hq2
      subst hq2p
      cases hq4 : (m : Int) == dims
      · rw [hq4] at HSKIP HADD
        have hq4p : ¬ (m : Int) = dims := by simpa using hq4
        have HE := Lib.hid (HSKIP.out rfl)
        clear HSKIP HADD HMILD
        go_wp2_with fail
        refine (HSM.out _ _ (usage node dims ps) (usage node dims (lessAt k ps)) _ (by rw [HULh.out]; exact HDM.out) (by rw [HULh.out]; exact HDM.out) HE.out.symm HRA.out HRB.out).mono ?_
        rintro e W9 ⟨rfl, hb⟩
        have HZ := Lib.hid (HF6.out.trans (HF8.out.step hb))
        clear hb
        go_wp2
        go_ret
        exact ⟨rfl, HZ.out.out⟩
      · rw [hq4] at HSKIP HADD
        have hq4p : (m : Int) = dims := by simpa using hq4
        have HE := Lib.hid (HADD.out rfl)
        have HMD : Hid (m = dims.toNat) := by show m = _; omega
        clear HSKIP HADD
        go_wp2_with fail
        refine calls_named fun W9 hW9 => ?_
        have F9 : From W8 W9 := by rw [hW9]; exact (From.refl _).alloc _
        have v0 : W9.cell? ⟨W8.heap.size, 0, none⟩ = some (.slice rb dims.toNat rd) := by rw [hW9]; go_simp
        have v1 : W9.cell? ⟨W8.heap.size, 1, none⟩ = some (.slice pr.a m pr.cp) := by rw [hW9]; go_simp
        have hlb : W8.heap.size < W9.heap.size := by rw [hW9]; simp
        have HAT : Hid (AtVecs W9 (.slice (some ⟨W8.heap.size, 0, none⟩) 2 2) [usage node dims (lessAt k ps), req]) := by
          refine ⟨[⟨rb, dims.toNat, rd⟩, ⟨pr.a, m, pr.cp⟩], ⟨_, _, rfl, .inr ⟨_, 0, rfl, hlb, fun j x hx i u hu => ?_⟩⟩, rfl, fun j x z hx hz => ?_⟩
          · match j, hx with
            | 0, hx =>
              cases hx
              match i, hu with
              | 0, hu => cases hu; exact v0
              | _ + 1, hu => cases hu
            | 1, hx =>
              cases hx
              match i, hu with
              | 0, hu => cases hu; exact v1
              | _ + 1, hu => cases hu
            | _ + 2, hx => cases hx
          · match j, hx, hz with
            | 0, hx, hz =>
              cases hx; cases hz
              refine ⟨(HULh.out _).symm, ?_⟩
              rw [HULh.out]
              exact HRB.out.below F9.out
            | 1, hx, hz =>
              cases hx; cases hz
              exact ⟨HM.out, HPI.out.below F9.out⟩
            | _ + 2, hx, hz => cases hx
        clear hW9 v0 v1 hlb
        refine (radd_any _ _ dims.toNat W9 HAT.out (by simp) (by simp) HDM.out (fun j hj => by
          match j, hj with
          | 0, _ => exact HULh.out _
          | 1, _ => exact HM.out.symm.trans HMD.out
          | _ + 2, hj => simp at hj; omega) HMILD.out).mono ?_
        rintro e W10 ⟨a10, c10, rfl, hi, hb⟩
        have F10 : From W8 W10 := F9.step hb
        rw [HE.out] at hi
        have HI := Lib.hid hi.at_
        have HRA := Lib.hid (HRA.out.below F10.out)
        have HF10 := Lib.hid (HF8.out.trans F10)
        clear hi hb F9 F10 HAT
        go_wp2_with fail
        refine (HSM.out _ _ (usage node dims ps) (usage node dims ps) _ (by rw [HULh.out]; exact HDM.out) (by rw [HULh.out]; exact HDM.out) rfl HI.out HRA.out).mono ?_
        rintro e W11 ⟨rfl, hb⟩
        have HZ := Lib.hid (HF6.out.trans (HF10.out.step hb))
        clear hb
        go_wp2
        go_ret
        exact ⟨rfl, HZ.out.out⟩
end Go.Proofs.YtkdmjpakpmnhgaaGreatDoor
