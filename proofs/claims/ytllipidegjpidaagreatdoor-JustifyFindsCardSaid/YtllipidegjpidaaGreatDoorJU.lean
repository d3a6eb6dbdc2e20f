/- Pods on a node of awake's cluster: none. -/
import Derived.Test.YtllipidegjpidaaGreatDoorJT
namespace Go.Proofs.YtllipidegjpidaaGreatDoor
set_option linter.all false
open Go.RowKit
attribute [local go_sem] Oper.semAt_some

abbrev pod1V (br orr cr : Nat) : Value := podVal 1 0 false 0 (.slice (some ⟨br, orr, none⟩) 1 cr) 0 1 (-1) (-1)
set_option maxHeartbeats 4000000 in
set_option maxRecDepth 100000 in
theorem onc_any (br orr cr nb : Nat) (w : World) (h : w.cell? ⟨nb, 0, none⟩ = some (.int .i64 7)) : Calls Tryz.prog 171 #[pod1V br orr cr, .pointer (some ⟨nb, 0, none⟩)] w fun e w' => e = .returned (.bool false) ∧ From w w' := by
  have hl := cell_lt h
  have hn : ¬ nb = w.heap.size := by omega
  go_enter Tryz.func171, Tryz.ntmps171
  go_wp2
  go_ret
  exact ⟨rfl, (From.refl w).alloc _⟩
set_option maxHeartbeats 4000000 in
set_option maxRecDepth 100000 in
/-- Store.all over a property that the one pod does not have. -/
theorem all1_any (b sb hb nb l : Nat) (w : World) (h : ClF w b) (c0 : w.cell? ⟨sb, 0, none⟩ = some (.pointer (some ⟨b + 2, 0, none⟩))) (c1 : w.cell? ⟨hb, 0, none⟩ = some (.func (.func 171) #[] #[.pointer (some ⟨nb, 0, none⟩)])) (c2 : w.cell? ⟨nb, 0, none⟩ = some (.int .i64 7)) :
    Calls Tryz.prog 192 #[.func (.yield l) #[] #[], .pointer (some ⟨sb, 0, none⟩), .pointer (some ⟨hb, 0, none⟩)] w fun e w' => (∃ v, e = .returned v) ∧ From w w' := by
  obtain ⟨br, orr, cr, bi, ci, b1, o1, c3, b2, o2, c4, hcl, q3, q1, -⟩ := h
  have HG : Hid (∀ X, From w X → Calls Tryz.prog 62 #[.pointer (some ⟨b + 1, 0, none⟩), .int .i64 1] X fun e w' => e = .returned (.tuple #[pod1V br orr cr, .bool true]) ∧ From X w') := fun X f => tgetP_any b (b + 1) 1 1 0 false 0 (some ⟨br, orr, none⟩) 1 cr 0 1 (-1) (-1) true X ((hcl.below f.out).t1) (lookP1 (hcl.below f.out).mp)
  have HO : Hid (∀ X, From w X → Calls Tryz.prog 171 #[pod1V br orr cr, .pointer (some ⟨nb, 0, none⟩)] X fun e w' => e = .returned (.bool false) ∧ From X w') := fun X f => onc_any br orr cr nb X (f.cell c2)
  have p0 := hcl.p0
  have p1 := hcl.p1
  clear hcl q3 c2
  go_enter Tryz.func192, Tryz.ntmps192
  go_wp2
  refine wp_loop_rounds 2 ?_
  rw [rounds_succ]
  go_wp2_with fail
  refine (HG.out _ (From.refl w)).mono ?_
  rintro e W1 ⟨rfl, f1⟩
  have F1 := Lib.hid f1
  have c1 := f1.cell c1
  clear f1
  have hl := cell_lt c1
  go_wp2_with fail
  refine (HO.out _ (F1.out.alloc _)).mono ?_
  rintro e W2 ⟨rfl, f2⟩
  have F2 := Lib.hid ((F1.out.alloc _).trans f2)
  clear f2
  go_wp2
  rw [rounds_succ]
  go_wp2
  go_end0
  exact ⟨⟨_, rfl⟩, F2.out⟩
/-- Its iterator: nothing comes. -/
theorem all1_stops (n : Nat) (b sb hb nb : Nat) (w : World) (h : ClF w b) (c0 : w.cell? ⟨sb, 0, none⟩ = some (.pointer (some ⟨b + 2, 0, none⟩))) (c1 : w.cell? ⟨hb, 0, none⟩ = some (.func (.func 171) #[] #[.pointer (some ⟨nb, 0, none⟩)])) (c2 : w.cell? ⟨nb, 0, none⟩ = some (.int .i64 7)) :
    SeqStopsK Fence.wide n Tryz.prog 192 #[.pointer (some ⟨sb, 0, none⟩), .pointer (some ⟨hb, 0, none⟩)] (fun _ : Empty => #[.nilIface]) KeepsWalks (fun xs => xs = []) (fun _ => False) 0 w := by
  intro l J Jx W hW hJ hJx hY h0
  refine (callsIn_wide.2 (all1_any b sb hb nb l W (h.below hW) (keepl hW c0) (keepl hW c1) (keepl hW c2))).mono ?_
  rintro e w' ⟨hv, hf⟩
  exact ⟨hv, .inl ⟨[], rfl, hJ [] W w' none h0 ⟨hf.out.os, hf.out.tape, hf.out.output, hf.out.size, fun k hk _ => hf.out.block k hk⟩ (fun r e => by cases e)⟩⟩
set_option maxRecDepth 100000 in
theorem pall_any (sp : Option Addr) (h : Nat) (lb : Array Value) (w : World) : Calls Tryz.prog 183 #[.pointer sp, .func (.func h) #[] lb] w fun e w' => e = .returned (.func (.func 192) #[] #[.pointer (some ⟨w.heap.size, 0, none⟩), .pointer (some ⟨w.heap.size + 1, 0, none⟩)]) ∧ w' = (w.alloc (.cells #[.pointer sp] 73)).alloc (.cells #[.func (.func h) #[] lb] 181) := by
  go_enter Tryz.func183, Tryz.ntmps183
  go_wp2
  go_ret
  exact ⟨rfl, rfl⟩
set_option maxHeartbeats 4000000 in
set_option maxRecDepth 100000 in
theorem plist_any (b nb : Nat) (w : World) (h : ClF w b) (c2 : w.cell? ⟨nb, 0, none⟩ = some (.int .i64 7)) :
    Calls Tryz.prog 170 #[.pointer (some ⟨b + 2, 0, none⟩), .func (.func 171) #[] #[.pointer (some ⟨nb, 0, none⟩)]] w fun e w' => e = .returned (.slice none 0 0) ∧ Below w.heap.size w w' := by
  have HCL := Lib.hid h; clear h
  have hnl := cell_lt c2
  refine (callsIn_wide (n := 6)).1 ?_
  refine callsIn_of_wp_marks Tryz.func170 rfl trivial ?_ rfl
  simp only [Tryz.ntmps170, List.size_toArray, List.length_cons, List.length_nil, Nat.reduceAdd, Nat.reduceSub, Array.replicate_succ, Array.replicate_zero, List.push_toArray, List.append_toArray, List.nil_append, List.cons_append]
  gi_wp2_with fail
  refine ⟨trivial, ?_⟩
  refine (callsIn_wide.2 (pall_any _ _ _ _)).mono ?_
  rintro e w' ⟨rfl, rfl⟩
  gi_wp2
  obtain ⟨W0, hW0⟩ : ∃ W0, W0 = ((w.alloc (.cells #[.slice none 0 0] 41)).alloc (.cells #[.pointer (some ⟨b + 2, 0, none⟩)] 73)).alloc (.cells #[.func (.func 171) #[] #[.pointer (some ⟨nb, 0, none⟩)]] 181) := ⟨_, rfl⟩
  have hs0 : W0.heap.size = w.heap.size + 3 := by rw [hW0]; simp
  have hb0 : Below w.heap.size w W0 := by rw [hW0]; exact (((Below.refl _ w).alloc (Nat.le_refl _) _).alloc (by simp) _).alloc (by simp; omega) _
  have c0 : W0.cell? ⟨w.heap.size, 0, none⟩ = some (.slice none 0 0) := by rw [hW0]; go_simp
  have d0 : W0.cell? ⟨w.heap.size + 1, 0, none⟩ = some (.pointer (some ⟨b + 2, 0, none⟩)) := by rw [hW0]; go_simp
  have d1 : W0.cell? ⟨w.heap.size + 2, 0, none⟩ = some (.func (.func 171) #[] #[.pointer (some ⟨nb, 0, none⟩)]) := by rw [hW0]; go_simp
  rw [← hW0]
  clear hW0
  refine wpIn_rangeFunc_ownF rfl (by omega) (gf := 192) (lb := #[.pointer (some ⟨w.heap.size + 1, 0, none⟩), .pointer (some ⟨w.heap.size + 1 + 1, 0, none⟩)]) rfl trivial (enters_of Tryz.func192 (by kernel_rfl) rfl)
    (all1_stops 5 b (w.heap.size + 1) (w.heap.size + 1 + 1) nb W0 (HCL.out.below hb0) d0 d1 (keepl hb0 c2)) walksK_t walksK_b (Below.refl _ _) (fun x => nomatch x)
    (fun pre W => W.cell? ⟨w.heap.size, 0, none⟩ = some (.slice none 0 0) ∧ Below w.heap.size w W)
    (fun _ _ _ => False)
    (OwnFrom.and (Own.from (fun s A B row hs hg hr => cell_kept hs hg hr) _) (ownFrom_below (Nat.le_refl _) (by omega)))
    (fun _ _ _ _ _ hs _ _ => hs)
    ⟨c0, hb0⟩
    (fun x => nomatch x) (fun l x => nomatch x) (fun l pre x => nomatch x) ?done ?stop
  case done =>
    rintro D xs W hD rfl ⟨h1, hB⟩ hK
    have HB := Lib.hid hB; clear hB
    gi_wp2
    refine ⟨by simp, .inl ⟨_, _, rfl, run_takeDeferred hK, ?_⟩⟩
    refine ⟨_, results_tmp rfl _ _ _, rfl, ?_⟩
    exact HB.out.trans (belowK_b (w := w) (Nat.le_refl _) W D _ _ (by omega) hK rfl rfl)
  case stop =>
    rintro D c pre W _ _ h _
    exact h.elim
set_option maxHeartbeats 4000000 in
set_option maxRecDepth 100000 in
theorem pon_any (b : Nat) (w : World) (h : ClF w b) :
    Calls Tryz.prog 152 #[.pointer (some ⟨b + 2, 0, none⟩), .int .i64 7] w fun e w' => e = .returned (.slice none 0 0) ∧ From w w' := by
  have HL : Hid (∀ nb X, From w X → X.cell? ⟨nb, 0, none⟩ = some (.int .i64 7) → Calls Tryz.prog 170 #[.pointer (some ⟨b + 2, 0, none⟩), .func (.func 171) #[] #[.pointer (some ⟨nb, 0, none⟩)]] X fun e w' => e = .returned (.slice none 0 0) ∧ Below X.heap.size X w') := fun nb X f c => plist_any b nb X (h.below f.out) c
  clear h
  go_enter Tryz.func152, Tryz.ntmps152
  go_wp2_with fail
  refine calls_named fun X hX => ?_
  have F1 : From w X := by rw [hX]; exact (From.refl w).alloc _
  have x0 : X.cell? ⟨w.heap.size, 0, none⟩ = some (.int .i64 7) := by rw [hX]; go_simp
  clear hX
  refine (HL.out _ _ F1 x0).mono ?_
  rintro e w1 ⟨rfl, hb⟩
  have HF := Lib.hid (F1.step hb)
  clear hb F1 x0
  go_wp2
  go_ret
  exact ⟨rfl, HF.out⟩
set_option maxHeartbeats 4000000 in
set_option maxRecDepth 100000 in
theorem con_any (b : Nat) (w : World) (h : ClF w b) :
    Calls Tryz.prog 130 #[.pointer (some ⟨b + 6, 0, none⟩), .int .i64 7] w fun e w' => e = .returned (.slice none 0 0) ∧ From w w' := by
  have HS : Hid (∀ X, From w X → Calls Tryz.prog 31 #[.pointer (some ⟨b + 6, 0, none⟩)] X fun e w' => e = .returned (.agg #[.pointer (some ⟨b + 2, 0, none⟩), .pointer (some ⟨b + 5, 0, none⟩)]) ∧ From X w') := fun X f => by
    obtain ⟨br, orr, cr, bi, ci, b1, o1, c1, b2, o2, c2, hcl, -⟩ := h
    exact state_any b X (hcl.below f.out)
  have HO : Hid (∀ X, From w X → Calls Tryz.prog 152 #[.pointer (some ⟨b + 2, 0, none⟩), .int .i64 7] X fun e w' => e = .returned (.slice none 0 0) ∧ From X w') := fun X f => pon_any b X (h.below f.out)
  have hf0 := stateField0 (some ⟨b + 2, 0, none⟩) (some ⟨b + 5, 0, none⟩)
  clear h
  go_enter Tryz.func130, Tryz.ntmps130
  go_wp2_with fail
  refine (HS.out _ (From.refl w)).mono ?_
  rintro e W1 ⟨rfl, f1⟩
  have F1 := Lib.hid f1
  clear f1
  go_wp2_with fail
  refine (HO.out _ F1.out).mono ?_
  rintro e W2 ⟨rfl, f2⟩
  have F2 := Lib.hid (F1.out.trans f2)
  clear f2
  go_wp2
  go_ret
  exact ⟨rfl, F2.out⟩
end Go.Proofs.YtllipidegjpidaaGreatDoor
