/- filter.Nodes, filter.First of awake's cluster. -/
import Derived.Test.YtllipidegjpidaaGreatDoorJX
namespace Go.Proofs.YtllipidegjpidaaGreatDoor
set_option linter.all false
open Go.RowKit
attribute [local go_sem] Oper.semAt_some

/-- The pod in a box. -/
structure PodBox (w : World) (xp bp op cp : Nat) : Prop where
  p0 : w.cell? ⟨xp, 0, none⟩ = some (.int .i64 1)
  p1 : w.cell? ⟨xp, 1, none⟩ = some (.int .i64 0)
  p2 : w.cell? ⟨xp, 2, none⟩ = some (.bool false)
  p3 : w.cell? ⟨xp, 3, none⟩ = some (.int .i64 0)
  p4 : w.cell? ⟨xp, 4, none⟩ = some (.slice (some ⟨bp, op, none⟩) 1 cp)
  p5 : w.cell? ⟨xp, 5, none⟩ = some (.int .i64 0)
  p6 : w.cell? ⟨xp, 6, none⟩ = some (.int .i64 1)
  p7 : w.cell? ⟨xp, 7, none⟩ = some (.int .i64 (-1))
  p8 : w.cell? ⟨xp, 8, none⟩ = some (.int .i64 (-1))
  r : w.cell? ⟨bp, op, none⟩ = some (.int .i64 3)
theorem PodBox.below {w w' : World} {xp bp op cp : Nat} (h : PodBox w xp bp op cp) (f : Below w.heap.size w w') : PodBox w' xp bp op cp :=
  ⟨keepl f h.p0, keepl f h.p1, keepl f h.p2, keepl f h.p3, keepl f h.p4, keepl f h.p5, keepl f h.p6, keepl f h.p7, keepl f h.p8, keepl f h.r⟩
theorem PodBox.new (w : World) {bp op cp : Nat} (hr : w.cell? ⟨bp, op, none⟩ = some (.int .i64 3)) : PodBox (w.alloc (.cells #[.int .i64 1, .int .i64 0, .bool false, .int .i64 0, .slice (some ⟨bp, op, none⟩) 1 cp, .int .i64 0, .int .i64 1, .int .i64 (-1), .int .i64 (-1)] 40)) w.heap.size bp op cp := by
  refine ⟨?_, ?_, ?_, ?_, ?_, ?_, ?_, ?_, ?_, ((From.refl w).alloc _).cell hr⟩ <;> go_simp
set_option maxHeartbeats 4000000 in
set_option maxRecDepth 100000 in
theorem fitc_any (b bp op cp xc xp bn on cn : Nat) (w : World) (h : ClF w b) (hc : w.cell? ⟨xc, 0, none⟩ = some (.pointer (some ⟨b + 6, 0, none⟩))) (hp : PodBox w xp bp op cp) :
    Calls Tryz.prog 70 #[nodeVal bn on cn, .pointer (some ⟨xc, 0, none⟩), .pointer (some ⟨xp, 0, none⟩)] w fun e w' => e = .returned (.bool true) ∧ From w w' := by
  have HF : Hid (∀ X, From w X → Calls Tryz.prog 71 #[.pointer (some ⟨b + 6, 0, none⟩), pod1V bp op cp, .int .i64 7, .slice none 0 0] X fun e w' => e = .returned (.bool true) ∧ From X w') := fun X f => lfits_any b bp op cp X (h.below f.out) (f.cell hp.r)
  obtain ⟨p0, p1, p2, p3, p4, p5, p6, p7, p8, -⟩ := hp
  clear h
  have n0 := cell_lt hc
  have n1 := cell_lt p0
  have n2 : ¬ xp = w.heap.size := by omega
  have n3 : ¬ xc = w.heap.size := by omega
  go_enter Tryz.func70, Tryz.ntmps70
  go_wp2_with fail
  refine (HF.out _ ((From.refl w).alloc _)).mono ?_
  rintro e W1 ⟨rfl, f1⟩
  have HF1 := Lib.hid (((From.refl w).alloc _).trans f1)
  clear f1
  go_wp2
  go_ret
  exact ⟨rfl, HF1.out⟩
theorem abide_from {β : Type} {B : Nat} {J : β → World → Prop} {s : β} {W X : World} (hJ : AbidesFrom B J) (h : J s W) (f : From W X) : J s X :=
  hJ s W X none h ⟨f.out.os, f.out.tape, f.out.output, f.out.size, fun k hk _ => f.out.block k hk⟩ (fun r e => by cases e)
set_option maxHeartbeats 4000000 in
set_option maxRecDepth 100000 in
/-- The nodes that a pod fits on: the one. -/
theorem nodes1_stops (n : Nat) (hn : 1 ≤ n) (b bp op cp sc sh xc xp : Nat) (w : World) (h : ClF w b) (hsc : w.cell? ⟨sc, 0, none⟩ = some (.pointer (some ⟨b + 6, 0, none⟩)))
    (hsh : w.cell? ⟨sh, 0, none⟩ = some (.func (.func 70) #[] #[.pointer (some ⟨xc, 0, none⟩), .pointer (some ⟨xp, 0, none⟩)])) (hc : w.cell? ⟨xc, 0, none⟩ = some (.pointer (some ⟨b + 6, 0, none⟩))) (hp : PodBox w xp bp op cp) :
    SeqStopsK Fence.wide n Tryz.prog 107 #[.pointer (some ⟨sc, 0, none⟩), .pointer (some ⟨sh, 0, none⟩)] (fun _ : Unit => #[.int .i64 7]) KeepsWalks (fun xs => xs = [()]) (fun xs => xs = [()]) 1 w := by
  intro l J Jx W hW hJ hJx hY h0
  have HN : Hid (∀ X, From W X → Calls Tryz.prog 108 #[.pointer (some ⟨b + 6, 0, none⟩)] X fun e w' => ∃ g k, e = .returned (.slice (some ⟨g, 0, none⟩) 1 k) ∧ NodeAt w' g ∧ X.heap.size ≤ g ∧ Below X.heap.size X w') := fun X f => cnodes_any b X (h.below (hW.trans (f.out.mono hW.size)))
  have HF : Hid (∀ bn on cn X, From W X → Calls Tryz.prog 70 #[nodeVal bn on cn, .pointer (some ⟨xc, 0, none⟩), .pointer (some ⟨xp, 0, none⟩)] X fun e w' => e = .returned (.bool true) ∧ From X w') := fun bn on cn X f => fitc_any b bp op cp xc xp bn on cn X (h.below (hW.trans (f.out.mono hW.size))) (f.cell (keepl hW hc)) ((hp.below hW).below f.out)
  have HJ := Lib.hid hJ
  have HY := Lib.hid hY
  have H0 := Lib.hid h0
  have hsc := keepl hW hsc
  have hsh := keepl hW hsh
  have hlc := cell_lt hsc
  have hlh := cell_lt hsh
  clear hJ hY h0 h hc hp hJx hW
  refine callsIn_of_wp Tryz.func107 rfl trivial ?_ rfl
  simp only [Tryz.ntmps107, List.size_toArray, List.length_cons, List.length_nil, Nat.reduceAdd, Nat.reduceSub, Array.replicate_succ, Array.replicate_zero, List.push_toArray, List.append_toArray, List.nil_append, List.cons_append]
  gi_wp2_with fail
  refine ⟨trivial, ?_⟩
  refine (callsIn_wide.2 (HN.out _ (From.refl W))).mono ?_
  rintro e W1 ⟨g, k, rfl, ⟨bn, on, cn, n0, n1, n2⟩, hg, hb⟩
  have f1 : From W W1 := ⟨hb⟩
  have hsh := f1.cell hsh
  have HF1 := Lib.hid f1
  have hl1 := cell_lt n0
  have hw1 := f1.out.size
  have q1 : ¬ sh = W1.heap.size := by omega
  have q4 : sh < W1.heap.size := by omega
  have q2 : ¬ sc = W1.heap.size := by omega
  have q3 : ¬ g = W1.heap.size := by omega
  clear hb f1 n2
  gi_wp2
  refine wpIn_loop_rounds 2 ?_
  rw [roundsIn_succ]
  gi_wp2_with fail
  refine ⟨trivial, ?_⟩
  obtain ⟨X1, hX1⟩ : ∃ X1, X1 = W1.alloc (.cells #[.int .i64 7, .slice (some ⟨bn, on, none⟩) 1 cn] 37) := ⟨_, rfl⟩
  have fX : From W1 X1 := by rw [hX1]; exact (From.refl W1).alloc _
  have m0 : X1.cell? ⟨W1.heap.size, 0, none⟩ = some (.int .i64 7) := by rw [hX1]; go_simp
  rw [← hX1]
  clear hX1
  refine (callsIn_wide.2 (HF.out _ _ _ _ (HF1.out.trans fX))).mono ?_
  rintro e W2 ⟨rfl, f2⟩
  have m0 := f2.cell m0
  have hJ2 : J [] W2 := abide_from HJ.out H0.out ((HF1.out.trans fX).trans f2)
  obtain ⟨fn, tmps, assign, body, hy, hR⟩ := HY.out [] () W2 hJ2 (by simp)
  try dsimp only at hy
  have HR := Lib.hid hR
  clear hR hJ2 f2 fX HN HF HJ HY H0 HF1
  gi_wp2
  refine HR.out.mono ?_
  rintro e W' (⟨rfl, hJ', hk⟩ | ⟨rfl, hJx'⟩)
  · have HJ' := Lib.hid hJ'
    clear hJ' hk
    gi_wp2
    rw [roundsIn_succ]
    gi_wp2
    go_end0
    exact ⟨⟨_, rfl⟩, .inl ⟨[()], rfl, HJ'.out⟩⟩
  · have HJ' := Lib.hid hJx'
    clear hJx'
    gi_wp2
    refine bodyPost_ret (v := .tuple #[]) (by simp only [results, Tryz.results107]; first | rfl | (go_simp; done) | (go_simp; rfl)) rfl ⟨⟨_, rfl⟩, .inr ⟨[()], rfl, HJ'.out⟩⟩
set_option maxRecDepth 100000 in
theorem nodesMk_any (xc xp b : Nat) (w : World) : Calls Tryz.prog 69 #[.pointer (some ⟨b, 0, none⟩), .func (.func 70) #[] #[.pointer (some ⟨xc, 0, none⟩), .pointer (some ⟨xp, 0, none⟩)]] w fun e w' => e = .returned (.func (.func 107) #[] #[.pointer (some ⟨w.heap.size, 0, none⟩), .pointer (some ⟨w.heap.size + 1, 0, none⟩)]) ∧ w' = (w.alloc (.cells #[.pointer (some ⟨b, 0, none⟩)] 44)).alloc (.cells #[.func (.func 70) #[] #[.pointer (some ⟨xc, 0, none⟩), .pointer (some ⟨xp, 0, none⟩)]] 136) := by
  go_enter Tryz.func69, Tryz.ntmps69
  go_wp2
  go_ret
  exact ⟨rfl, rfl⟩
/-- A function that hands on the nodes that awake's pod fits on. -/
def FitsFn (w : World) (sc sh b bp op cp : Nat) : Prop := ∃ xc xp, w.cell? ⟨sc, 0, none⟩ = some (.pointer (some ⟨b + 6, 0, none⟩)) ∧ w.cell? ⟨sh, 0, none⟩ = some (.func (.func 70) #[] #[.pointer (some ⟨xc, 0, none⟩), .pointer (some ⟨xp, 0, none⟩)]) ∧ w.cell? ⟨xc, 0, none⟩ = some (.pointer (some ⟨b + 6, 0, none⟩)) ∧ PodBox w xp bp op cp
theorem FitsFn.below {w w' : World} {sc sh b bp op cp : Nat} (h : FitsFn w sc sh b bp op cp) (f : Below w.heap.size w w') : FitsFn w' sc sh b bp op cp := by
  obtain ⟨xc, xp, h0, h1, h2, h3⟩ := h
  exact ⟨xc, xp, keepl f h0, keepl f h1, keepl f h2, h3.below f⟩
set_option maxHeartbeats 4000000 in
set_option maxRecDepth 100000 in
theorem fitting_any (b bp op cp : Nat) (w : World) (hr : w.cell? ⟨bp, op, none⟩ = some (.int .i64 3)) : Calls Tryz.prog 43 #[.pointer (some ⟨b + 6, 0, none⟩), pod1V bp op cp] w fun e w' => ∃ sc sh, e = .returned (.func (.func 107) #[] #[.pointer (some ⟨sc, 0, none⟩), .pointer (some ⟨sh, 0, none⟩)]) ∧ FitsFn w' sc sh b bp op cp ∧ From w w' := by
  have HM := Lib.hid nodesMk_any
  have HR := Lib.hid hr
  clear hr
  go_enter Tryz.func43, Tryz.ntmps43
  go_wp2_with fail
  refine calls_named fun X hX => ?_
  have F1 : From w X := by rw [hX]; exact ((From.refl w).alloc _).alloc _
  have c0 : X.cell? ⟨w.heap.size, 0, none⟩ = some (.pointer (some ⟨b + 6, 0, none⟩)) := by rw [hX]; go_simp
  have pb : PodBox X (w.heap.size + 1) bp op cp := by
    rw [hX]
    have := PodBox.new (w.alloc (.cells #[.pointer (some ⟨b + 6, 0, none⟩)] 44)) (bp := bp) (op := op) (cp := cp) (((From.refl w).alloc _).cell HR.out)
    rwa [World.size_alloc] at this
  clear hX
  refine (HM.out _ _ _ _).mono ?_
  rintro e w1 ⟨rfl, rfl⟩
  have f2 : From X ((X.alloc (.cells #[.pointer (some ⟨b + 6, 0, none⟩)] 44)).alloc (.cells #[.func (.func 70) #[] #[.pointer (some ⟨w.heap.size, 0, none⟩), .pointer (some ⟨w.heap.size + 1, 0, none⟩)]] 136)) := ((From.refl X).alloc _).alloc _
  have k0 := f2.cell c0
  have HPB := Lib.hid (pb.below f2.out)
  have HF := Lib.hid (F1.trans f2)
  clear pb f2 F1 c0
  go_wp2
  go_ret
  refine ⟨_, _, rfl, ⟨_, _, ?_, ?_, k0, HPB.out⟩, HF.out⟩
  · go_simp
  · go_simp
end Go.Proofs.YtllipidegjpidaaGreatDoor
