/- op.Check. -/
import Derived.Test.YtcegipkhmibdeaaDoorErr
import Derived.Test.YtcegipkhmibdeaaDoorOp
import Derived.Deep.RegionWith
import Derived.Deep.RegionHeld3
import Derived.Deep.DeepFit
namespace Go.Proofs.YtcegipkhmibdeaaDoor
set_option linter.all false
open Go.RowKit

/-- The error of an operation. -/
def checkE (k i c n : Int) (zs : List Int) (d : Int) : Option EV :=
  if k = 1 then (firstE [idE i 0, numberE n (-1073741824) 1073741824]).map (EV.placed k)
  else if k = 2 then (firstE [idE i 0, amountsE zs d]).map (EV.placed k)
  else if k = 4 then (firstE [idE i 0, idE c 1, numberE n 0 1048576, amountsE zs d]).map (EV.placed k)
  else if k = 3 ∨ k = 5 then (idE i 0).map (EV.placed k)
  else if k = 6 then (numberE n 0 1048576).map (EV.placed k)
  else if k = 7 then none
  else some (.fault 1 0)

theorem first2 (b cap : Nat) (e1 e2 : Option EV) (w : World) (h1 : w.cell? ⟨b, 0, none⟩ = some (errV e1)) (h2 : w.cell? ⟨b, 1, none⟩ = some (errV e2)) :
    Calls Tryd.prog 96 #[.slice (some ⟨b, 0, none⟩) 2 cap] w fun e w' => e = .returned (errV (firstE [e1, e2])) ∧ Below w.heap.size w w' :=
  opFirst_any b cap [e1, e2] w (by simp) (fun j hj => by
    match j, hj with
    | 0, _ => exact h1
    | 1, _ => exact h2)
theorem first4 (b cap : Nat) (e1 e2 e3 e4 : Option EV) (w : World) (h1 : w.cell? ⟨b, 0, none⟩ = some (errV e1)) (h2 : w.cell? ⟨b, 1, none⟩ = some (errV e2)) (h3 : w.cell? ⟨b, 2, none⟩ = some (errV e3)) (h4 : w.cell? ⟨b, 3, none⟩ = some (errV e4)) :
    Calls Tryd.prog 96 #[.slice (some ⟨b, 0, none⟩) 4 cap] w fun e w' => e = .returned (errV (firstE [e1, e2, e3, e4])) ∧ Below w.heap.size w w' :=
  opFirst_any b cap [e1, e2, e3, e4] w (by simp) (fun j hj => by
    match j, hj with
    | 0, _ => exact h1
    | 1, _ => exact h2
    | 2, _ => exact h3
    | 3, _ => exact h4)
theorem errV_cells (e : Option EV) : (errV e).cells = #[errV e] := by cases e with | none => rfl | some e => cases e <;> rfl
set_option maxRecDepth 100000 in
theorem opCheck_1 (i c n : Int) (f : Bool) (am : Value) (d : Int) (w : World) :
    Calls Tryd.prog 43 #[opV 1 i c n f (am), .int .i64 d] w fun e w' => e = .returned (errV ((firstE [idE i 0, numberE n (-1073741824) 1073741824]).map (EV.placed 1))) ∧ Below w.heap.size w w' := by
  have C1 := opId_any i 0
  generalize idE i 0 = e1 at *
  have C2 := opNumber_any n (-1073741824) 1073741824
  generalize numberE n (-1073741824) 1073741824 = e2 at *
  have CI := faultIn_any 1 (firstE [e1, e2])
  have CF := fun b cap => first2 b cap e1 e2
  generalize firstE [e1, e2] = ef at *
  have q1 := errV_cells e1
  have q2 := errV_cells e2
  unfold Value.cells at q1 q2
  have H1 := Lib.hid C1; clear C1
  have H2 := Lib.hid C2; clear C2
  have HI := Lib.hid CI; clear CI
  have HF := Lib.hid CF; clear CF
  go_enter Tryd.func43, Tryd.ntmps43
  go_wp2
  obtain ⟨w0, hw0⟩ : ∃ w0, w0 = w.alloc (.cells #[.int .i64 1, .int .i64 i, .int .i64 c, .int .i64 n, .bool f, am] 41) := ⟨_, rfl⟩
  change Code.wp _ _ _ _ (w.alloc (.cells #[.int .i64 1, .int .i64 i, .int .i64 c, .int .i64 n, .bool f, am] 41))
  rw [← hw0]
  have p0 : w0.cell? ⟨w.heap.size, 0, none⟩ = some (.int .i64 1) := by rw [hw0]; go_simp
  have p1 : w0.cell? ⟨w.heap.size, 1, none⟩ = some (.int .i64 i) := by rw [hw0]; go_simp
  have p3 : w0.cell? ⟨w.heap.size, 3, none⟩ = some (.int .i64 n) := by rw [hw0]; go_simp
  have hB : Below w.heap.size w w0 := by rw [hw0]; exact (Below.refl _ w).alloc (Nat.le_refl _) _
  have hlt : w.heap.size < w0.heap.size := by rw [hw0]; simp
  clear hw0
  go_region_held3 (fun w' => w'.cell? ⟨w.heap.size, 0, none⟩ = some (.int .i64 1) ∧ w'.cell? ⟨w.heap.size, 1, none⟩ = some (.int .i64 i) ∧ w'.cell? ⟨w.heap.size, 3, none⟩ = some (.int .i64 n))
    (first
      | go_keep
      | ((repeat' apply And.intro) <;> (rw [hc _ _ (by simp; omega)]; go_simp))
)
    (first
    | (go_at_call 97; ((with_reducible refine (H1.out _).mono ?_)); rintro e w1 ⟨rfl, rfl⟩)
    | (go_at_call 98; ((with_reducible refine (H2.out _).mono ?_)); rintro e w2 ⟨rfl, rfl⟩)
    | (go_at_call 96; refine (HF.out _ _ _ (by go_simp) (by go_simp)).mono ?_; rintro e w9 ⟨rfl, hb⟩; obtain ⟨hc, hf⟩ := bcell hb))
  have r0 : w9.cell? ⟨w.heap.size, 0, none⟩ = some (.int .i64 1) := by rw [hc _ _ (by simp; omega)]; go_simp
  go_wp2_with fail
  refine (HI.out _).mono ?_
  rintro e w10 ⟨rfl, rfl⟩
  go_wp2
  go_ret
  exact ⟨rfl, hB.trans ((((Below.refl _ w0).drew.alloc (Nat.le_refl _) _).trans (hb.mono (by simp))).mono hB.size)⟩
set_option maxRecDepth 100000 in
theorem opCheck_3 (i c n : Int) (f : Bool) (am : Value) (d : Int) (w : World) :
    Calls Tryd.prog 43 #[opV 3 i c n f (am), .int .i64 d] w fun e w' => e = .returned (errV ((idE i 0).map (EV.placed 3))) ∧ Below w.heap.size w w' := by
  have C1 := opId_any i 0
  generalize idE i 0 = e1 at *
  have CI := faultIn_any 3 e1
  have H1 := Lib.hid C1; clear C1
  have HI := Lib.hid CI; clear CI
  go_enter Tryd.func43, Tryd.ntmps43
  go_wp2_with fail
  refine (H1.out _).mono ?_
  rintro e w1 ⟨rfl, rfl⟩
  go_wp2_with fail
  refine (HI.out _).mono ?_
  rintro e w2 ⟨rfl, rfl⟩
  go_wp2
  go_ret
  exact ⟨rfl, (Below.refl _ w).alloc (Nat.le_refl _) _⟩
set_option maxRecDepth 100000 in
theorem opCheck_5 (i c n : Int) (f : Bool) (am : Value) (d : Int) (w : World) :
    Calls Tryd.prog 43 #[opV 5 i c n f (am), .int .i64 d] w fun e w' => e = .returned (errV ((idE i 0).map (EV.placed 5))) ∧ Below w.heap.size w w' := by
  have C1 := opId_any i 0
  generalize idE i 0 = e1 at *
  have CI := faultIn_any 5 e1
  have H1 := Lib.hid C1; clear C1
  have HI := Lib.hid CI; clear CI
  go_enter Tryd.func43, Tryd.ntmps43
  go_wp2_with fail
  refine (H1.out _).mono ?_
  rintro e w1 ⟨rfl, rfl⟩
  go_wp2_with fail
  refine (HI.out _).mono ?_
  rintro e w2 ⟨rfl, rfl⟩
  go_wp2
  go_ret
  exact ⟨rfl, (Below.refl _ w).alloc (Nat.le_refl _) _⟩
set_option maxRecDepth 100000 in
theorem opCheck_6 (i c n : Int) (f : Bool) (am : Value) (d : Int) (w : World) :
    Calls Tryd.prog 43 #[opV 6 i c n f (am), .int .i64 d] w fun e w' => e = .returned (errV ((numberE n 0 1048576).map (EV.placed 6))) ∧ Below w.heap.size w w' := by
  have C1 := opNumber_any n 0 1048576
  generalize numberE n 0 1048576 = e1 at *
  have CI := faultIn_any 6 e1
  have H1 := Lib.hid C1; clear C1
  have HI := Lib.hid CI; clear CI
  go_enter Tryd.func43, Tryd.ntmps43
  go_wp2_with fail
  refine (H1.out _).mono ?_
  rintro e w1 ⟨rfl, rfl⟩
  go_wp2_with fail
  refine (HI.out _).mono ?_
  rintro e w2 ⟨rfl, rfl⟩
  go_wp2
  go_ret
  exact ⟨rfl, (Below.refl _ w).alloc (Nat.le_refl _) _⟩
set_option maxRecDepth 100000 in
theorem opCheck_7 (i c n : Int) (f : Bool) (am : Value) (d : Int) (w : World) :
    Calls Tryd.prog 43 #[opV 7 i c n f am, .int .i64 d] w fun e w' => e = .returned (errV none) ∧ Below w.heap.size w w' := by
  have H := Lib.hid (faultIn_any 7 none)
  show Calls _ _ _ _ fun e w' => e = .returned .nilIface ∧ _
  go_enter Tryd.func43, Tryd.ntmps43
  go_wp2_with fail
  refine (H.out _).mono ?_
  rintro e w1 ⟨rfl, rfl⟩
  go_wp2
  go_ret
  exact ⟨rfl, (Below.refl _ w).alloc (Nat.le_refl _) _⟩
set_option maxRecDepth 100000 in
theorem opCheck_l (k : Int) (hk : k < 1 ∨ 7 < k) (i c n : Int) (f : Bool) (am : Value) (d : Int) (w : World) :
    Calls Tryd.prog 43 #[opV k i c n f am, .int .i64 d] w fun e w' => e = .returned (errV (some (.fault 1 0))) ∧ Below w.heap.size w w' := by
  have H := Lib.hid faultNew_any
  rcases hk with hk | hk
  all_goals
    go_enter Tryd.func43, Tryd.ntmps43
    go_wp2_with fail
    refine (H.out _ _ _).mono ?_
    rintro e w1 ⟨rfl, rfl⟩
    go_wp2
    go_ret
    exact ⟨rfl, (Below.refl _ w).alloc (Nat.le_refl _) _⟩
set_option maxRecDepth 100000 in
theorem opCheck_2 (i c n : Int) (f : Bool) (a : Option Addr) (cp : Nat) (zs : List Int) (d : Int) (w : World) (hx : zs.length * 8 ≤ 140737488351232) (h : IntsAt w (.slice a zs.length cp) zs) :
    Calls Tryd.prog 43 #[opV 2 i c n f (.slice a zs.length cp), .int .i64 d] w fun e w' => e = .returned (errV ((firstE [idE i 0, amountsE zs d]).map (EV.placed 2))) ∧ Below w.heap.size w w' := by
  have C1 := opId_any i 0
  generalize idE i 0 = e1 at *
  have C2 := opAmounts_any (.slice a zs.length cp) zs d
  generalize amountsE zs d = e2 at *
  have CI := faultIn_any 2 (firstE [e1, e2])
  have CF := fun b cap => first2 b cap e1 e2
  generalize firstE [e1, e2] = ef at *
  have q1 := errV_cells e1
  have q2 := errV_cells e2
  unfold Value.cells at q1 q2
  have H1 := Lib.hid C1; clear C1
  have H2 := Lib.hid C2; clear C2
  have HI := Lib.hid CI; clear CI
  have HF := Lib.hid CF; clear CF
  have HX := Lib.hid hx; clear hx
  have HH := Lib.hid h; clear h
  generalize zs.length = l at *
  go_enter Tryd.func43, Tryd.ntmps43
  go_wp2
  obtain ⟨w0, hw0⟩ : ∃ w0, w0 = w.alloc (.cells #[.int .i64 2, .int .i64 i, .int .i64 c, .int .i64 n, .bool f, .slice a l cp] 41) := ⟨_, rfl⟩
  change Code.wp _ _ _ _ (w.alloc (.cells #[.int .i64 2, .int .i64 i, .int .i64 c, .int .i64 n, .bool f, .slice a l cp] 41))
  rw [← hw0]
  have p0 : w0.cell? ⟨w.heap.size, 0, none⟩ = some (.int .i64 2) := by rw [hw0]; go_simp
  have p1 : w0.cell? ⟨w.heap.size, 1, none⟩ = some (.int .i64 i) := by rw [hw0]; go_simp
  have p5 : w0.cell? ⟨w.heap.size, 5, none⟩ = some (.slice a l cp) := by rw [hw0]; go_simp
  have hB : Below w.heap.size w w0 := by rw [hw0]; exact (Below.refl _ w).alloc (Nat.le_refl _) _
  have hlt : w.heap.size < w0.heap.size := by rw [hw0]; simp
  clear hw0
  go_region_held3 (fun w' => w'.cell? ⟨w.heap.size, 0, none⟩ = some (.int .i64 2) ∧ w'.cell? ⟨w.heap.size, 1, none⟩ = some (.int .i64 i) ∧ w'.cell? ⟨w.heap.size, 5, none⟩ = some (.slice a l cp))
    (first
      | go_keep
      | ((repeat' apply And.intro) <;> (rw [hc _ _ (by simp; omega)]; go_simp))
      | ((repeat' apply And.intro) <;> (rw [hc0 _ _ (by simp; omega)]; go_simp))
)
    (first
    | (go_at_call 97; ((with_reducible refine (H1.out _).mono ?_)); rintro e w1 ⟨rfl, rfl⟩)
    | (go_at_call 99; refine (H2.out _ HX.out (HH.out.below (hB.trans ((Below.refl _ w0).drew.mono hB.size)))).mono ?_; rintro e w2 ⟨rfl, hb0⟩; obtain ⟨hc0, hf0⟩ := bcell hb0; have hs0 : w0.heap.size ≤ w2.heap.size := hb0.size)
    | (go_at_call 96; refine (HF.out _ _ _ (by go_simp) (by go_simp)).mono ?_; rintro e w9 ⟨rfl, hb⟩; obtain ⟨hc, hf⟩ := bcell hb))
  have r0 : w9.cell? ⟨w.heap.size, 0, none⟩ = some (.int .i64 2) := by rw [hc _ _ (by simp; omega), World.cell?_alloc_lt _ _ _ (by show w.heap.size < _; omega), hc0 _ _ (by simp; omega)]; go_simp
  go_wp2_with fail
  refine (HI.out _).mono ?_
  rintro e w10 ⟨rfl, rfl⟩
  go_wp2
  go_ret
  exact ⟨rfl, hB.trans (((((Below.refl _ w0).drew.trans (show Below w0.heap.size w0.drew _ from hb0)).alloc hs0 _).trans (hb.mono (by simp; omega))).mono hB.size)⟩
set_option maxRecDepth 100000 in
theorem opCheck_4 (i c n : Int) (f : Bool) (a : Option Addr) (cp : Nat) (zs : List Int) (d : Int) (w : World) (hx : zs.length * 8 ≤ 140737488351232) (h : IntsAt w (.slice a zs.length cp) zs) :
    Calls Tryd.prog 43 #[opV 4 i c n f (.slice a zs.length cp), .int .i64 d] w fun e w' => e = .returned (errV ((firstE [idE i 0, idE c 1, numberE n 0 1048576, amountsE zs d]).map (EV.placed 4))) ∧ Below w.heap.size w w' := by
  have C1 := opId_any i 0
  generalize idE i 0 = e1 at *
  have C2 := opId_any c 1
  generalize idE c 1 = e2 at *
  have C3 := opNumber_any n 0 1048576
  generalize numberE n 0 1048576 = e3 at *
  have C4 := opAmounts_any (.slice a zs.length cp) zs d
  generalize amountsE zs d = e4 at *
  have CI := faultIn_any 4 (firstE [e1, e2, e3, e4])
  have CF := fun b cap => first4 b cap e1 e2 e3 e4
  generalize firstE [e1, e2, e3, e4] = ef at *
  have q1 := errV_cells e1
  have q2 := errV_cells e2
  have q3 := errV_cells e3
  have q4 := errV_cells e4
  unfold Value.cells at q1 q2 q3 q4
  have H1 := Lib.hid C1; clear C1
  have H2 := Lib.hid C2; clear C2
  have H3 := Lib.hid C3; clear C3
  have H4 := Lib.hid C4; clear C4
  have HI := Lib.hid CI; clear CI
  have HF := Lib.hid CF; clear CF
  have HX := Lib.hid hx; clear hx
  have HH := Lib.hid h; clear h
  generalize zs.length = l at *
  go_enter Tryd.func43, Tryd.ntmps43
  go_wp2
  obtain ⟨w0, hw0⟩ : ∃ w0, w0 = w.alloc (.cells #[.int .i64 4, .int .i64 i, .int .i64 c, .int .i64 n, .bool f, .slice a l cp] 41) := ⟨_, rfl⟩
  change Code.wp _ _ _ _ (w.alloc (.cells #[.int .i64 4, .int .i64 i, .int .i64 c, .int .i64 n, .bool f, .slice a l cp] 41))
  rw [← hw0]
  have p0 : w0.cell? ⟨w.heap.size, 0, none⟩ = some (.int .i64 4) := by rw [hw0]; go_simp
  have p1 : w0.cell? ⟨w.heap.size, 1, none⟩ = some (.int .i64 i) := by rw [hw0]; go_simp
  have p2 : w0.cell? ⟨w.heap.size, 2, none⟩ = some (.int .i64 c) := by rw [hw0]; go_simp
  have p3 : w0.cell? ⟨w.heap.size, 3, none⟩ = some (.int .i64 n) := by rw [hw0]; go_simp
  have p5 : w0.cell? ⟨w.heap.size, 5, none⟩ = some (.slice a l cp) := by rw [hw0]; go_simp
  have hB : Below w.heap.size w w0 := by rw [hw0]; exact (Below.refl _ w).alloc (Nat.le_refl _) _
  have hlt : w.heap.size < w0.heap.size := by rw [hw0]; simp
  clear hw0
  go_region_held3 (fun w' => w'.cell? ⟨w.heap.size, 0, none⟩ = some (.int .i64 4) ∧ w'.cell? ⟨w.heap.size, 1, none⟩ = some (.int .i64 i) ∧ w'.cell? ⟨w.heap.size, 2, none⟩ = some (.int .i64 c) ∧ w'.cell? ⟨w.heap.size, 3, none⟩ = some (.int .i64 n) ∧ w'.cell? ⟨w.heap.size, 5, none⟩ = some (.slice a l cp))
    (first
      | go_keep
      | ((repeat' apply And.intro) <;> (rw [hc _ _ (by simp; omega)]; go_simp))
      | ((repeat' apply And.intro) <;> (rw [hc0 _ _ (by simp; omega)]; go_simp))
)
    (first
    | (go_at_call 97; ((with_reducible refine (H1.out _).mono ?_)); rintro e w1 ⟨rfl, rfl⟩)
    | (go_at_call 97; ((with_reducible refine (H2.out _).mono ?_)); rintro e w2 ⟨rfl, rfl⟩)
    | (go_at_call 98; ((with_reducible refine (H3.out _).mono ?_)); rintro e w3 ⟨rfl, rfl⟩)
    | (go_at_call 99; refine (H4.out _ HX.out (HH.out.below (hB.trans ((Below.refl _ w0).drew.mono hB.size)))).mono ?_; rintro e w4 ⟨rfl, hb0⟩; obtain ⟨hc0, hf0⟩ := bcell hb0; have hs0 : w0.heap.size ≤ w4.heap.size := hb0.size)
    | (go_at_call 96; refine (HF.out _ _ _ (by go_simp) (by go_simp) (by go_simp) (by go_simp)).mono ?_; rintro e w9 ⟨rfl, hb⟩; obtain ⟨hc, hf⟩ := bcell hb))
  have r0 : w9.cell? ⟨w.heap.size, 0, none⟩ = some (.int .i64 4) := by rw [hc _ _ (by simp; omega), World.cell?_alloc_lt _ _ _ (by show w.heap.size < _; omega), hc0 _ _ (by simp; omega)]; go_simp
  go_wp2_with fail
  refine (HI.out _).mono ?_
  rintro e w10 ⟨rfl, rfl⟩
  go_wp2
  go_ret
  exact ⟨rfl, hB.trans (((((Below.refl _ w0).drew.trans (show Below w0.heap.size w0.drew _ from hb0)).alloc hs0 _).trans (hb.mono (by simp; omega))).mono hB.size)⟩

theorem opCheck_any (k i c n : Int) (f : Bool) (am : Value) (zs : List Int) (d : Int) (w : World) (hx : zs.length * 8 ≤ 140737488351232) (h : IntsAt w am zs) :
    Calls Tryd.prog 43 #[opV k i c n f am, .int .i64 d] w fun e w' => e = .returned (errV (checkE k i c n zs d)) ∧ Below w.heap.size w w' := by
  obtain ⟨a, cp, rfl, -⟩ := id h
  unfold checkE
  by_cases h1 : k = 1
  · subst h1; rw [if_pos rfl]; exact opCheck_1 _ _ _ _ _ _ _
  rw [if_neg h1]
  by_cases h2 : k = 2
  · subst h2; rw [if_pos rfl]; exact opCheck_2 _ _ _ _ _ _ _ _ _ hx h
  rw [if_neg h2]
  by_cases h4 : k = 4
  · subst h4; rw [if_pos rfl]; exact opCheck_4 _ _ _ _ _ _ _ _ _ hx h
  rw [if_neg h4]
  by_cases h3 : k = 3
  · subst h3; rw [if_pos (.inl rfl)]; exact opCheck_3 _ _ _ _ _ _ _
  by_cases h5 : k = 5
  · subst h5; rw [if_pos (.inr rfl)]; exact opCheck_5 _ _ _ _ _ _ _
  rw [if_neg (by omega)]
  by_cases h6 : k = 6
  · subst h6; rw [if_pos rfl]; exact opCheck_6 _ _ _ _ _ _ _
  rw [if_neg h6]
  by_cases h7 : k = 7
  · subst h7; rw [if_pos rfl]; exact opCheck_7 _ _ _ _ _ _ _
  rw [if_neg h7]
  exact opCheck_l k (show k < 1 ∨ 7 < k by omega) _ _ _ _ _ _ _
end Go.Proofs.YtcegipkhmibdeaaDoor
