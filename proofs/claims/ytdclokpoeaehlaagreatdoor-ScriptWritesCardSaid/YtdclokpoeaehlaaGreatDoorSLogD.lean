/- hammockref24.Line. -/
import Derived.Test.YtdclokpoeaehlaaGreatDoorSLogC
namespace Go.Proofs.YtdclokpoeaehlaaGreatDoor
set_option linter.all false
open Go.RowKit

theorem join4 (a b c d : List UInt8) : Lib.join [a, b, c, d] [32] = a ++ 32 :: b ++ 32 :: c ++ 32 :: d := by
  rw [Lib.join_cons]
  simp [Lib.joinTail]
set_option maxHeartbeats 2000000 in
set_option maxRecDepth 100000 in
theorem rline_none (d : Dec) (w : World) (h : ¬ (dname d.kind ≠ [] ∧ inR d.id ∧ inR d.node ∧ inR d.at_)) :
    Calls Tryz.prog 18 #[decV d] w fun e w' => e = .returned (.string (str [])) ∧ Below w.heap.size w w' := by
  obtain ⟨k, x, y, z⟩ := d
  simp only at h
  have hb : Below w.heap.size w (w.alloc (.cells #[.int .i64 k, .int .i64 x, .int .i64 y, .int .i64 z] 23)) := (Below.refl _ _).alloc (Nat.le_refl _) _
  have I := rname_any k (w.alloc (.cells #[.int .i64 k, .int .i64 x, .int .i64 y, .int .i64 z] 23))
  have c1 : (w.alloc (.cells #[.int .i64 k, .int .i64 x, .int .i64 y, .int .i64 z] 23)).cell? ⟨w.heap.size, 1, none⟩ = some (.int .i64 x) := by go_simp
  have c2 : (w.alloc (.cells #[.int .i64 k, .int .i64 x, .int .i64 y, .int .i64 z] 23)).cell? ⟨w.heap.size, 2, none⟩ = some (.int .i64 y) := by go_simp
  have c3 : (w.alloc (.cells #[.int .i64 k, .int .i64 x, .int .i64 y, .int .i64 z] 23)).cell? ⟨w.heap.size, 3, none⟩ = some (.int .i64 z) := by go_simp
  have hs : w.heap.size < (w.alloc (.cells #[.int .i64 k, .int .i64 x, .int .i64 y, .int .i64 z] 23)).heap.size := by simp
  have I' : Calls Tryz.prog 16 #[.int .i64 k] (w.alloc (.cells #[.int .i64 k, .int .i64 x, .int .i64 y, .int .i64 z] 23)) fun e w' => e = .returned (.string (str (dname k))) ∧ (Hid (Below w.heap.size w w') ∧ w'.cell? ⟨w.heap.size, 1, none⟩ = some (.int .i64 x) ∧ w'.cell? ⟨w.heap.size, 2, none⟩ = some (.int .i64 y) ∧ w'.cell? ⟨w.heap.size, 3, none⟩ = some (.int .i64 z)) :=
    I.mono fun e w' ⟨he, hw⟩ => ⟨he, hb.trans (hw.mono hb.size), keepl hw c1, keepl hw c2, keepl hw c3⟩
  have HI := Lib.hid I'
  clear I I' hb c1 c2 c3 hs
  by_cases hn : dname k = []
  · have hem : (str (dname k)).toList.isEmpty = true := by rw [hn]; exact str_isEmpty []
    generalize str (dname k) = s at *
    clear h hn
    go_enter Tryz.func18, Tryz.ntmps18
    go_wp2_with fail
    refine HI.out.mono ?_
    rintro e w1 ⟨rfl, HB, c1, c2, c3⟩
    go_wp2
    go_ret
    exact ⟨rfl, HB.out⟩
  have hem : (str (dname k)).toList.isEmpty = false := by rw [str_isEmpty]; cases h0 : dname k with | nil => exact absurd h0 hn | cons _ _ => rfl
  generalize str (dname k) = s at *
  by_cases hx : inR x
  · by_cases hy : inR y
    · have hz := not_inR (z := z) fun hz => h ⟨hn, hx, hy, hz⟩
      obtain ⟨x0, x1⟩ := hx
      obtain ⟨y0, y1⟩ := hy
      clear h hn
      rcases hz with hz | hz
      all_goals
        go_enter Tryz.func18, Tryz.ntmps18
        go_wp2_with fail
        refine HI.out.mono ?_
        rintro e w1 ⟨rfl, HB, c1, c2, c3⟩
        go_wp2
        go_ret
        exact ⟨rfl, HB.out⟩
    · have hz := not_inR hy
      obtain ⟨x0, x1⟩ := hx
      clear h hn hy
      rcases hz with hz | hz
      all_goals
        go_enter Tryz.func18, Tryz.ntmps18
        go_wp2_with fail
        refine HI.out.mono ?_
        rintro e w1 ⟨rfl, HB, c1, c2, c3⟩
        go_wp2
        go_ret
        exact ⟨rfl, HB.out⟩
  · have hz := not_inR hx
    clear h hn hx
    rcases hz with hz | hz
    all_goals
      go_enter Tryz.func18, Tryz.ntmps18
      go_wp2_with fail
      refine HI.out.mono ?_
      rintro e w1 ⟨rfl, HB, c1, c2, c3⟩
      go_wp2
      go_ret
      exact ⟨rfl, HB.out⟩
set_option maxHeartbeats 4000000 in
set_option maxRecDepth 100000 in
theorem rline_some (d : Dec) (w : World) (hn : dname d.kind ≠ []) (h : inR d.id ∧ inR d.node ∧ inR d.at_) :
    Calls Tryz.prog 18 #[decV d] w fun e w' => e = .returned (.string (str (Lib.join [dname d.kind, dword d.id, dword d.node, dword d.at_] [32]))) ∧ Below w.heap.size w w' := by
  obtain ⟨k, x, y, z⟩ := d
  simp only at h hn ⊢
  obtain ⟨⟨x0, x1⟩, ⟨y0, y1⟩, ⟨z0, z1⟩⟩ := h
  have hb : Below w.heap.size w (w.alloc (.cells #[.int .i64 k, .int .i64 x, .int .i64 y, .int .i64 z] 23)) := (Below.refl _ _).alloc (Nat.le_refl _) _
  have I := fun w' => rname_any k w'
  have hem : (str (dname k)).toList.isEmpty = false := by rw [str_isEmpty]; cases h0 : dname k with | nil => exact absurd h0 hn | cons _ _ => rfl
  have V1 := fun w' => value_any x w' (by omega) (by omega)
  have V2 := fun w' => value_any y w' (by omega) (by omega)
  have V3 := fun w' => value_any z w' (by omega) (by omega)
  have l0 := dname_le k
  have l1 := dword_le x (by omega) (by omega)
  have l2 := dword_le y (by omega) (by omega)
  have l3 := dword_le z (by omega) (by omega)
  rw [join4]
  generalize dname k = nm at *
  generalize dword x = sx at *
  generalize dword y = sy at *
  generalize dword z = sz at *
  have a1 : ∀ w, (Op.stringOp .add (str nm) (str (32 :: sx))).run Tryz.prog w = .ok (.string (str (nm ++ 32 :: sx))) w := fun w => add_str w _ _ (by simp; omega)
  have a2 : ∀ w, (Op.stringOp .add (str (nm ++ 32 :: sx)) (str (32 :: sy))).run Tryz.prog w = .ok (.string (str (nm ++ 32 :: sx ++ 32 :: sy))) w := fun w => add_str w _ _ (by simp; omega)
  have a3 : ∀ w, (Op.stringOp .add (str (nm ++ 32 :: sx ++ 32 :: sy)) (str (32 :: sz))).run Tryz.prog w = .ok (.string (str (nm ++ 32 :: sx ++ 32 :: sy ++ 32 :: sz))) w := fun w => add_str w _ _ (by simp; omega)
  generalize nm ++ 32 :: sx ++ 32 :: sy ++ 32 :: sz = t3 at *
  generalize nm ++ 32 :: sx ++ 32 :: sy = t2 at *
  generalize nm ++ 32 :: sx = t1 at *
  have HB := Lib.hid hb
  have H0 := Lib.hid I
  have H1 := Lib.hid V1
  have H2 := Lib.hid V2
  have H3 := Lib.hid V3
  clear I V1 V2 V3 hb hn l0 l1 l2 l3
  have Fa : From (w.alloc (.cells #[.int .i64 k, .int .i64 x, .int .i64 y, .int .i64 z] 23)) (w.alloc (.cells #[.int .i64 k, .int .i64 x, .int .i64 y, .int .i64 z] 23)) := From.refl _
  have HC : Hid (∀ w', From (w.alloc (.cells #[.int .i64 k, .int .i64 x, .int .i64 y, .int .i64 z] 23)) w' → (w'.cell? ⟨w.heap.size, 0, none⟩ = some (.int .i64 k) ∧ w'.cell? ⟨w.heap.size, 1, none⟩ = some (.int .i64 x) ∧ w'.cell? ⟨w.heap.size, 2, none⟩ = some (.int .i64 y) ∧ w'.cell? ⟨w.heap.size, 3, none⟩ = some (.int .i64 z))) := fun w' hf => ⟨hf.cell (by go_simp), hf.cell (by go_simp), hf.cell (by go_simp), hf.cell (by go_simp)⟩
  go_enter Tryz.func18, Tryz.ntmps18
  go_wp2_with fail
  refine (H0.out _).mono ?_
  rintro e W ⟨rfl, hb0⟩
  have Fw := From.step Fa hb0
  obtain ⟨c0, c1, c2, c3⟩ := HC.out W Fw
  clear hb0 Fa
  go_wp2
  have F0 : From W W := From.refl W
  have Fd : From W W.drew := From.drew F0
  have HW : Hid (∀ w', From W w' → (w'.cell? ⟨w.heap.size, 0, none⟩ = some (.int .i64 k) ∧ w'.cell? ⟨w.heap.size, 1, none⟩ = some (.int .i64 x) ∧ w'.cell? ⟨w.heap.size, 2, none⟩ = some (.int .i64 y) ∧ w'.cell? ⟨w.heap.size, 3, none⟩ = some (.int .i64 z) ∧ From W w')) := fun w' hf =>
    ⟨hf.cell c0, hf.cell c1, hf.cell c2, hf.cell c3, hf⟩
  go_region_held3 (fun w' => w'.cell? ⟨w.heap.size, 0, none⟩ = some (.int .i64 k) ∧ w'.cell? ⟨w.heap.size, 1, none⟩ = some (.int .i64 x) ∧ w'.cell? ⟨w.heap.size, 2, none⟩ = some (.int .i64 y) ∧ w'.cell? ⟨w.heap.size, 3, none⟩ = some (.int .i64 z) ∧ From W w')
    (first
      | (with_reducible exact HW.out _ ‹_›)
      | (with_reducible exact HW.out _ (From.drew ‹_›)))
    (first
    | (go_at_call 16; ((with_reducible refine (H0.out _).mono ?_)); rintro e w1 ⟨rfl, hb⟩; have F1 : From W w1 := From.step ‹_› hb; clear hb)
    | (go_at_call 48; ((with_reducible refine (H1.out _).mono ?_)); rintro e w2 ⟨rfl, q1, rfl⟩; have F2 : From W (w1.drewN q1) := From.drewN F1 q1)
    | (go_at_call 48; ((with_reducible refine (H2.out _).mono ?_)); rintro e w3 ⟨rfl, q2, rfl⟩; have F3 : From W (w1.drewN (q1 + q2)) := From.drewN F1 _)
    | (go_at_call 48; ((with_reducible refine (H3.out _).mono ?_)); rintro e w4 ⟨rfl, q3, rfl⟩; have F4 : From W (w1.drewN (q1 + q2 + q3)) := From.drewN F1 _))
  go_wp2
  go_ret
  exact ⟨rfl, HB.out.trans ((Fw.trans (From.drewN F1 _)).out.mono HB.out.size)⟩
theorem rline_any (d : Dec) (w : World) : Calls Tryz.prog 18 #[decV d] w fun e w' => e = .returned (.string (str (dline d))) ∧ Below w.heap.size w w' := by
  by_cases h : dname d.kind ≠ [] ∧ inR d.id ∧ inR d.node ∧ inR d.at_
  · have e1 : lined d = true := by unfold lined; exact decide_eq_true ⟨h.2.1, h.2.2.1, h.2.2.2, h.1⟩
    rw [show dline d = Lib.join [dname d.kind, dword d.id, dword d.node, dword d.at_] [32] by unfold dline; rw [if_pos e1]]
    exact rline_some d w h.1 h.2
  · have e1 : lined d = false := by
      unfold lined
      rw [decide_eq_false_iff_not]
      exact fun ⟨a, b, c, e⟩ => h ⟨e, a, b, c⟩
    rw [show dline d = [] by unfold dline; rw [e1]; rfl]
    exact rline_none d w h
end Go.Proofs.YtdclokpoeaehlaaGreatDoor
