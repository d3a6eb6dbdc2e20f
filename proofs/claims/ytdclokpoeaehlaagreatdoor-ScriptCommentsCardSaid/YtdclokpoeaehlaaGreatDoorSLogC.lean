/- log.Line and its reference. -/
import Derived.Test.YtdclokpoeaehlaaGreatDoorSLogB
import Derived.Deep.RegionHeld3
namespace Go.Proofs.YtdclokpoeaehlaaGreatDoor
set_option linter.all false
open Go.RowKit

theorem idx3 (x y z : Int) : (∀ w, (Instr.index 75 (.agg #[.int .i64 x, .int .i64 y, .int .i64 z]) (.int .i64 0)).run Tryz.prog w = .ok (.int .i64 x) w) ∧ (∀ w, (Instr.index 75 (.agg #[.int .i64 x, .int .i64 y, .int .i64 z]) (.int .i64 1)).run Tryz.prog w = .ok (.int .i64 y) w) ∧ (∀ w, (Instr.index 75 (.agg #[.int .i64 x, .int .i64 y, .int .i64 z]) (.int .i64 2)).run Tryz.prog w = .ok (.int .i64 z) w) :=
  ⟨fun _ => by kernel_rfl, fun _ => by kernel_rfl, fun _ => by kernel_rfl⟩
theorem not_lined_range {d : Dec} (h : ¬ (inR d.id ∧ inR d.node ∧ inR d.at_)) : lined d = false ∧ dline d = [] := by
  have h1 : lined d = false := by
    unfold lined
    rw [decide_eq_false_iff_not]
    exact fun ⟨a, b, c, _⟩ => h ⟨a, b, c⟩
  exact ⟨h1, by unfold dline; rw [h1]; rfl⟩
theorem not_lined_name {d : Dec} (h : dname d.kind = []) : lined d = false ∧ dline d = [] := by
  have h1 : lined d = false := by
    unfold lined
    rw [decide_eq_false_iff_not]
    exact fun ⟨_, _, _, a⟩ => a h
  exact ⟨h1, by unfold dline; rw [h1]; rfl⟩
theorem not_inR {z : Int} (h : ¬ inR z) : z < -4611686018427387904 ∨ 4611686018427387904 < z := by
  unfold inR at h; omega
set_option maxHeartbeats 1000000 in
set_option maxRecDepth 100000 in
theorem line_far (d : Dec) (w : World) (h : ¬ (inR d.id ∧ inR d.node ∧ inR d.at_)) :
    Calls Tryz.prog 17 #[decV d] w fun e w' => e = .returned (.tuple #[.string (str []), .bool false]) ∧ Below w.heap.size w w' := by
  obtain ⟨k, x, y, z⟩ := d
  simp only at h
  obtain ⟨i0, i1, i2⟩ := idx3 x y z
  by_cases hx : inR x
  · by_cases hy : inR y
    · have hz := not_inR (z := z) fun hz => h ⟨hx, hy, hz⟩
      obtain ⟨x0, x1⟩ := hx
      obtain ⟨y0, y1⟩ := hy
      clear h
      rcases hz with hz | hz
      all_goals
        go_enter Tryz.func17, Tryz.ntmps17
        go_wp2
        refine wp_loop_rounds 3 ?_
        rw [rounds_succ]
        go_wp2
        rw [rounds_succ]
        go_wp2
        rw [rounds_succ]
        go_wp2
        go_ret2
        exact ⟨rfl, (Below.refl _ _).alloc (Nat.le_refl _) _⟩
    · have hz := not_inR hy
      obtain ⟨x0, x1⟩ := hx
      clear h hy
      rcases hz with hz | hz
      all_goals
        go_enter Tryz.func17, Tryz.ntmps17
        go_wp2
        refine wp_loop_rounds 2 ?_
        rw [rounds_succ]
        go_wp2
        rw [rounds_succ]
        go_wp2
        go_ret2
        exact ⟨rfl, (Below.refl _ _).alloc (Nat.le_refl _) _⟩
  · have hz := not_inR hx
    clear h hx
    rcases hz with hz | hz
    all_goals
      go_enter Tryz.func17, Tryz.ntmps17
      go_wp2
      refine wp_loop_rounds 1 ?_
      rw [rounds_succ]
      go_wp2
      go_ret2
      exact ⟨rfl, (Below.refl _ _).alloc (Nat.le_refl _) _⟩
set_option maxHeartbeats 1000000 in
set_option maxRecDepth 100000 in
theorem line_anon (d : Dec) (w : World) (hn : NamesAt w) (h : inR d.id ∧ inR d.node ∧ inR d.at_) (he : dname d.kind = []) :
    Calls Tryz.prog 17 #[decV d] w fun e w' => e = .returned (.tuple #[.string (str []), .bool false]) ∧ Below w.heap.size w w' := by
  obtain ⟨k, x, y, z⟩ := d
  simp only at h he
  obtain ⟨i0, i1, i2⟩ := idx3 x y z
  obtain ⟨⟨x0, x1⟩, ⟨y0, y1⟩, ⟨z0, z1⟩⟩ := h
  have hb : Below w.heap.size w (w.alloc (.cells #[.int .i64 k, .int .i64 x, .int .i64 y, .int .i64 z] 23)) := (Below.refl _ _).alloc (Nat.le_refl _) _
  have I := lname_any k _ (hn.below hb)
  rw [he] at I
  have hem : (str []).toList.isEmpty = true := str_isEmpty []
  have HI := Lib.hid I
  have HB := Lib.hid hb
  clear I hn he hb
  go_enter Tryz.func17, Tryz.ntmps17
  go_wp2
  refine wp_loop_rounds 4 ?_
  rw [rounds_succ]
  go_wp2
  rw [rounds_succ]
  go_wp2
  rw [rounds_succ]
  go_wp2
  rw [rounds_succ]
  go_wp2_with fail
  refine HI.out.mono ?_
  rintro e w1 ⟨rfl, rfl⟩
  go_wp2
  go_ret2
  exact ⟨rfl, HB.out⟩
theorem dword_le (n : Int) (h0 : -9223372036854775808 ≤ n) (h1 : n ≤ 9223372036854775807) : (dword n).length ≤ 21 := by
  unfold dword
  split
  · simp
  · exact itoa_le n h0 h1
theorem dname_le (k : Int) : (dname k).length ≤ 7 := by
  unfold dname
  by_cases h : 0 ≤ k ∧ k < 12
  · rw [if_pos h]
    have : k = 0 ∨ k = 1 ∨ k = 2 ∨ k = 3 ∨ k = 4 ∨ k = 5 ∨ k = 6 ∨ k = 7 ∨ k = 8 ∨ k = 9 ∨ k = 10 ∨ k = 11 := by omega
    rcases this with rfl | rfl | rfl | rfl | rfl | rfl | rfl | rfl | rfl | rfl | rfl | rfl <;> decide
  · rw [if_neg h]; simp
theorem strs4 {w : World} {g : Nat} {x0 x1 x2 x3 : List UInt8} (hg : g < w.heap.size) (h0 : w.cell? ⟨g, 0, none⟩ = some (.string (str x0))) (h1 : w.cell? ⟨g, 1, none⟩ = some (.string (str x1))) (h2 : w.cell? ⟨g, 2, none⟩ = some (.string (str x2))) (h3 : w.cell? ⟨g, 3, none⟩ = some (.string (str x3))) :
    kStr.At w (.slice (some ⟨g, 0, none⟩) 4 4) [x0, x1, x2, x3] :=
  ⟨_, _, rfl, .inr ⟨g, 0, rfl, hg, fun j x hx i u hu => by
    have hi : i = 0 := by
      rcases Nat.eq_zero_or_pos i with h | h
      · exact h
      · obtain ⟨i', rfl⟩ : ∃ i', i = i' + 1 := ⟨i - 1, by omega⟩
        cases hu
    subst hi
    cases hu
    match j, hx with
    | 0, hx => cases hx; exact h0
    | 1, hx => cases hx; exact h1
    | 2, hx => cases hx; exact h2
    | 3, hx => cases hx; exact h3
    | _ + 4, hx => cases hx⟩⟩
theorem join4_le (x0 x1 x2 x3 : List UInt8) (h0 : x0.length ≤ 30) (h1 : x1.length ≤ 30) (h2 : x2.length ≤ 30) (h3 : x3.length ≤ 30) : (Lib.join [x0, x1, x2, x3] [32]).length ≤ 140737488355328 := by
  rw [Lib.join_cons]
  simp [Lib.joinTail]
  omega
set_option maxHeartbeats 4000000 in
set_option maxRecDepth 100000 in
theorem line_some (d : Dec) (w : World) (ht : Tabs w) (hn : NamesAt w) (h : inR d.id ∧ inR d.node ∧ inR d.at_) (he : dname d.kind ≠ []) :
    Calls Tryz.prog 17 #[decV d] w fun e w' => e = .returned (.tuple #[.string (str (Lib.join [dname d.kind, dword d.id, dword d.node, dword d.at_] [32])), .bool true]) ∧ Below w.heap.size w w' := by
  obtain ⟨k, x, y, z⟩ := d
  simp only at h he
  obtain ⟨i0, i1, i2⟩ := idx3 x y z
  obtain ⟨⟨x0, x1⟩, ⟨y0, y1⟩, ⟨z0, z1⟩⟩ := h
  have hb : Below w.heap.size w (w.alloc (.cells #[.int .i64 k, .int .i64 x, .int .i64 y, .int .i64 z] 23)) := (Below.refl _ _).alloc (Nat.le_refl _) _
  have I := lname_any k _ (hn.below hb)
  have ht' := ht.below hb
  have hle := join4_le (dname k) (dword x) (dword y) (dword z) (Nat.le_trans (dname_le k) (by omega)) (Nat.le_trans (dword_le x (by omega) (by omega)) (by omega)) (Nat.le_trans (dword_le y (by omega) (by omega)) (by omega)) (Nat.le_trans (dword_le z (by omega) (by omega)) (by omega))
  simp only
  generalize dname k = nm at *
  have hem : (str nm).toList.isEmpty = false := by rw [str_isEmpty]; cases nm with | nil => exact absurd rfl he | cons _ _ => rfl
  have W1 : ∀ w', From (w.alloc (.cells #[.int .i64 k, .int .i64 x, .int .i64 y, .int .i64 z] 23)) w' → Calls Tryz.prog 47 #[.int .i64 x] w' fun e w'' => e = .returned (.string (str (dword x))) ∧ Below w'.heap.size w' w'' := fun w' hf => word_any x w' (by omega) (by omega) (ht'.from_ hf)
  have W2 : ∀ w', From (w.alloc (.cells #[.int .i64 k, .int .i64 x, .int .i64 y, .int .i64 z] 23)) w' → Calls Tryz.prog 47 #[.int .i64 y] w' fun e w'' => e = .returned (.string (str (dword y))) ∧ Below w'.heap.size w' w'' := fun w' hf => word_any y w' (by omega) (by omega) (ht'.from_ hf)
  have W3 : ∀ w', From (w.alloc (.cells #[.int .i64 k, .int .i64 x, .int .i64 y, .int .i64 z] 23)) w' → Calls Tryz.prog 47 #[.int .i64 z] w' fun e w'' => e = .returned (.string (str (dword z))) ∧ Below w'.heap.size w' w'' := fun w' hf => word_any z w' (by omega) (by omega) (ht'.from_ hf)
  generalize dword x = sx at *
  generalize dword y = sy at *
  generalize dword z = sz at *
  have HI := Lib.hid I
  have HB := Lib.hid hb
  have H1 := Lib.hid W1
  have H2 := Lib.hid W2
  have H3 := Lib.hid W3
  have HL := Lib.hid hle
  clear I hn he hb ht ht' W1 W2 W3 hle
  go_enter Tryz.func17, Tryz.ntmps17
  go_wp2
  refine wp_loop_rounds 4 ?_
  rw [rounds_succ]
  go_wp2
  rw [rounds_succ]
  go_wp2
  rw [rounds_succ]
  go_wp2
  rw [rounds_succ]
  go_wp2_with fail
  refine HI.out.mono ?_
  rintro e w1 ⟨rfl, rfl⟩
  go_wp2
  refine wp_named fun W hW => ?_
  have HW : Hid (∀ w', From W w' → (w'.cell? ⟨w.heap.size, 1, none⟩ = some (.int .i64 x) ∧ w'.cell? ⟨w.heap.size, 2, none⟩ = some (.int .i64 y) ∧ w'.cell? ⟨w.heap.size, 3, none⟩ = some (.int .i64 z) ∧ From W w')) := fun w' hf =>
    ⟨hf.cell (by rw [hW]; go_simp), hf.cell (by rw [hW]; go_simp), hf.cell (by rw [hW]; go_simp), hf⟩
  rw [← hW] at HB H1 H2 H3
  have HJ : Hid (∀ w' v, From W w' → kStr.At w' v [nm, sx, sy, sz] → (∀ a n c, v = .slice a n c → n ≤ c) → Calls Tryz.prog 46 #[v] w' fun e w'' => e = .returned (.string (str (Lib.join [nm, sx, sy, sz] [32]))) ∧ Below w'.heap.size w' w'') := fun w' v _ hv hc =>
    joined_any v [nm, sx, sy, sz] w' hv hc (by simp) HL.out
  have F0 : From W W := From.refl W
  have Fd : From W W.drew := From.drew F0
  clear hW
  go_region_held3 (fun w' => w'.cell? ⟨w.heap.size, 1, none⟩ = some (.int .i64 x) ∧ w'.cell? ⟨w.heap.size, 2, none⟩ = some (.int .i64 y) ∧ w'.cell? ⟨w.heap.size, 3, none⟩ = some (.int .i64 z) ∧ From W w')
    (first
      | (with_reducible exact HW.out _ ‹_›)
      | (with_reducible exact HW.out _ (From.drew ‹_›))
      | (with_reducible exact HW.out _ (From.alloc ‹_› _)))
    (first
    | (go_at_call 47; ((with_reducible refine (H1.out _ (by assumption)).mono ?_)); rintro e w1 ⟨rfl, hb⟩; have F1 : From W w1 := From.step ‹_› hb; clear hb)
    | (go_at_call 47; ((with_reducible refine (H2.out _ (by assumption)).mono ?_)); rintro e w2 ⟨rfl, hb⟩; have F2 : From W w2 := From.step ‹_› hb; clear hb)
    | (go_at_call 47; ((with_reducible refine (H3.out _ (by assumption)).mono ?_)); rintro e w3 ⟨rfl, hb⟩; have F3 : From W w3 := From.step ‹_› hb; clear hb)
    | (go_at_call 46; (refine (HJ.out _ _ (From.alloc F3 _) (strs4 (by simp) (by go_simp) (by go_simp) (by go_simp) (by go_simp)) (fun a n c e => by cases e; decide)).mono ?_); rintro e w4 ⟨rfl, hb⟩; have F4 : From W w4 := From.step (From.alloc F3 _) hb; clear hb))
  go_wp2
  go_ret2
  exact ⟨rfl, HB.out.trans (F4.out.mono HB.out.size)⟩
theorem line_any (d : Dec) (w : World) (ht : Tabs w) (hn : NamesAt w) :
    Calls Tryz.prog 17 #[decV d] w fun e w' => e = .returned (.tuple #[.string (str (dline d)), .bool (lined d)]) ∧ Below w.heap.size w w' := by
  by_cases h : inR d.id ∧ inR d.node ∧ inR d.at_
  · by_cases he : dname d.kind = []
    · obtain ⟨e1, e2⟩ := not_lined_name he
      rw [e1, e2]
      exact line_anon d w hn h he
    · have e1 : lined d = true := by unfold lined; exact decide_eq_true ⟨h.1, h.2.1, h.2.2, he⟩
      rw [show dline d = Lib.join [dname d.kind, dword d.id, dword d.node, dword d.at_] [32] by unfold dline; rw [if_pos e1], e1]
      exact line_some d w ht hn h he
  · obtain ⟨e1, e2⟩ := not_lined_range h
    rw [e1, e2]
    exact line_far d w h
theorem dline_le (d : Dec) : (dline d).length ≤ 100 := by
  unfold dline
  split
  · rename_i h
    unfold lined at h
    simp only [decide_eq_true_eq] at h
    obtain ⟨⟨a0, a1⟩, ⟨b0, b1⟩, ⟨c0, c1⟩, _⟩ := h
    have l0 := dname_le d.kind
    have l1 := dword_le d.id (by omega) (by omega)
    have l2 := dword_le d.node (by omega) (by omega)
    have l3 := dword_le d.at_ (by omega) (by omega)
    rw [Lib.join_cons]
    simp [Lib.joinTail]
    omega
  · simp
end Go.Proofs.YtdclokpoeaehlaaGreatDoor
