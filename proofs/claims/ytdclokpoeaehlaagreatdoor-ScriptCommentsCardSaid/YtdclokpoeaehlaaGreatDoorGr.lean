/- ScrI0, ScrI1: together in one text. -/
import Derived.Test.YtdclokpoeaehlaaGreatDoorSScrI
import Derived.Test.YtdclokpoeaehlaaGreatDoorGq
/- script.Parse, kind by kind. -/
namespace Go.Proofs.YtdclokpoeaehlaaGreatDoor
set_option linter.all false
open Go.RowKit

set_option maxHeartbeats 4000000 in
set_option maxRecDepth 100000 in
theorem sparse_0 (s : ByteArray) (x0 : List UInt8) (r : List (List UInt8)) (w : World) (hs : s.size ≤ 100000) (hsp : Lib.split s.data.toList [32] = x0 :: r) (hk : opKind x0 = 0) (hW : ScrW w) :
    Calls Tryz.prog 39 #[.string s] w (ParseRet s.data.toList w) := by
  have hz : Below w.heap.size w (w.alloc (.cells #[.int .i64 0, .int .i64 0, .int .i64 0, .int .i64 0, .bool false, .slice none 0 0] 58)) := (Below.refl _ _).alloc (Nat.le_refl _) _
  have I0 := split_cap s [32] (w.alloc (.cells #[.int .i64 0, .int .i64 0, .int .i64 0, .int .i64 0, .bool false, .slice none 0 0] 58)) (by omega) (by simp) (hW.from_ ⟨hz⟩).log.tabs
  rw [hsp] at I0
  have I := Lib.hid I0
  have HK : Hid (∀ w', From w w' → Calls Tryz.prog 72 #[.string (str x0)] w' fun e w'' => e = .returned (.int .i64 0) ∧ w' = w'') := fun w' hf => by
    have h := kind_any x0 w' (hW.from_ hf).kinds
    rw [hk] at h; exact h
  have HFl : Hid (∀ w', From w w' → w'.cell? ⟨1, 0, none⟩ = some (.string ⟨#[]⟩)) := fun w' hf => (hW.from_ hf).fields 0 (by decide)
  have hlw : 1 < w.heap.size := cell_lt (hW.fields 0 (by decide))
  have TS : Hid (∀ w', Below w.heap.size w w' → Tabs w') := fun w' hb => (hW.from_ ⟨hb⟩).log.tabs
  have HW := Lib.hid hW
  have HSP := Lib.hid hsp
  have HKK := Lib.hid hk
  have hrl : r.length ≤ 100000 := by
    have h := splits_len s [32] (by simp)
    rw [hsp] at h
    simp only [List.length_cons] at h
    omega
  have hle : ∀ x ∈ r, x.length ≤ 100000 := fun x hx => by
    have h := split_le [32] (by simp) s.data.toList.length s.data.toList (Nat.le_refl _) x (by rw [hsp]; simp [hx])
    rw [size_toList] at h; omega
  have HLE := Lib.hid hle
  have HRL := Lib.hid hrl
  have HZ := Lib.hid hz
  clear hW hsp hk hle I0 hz hs
  go_enter Tryz.func39, Tryz.ntmps39
  go_wp2
  refine wp_scope_straight ?_
  go_wp2_with fail
  refine I.out.mono ?_
  rintro e w1 ⟨b, rfl, hbl, hlt, hcells, hb1⟩
  have F1 : From w w1 := ⟨HZ.out.trans (hb1.mono HZ.out.size)⟩
  have HC := Lib.hid hcells
  have c0 : w1.cell? ⟨b, 0, none⟩ = some (.string (str x0)) := hcells 0 (by simp)
  simp only [List.length_cons] at hcells ⊢
  have hz1 := hb1.size
  have hbw : w.heap.size < b := by simp at hbl; omega
  have hbw1 : b ≠ w1.heap.size := by omega
  have hbw2 : ¬ w1.heap.size = b := by omega
  have ZB : Hid (OpB w1 w.heap.size 0 0 0 0 false (.slice none 0 0)) := by
    refine OpB.from_ (w := w.alloc (.cells #[.int .i64 0, .int .i64 0, .int .i64 0, .int .i64 0, .bool false, .slice none 0 0] 58)) ⟨⟨by go_simp, by go_simp, by go_simp, by go_simp, by go_simp, by go_simp⟩, fun j _ => by go_simp⟩ ⟨?_⟩
    exact hb1.mono (Nat.le_refl _)
  clear hcells hb1 hbl
  go_wp2_with fail
  refine (HK.out _ (F1.alloc _)).mono ?_
  rintro e w2 ⟨rfl, rfl⟩
  have p0 := HFl.out _ F1
  have hw1 : w.heap.size < w1.heap.size := Nat.lt_trans hbw hlt
  have hlW : ¬ 1 = w1.heap.size := by omega
  have hlV : ¬ w1.heap.size = 1 := by omega
  have hlt1 : 1 < w1.heap.size := by omega
  have hcv : ∀ w, (convert 9 98 (.string ⟨#[]⟩)).run Tryz.prog w = .ok (.slice (some ⟨w.heap.size, 0, none⟩) 0 (grownCap w 0 0 5)) (Lib.bytesWorld w 5 ⟨#[]⟩) := fun w => Lib.run_convert_string_bytes w 9 98 5 ⟨#[]⟩ Tryz.underlying9 Tryz.underlying98 Tryz.underlying5
  rcases r with - | ⟨y, r⟩
  · simp only [List.length_nil] at HRL ⊢
    go_wp2
    refine wp_label ?_
    refine then_named fun X hX => ?_
    obtain ⟨S0, HB, FX⟩ := pst_start (a0 := w) (xs := []) ZB.out hX (Nat.le_refl _) (fun j x hx => by simp at hx) hbw hlt (Nat.le_refl _) F1.out []
    obtain ⟨x0, x1, x2, x3, x4, x5⟩ := HB
    have p1 := HFl.out _ (F1.trans FX)
    clear hX p0
    go_wp2
    refine wp_named fun Y hY => ?_
    rw [show Lib.bytesWorld X 5 (str []) = Y from hY.symm] at S0
    clear hY
    refine wp_loop_rounds 6 ?_
    clear x0 x1 x2 x3 x4 x5 p1
    rw [rounds_succ]
    obtain ⟨off, cap, hws⟩ := S0.ws
    have c4 := hws.cell
    simp only [List.length_nil] at c4
    obtain ⟨x0, x1, x2, x3, x4, x5⟩ := S0.op.box
    obtain ⟨z0, z1, z2, z3, z4, z5⟩ := S0.zero.box
    have zf0 := S0.zero.free 0 (by decide)
    have zf1 := S0.zero.free 1 (by decide)
    have zf2 := S0.zero.free 2 (by decide)
    have zf3 := S0.zero.free 3 (by decide)
    have zf4 := S0.zero.free 4 (by decide)
    have zf5 := S0.zero.free 5 (by decide)
    have HB9 := Lib.hid S0.below
    have HP : Hid (oparse s.data.toList = none) := by
      show oparse _ = _; unfold oparse; rw [HSP.out]; simp only; rw [if_pos HKK.out]
    clear S0 hws
    go_wp2
    try rw [Exit.noGoto_ret]
    refine bodyPost_ret (v := .tuple #[opV 0 0 0 0 false (.slice none 0 0), .bool false]) ?_ rfl ?_
    · simp only [results, Tryz.results39]
      go_simp
    · have hbw := HB9.out
      refine ret_none HP.out rfl ?_
      clear HP
      repeat (first | (with_reducible exact hbw) | refine below_set ?_ (by omega) _)
  · simp only [List.length_cons] at HRL ⊢
    go_wp2
    refine wp_label ?_
    refine then_named fun X hX => ?_
    obtain ⟨S0, HB, FX⟩ := pst_start (a0 := w) (xs := y :: r) ZB.out hX (Nat.le_refl _) (fun j x hx => by
      have hj : j < (y :: r).length := (List.getElem?_eq_some_iff.1 hx).1
      have h := HC.out (1 + j) (by simp only [List.length_cons] at hj ⊢; omega)
      rw [h, Nat.add_comm, strAt_cons]
      rw [strAt_get hj] at hx
      cases hx; rfl) hbw hlt (Nat.le_refl _) F1.out []
    obtain ⟨x0, x1, x2, x3, x4, x5⟩ := HB
    have p1 := HFl.out _ (F1.trans FX)
    clear hX p0
    go_wp2
    refine wp_named fun Y hY => ?_
    rw [show Lib.bytesWorld X 5 (str []) = Y from hY.symm] at S0
    clear hY
    refine wp_loop_rounds 6 ?_
    clear x0 x1 x2 x3 x4 x5 p1
    rw [rounds_succ]
    obtain ⟨off, cap, hws⟩ := S0.ws
    have c4 := hws.cell
    simp only [List.length_cons] at c4
    obtain ⟨x0, x1, x2, x3, x4, x5⟩ := S0.op.box
    obtain ⟨z0, z1, z2, z3, z4, z5⟩ := S0.zero.box
    have zf0 := S0.zero.free 0 (by decide)
    have zf1 := S0.zero.free 1 (by decide)
    have zf2 := S0.zero.free 2 (by decide)
    have zf3 := S0.zero.free 3 (by decide)
    have zf4 := S0.zero.free 4 (by decide)
    have zf5 := S0.zero.free 5 (by decide)
    have HB9 := Lib.hid S0.below
    have HP : Hid (oparse s.data.toList = none) := by
      show oparse _ = _; unfold oparse; rw [HSP.out]; simp only; rw [if_pos HKK.out]
    clear S0 hws
    go_wp2
    try rw [Exit.noGoto_ret]
    refine bodyPost_ret (v := .tuple #[opV 0 0 0 0 false (.slice none 0 0), .bool false]) ?_ rfl ?_
    · simp only [results, Tryz.results39]
      go_simp
    · have hbw := HB9.out
      refine ret_none HP.out rfl ?_
      clear HP
      repeat (first | (with_reducible exact hbw) | refine below_set ?_ (by omega) _)

end Go.Proofs.YtdclokpoeaehlaaGreatDoor
/- script.Parse, kind by kind. -/
namespace Go.Proofs.YtdclokpoeaehlaaGreatDoor
set_option linter.all false
open Go.RowKit

set_option maxHeartbeats 4000000 in
set_option maxRecDepth 100000 in
theorem sparse_1 (s : ByteArray) (x0 : List UInt8) (r : List (List UInt8)) (w : World) (hs : s.size ≤ 100000) (hsp : Lib.split s.data.toList [32] = x0 :: r) (hk : opKind x0 = 1) (hW : ScrW w) :
    Calls Tryz.prog 39 #[.string s] w (ParseRet s.data.toList w) := by
  have hz : Below w.heap.size w (w.alloc (.cells #[.int .i64 0, .int .i64 0, .int .i64 0, .int .i64 0, .bool false, .slice none 0 0] 58)) := (Below.refl _ _).alloc (Nat.le_refl _) _
  have I0 := split_cap s [32] (w.alloc (.cells #[.int .i64 0, .int .i64 0, .int .i64 0, .int .i64 0, .bool false, .slice none 0 0] 58)) (by omega) (by simp) (hW.from_ ⟨hz⟩).log.tabs
  rw [hsp] at I0
  have I := Lib.hid I0
  have HK : Hid (∀ w', From w w' → Calls Tryz.prog 72 #[.string (str x0)] w' fun e w'' => e = .returned (.int .i64 1) ∧ w' = w'') := fun w' hf => by
    have h := kind_any x0 w' (hW.from_ hf).kinds
    rw [hk] at h; exact h
  have HFl : Hid (∀ w', From w w' → w'.cell? ⟨1, 1, none⟩ = some (.string ⟨#[105, 110, 102]⟩)) := fun w' hf => (hW.from_ hf).fields 1 (by decide)
  have hlw : 1 < w.heap.size := cell_lt (hW.fields 0 (by decide))
  have TS : Hid (∀ w', Below w.heap.size w w' → Tabs w') := fun w' hb => (hW.from_ ⟨hb⟩).log.tabs
  have HW := Lib.hid hW
  have HSP := Lib.hid hsp
  have HKK := Lib.hid hk
  have hrl : r.length ≤ 100000 := by
    have h := splits_len s [32] (by simp)
    rw [hsp] at h
    simp only [List.length_cons] at h
    omega
  have hle : ∀ x ∈ r, x.length ≤ 100000 := fun x hx => by
    have h := split_le [32] (by simp) s.data.toList.length s.data.toList (Nat.le_refl _) x (by rw [hsp]; simp [hx])
    rw [size_toList] at h; omega
  have HLE := Lib.hid hle
  have HRL := Lib.hid hrl
  have HZ := Lib.hid hz
  clear hW hsp hk hle I0 hz hs
  go_enter Tryz.func39, Tryz.ntmps39
  go_wp2
  refine wp_scope_straight ?_
  go_wp2_with fail
  refine I.out.mono ?_
  rintro e w1 ⟨b, rfl, hbl, hlt, hcells, hb1⟩
  have F1 : From w w1 := ⟨HZ.out.trans (hb1.mono HZ.out.size)⟩
  have HC := Lib.hid hcells
  have c0 : w1.cell? ⟨b, 0, none⟩ = some (.string (str x0)) := hcells 0 (by simp)
  simp only [List.length_cons] at hcells ⊢
  have hz1 := hb1.size
  have hbw : w.heap.size < b := by simp at hbl; omega
  have hbw1 : b ≠ w1.heap.size := by omega
  have hbw2 : ¬ w1.heap.size = b := by omega
  have ZB : Hid (OpB w1 w.heap.size 0 0 0 0 false (.slice none 0 0)) := by
    refine OpB.from_ (w := w.alloc (.cells #[.int .i64 0, .int .i64 0, .int .i64 0, .int .i64 0, .bool false, .slice none 0 0] 58)) ⟨⟨by go_simp, by go_simp, by go_simp, by go_simp, by go_simp, by go_simp⟩, fun j _ => by go_simp⟩ ⟨?_⟩
    exact hb1.mono (Nat.le_refl _)
  clear hcells hb1 hbl
  go_wp2_with fail
  refine (HK.out _ (F1.alloc _)).mono ?_
  rintro e w2 ⟨rfl, rfl⟩
  have p0 := HFl.out _ F1
  have hw1 : w.heap.size < w1.heap.size := Nat.lt_trans hbw hlt
  have hlW : ¬ 1 = w1.heap.size := by omega
  have hlV : ¬ w1.heap.size = 1 := by omega
  have hlt1 : 1 < w1.heap.size := by omega
  have hcv : ∀ w, (convert 9 98 (.string ⟨#[105, 110, 102]⟩)).run Tryz.prog w = .ok (.slice (some ⟨w.heap.size, 0, none⟩) 3 (grownCap w 3 0 5)) (Lib.bytesWorld w 5 ⟨#[105, 110, 102]⟩) := fun w => Lib.run_convert_string_bytes w 9 98 5 ⟨#[105, 110, 102]⟩ Tryz.underlying9 Tryz.underlying98 Tryz.underlying5
  rcases r with - | ⟨y, r⟩
  · simp only [List.length_nil] at HRL ⊢
    go_wp2
    refine wp_label ?_
    refine then_named fun X hX => ?_
    obtain ⟨S0, HB, FX⟩ := pst_start (a0 := w) (xs := []) ZB.out hX (Nat.le_refl _) (fun j x hx => by simp at hx) hbw hlt (Nat.le_refl _) F1.out [105, 110, 102]
    obtain ⟨x0, x1, x2, x3, x4, x5⟩ := HB
    have p1 := HFl.out _ (F1.trans FX)
    clear hX p0
    go_wp2
    refine wp_named fun Y hY => ?_
    rw [show Lib.bytesWorld X 5 (str [105, 110, 102]) = Y from hY.symm] at S0
    clear hY
    refine wp_loop_rounds 6 ?_
    clear x0 x1 x2 x3 x4 x5 p1

    obtain ⟨off, cap, hws⟩ := S0.ws
    have NX := Lib.hid (next_nil _ _ _ _ _ hws)
    have b0 := S0.bytes 0 _ rfl
    obtain ⟨z0, z1, z2, z3, z4, z5⟩ := S0.zero.box
    have zf0 := S0.zero.free 0 (by decide)
    have zf1 := S0.zero.free 1 (by decide)
    have zf2 := S0.zero.free 2 (by decide)
    have zf3 := S0.zero.free 3 (by decide)
    have zf4 := S0.zero.free 4 (by decide)
    have zf5 := S0.zero.free 5 (by decide)
    have HB9 := Lib.hid S0.below
    have oc := S0.op.box.c1
    have of := S0.op.free 1 (by decide)
    have hg1 : ¬ w.heap.size = w1.heap.size + 1 := by omega
    have hg2 : ¬ w1.heap.size + 1 = w.heap.size := by omega
    have HP : Hid (oparse s.data.toList = none) := by
      show oparse _ = _; rw [oparse_at HSP.out HKK.out (by decide)]; rfl
    clear S0 hws
    rw [rounds_succ]
    go_wp2_with fail
    refine NX.out.mono ?_
    rintro e wn ⟨rfl, rfl⟩
    go_wp2
    try rw [Exit.noGoto_ret]
    refine bodyPost_ret (v := .tuple #[opV 0 0 0 0 false (.slice none 0 0), .bool false]) ?_ rfl ?_
    · simp only [results, Tryz.results39]
      go_simp
    · have hbw := HB9.out
      refine ret_none HP.out rfl ?_
      clear HP
      repeat (first | (with_reducible exact hbw) | refine below_set ?_ (by omega) _)
  · simp only [List.length_cons] at HRL ⊢
    go_wp2
    refine wp_label ?_
    refine then_named fun X hX => ?_
    obtain ⟨S0, HB, FX⟩ := pst_start (a0 := w) (xs := y :: r) ZB.out hX (Nat.le_refl _) (fun j x hx => by
      have hj : j < (y :: r).length := (List.getElem?_eq_some_iff.1 hx).1
      have h := HC.out (1 + j) (by simp only [List.length_cons] at hj ⊢; omega)
      rw [h, Nat.add_comm, strAt_cons]
      rw [strAt_get hj] at hx
      cases hx; rfl) hbw hlt (Nat.le_refl _) F1.out [105, 110, 102]
    obtain ⟨x0, x1, x2, x3, x4, x5⟩ := HB
    have p1 := HFl.out _ (F1.trans FX)
    clear hX p0
    go_wp2
    refine wp_named fun Y hY => ?_
    rw [show Lib.bytesWorld X 5 (str [105, 110, 102]) = Y from hY.symm] at S0
    clear hY
    refine wp_loop_rounds 6 ?_
    clear x0 x1 x2 x3 x4 x5 p1

    obtain ⟨off, cap, hws⟩ := S0.ws
    have hyl := HLE.out y (by simp)
    have NX := Lib.hid (next_cons _ _ _ _ y r _ hws (by omega) (by have := HRL.out; first | omega | (simp only [List.length_cons] at this; omega)) (TS.out _ S0.below))
    have b0 := S0.bytes 0 _ rfl
    have HS := Lib.hid S0
    clear S0 hws
    rw [rounds_succ]
    go_wp2_with fail
    refine NX.out.mono ?_
    rintro e wn ⟨rfl, hmn, offn, hwn⟩
    have T := HS.out.next hmn ⟨offn, _, hwn⟩
    clear hmn hwn NX HS
    cases hq0 : numB y
    · obtain ⟨z0, z1, z2, z3, z4, z5⟩ := T.zero.box
      have zf0 := T.zero.free 0 (by decide)
      have zf1 := T.zero.free 1 (by decide)
      have zf2 := T.zero.free 2 (by decide)
      have zf3 := T.zero.free 3 (by decide)
      have zf4 := T.zero.free 4 (by decide)
      have zf5 := T.zero.free 5 (by decide)
      have HB9 := Lib.hid T.below
      have oc := T.op.box.c1
      have of := T.op.free 1 (by decide)
      have hg1 : ¬ w.heap.size = w1.heap.size + 1 := by omega
      have hg2 : ¬ w1.heap.size + 1 = w.heap.size := by omega
      have HP : Hid (oparse s.data.toList = none) := by
        show oparse _ = _; rw [oparse_at HSP.out HKK.out (by decide)]; exact oargs1_a (num_no hq0)
      clear T
      go_wp2
      try rw [Exit.noGoto_ret]
      refine bodyPost_ret (v := .tuple #[opV 0 0 0 0 false (.slice none 0 0), .bool false]) ?_ rfl ?_
      · simp only [results, Tryz.results39]
        go_simp
      · have hbw := HB9.out
        refine ret_none HP.out rfl ?_
        clear HP
        repeat (first | (with_reducible exact hbw) | refine below_set ?_ (by omega) _)
    have S1 := T.store (j := 1) (.int .i64 (numI y)) (T.op.box.set0 (numI y))
    have oc := T.op.box.c1
    have of := T.op.free 1 (by decide)
    clear T
    go_wp2
    refine wp_named fun Y1 hY1 => ?_
    rw [← hY1] at S1
    clear hY1 oc of b0
    rcases r with - | ⟨y2, r⟩
    · skip
      obtain ⟨off, cap, hws⟩ := S1.ws
      have NX := Lib.hid (next_nil _ _ _ _ _ hws)
      have b0 := S1.bytes 1 _ rfl
      obtain ⟨z0, z1, z2, z3, z4, z5⟩ := S1.zero.box
      have zf0 := S1.zero.free 0 (by decide)
      have zf1 := S1.zero.free 1 (by decide)
      have zf2 := S1.zero.free 2 (by decide)
      have zf3 := S1.zero.free 3 (by decide)
      have zf4 := S1.zero.free 4 (by decide)
      have zf5 := S1.zero.free 5 (by decide)
      have HB9 := Lib.hid S1.below
      have oc := S1.op.box.c3
      have of := S1.op.free 3 (by decide)
      have hg1 : ¬ w.heap.size = w1.heap.size + 1 := by omega
      have hg2 : ¬ w1.heap.size + 1 = w.heap.size := by omega
      have HP : Hid (oparse s.data.toList = none) := by
        show oparse _ = _; rw [oparse_at HSP.out HKK.out (by decide)]; rfl
      clear S1 hws
      skip
      go_wp2_with fail
      refine NX.out.mono ?_
      rintro e wn ⟨rfl, rfl⟩
      go_wp2
      try rw [Exit.noGoto_ret]
      refine bodyPost_ret (v := .tuple #[opV 0 0 0 0 false (.slice none 0 0), .bool false]) ?_ rfl ?_
      · simp only [results, Tryz.results39]
        go_simp
      · have hbw := HB9.out
        refine ret_none HP.out rfl ?_
        clear HP
        repeat (first | (with_reducible exact hbw) | refine below_set ?_ (by omega) _)

    obtain ⟨off, cap, hws⟩ := S1.ws
    have hyl := HLE.out y2 (by simp)
    have NX := Lib.hid (next_cons _ _ _ _ y2 r _ hws (by omega) (by have := HRL.out; first | omega | (simp only [List.length_cons] at this; omega)) (TS.out _ S1.below))
    have b0 := S1.bytes 1 _ rfl
    have HS := Lib.hid S1
    clear S1 hws
    skip
    go_wp2_with fail
    refine NX.out.mono ?_
    rintro e wn ⟨rfl, hmn, offn, hwn⟩
    have T := HS.out.next hmn ⟨offn, _, hwn⟩
    clear hmn hwn NX HS
    cases hq1 : numB y2
    · obtain ⟨z0, z1, z2, z3, z4, z5⟩ := T.zero.box
      have zf0 := T.zero.free 0 (by decide)
      have zf1 := T.zero.free 1 (by decide)
      have zf2 := T.zero.free 2 (by decide)
      have zf3 := T.zero.free 3 (by decide)
      have zf4 := T.zero.free 4 (by decide)
      have zf5 := T.zero.free 5 (by decide)
      have HB9 := Lib.hid T.below
      have oc := T.op.box.c3
      have of := T.op.free 3 (by decide)
      have hg1 : ¬ w.heap.size = w1.heap.size + 1 := by omega
      have hg2 : ¬ w1.heap.size + 1 = w.heap.size := by omega
      have HP : Hid (oparse s.data.toList = none) := by
        show oparse _ = _; rw [oparse_at HSP.out HKK.out (by decide)]; exact oargs1_b (num_no hq1)
      clear T
      go_wp2
      try rw [Exit.noGoto_ret]
      refine bodyPost_ret (v := .tuple #[opV 0 0 0 0 false (.slice none 0 0), .bool false]) ?_ rfl ?_
      · simp only [results, Tryz.results39]
        go_simp
      · have hbw := HB9.out
        refine ret_none HP.out rfl ?_
        clear HP
        repeat (first | (with_reducible exact hbw) | refine below_set ?_ (by omega) _)
    have S2 := T.store (j := 3) (.int .i64 (numI y2)) (T.op.box.set3 (numI y2))
    have oc := T.op.box.c3
    have of := T.op.free 3 (by decide)
    clear T
    go_wp2
    refine wp_named fun Y2 hY2 => ?_
    rw [← hY2] at S2
    clear hY2 oc of b0
    rcases r with - | ⟨y3, r⟩
    · skip
      obtain ⟨off, cap, hws⟩ := S2.ws
      have c4 := hws.cell
      have b0 := S2.bytes 2 _ rfl
      simp only [List.length_nil] at c4
      have HS2 := Lib.hid S2
      clear S2 hws
      go_wp2
      go_quiet (fail)
      obtain ⟨Y3, hY3⟩ : ∃ Y3, Y3 = Y2.drewN nq := ⟨_, rfl⟩
      rw [← hY3]
      have S3 := HS2.out.from_ (w' := Y3) (by rw [hY3]; exact (From.refl _).drewN nq)
      clear hY3 c4 b0
      obtain ⟨z0, z1, z2, z3, z4, z5⟩ := S3.zero.box
      have zf0 := S3.zero.free 0 (by decide)
      have zf1 := S3.zero.free 1 (by decide)
      have zf2 := S3.zero.free 2 (by decide)
      have zf3 := S3.zero.free 3 (by decide)
      have zf4 := S3.zero.free 4 (by decide)
      have zf5 := S3.zero.free 5 (by decide)
      have HB9 := Lib.hid S3.below
      have HP : Hid (oparse s.data.toList = none) := by
        show oparse _ = _; rw [oparse_at HSP.out HKK.out (by decide)]; rfl
      clear S3
      go_wp2
      try rw [Exit.noGoto_ret]
      refine bodyPost_ret (v := .tuple #[opV 0 0 0 0 false (.slice none 0 0), .bool false]) ?_ rfl ?_
      · simp only [results, Tryz.results39]
        go_simp
      · have hbw := HB9.out
        refine ret_none HP.out rfl ?_
        clear HP
        repeat (first | (with_reducible exact hbw) | refine below_set ?_ (by omega) _)
    obtain ⟨off, cap, hws⟩ := S2.ws
    have c4 := hws.cell
    simp only [List.length_cons] at c4
    have w0 := hws.at_ 0 y3 rfl
    simp only [Nat.add_zero] at w0
    have b0 := S2.bytes 2 _ rfl
    have HCq : Hid (∀ n, Calls Tryz.prog 74 #[.slice (some ⟨2, 0, none⟩) 2 2, .string (str y3)] (Y2.drewN n) fun e w' => e = .returned (.bool (Lib.containsS ([⟨#[110, 111]⟩, ⟨#[121, 101, 115]⟩].take 2) (str y3))) ∧ w' = Y2.drewN n) := fun n => by
      have hf := ((HW.out.from_ ⟨S2.below⟩).from_ ((From.refl Y2).drewN n)).flags
      refine (Tryz.slices_Contains_string 2 0 2 2 [⟨#[110, 111]⟩, ⟨#[121, 101, 115]⟩] (str y3) _ (by decide) (by decide) fun j hj => ?_)
      match j, hj with
      | 0, _ => exact hf.1
      | 1, _ => exact hf.2
    generalize hq2 : Lib.containsS ([⟨#[110, 111]⟩, ⟨#[121, 101, 115]⟩].take 2) (str y3) = q at HCq
    have HS2 := Lib.hid S2
    have HQ2 := Lib.hid hq2
    clear S2 hws hq2
    go_wp2
    go_quiet ((go_at_call 74; exact Calls.quiet_of_same (HCq.out _)))
    obtain ⟨Y3, hY3⟩ : ∃ Y3, Y3 = Y2.drewN nq := ⟨_, rfl⟩
    rw [← hY3]
    have S3 := HS2.out.from_ (w' := Y3) (by rw [hY3]; exact (From.refl _).drewN nq)
    clear hY3 c4 b0 w0
    cases q
    · obtain ⟨z0, z1, z2, z3, z4, z5⟩ := S3.zero.box
      have zf0 := S3.zero.free 0 (by decide)
      have zf1 := S3.zero.free 1 (by decide)
      have zf2 := S3.zero.free 2 (by decide)
      have zf3 := S3.zero.free 3 (by decide)
      have zf4 := S3.zero.free 4 (by decide)
      have zf5 := S3.zero.free 5 (by decide)
      have HB9 := Lib.hid S3.below
      have HP : Hid (oparse s.data.toList = none) := by
        show oparse _ = _; rw [oparse_at HSP.out HKK.out (by decide)]; exact oargs1_f (num_yes hq0) (num_yes hq1) (flags_no HQ2.out)
      clear S3
      go_wp2
      try rw [Exit.noGoto_ret]
      refine bodyPost_ret (v := .tuple #[opV 0 0 0 0 false (.slice none 0 0), .bool false]) ?_ rfl ?_
      · simp only [results, Tryz.results39]
        go_simp
      · have hbw := HB9.out
        refine ret_none HP.out rfl ?_
        clear HP
        repeat (first | (with_reducible exact hbw) | refine below_set ?_ (by omega) _)
    obtain ⟨off3, cap3, hws⟩ := S3.ws
    have c4 := hws.cell
    simp only [List.length_cons] at c4
    have w0 := hws.at_ 0 y3 rfl
    simp only [Nat.add_zero] at w0
    have f4 := hws.free
    have hle3 : r.length + 1 ≤ cap3 := hws.le
    have o4 := S3.op.box.c4
    have of4 := S3.op.free 4 (by decide)
    have g1 : ¬ b = w1.heap.size := by have := S3.z2; omega
    have g2 : ¬ w1.heap.size = b := by omega
    have g3 : ¬ b = w1.heap.size + 1 := by have := S3.z2; have := S3.z3; omega
    have g4 : ¬ w1.heap.size + 1 = b := by omega
    have hyes : ((str y3).toList == [121, 101, 115]) = decide (y3 = sYes) := by rw [ByteArray.toList_eq, Bool.eq_iff_iff, beq_iff_eq, decide_eq_true_eq]; exact Iff.rfl
    generalize hqy : decide (y3 = sYes) = qy at *
    have HQY : Hid (decide (y3 = sYes) = qy) := hqy
    have hz3 := S3.z3
    have hM : Mut (w1.heap.size + 1) Y3 (Y3.setCell ⟨w1.heap.size + 1, 4, none⟩ (.bool qy)) := (Mut.refl _ _).set _
    have S4a := (S3.store (j := 4) (.bool qy) (S3.op.box.set4 qy)).take (hws.mut hM (by omega) (by omega))
    have S4b := Lib.hid (S4a.from_ (From.refl _).drew)
    clear S3 hws S4a hM hqy
    go_wp2
    go_region
    obtain ⟨Y4, hY4⟩ : ∃ Y4, Y4 = ((Y3.setCell ⟨w1.heap.size + 1, 4, none⟩ (.bool qy)).setCell ⟨w1.heap.size, 0, none⟩ (.slice (if cap3 = 1 then some ⟨b, off3, none⟩ else some ⟨b, off3 + 1, none⟩) r.length (cap3 - 1))).drew := ⟨_, rfl⟩
    rw [← hY4]
    have S4 := S4b.out
    rw [← hY4] at S4
    clear hY4 S4b c4 w0 f4 hle3 o4 of4 hyes
    generalize (if cap3 = 1 then (some ⟨b, off3, none⟩ : Option Addr) else some ⟨b, off3 + 1, none⟩) = oa
    rcases r with - | ⟨y4, r⟩
    · skip
      obtain ⟨off, cap, hws⟩ := S4.ws
      have c4 := hws.cell
      simp only [List.length_nil] at c4
      obtain ⟨x0, x1, x2, x3, x4, x5⟩ := S4.op.box
      have HPl : Hid (∀ w', Calls Tryz.prog 75 #[opV 1 (numI y) (0) (numI y2) qy (.slice none 0 0)] w' (RetOp w' 1 (numI y) (0) (numI y2) qy [])) := fun w' => plain_any 1 (numI y) (0) (numI y2) qy (.slice none 0 0) [] w' (by simp) ⟨none, 0, rfl, .inl rfl⟩
      have HSt := Lib.hid S4
      have HP : Hid (oparse s.data.toList = some ⟨1, numI y, 0, numI y2, qy, []⟩) := by
        show oparse _ = _; rw [oparse_at HSP.out HKK.out (by decide)]; rw [oargs1_g (num_yes hq0) (num_yes hq1) (flags_yes HQ2.out), HQY.out]
      clear S4 hws
      go_wp2
      rw [rounds_succ]
      go_wp2_with fail
      refine (HPl.out _).mono ?_
      rintro e w9 ⟨ao, co, rfl, hown, hb⟩
      have S9 := HSt.out.from_ ⟨hb⟩
      obtain ⟨z0, z1, z2, z3, z4, z5⟩ := S9.zero.box
      have zf0 := S9.zero.free 0 (by decide)
      have zf1 := S9.zero.free 1 (by decide)
      have zf2 := S9.zero.free 2 (by decide)
      have zf3 := S9.zero.free 3 (by decide)
      have zf4 := S9.zero.free 4 (by decide)
      have zf5 := S9.zero.free 5 (by decide)
      have HB9 := Lib.hid S9.below
      clear hown hb S9 HPl
      go_wp2
      try rw [Exit.noGoto_ret]
      refine bodyPost_ret (v := .tuple #[opV 1 (numI y) (0) (numI y2) qy (.slice ao 0 co), .bool true]) ?_ rfl ?_
      · simp only [results, Tryz.results39]
        go_simp
      · have hbw := HB9.out
        refine ret_some HP.out rfl ⟨ao, co, rfl, .inl rfl⟩ ?_
        clear HP
        repeat (first | (with_reducible exact hbw) | refine below_set ?_ (by omega) _)
    · skip
      obtain ⟨off, cap, hws⟩ := S4.ws
      have c4 := hws.cell
      simp only [List.length_cons] at c4
      obtain ⟨x0, x1, x2, x3, x4, x5⟩ := S4.op.box
      obtain ⟨z0, z1, z2, z3, z4, z5⟩ := S4.zero.box
      have zf0 := S4.zero.free 0 (by decide)
      have zf1 := S4.zero.free 1 (by decide)
      have zf2 := S4.zero.free 2 (by decide)
      have zf3 := S4.zero.free 3 (by decide)
      have zf4 := S4.zero.free 4 (by decide)
      have zf5 := S4.zero.free 5 (by decide)
      have HB9 := Lib.hid S4.below
      have HP : Hid (oparse s.data.toList = none) := by
        show oparse _ = _; rw [oparse_at HSP.out HKK.out (by decide)]; exact oargs1_l
      clear S4 hws
      go_wp2
      rw [rounds_succ]
      go_wp2
      try rw [Exit.noGoto_ret]
      refine bodyPost_ret (v := .tuple #[opV 0 0 0 0 false (.slice none 0 0), .bool false]) ?_ rfl ?_
      · simp only [results, Tryz.results39]
        go_simp
      · have hbw := HB9.out
        refine ret_none HP.out rfl ?_
        clear HP
        repeat (first | (with_reducible exact hbw) | refine below_set ?_ (by omega) _)

end Go.Proofs.YtdclokpoeaehlaaGreatDoor
