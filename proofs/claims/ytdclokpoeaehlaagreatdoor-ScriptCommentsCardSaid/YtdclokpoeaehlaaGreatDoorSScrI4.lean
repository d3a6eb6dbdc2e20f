/- script.Parse, kind by kind. -/
import Derived.Test.YtdclokpoeaehlaaGreatDoorSScrI
import Derived.Test.YtdclokpoeaehlaaGreatDoorGq
namespace Go.Proofs.YtdclokpoeaehlaaGreatDoor
set_option linter.all false
open Go.RowKit

set_option maxHeartbeats 4000000 in
set_option maxRecDepth 100000 in
theorem sparse_4 (s : ByteArray) (x0 : List UInt8) (r : List (List UInt8)) (w : World) (hs : s.size ≤ 100000) (hsp : Lib.split s.data.toList [32] = x0 :: r) (hk : opKind x0 = 4) (hW : ScrW w) :
    Calls Tryz.prog 39 #[.string s] w (ParseRet s.data.toList w) := by
  have hz : Below w.heap.size w (w.alloc (.cells #[.int .i64 0, .int .i64 0, .int .i64 0, .int .i64 0, .bool false, .slice none 0 0] 58)) := (Below.refl _ _).alloc (Nat.le_refl _) _
  have I0 := split_cap s [32] (w.alloc (.cells #[.int .i64 0, .int .i64 0, .int .i64 0, .int .i64 0, .bool false, .slice none 0 0] 58)) (by omega) (by simp) (hW.from_ ⟨hz⟩).log.tabs
  rw [hsp] at I0
  have I := Lib.hid I0
  have HK : Hid (∀ w', From w w' → Calls Tryz.prog 72 #[.string (str x0)] w' fun e w'' => e = .returned (.int .i64 4) ∧ w' = w'') := fun w' hf => by
    have h := kind_any x0 w' (hW.from_ hf).kinds
    rw [hk] at h; exact h
  have HFl : Hid (∀ w', From w w' → w'.cell? ⟨1, 4, none⟩ = some (.string ⟨#[105, 99, 110, 97]⟩)) := fun w' hf => (hW.from_ hf).fields 4 (by decide)
  have hlw : 1 < w.heap.size := cell_lt (hW.fields 0 (by decide))
  have TS : Hid (∀ w', Below w.heap.size w w' → Tabs w') := fun w' hb => (hW.from_ ⟨hb⟩).log.tabs
  have HW := Lib.hid hW
  have HSP := Lib.hid hsp
  have HKK := Lib.hid hk
  have hrl : r.length ≤ 100000 := by
    have h := splits_len s [32] (by simp)
    rw [hsp] at h
    simp only [List.length_cons] at h
    omega
  have hle : ∀ x ∈ r, x.length ≤ 100000 := fun x hx => by
    have h := split_le [32] (by simp) s.data.toList.length s.data.toList (Nat.le_refl _) x (by rw [hsp]; simp [hx])
    rw [size_toList] at h; omega
  have HLE := Lib.hid hle
  have HRL := Lib.hid hrl
  have HZ := Lib.hid hz
  clear hW hsp hk hle I0 hz hs
  go_enter Tryz.func39, Tryz.ntmps39
  go_wp2
  refine wp_scope_straight ?_
  go_wp2_with fail
  refine I.out.mono ?_
  rintro e w1 ⟨b, rfl, hbl, hlt, hcells, hb1⟩
  have F1 : From w w1 := ⟨HZ.out.trans (hb1.mono HZ.out.size)⟩
  have HC := Lib.hid hcells
  have c0 : w1.cell? ⟨b, 0, none⟩ = some (.string (str x0)) := hcells 0 (by simp)
  simp only [List.length_cons] at hcells ⊢
  have hz1 := hb1.size
  have hbw : w.heap.size < b := by simp at hbl; omega
  have hbw1 : b ≠ w1.heap.size := by omega
  have hbw2 : ¬ w1.heap.size = b := by omega
  have ZB : Hid (OpB w1 w.heap.size 0 0 0 0 false (.slice none 0 0)) := by
    refine OpB.from_ (w := w.alloc (.cells #[.int .i64 0, .int .i64 0, .int .i64 0, .int .i64 0, .bool false, .slice none 0 0] 58)) ⟨⟨by go_simp, by go_simp, by go_simp, by go_simp, by go_simp, by go_simp⟩, fun j _ => by go_simp⟩ ⟨?_⟩
    exact hb1.mono (Nat.le_refl _)
  clear hcells hb1 hbl
  go_wp2_with fail
  refine (HK.out _ (F1.alloc _)).mono ?_
  rintro e w2 ⟨rfl, rfl⟩
  have p0 := HFl.out _ F1
  have hw1 : w.heap.size < w1.heap.size := Nat.lt_trans hbw hlt
  have hlW : ¬ 1 = w1.heap.size := by omega
  have hlV : ¬ w1.heap.size = 1 := by omega
  have hlt1 : 1 < w1.heap.size := by omega
  have hcv : ∀ w, (convert 9 98 (.string ⟨#[105, 99, 110, 97]⟩)).run Tryz.prog w = .ok (.slice (some ⟨w.heap.size, 0, none⟩) 4 (grownCap w 4 0 5)) (Lib.bytesWorld w 5 ⟨#[105, 99, 110, 97]⟩) := fun w => Lib.run_convert_string_bytes w 9 98 5 ⟨#[105, 99, 110, 97]⟩ Tryz.underlying9 Tryz.underlying98 Tryz.underlying5
  rcases r with - | ⟨y, r⟩
  · simp only [List.length_nil] at HRL ⊢
    go_wp2
    refine wp_label ?_
    refine then_named fun X hX => ?_
    obtain ⟨S0, HB, FX⟩ := pst_start (a0 := w) (xs := []) ZB.out hX (Nat.le_refl _) (fun j x hx => by simp at hx) hbw hlt (Nat.le_refl _) F1.out [105, 99, 110, 97]
    obtain ⟨x0, x1, x2, x3, x4, x5⟩ := HB
    have p1 := HFl.out _ (F1.trans FX)
    clear hX p0
    go_wp2
    refine wp_named fun Y hY => ?_
    rw [show Lib.bytesWorld X 5 (str [105, 99, 110, 97]) = Y from hY.symm] at S0
    clear hY
    refine wp_loop_rounds 6 ?_
    clear x0 x1 x2 x3 x4 x5 p1

    obtain ⟨off, cap, hws⟩ := S0.ws
    have NX := Lib.hid (next_nil _ _ _ _ _ hws)
    have b0 := S0.bytes 0 _ rfl
    obtain ⟨z0, z1, z2, z3, z4, z5⟩ := S0.zero.box
    have zf0 := S0.zero.free 0 (by decide)
    have zf1 := S0.zero.free 1 (by decide)
    have zf2 := S0.zero.free 2 (by decide)
    have zf3 := S0.zero.free 3 (by decide)
    have zf4 := S0.zero.free 4 (by decide)
    have zf5 := S0.zero.free 5 (by decide)
    have HB9 := Lib.hid S0.below
    have oc := S0.op.box.c1
    have of := S0.op.free 1 (by decide)
    have hg1 : ¬ w.heap.size = w1.heap.size + 1 := by omega
    have hg2 : ¬ w1.heap.size + 1 = w.heap.size := by omega
    have HP : Hid (oparse s.data.toList = none) := by
      show oparse _ = _; rw [oparse_at HSP.out HKK.out (by decide)]; exact oargs4_0
    clear S0 hws
    rw [rounds_succ]
    go_wp2_with fail
    refine NX.out.mono ?_
    rintro e wn ⟨rfl, rfl⟩
    go_wp2
    try rw [Exit.noGoto_ret]
    refine bodyPost_ret (v := .tuple #[opV 0 0 0 0 false (.slice none 0 0), .bool false]) ?_ rfl ?_
    · simp only [results, Tryz.results39]
      go_simp
    · have hbw := HB9.out
      refine ret_none HP.out rfl ?_
      clear HP
      repeat (first | (with_reducible exact hbw) | refine below_set ?_ (by omega) _)
  · simp only [List.length_cons] at HRL ⊢
    go_wp2
    refine wp_label ?_
    refine then_named fun X hX => ?_
    obtain ⟨S0, HB, FX⟩ := pst_start (a0 := w) (xs := y :: r) ZB.out hX (Nat.le_refl _) (fun j x hx => by
      have hj : j < (y :: r).length := (List.getElem?_eq_some_iff.1 hx).1
      have h := HC.out (1 + j) (by simp only [List.length_cons] at hj ⊢; omega)
      rw [h, Nat.add_comm, strAt_cons]
      rw [strAt_get hj] at hx
      cases hx; rfl) hbw hlt (Nat.le_refl _) F1.out [105, 99, 110, 97]
    obtain ⟨x0, x1, x2, x3, x4, x5⟩ := HB
    have p1 := HFl.out _ (F1.trans FX)
    clear hX p0
    go_wp2
    refine wp_named fun Y hY => ?_
    rw [show Lib.bytesWorld X 5 (str [105, 99, 110, 97]) = Y from hY.symm] at S0
    clear hY
    refine wp_loop_rounds 6 ?_
    clear x0 x1 x2 x3 x4 x5 p1

    obtain ⟨off, cap, hws⟩ := S0.ws
    have hyl := HLE.out y (by simp)
    have NX := Lib.hid (next_cons _ _ _ _ y r _ hws (by omega) (by have := HRL.out; first | omega | (simp only [List.length_cons] at this; omega)) (TS.out _ S0.below))
    have b0 := S0.bytes 0 _ rfl
    have HS := Lib.hid S0
    clear S0 hws
    rw [rounds_succ]
    go_wp2_with fail
    refine NX.out.mono ?_
    rintro e wn ⟨rfl, hmn, offn, hwn⟩
    have T := HS.out.next hmn ⟨offn, _, hwn⟩
    clear hmn hwn NX HS
    cases hq0 : numB y
    · obtain ⟨z0, z1, z2, z3, z4, z5⟩ := T.zero.box
      have zf0 := T.zero.free 0 (by decide)
      have zf1 := T.zero.free 1 (by decide)
      have zf2 := T.zero.free 2 (by decide)
      have zf3 := T.zero.free 3 (by decide)
      have zf4 := T.zero.free 4 (by decide)
      have zf5 := T.zero.free 5 (by decide)
      have HB9 := Lib.hid T.below
      have oc := T.op.box.c1
      have of := T.op.free 1 (by decide)
      have hg1 : ¬ w.heap.size = w1.heap.size + 1 := by omega
      have hg2 : ¬ w1.heap.size + 1 = w.heap.size := by omega
      have HP : Hid (oparse s.data.toList = none) := by
        show oparse _ = _; rw [oparse_at HSP.out HKK.out (by decide)]; exact oargs4_a (num_no hq0)
      clear T
      go_wp2
      try rw [Exit.noGoto_ret]
      refine bodyPost_ret (v := .tuple #[opV 0 0 0 0 false (.slice none 0 0), .bool false]) ?_ rfl ?_
      · simp only [results, Tryz.results39]
        go_simp
      · have hbw := HB9.out
        refine ret_none HP.out rfl ?_
        clear HP
        repeat (first | (with_reducible exact hbw) | refine below_set ?_ (by omega) _)
    have S1 := T.store (j := 1) (.int .i64 (numI y)) (T.op.box.set0 (numI y))
    have oc := T.op.box.c1
    have of := T.op.free 1 (by decide)
    clear T
    go_wp2
    refine wp_named fun Y1 hY1 => ?_
    rw [← hY1] at S1
    clear hY1 oc of b0
    rcases r with - | ⟨y2, r⟩
    · skip
      obtain ⟨off, cap, hws⟩ := S1.ws
      have NX := Lib.hid (next_nil _ _ _ _ _ hws)
      have b0 := S1.bytes 1 _ rfl
      obtain ⟨z0, z1, z2, z3, z4, z5⟩ := S1.zero.box
      have zf0 := S1.zero.free 0 (by decide)
      have zf1 := S1.zero.free 1 (by decide)
      have zf2 := S1.zero.free 2 (by decide)
      have zf3 := S1.zero.free 3 (by decide)
      have zf4 := S1.zero.free 4 (by decide)
      have zf5 := S1.zero.free 5 (by decide)
      have HB9 := Lib.hid S1.below
      have oc := S1.op.box.c2
      have of := S1.op.free 2 (by decide)
      have hg1 : ¬ w.heap.size = w1.heap.size + 1 := by omega
      have hg2 : ¬ w1.heap.size + 1 = w.heap.size := by omega
      have HP : Hid (oparse s.data.toList = none) := by
        show oparse _ = _; rw [oparse_at HSP.out HKK.out (by decide)]; exact oargs4_1
      clear S1 hws
      skip
      go_wp2_with fail
      refine NX.out.mono ?_
      rintro e wn ⟨rfl, rfl⟩
      go_wp2
      try rw [Exit.noGoto_ret]
      refine bodyPost_ret (v := .tuple #[opV 0 0 0 0 false (.slice none 0 0), .bool false]) ?_ rfl ?_
      · simp only [results, Tryz.results39]
        go_simp
      · have hbw := HB9.out
        refine ret_none HP.out rfl ?_
        clear HP
        repeat (first | (with_reducible exact hbw) | refine below_set ?_ (by omega) _)

    obtain ⟨off, cap, hws⟩ := S1.ws
    have hyl := HLE.out y2 (by simp)
    have NX := Lib.hid (next_cons _ _ _ _ y2 r _ hws (by omega) (by have := HRL.out; first | omega | (simp only [List.length_cons] at this; omega)) (TS.out _ S1.below))
    have b0 := S1.bytes 1 _ rfl
    have HS := Lib.hid S1
    clear S1 hws
    skip
    go_wp2_with fail
    refine NX.out.mono ?_
    rintro e wn ⟨rfl, hmn, offn, hwn⟩
    have T := HS.out.next hmn ⟨offn, _, hwn⟩
    clear hmn hwn NX HS
    cases hq1 : numB y2
    · obtain ⟨z0, z1, z2, z3, z4, z5⟩ := T.zero.box
      have zf0 := T.zero.free 0 (by decide)
      have zf1 := T.zero.free 1 (by decide)
      have zf2 := T.zero.free 2 (by decide)
      have zf3 := T.zero.free 3 (by decide)
      have zf4 := T.zero.free 4 (by decide)
      have zf5 := T.zero.free 5 (by decide)
      have HB9 := Lib.hid T.below
      have oc := T.op.box.c2
      have of := T.op.free 2 (by decide)
      have hg1 : ¬ w.heap.size = w1.heap.size + 1 := by omega
      have hg2 : ¬ w1.heap.size + 1 = w.heap.size := by omega
      have HP : Hid (oparse s.data.toList = none) := by
        show oparse _ = _; rw [oparse_at HSP.out HKK.out (by decide)]; exact oargs4_b (num_no hq1)
      clear T
      go_wp2
      try rw [Exit.noGoto_ret]
      refine bodyPost_ret (v := .tuple #[opV 0 0 0 0 false (.slice none 0 0), .bool false]) ?_ rfl ?_
      · simp only [results, Tryz.results39]
        go_simp
      · have hbw := HB9.out
        refine ret_none HP.out rfl ?_
        clear HP
        repeat (first | (with_reducible exact hbw) | refine below_set ?_ (by omega) _)
    have S2 := T.store (j := 2) (.int .i64 (numI y2)) (T.op.box.set2 (numI y2))
    have oc := T.op.box.c2
    have of := T.op.free 2 (by decide)
    clear T
    go_wp2
    refine wp_named fun Y2 hY2 => ?_
    rw [← hY2] at S2
    clear hY2 oc of b0
    rcases r with - | ⟨y3, r⟩
    · skip
      obtain ⟨off, cap, hws⟩ := S2.ws
      have NX := Lib.hid (next_nil _ _ _ _ _ hws)
      have b0 := S2.bytes 2 _ rfl
      obtain ⟨z0, z1, z2, z3, z4, z5⟩ := S2.zero.box
      have zf0 := S2.zero.free 0 (by decide)
      have zf1 := S2.zero.free 1 (by decide)
      have zf2 := S2.zero.free 2 (by decide)
      have zf3 := S2.zero.free 3 (by decide)
      have zf4 := S2.zero.free 4 (by decide)
      have zf5 := S2.zero.free 5 (by decide)
      have HB9 := Lib.hid S2.below
      have oc := S2.op.box.c3
      have of := S2.op.free 3 (by decide)
      have hg1 : ¬ w.heap.size = w1.heap.size + 1 := by omega
      have hg2 : ¬ w1.heap.size + 1 = w.heap.size := by omega
      have HP : Hid (oparse s.data.toList = none) := by
        show oparse _ = _; rw [oparse_at HSP.out HKK.out (by decide)]; exact oargs4_2
      clear S2 hws
      skip
      go_wp2_with fail
      refine NX.out.mono ?_
      rintro e wn ⟨rfl, rfl⟩
      go_wp2
      try rw [Exit.noGoto_ret]
      refine bodyPost_ret (v := .tuple #[opV 0 0 0 0 false (.slice none 0 0), .bool false]) ?_ rfl ?_
      · simp only [results, Tryz.results39]
        go_simp
      · have hbw := HB9.out
        refine ret_none HP.out rfl ?_
        clear HP
        repeat (first | (with_reducible exact hbw) | refine below_set ?_ (by omega) _)

    obtain ⟨off, cap, hws⟩ := S2.ws
    have hyl := HLE.out y3 (by simp)
    have NX := Lib.hid (next_cons _ _ _ _ y3 r _ hws (by omega) (by have := HRL.out; first | omega | (simp only [List.length_cons] at this; omega)) (TS.out _ S2.below))
    have b0 := S2.bytes 2 _ rfl
    have HS := Lib.hid S2
    clear S2 hws
    skip
    go_wp2_with fail
    refine NX.out.mono ?_
    rintro e wn ⟨rfl, hmn, offn, hwn⟩
    have T := HS.out.next hmn ⟨offn, _, hwn⟩
    clear hmn hwn NX HS
    cases hq2 : numB y3
    · obtain ⟨z0, z1, z2, z3, z4, z5⟩ := T.zero.box
      have zf0 := T.zero.free 0 (by decide)
      have zf1 := T.zero.free 1 (by decide)
      have zf2 := T.zero.free 2 (by decide)
      have zf3 := T.zero.free 3 (by decide)
      have zf4 := T.zero.free 4 (by decide)
      have zf5 := T.zero.free 5 (by decide)
      have HB9 := Lib.hid T.below
      have oc := T.op.box.c3
      have of := T.op.free 3 (by decide)
      have hg1 : ¬ w.heap.size = w1.heap.size + 1 := by omega
      have hg2 : ¬ w1.heap.size + 1 = w.heap.size := by omega
      have HP : Hid (oparse s.data.toList = none) := by
        show oparse _ = _; rw [oparse_at HSP.out HKK.out (by decide)]; exact oargs4_bad (.inr (.inr (.inl (num_no hq2))))
      clear T
      go_wp2
      try rw [Exit.noGoto_ret]
      refine bodyPost_ret (v := .tuple #[opV 0 0 0 0 false (.slice none 0 0), .bool false]) ?_ rfl ?_
      · simp only [results, Tryz.results39]
        go_simp
      · have hbw := HB9.out
        refine ret_none HP.out rfl ?_
        clear HP
        repeat (first | (with_reducible exact hbw) | refine below_set ?_ (by omega) _)
    have S3 := T.store (j := 3) (.int .i64 (numI y3)) (T.op.box.set3 (numI y3))
    have oc := T.op.box.c3
    have of := T.op.free 3 (by decide)
    clear T
    go_wp2
    refine wp_named fun Y3 hY3 => ?_
    rw [← hY3] at S3
    clear hY3 oc of b0
    have b0 := S3.bytes 3 _ rfl
    have HS0 := Lib.hid S3
    have hYs : X.heap.size < Y3.heap.size := S3.lt1
    have hXg : w1.heap.size + 1 < X.heap.size := S3.z4
    have HRL2 : Hid (r.length ≤ 100000) := by have := HRL.out; show _ ≤ _; first | omega | (simp only [List.length_cons] at this; omega)
    have HLR0 : Hid (∀ x ∈ r, x.length ≤ 100000) := fun x hx => HLE.out x (by repeat (first | exact hx | refine List.mem_cons_of_mem _ ?_))
    clear S3
    go_wp2
    go_loopw [7] (fun okv wr => ∃ (ns : List Int) (rest : List (List UInt8)) (okb : Bool) (am : Value), okv = .bool okb ∧ Hid (ns.length + rest.length ≤ 100000) ∧ Hid (∀ x ∈ rest, x.length ≤ 100000) ∧ Hid (if okb = true then NumsAt r rest ns else onumbers r = none) ∧ Y3.heap.size ≤ wr.heap.size ∧ kI64.Own Y3.heap.size wr am ns ∧ Hid (PSt w w.heap.size b w1.heap.size (w1.heap.size + 1) X.heap.size 4 (numI y) (numI y2) (numI y3) false am [105, 99, 110, 97] rest wr)) (fun _ wr => wordsLeft wr w1.heap.size)
    case atStart => exact ⟨[], r, true, .slice none 0 0, rfl, by show 0 + r.length ≤ _; have := HRL2.out; omega, HLR0.out, NumsAt.start r, Nat.le_refl _, Kin.Own.nil _ _ _, HS0.out⟩
    case round =>
      obtain ⟨ns, rest, okb, am, rfl, HLN, HLR, HA, hYw, hown, HS⟩ := hrel
      obtain ⟨a, cp, rfl⟩ := hown.shape
      have HOWN := Lib.hid hown
      clear hown
      cases okb
      · rcases rest with - | ⟨z, rest⟩
        all_goals
          have ST := HS.out
          obtain ⟨off, cap, hws⟩ := ST.ws
          have c4 := hws.cell
          first | simp only [List.length_nil] at c4 | simp only [List.length_cons] at c4 | fail
          obtain ⟨z0, z1, z2, z3, z4, z5⟩ := ST.zero.box
          have zf0 := ST.zero.free 0 (by decide)
          have zf1 := ST.zero.free 1 (by decide)
          have zf2 := ST.zero.free 2 (by decide)
          have zf3 := ST.zero.free 3 (by decide)
          have zf4 := ST.zero.free 4 (by decide)
          have zf5 := ST.zero.free 5 (by decide)
          have HB9 := Lib.hid ST.below
          have HP : Hid (oparse s.data.toList = none) := by
            have hA : onumbers r = none := by simpa using HA.out
            show oparse _ = _; rw [oparse_at HSP.out HKK.out (by decide)]; exact oargs4_bad (.inr (.inr (.inr hA)))
          clear ST HOWN hws
          go_wp2
          try rw [Exit.noGoto_ret]
          refine bodyPost_ret (v := .tuple #[opV 0 0 0 0 false (.slice none 0 0), .bool false]) ?_ rfl ?_
          · simp only [results, Tryz.results39]
            go_simp
          · have hbw := HB9.out
            refine ret_none HP.out rfl ?_
            clear HP
            repeat (first | (with_reducible exact hbw) | refine below_set ?_ (by omega) _)
      · rcases rest with - | ⟨z, rest⟩
        · have hA : NumsAt r [] ns := by simpa using HA.out
          have ST := HS.out
          obtain ⟨off, cap, hws⟩ := ST.ws
          have c4 := hws.cell
          simp only [List.length_nil] at c4
          obtain ⟨x0, x1, x2, x3, x4, x5⟩ := ST.op.box
          have HI := Lib.hid (IntsNew.own HOWN.out).at_
          have HPl : Hid (∀ w', From wr w' → Calls Tryz.prog 75 #[opV 4 (numI y) (numI y2) (numI y3) false (.slice a ns.length cp)] w' (RetOp w' 4 (numI y) (numI y2) (numI y3) false ns)) := fun w' hf => plain_any 4 (numI y) (numI y2) (numI y3) false (.slice a ns.length cp) ns w' (by have := HLN.out; omega) (HI.out.from_ hf)
          have HP : Hid (oparse s.data.toList = some ⟨4, numI y, numI y2, numI y3, false, ns⟩) := by
            show oparse _ = _; rw [oparse_at HSP.out HKK.out (by decide)]; exact oargs4_ok (num_yes hq0) (num_yes hq1) (num_yes hq2) hA.done
          clear ST hws HOWN hA
          go_wp2
          rw [rounds_succ]
          go_wp2_with fail
          refine (HPl.out _ (From.refl _)).mono ?_
          rintro e w9 ⟨ao, co, rfl, hown9, hb⟩
          have S9 := HS.out.from_ ⟨hb⟩
          have HN9 : Hid (IntsNew wr.heap.size w9 (.slice ao ns.length co) ns) := new_of_row hown9
          have hwz : w.heap.size < wr.heap.size := by omega
          obtain ⟨z0, z1, z2, z3, z4, z5⟩ := S9.zero.box
          have zf0 := S9.zero.free 0 (by decide)
          have zf1 := S9.zero.free 1 (by decide)
          have zf2 := S9.zero.free 2 (by decide)
          have zf3 := S9.zero.free 3 (by decide)
          have zf4 := S9.zero.free 4 (by decide)
          have zf5 := S9.zero.free 5 (by decide)
          have HB9 := Lib.hid S9.below
          clear hown9 hb S9 HPl
          go_wp2
          try rw [Exit.noGoto_ret]
          refine bodyPost_ret (v := .tuple #[opV 4 (numI y) (numI y2) (numI y3) false (.slice ao ns.length co), .bool true]) ?_ rfl ?_
          · simp only [results, Tryz.results39]
            go_simp
          · have hbw := HB9.out
            have hin := HN9.out
            refine ret_some HP.out rfl ?_ ?_
            · refine IntsNew.low ?_ (Nat.le_of_lt hwz)
              clear HP
              repeat (first | (with_reducible exact hin) | refine IntsNew.set ?_ hwz)
            · clear HP
              repeat (first | (with_reducible exact hbw) | refine below_set ?_ (by omega) _)
        · have hA : NumsAt r (z :: rest) ns := by simpa using HA.out
          have ST := HS.out
          obtain ⟨off, cap, hws⟩ := ST.ws
          have NX := Lib.hid (next_cons _ _ _ _ z rest _ hws (by have := HLR.out z (by simp); omega) (by have := HLN.out; simp only [List.length_cons] at this; omega) (TS.out _ ST.below))
          have c4 := hws.cell
          simp only [List.length_cons] at c4
          have hnx : if numB z = true then NumsAt r rest (ns ++ [numI z]) else onumbers r = none := by
            cases hq : numB z with
            | true => rw [if_pos rfl]; exact hA.good (num_yes hq)
            | false => rw [if_neg (by decide)]; exact hA.bad (num_no hq)
          have HNX := Lib.hid hnx
          have HLN2 : Hid (ns.length + 1 + rest.length ≤ 100000) := by have := HLN.out; simp only [List.length_cons] at this; show _ ≤ _; omega
          have hnl : ns.length ≤ 100000 := by have := HLN.out; omega
          have HLR2 : Hid (∀ x ∈ rest, x.length ≤ 100000) := fun x hx => HLR.out x (by simp [hx])
          have HLF := Lib.hid ST.left
          clear hws ST hA hnx
          go_wp2_with fail
          refine NX.out.mono ?_
          rintro e wn ⟨rfl, hmn, offn, hwn⟩
          have T := HS.out.next hmn ⟨offn, _, hwn⟩
          have HO1 := HOWN.out.mut hmn (by omega : w1.heap.size < Y3.heap.size)
          have hsn := hmn.size
          clear hmn hwn NX
          generalize numI z = nz at *
          generalize numB z = nb at *
          have oc := T.op.box.c5
          have hOW : kI64.Own Y3.heap.size (wn.alloc (.cells #[.int .i64 nz] 2)) (.slice a ns.length cp) ns := HO1.alloc _
          have HOW := Lib.hid hOW
          have TT := Lib.hid (T.from_ ((From.refl wn).alloc (.cells #[.int .i64 nz] 2)))
          clear hOW HO1 T HS
          go_wp2_with (at_builtin; go_must (refine Kin.append1 kI64 rfl _ _ rfl Y3.heap.size _ ns rfl HOW.out wn.heap.size nz rfl (cellsI64_of (by go_simp)) (by unfold maxLen; omega) (by show _ * 8 ≤ _; omega) (by first | (simp; done) | (simp; omega)) ?_; intro v' w3 hown' hbel hgrow; obtain ⟨a2, c2, e2⟩ := hown'.shape; rw [List.length_append, List.length_singleton] at e2; subst e2; have T3 := TT.out.low hYs hbel; have oc3 := T3.op.box.c5; have of3 := T3.op.free 5 (by decide); have HT3 := Lib.hid T3; have HO3 := Lib.hid hown'; have hs3 := hbel.size; clear hown' hbel hgrow T3 oc))
          go_roundw
          case rel => exact ⟨ns ++ [nz], rest, nb, _, rfl, by show _ ≤ _; rw [List.length_append]; exact HLN2.out, HLR2.out, HNX.out, by simp at hs3 ⊢; omega, ownsRow_setCell_below (show World.ownsRow _ _ _ _ _ _ _ from HO3.out) (by show _ < _; simp only []; omega) _, HT3.out.store (j := 5) _ (HT3.out.op.box.set5 _ _ _)⟩
          case measure => rw [(HT3.out.store (j := 5) _ (HT3.out.op.box.set5 _ _ _)).left, HLF.out]; simp

end Go.Proofs.YtdclokpoeaehlaaGreatDoor
