/- script.Parse, kind by kind. -/
import Derived.Test.YtdclokpoeaehlaaGreatDoorGq
import Derived.Scope
import Derived.WalkMore
namespace Go.Proofs.YtdclokpoeaehlaaGreatDoor
set_option linter.all false
open Go.RowKit

/-- What script.Parse and its reference return. -/
def ParseRet (s : List UInt8) (W : World) (e : Ending) (w' : World) : Prop :=
  Below W.heap.size W w' ∧ match oparse s with
    | none => e = .returned (.tuple #[opV 0 0 0 0 false (.slice none 0 0), .bool false])
    | some o => ∃ a cp, e = .returned (.tuple #[opV o.kind o.id o.cls o.n o.flag (.slice a o.am.length cp), .bool true]) ∧ IntsNew W.heap.size w' (.slice a o.am.length cp) o.am
theorem oargs1_a {y : List UInt8} {r : List (List UInt8)} (h : num y = none) : oargs 1 (y :: r) = none := by
  unfold oargs
  rw [if_pos rfl]
  rcases r with _ | ⟨b, _ | ⟨f, _ | ⟨g, t⟩⟩⟩ <;> simp [h]
theorem oargs1_b {y y2 : List UInt8} {r : List (List UInt8)} (h : num y2 = none) : oargs 1 (y :: y2 :: r) = none := by
  unfold oargs
  rw [if_pos rfl]
  rcases r with _ | ⟨f, _ | ⟨g, t⟩⟩ <;> simp [h]
theorem ret_none {s : List UInt8} {W w' : World} {e : Ending} (h : oparse s = none) (he : e = .returned (.tuple #[opV 0 0 0 0 false (.slice none 0 0), .bool false])) (hb : Below W.heap.size W w') : ParseRet s W e w' := by
  unfold ParseRet; rw [h]; exact ⟨hb, he⟩
theorem ret_some {s : List UInt8} {W w' : World} {e : Ending} {o : OpS} {a : Option Addr} {cp : Nat} (h : oparse s = some o) (he : e = .returned (.tuple #[opV o.kind o.id o.cls o.n o.flag (.slice a o.am.length cp), .bool true])) (hi : IntsNew W.heap.size w' (.slice a o.am.length cp) o.am) (hb : Below W.heap.size W w') : ParseRet s W e w' := by
  unfold ParseRet; rw [h]; exact ⟨hb, a, cp, he, hi⟩
theorem pst_start {a0 w1 X : World} {gz b off cap : Nat} {k : Int} {xs : List (List UInt8)} (ZB : OpB w1 gz 0 0 0 0 false (.slice none 0 0))
    (hX : X = (w1.alloc (.cells #[.slice (some ⟨b, off, none⟩) xs.length cap] 71)).alloc (.cells #[.int .i64 k, .int .i64 0, .int .i64 0, .int .i64 0, .bool false, .slice none 0 0] 58))
    (hle : xs.length ≤ cap) (hat : ∀ j x, xs[j]? = some x → w1.cell? ⟨b, off + j, none⟩ = some (.string (str x))) (h1 : gz < b) (h2 : b < w1.heap.size) (h3 : a0.heap.size ≤ gz) (h4 : Below a0.heap.size a0 w1) (L : List UInt8) :
    PSt a0 gz b w1.heap.size (w1.heap.size + 1) X.heap.size k 0 0 0 false (.slice none 0 0) L xs (Lib.bytesWorld X 5 (str L)) ∧ Box6 X (w1.heap.size + 1) k 0 0 0 false (.slice none 0 0) ∧ From w1 X := by
  have hF : From w1 X := by rw [hX]; exact ((From.refl w1).alloc _).alloc _
  have hs : X.heap.size = w1.heap.size + 2 := by rw [hX]; simp
  have hB : Box6 X (w1.heap.size + 1) k 0 0 0 false (.slice none 0 0) := by rw [hX]; exact ⟨by go_simp, by go_simp, by go_simp, by go_simp, by go_simp, by go_simp⟩
  have hO : OpB X (w1.heap.size + 1) k 0 0 0 false (.slice none 0 0) := ⟨hB, fun j _ => by rw [hX]; go_simp⟩
  have hc : X.cell? ⟨w1.heap.size, 0, none⟩ = some (.slice (some ⟨b, off, none⟩) xs.length cap) := by rw [hX]; go_simp
  have hf : X.frozen? ⟨w1.heap.size, 0, none⟩ = false := by rw [hX]; go_simp
  have hW : Ws X w1.heap.size b off cap xs := ⟨hc, hf, hle, fun j x hx => hF.cell (hat j x hx), by omega, by omega⟩
  have hFB := from_bytes (From.refl X) 5 (str L)
  refine ⟨⟨(ZB.from_ hF).from_ hFB, hO.from_ hFB, ⟨off, cap, hW.below hFB.out⟩, bytes_at X _ L, by rw [Lib.bytesWorld_size]; omega, h1, h2, by omega, by omega, h3, (h4.trans (hF.out.mono h4.size)).trans (hFB.out.mono (Nat.le_trans h4.size hF.out.size))⟩, hB, hF⟩
theorem onum_cons (y : List UInt8) (r : List (List UInt8)) : onumbers (y :: r) = none ∨ ∃ n ns, onumbers (y :: r) = some (n :: ns) ∧ num y = some n ∧ onumbers r = some ns := by
  simp only [onumbers]
  cases num y with
  | none => exact .inl rfl
  | some n =>
    cases onumbers r with
    | none => exact .inl rfl
    | some ns => exact .inr ⟨n, ns, rfl, rfl, rfl⟩
theorem oparse_at {s x0 : List UInt8} {r : List (List UInt8)} {k : Nat} (h : Lib.split s [32] = x0 :: r) (hk : opKind x0 = k) (h0 : k ≠ 0) : oparse s = oargs k r := by
  unfold oparse
  rw [h]
  simp only
  rw [hk, if_neg h0]
theorem num_yes {y : List UInt8} (h : numB y = true) : num y = some (numI y) := by
  unfold numB at h
  unfold numI
  cases hn : num y with
  | none => rw [hn] at h; cases h
  | some n => rfl
theorem num_no {y : List UInt8} (h : numB y = false) : num y = none := by
  unfold numB at h
  cases hn : num y with
  | none => rfl
  | some n => rw [hn] at h; cases h
theorem cellsI64_of {w : World} {g : Nat} {x : Int} (h0 : w.cell? ⟨g, 0, none⟩ = some (.int .i64 x)) : ∀ j u, (kI64.enc x)[j]? = some u → w.cell? ⟨g, j, none⟩ = some u
  | 0, _, h => by cases h; exact h0
  | _ + 1, _, h => by cases h
theorem strAt_cons {x : List UInt8} {r : List (List UInt8)} (j : Nat) : strAt (x :: r) (j + 1) = strAt r j := by unfold strAt; rfl
set_option maxHeartbeats 4000000 in
set_option maxRecDepth 100000 in
theorem sparse_3 (s : ByteArray) (x0 : List UInt8) (r : List (List UInt8)) (w : World) (hs : s.size ≤ 100000) (hsp : Lib.split s.data.toList [32] = x0 :: r) (hk : opKind x0 = 3) (hW : ScrW w) :
    Calls Tryz.prog 39 #[.string s] w (ParseRet s.data.toList w) := by
  have hz : Below w.heap.size w (w.alloc (.cells #[.int .i64 0, .int .i64 0, .int .i64 0, .int .i64 0, .bool false, .slice none 0 0] 58)) := (Below.refl _ _).alloc (Nat.le_refl _) _
  have I0 := split_cap s [32] (w.alloc (.cells #[.int .i64 0, .int .i64 0, .int .i64 0, .int .i64 0, .bool false, .slice none 0 0] 58)) (by omega) (by simp) (hW.from_ ⟨hz⟩).log.tabs
  rw [hsp] at I0
  have I := Lib.hid I0
  have HK : Hid (∀ w', From w w' → Calls Tryz.prog 72 #[.string (str x0)] w' fun e w'' => e = .returned (.int .i64 3) ∧ w' = w'') := fun w' hf => by
    have h := kind_any x0 w' (hW.from_ hf).kinds
    rw [hk] at h; exact h
  have HFl : Hid (∀ w', From w w' → w'.cell? ⟨1, 3, none⟩ = some (.string ⟨#[105]⟩)) := fun w' hf => (hW.from_ hf).fields 3 (by decide)
  have hlw : 1 < w.heap.size := cell_lt (hW.fields 0 (by decide))
  have TS : Hid (∀ w', Below w.heap.size w w' → Tabs w') := fun w' hb => (hW.from_ ⟨hb⟩).log.tabs
  have HW := Lib.hid hW
  have HSP := Lib.hid hsp
  have HKK := Lib.hid hk
  have hrl : r.length ≤ 100000 := by
    have h := splits_len s [32] (by simp)
    rw [hsp] at h
    simp only [List.length_cons] at h
    omega
  have hle : ∀ x ∈ r, x.length ≤ 100000 := fun x hx => by
    have h := split_le [32] (by simp) s.data.toList.length s.data.toList (Nat.le_refl _) x (by rw [hsp]; simp [hx])
    rw [size_toList] at h; omega
  have HLE := Lib.hid hle
  have HRL := Lib.hid hrl
  have HZ := Lib.hid hz
  clear hW hsp hk hle I0 hz hs
  go_enter Tryz.func39, Tryz.ntmps39
  go_wp2
  refine wp_scope_straight ?_
  go_wp2_with fail
  refine I.out.mono ?_
  rintro e w1 ⟨b, rfl, hbl, hlt, hcells, hb1⟩
  have F1 : From w w1 := ⟨HZ.out.trans (hb1.mono HZ.out.size)⟩
  have HC := Lib.hid hcells
  have c0 : w1.cell? ⟨b, 0, none⟩ = some (.string (str x0)) := hcells 0 (by simp)
  simp only [List.length_cons] at hcells ⊢
  have hz1 := hb1.size
  have hbw : w.heap.size < b := by simp at hbl; omega
  have hbw1 : b ≠ w1.heap.size := by omega
  have hbw2 : ¬ w1.heap.size = b := by omega
  have ZB : Hid (OpB w1 w.heap.size 0 0 0 0 false (.slice none 0 0)) := by
    refine OpB.from_ (w := w.alloc (.cells #[.int .i64 0, .int .i64 0, .int .i64 0, .int .i64 0, .bool false, .slice none 0 0] 58)) ⟨⟨by go_simp, by go_simp, by go_simp, by go_simp, by go_simp, by go_simp⟩, fun j _ => by go_simp⟩ ⟨?_⟩
    exact hb1.mono (Nat.le_refl _)
  clear hcells hb1 hbl
  go_wp2_with fail
  refine (HK.out _ (F1.alloc _)).mono ?_
  rintro e w2 ⟨rfl, rfl⟩
  have p0 := HFl.out _ F1
  have hw1 : w.heap.size < w1.heap.size := Nat.lt_trans hbw hlt
  have hlW : ¬ 1 = w1.heap.size := by omega
  have hlV : ¬ w1.heap.size = 1 := by omega
  have hlt1 : 1 < w1.heap.size := by omega
  have hcv : ∀ w, (convert 9 98 (.string ⟨#[105]⟩)).run Tryz.prog w = .ok (.slice (some ⟨w.heap.size, 0, none⟩) 1 (grownCap w 1 0 5)) (Lib.bytesWorld w 5 ⟨#[105]⟩) := fun w => Lib.run_convert_string_bytes w 9 98 5 ⟨#[105]⟩ Tryz.underlying9 Tryz.underlying98 Tryz.underlying5
  rcases r with - | ⟨y, r⟩
  · simp only [List.length_nil] at HRL ⊢
    go_wp2
    refine wp_label ?_
    refine then_named fun X hX => ?_
    obtain ⟨S0, HB, FX⟩ := pst_start (a0 := w) (xs := []) ZB.out hX (Nat.le_refl _) (fun j x hx => by simp at hx) hbw hlt (Nat.le_refl _) F1.out [105]
    obtain ⟨x0, x1, x2, x3, x4, x5⟩ := HB
    have p1 := HFl.out _ (F1.trans FX)
    clear hX p0
    go_wp2
    refine wp_named fun Y hY => ?_
    rw [show Lib.bytesWorld X 5 (str [105]) = Y from hY.symm] at S0
    clear hY
    refine wp_loop_rounds 6 ?_
    clear x0 x1 x2 x3 x4 x5 p1

    obtain ⟨off, cap, hws⟩ := S0.ws
    have NX := Lib.hid (next_nil _ _ _ _ _ hws)
    have b0 := S0.bytes 0 _ rfl
    obtain ⟨z0, z1, z2, z3, z4, z5⟩ := S0.zero.box
    have zf0 := S0.zero.free 0 (by decide)
    have zf1 := S0.zero.free 1 (by decide)
    have zf2 := S0.zero.free 2 (by decide)
    have zf3 := S0.zero.free 3 (by decide)
    have zf4 := S0.zero.free 4 (by decide)
    have zf5 := S0.zero.free 5 (by decide)
    have HB9 := Lib.hid S0.below
    have oc := S0.op.box.c1
    have of := S0.op.free 1 (by decide)
    have hg1 : ¬ w.heap.size = w1.heap.size + 1 := by omega
    have hg2 : ¬ w1.heap.size + 1 = w.heap.size := by omega
    have HP : Hid (oparse s.data.toList = none) := by
      show oparse _ = _; rw [oparse_at HSP.out HKK.out (by decide)]; rfl
    clear S0 hws
    rw [rounds_succ]
    go_wp2_with fail
    refine NX.out.mono ?_
    rintro e wn ⟨rfl, rfl⟩
    go_wp2
    try rw [Exit.noGoto_ret]
    refine bodyPost_ret (v := .tuple #[opV 0 0 0 0 false (.slice none 0 0), .bool false]) ?_ rfl ?_
    · simp only [results, Tryz.results39]
      go_simp
    · have hbw := HB9.out
      refine ret_none HP.out rfl ?_
      clear HP
      repeat (first | (with_reducible exact hbw) | refine below_set ?_ (by omega) _)
  · simp only [List.length_cons] at HRL ⊢
    go_wp2
    refine wp_label ?_
    refine then_named fun X hX => ?_
    obtain ⟨S0, HB, FX⟩ := pst_start (a0 := w) (xs := y :: r) ZB.out hX (Nat.le_refl _) (fun j x hx => by
      have hj : j < (y :: r).length := (List.getElem?_eq_some_iff.1 hx).1
      have h := HC.out (1 + j) (by simp only [List.length_cons] at hj ⊢; omega)
      rw [h, Nat.add_comm, strAt_cons]
      rw [strAt_get hj] at hx
      cases hx; rfl) hbw hlt (Nat.le_refl _) F1.out [105]
    obtain ⟨x0, x1, x2, x3, x4, x5⟩ := HB
    have p1 := HFl.out _ (F1.trans FX)
    clear hX p0
    go_wp2
    refine wp_named fun Y hY => ?_
    rw [show Lib.bytesWorld X 5 (str [105]) = Y from hY.symm] at S0
    clear hY
    refine wp_loop_rounds 6 ?_
    clear x0 x1 x2 x3 x4 x5 p1

    obtain ⟨off, cap, hws⟩ := S0.ws
    have hyl := HLE.out y (by simp)
    have NX := Lib.hid (next_cons _ _ _ _ y r _ hws (by omega) (by have := HRL.out; first | omega | (simp only [List.length_cons] at this; omega)) (TS.out _ S0.below))
    have b0 := S0.bytes 0 _ rfl
    have HS := Lib.hid S0
    clear S0 hws
    rw [rounds_succ]
    go_wp2_with fail
    refine NX.out.mono ?_
    rintro e wn ⟨rfl, hmn, offn, hwn⟩
    have T := HS.out.next hmn ⟨offn, _, hwn⟩
    clear hmn hwn NX HS
    cases hq0 : numB y
    · obtain ⟨z0, z1, z2, z3, z4, z5⟩ := T.zero.box
      have zf0 := T.zero.free 0 (by decide)
      have zf1 := T.zero.free 1 (by decide)
      have zf2 := T.zero.free 2 (by decide)
      have zf3 := T.zero.free 3 (by decide)
      have zf4 := T.zero.free 4 (by decide)
      have zf5 := T.zero.free 5 (by decide)
      have HB9 := Lib.hid T.below
      have oc := T.op.box.c1
      have of := T.op.free 1 (by decide)
      have hg1 : ¬ w.heap.size = w1.heap.size + 1 := by omega
      have hg2 : ¬ w1.heap.size + 1 = w.heap.size := by omega
      have HP : Hid (oparse s.data.toList = none) := by
        show oparse _ = _; rw [oparse_at HSP.out HKK.out (by decide)]; unfold oargs; rw [if_neg (by decide)]; simp only [onumbers, num_no hq0]; rfl
      clear T
      go_wp2
      try rw [Exit.noGoto_ret]
      refine bodyPost_ret (v := .tuple #[opV 0 0 0 0 false (.slice none 0 0), .bool false]) ?_ rfl ?_
      · simp only [results, Tryz.results39]
        go_simp
      · have hbw := HB9.out
        refine ret_none HP.out rfl ?_
        clear HP
        repeat (first | (with_reducible exact hbw) | refine below_set ?_ (by omega) _)
    have S1 := T.store (j := 1) (.int .i64 (numI y)) (T.op.box.set0 (numI y))
    have oc := T.op.box.c1
    have of := T.op.free 1 (by decide)
    clear T
    go_wp2
    refine wp_named fun Y1 hY1 => ?_
    rw [← hY1] at S1
    clear hY1 oc of b0
    rcases r with - | ⟨y2, r⟩
    · skip
      obtain ⟨off, cap, hws⟩ := S1.ws
      have c4 := hws.cell
      simp only [List.length_nil] at c4
      obtain ⟨x0, x1, x2, x3, x4, x5⟩ := S1.op.box
      have HPl : Hid (∀ w', Calls Tryz.prog 75 #[opV 3 (numI y) (0) (0) false (.slice none 0 0)] w' (RetOp w' 3 (numI y) (0) (0) false [])) := fun w' => plain_any 3 (numI y) (0) (0) false (.slice none 0 0) [] w' (by simp) ⟨none, 0, rfl, .inl rfl⟩
      have HSt := Lib.hid S1
      have HP : Hid (oparse s.data.toList = some ⟨3, numI y, 0, 0, false, []⟩) := by
        show oparse _ = _; rw [oparse_at HSP.out HKK.out (by decide)]; unfold oargs; rw [if_neg (by decide)]; simp only [onumbers, num_yes hq0]; rfl
      clear S1 hws
      go_wp2_with fail
      refine (HPl.out _).mono ?_
      rintro e w9 ⟨ao, co, rfl, hown, hb⟩
      have S9 := HSt.out.from_ ⟨hb⟩
      obtain ⟨z0, z1, z2, z3, z4, z5⟩ := S9.zero.box
      have zf0 := S9.zero.free 0 (by decide)
      have zf1 := S9.zero.free 1 (by decide)
      have zf2 := S9.zero.free 2 (by decide)
      have zf3 := S9.zero.free 3 (by decide)
      have zf4 := S9.zero.free 4 (by decide)
      have zf5 := S9.zero.free 5 (by decide)
      have HB9 := Lib.hid S9.below
      clear hown hb S9 HPl
      go_wp2
      try rw [Exit.noGoto_ret]
      refine bodyPost_ret (v := .tuple #[opV 3 (numI y) (0) (0) false (.slice ao 0 co), .bool true]) ?_ rfl ?_
      · simp only [results, Tryz.results39]
        go_simp
      · have hbw := HB9.out
        refine ret_some HP.out rfl ⟨ao, co, rfl, .inl rfl⟩ ?_
        clear HP
        repeat (first | (with_reducible exact hbw) | refine below_set ?_ (by omega) _)
    · skip
      obtain ⟨off, cap, hws⟩ := S1.ws
      have c4 := hws.cell
      simp only [List.length_cons] at c4
      obtain ⟨x0, x1, x2, x3, x4, x5⟩ := S1.op.box
      obtain ⟨z0, z1, z2, z3, z4, z5⟩ := S1.zero.box
      have zf0 := S1.zero.free 0 (by decide)
      have zf1 := S1.zero.free 1 (by decide)
      have zf2 := S1.zero.free 2 (by decide)
      have zf3 := S1.zero.free 3 (by decide)
      have zf4 := S1.zero.free 4 (by decide)
      have zf5 := S1.zero.free 5 (by decide)
      have HB9 := Lib.hid S1.below
      have HP : Hid (oparse s.data.toList = none) := by
        show oparse _ = _; rw [oparse_at HSP.out HKK.out (by decide)]; unfold oargs; rw [if_neg (by decide)]
        rcases onum_cons y (y2 :: r) with h | ⟨v, ns, h, -, h'⟩
        · rw [h]; rfl
        · rcases onum_cons y2 r with g | ⟨v2, ns2, g, -, -⟩
          · rw [g] at h'; cases h'
          · rw [g] at h'; cases h'; rw [h]; rfl
      clear S1 hws
      go_wp2
      try rw [Exit.noGoto_ret]
      refine bodyPost_ret (v := .tuple #[opV 0 0 0 0 false (.slice none 0 0), .bool false]) ?_ rfl ?_
      · simp only [results, Tryz.results39]
        go_simp
      · have hbw := HB9.out
        refine ret_none HP.out rfl ?_
        clear HP
        repeat (first | (with_reducible exact hbw) | refine below_set ?_ (by omega) _)

set_option maxHeartbeats 4000000 in
set_option maxRecDepth 100000 in
theorem sparse_5 (s : ByteArray) (x0 : List UInt8) (r : List (List UInt8)) (w : World) (hs : s.size ≤ 100000) (hsp : Lib.split s.data.toList [32] = x0 :: r) (hk : opKind x0 = 5) (hW : ScrW w) :
    Calls Tryz.prog 39 #[.string s] w (ParseRet s.data.toList w) := by
  have hz : Below w.heap.size w (w.alloc (.cells #[.int .i64 0, .int .i64 0, .int .i64 0, .int .i64 0, .bool false, .slice none 0 0] 58)) := (Below.refl _ _).alloc (Nat.le_refl _) _
  have I0 := split_cap s [32] (w.alloc (.cells #[.int .i64 0, .int .i64 0, .int .i64 0, .int .i64 0, .bool false, .slice none 0 0] 58)) (by omega) (by simp) (hW.from_ ⟨hz⟩).log.tabs
  rw [hsp] at I0
  have I := Lib.hid I0
  have HK : Hid (∀ w', From w w' → Calls Tryz.prog 72 #[.string (str x0)] w' fun e w'' => e = .returned (.int .i64 5) ∧ w' = w'') := fun w' hf => by
    have h := kind_any x0 w' (hW.from_ hf).kinds
    rw [hk] at h; exact h
  have HFl : Hid (∀ w', From w w' → w'.cell? ⟨1, 5, none⟩ = some (.string ⟨#[105]⟩)) := fun w' hf => (hW.from_ hf).fields 5 (by decide)
  have hlw : 1 < w.heap.size := cell_lt (hW.fields 0 (by decide))
  have TS : Hid (∀ w', Below w.heap.size w w' → Tabs w') := fun w' hb => (hW.from_ ⟨hb⟩).log.tabs
  have HW := Lib.hid hW
  have HSP := Lib.hid hsp
  have HKK := Lib.hid hk
  have hrl : r.length ≤ 100000 := by
    have h := splits_len s [32] (by simp)
    rw [hsp] at h
    simp only [List.length_cons] at h
    omega
  have hle : ∀ x ∈ r, x.length ≤ 100000 := fun x hx => by
    have h := split_le [32] (by simp) s.data.toList.length s.data.toList (Nat.le_refl _) x (by rw [hsp]; simp [hx])
    rw [size_toList] at h; omega
  have HLE := Lib.hid hle
  have HRL := Lib.hid hrl
  have HZ := Lib.hid hz
  clear hW hsp hk hle I0 hz hs
  go_enter Tryz.func39, Tryz.ntmps39
  go_wp2
  refine wp_scope_straight ?_
  go_wp2_with fail
  refine I.out.mono ?_
  rintro e w1 ⟨b, rfl, hbl, hlt, hcells, hb1⟩
  have F1 : From w w1 := ⟨HZ.out.trans (hb1.mono HZ.out.size)⟩
  have HC := Lib.hid hcells
  have c0 : w1.cell? ⟨b, 0, none⟩ = some (.string (str x0)) := hcells 0 (by simp)
  simp only [List.length_cons] at hcells ⊢
  have hz1 := hb1.size
  have hbw : w.heap.size < b := by simp at hbl; omega
  have hbw1 : b ≠ w1.heap.size := by omega
  have hbw2 : ¬ w1.heap.size = b := by omega
  have ZB : Hid (OpB w1 w.heap.size 0 0 0 0 false (.slice none 0 0)) := by
    refine OpB.from_ (w := w.alloc (.cells #[.int .i64 0, .int .i64 0, .int .i64 0, .int .i64 0, .bool false, .slice none 0 0] 58)) ⟨⟨by go_simp, by go_simp, by go_simp, by go_simp, by go_simp, by go_simp⟩, fun j _ => by go_simp⟩ ⟨?_⟩
    exact hb1.mono (Nat.le_refl _)
  clear hcells hb1 hbl
  go_wp2_with fail
  refine (HK.out _ (F1.alloc _)).mono ?_
  rintro e w2 ⟨rfl, rfl⟩
  have p0 := HFl.out _ F1
  have hw1 : w.heap.size < w1.heap.size := Nat.lt_trans hbw hlt
  have hlW : ¬ 1 = w1.heap.size := by omega
  have hlV : ¬ w1.heap.size = 1 := by omega
  have hlt1 : 1 < w1.heap.size := by omega
  have hcv : ∀ w, (convert 9 98 (.string ⟨#[105]⟩)).run Tryz.prog w = .ok (.slice (some ⟨w.heap.size, 0, none⟩) 1 (grownCap w 1 0 5)) (Lib.bytesWorld w 5 ⟨#[105]⟩) := fun w => Lib.run_convert_string_bytes w 9 98 5 ⟨#[105]⟩ Tryz.underlying9 Tryz.underlying98 Tryz.underlying5
  rcases r with - | ⟨y, r⟩
  · simp only [List.length_nil] at HRL ⊢
    go_wp2
    refine wp_label ?_
    refine then_named fun X hX => ?_
    obtain ⟨S0, HB, FX⟩ := pst_start (a0 := w) (xs := []) ZB.out hX (Nat.le_refl _) (fun j x hx => by simp at hx) hbw hlt (Nat.le_refl _) F1.out [105]
    obtain ⟨x0, x1, x2, x3, x4, x5⟩ := HB
    have p1 := HFl.out _ (F1.trans FX)
    clear hX p0
    go_wp2
    refine wp_named fun Y hY => ?_
    rw [show Lib.bytesWorld X 5 (str [105]) = Y from hY.symm] at S0
    clear hY
    refine wp_loop_rounds 6 ?_
    clear x0 x1 x2 x3 x4 x5 p1

    obtain ⟨off, cap, hws⟩ := S0.ws
    have NX := Lib.hid (next_nil _ _ _ _ _ hws)
    have b0 := S0.bytes 0 _ rfl
    obtain ⟨z0, z1, z2, z3, z4, z5⟩ := S0.zero.box
    have zf0 := S0.zero.free 0 (by decide)
    have zf1 := S0.zero.free 1 (by decide)
    have zf2 := S0.zero.free 2 (by decide)
    have zf3 := S0.zero.free 3 (by decide)
    have zf4 := S0.zero.free 4 (by decide)
    have zf5 := S0.zero.free 5 (by decide)
    have HB9 := Lib.hid S0.below
    have oc := S0.op.box.c1
    have of := S0.op.free 1 (by decide)
    have hg1 : ¬ w.heap.size = w1.heap.size + 1 := by omega
    have hg2 : ¬ w1.heap.size + 1 = w.heap.size := by omega
    have HP : Hid (oparse s.data.toList = none) := by
      show oparse _ = _; rw [oparse_at HSP.out HKK.out (by decide)]; rfl
    clear S0 hws
    rw [rounds_succ]
    go_wp2_with fail
    refine NX.out.mono ?_
    rintro e wn ⟨rfl, rfl⟩
    go_wp2
    try rw [Exit.noGoto_ret]
    refine bodyPost_ret (v := .tuple #[opV 0 0 0 0 false (.slice none 0 0), .bool false]) ?_ rfl ?_
    · simp only [results, Tryz.results39]
      go_simp
    · have hbw := HB9.out
      refine ret_none HP.out rfl ?_
      clear HP
      repeat (first | (with_reducible exact hbw) | refine below_set ?_ (by omega) _)
  · simp only [List.length_cons] at HRL ⊢
    go_wp2
    refine wp_label ?_
    refine then_named fun X hX => ?_
    obtain ⟨S0, HB, FX⟩ := pst_start (a0 := w) (xs := y :: r) ZB.out hX (Nat.le_refl _) (fun j x hx => by
      have hj : j < (y :: r).length := (List.getElem?_eq_some_iff.1 hx).1
      have h := HC.out (1 + j) (by simp only [List.length_cons] at hj ⊢; omega)
      rw [h, Nat.add_comm, strAt_cons]
      rw [strAt_get hj] at hx
      cases hx; rfl) hbw hlt (Nat.le_refl _) F1.out [105]
    obtain ⟨x0, x1, x2, x3, x4, x5⟩ := HB
    have p1 := HFl.out _ (F1.trans FX)
    clear hX p0
    go_wp2
    refine wp_named fun Y hY => ?_
    rw [show Lib.bytesWorld X 5 (str [105]) = Y from hY.symm] at S0
    clear hY
    refine wp_loop_rounds 6 ?_
    clear x0 x1 x2 x3 x4 x5 p1

    obtain ⟨off, cap, hws⟩ := S0.ws
    have hyl := HLE.out y (by simp)
    have NX := Lib.hid (next_cons _ _ _ _ y r _ hws (by omega) (by have := HRL.out; first | omega | (simp only [List.length_cons] at this; omega)) (TS.out _ S0.below))
    have b0 := S0.bytes 0 _ rfl
    have HS := Lib.hid S0
    clear S0 hws
    rw [rounds_succ]
    go_wp2_with fail
    refine NX.out.mono ?_
    rintro e wn ⟨rfl, hmn, offn, hwn⟩
    have T := HS.out.next hmn ⟨offn, _, hwn⟩
    clear hmn hwn NX HS
    cases hq0 : numB y
    · obtain ⟨z0, z1, z2, z3, z4, z5⟩ := T.zero.box
      have zf0 := T.zero.free 0 (by decide)
      have zf1 := T.zero.free 1 (by decide)
      have zf2 := T.zero.free 2 (by decide)
      have zf3 := T.zero.free 3 (by decide)
      have zf4 := T.zero.free 4 (by decide)
      have zf5 := T.zero.free 5 (by decide)
      have HB9 := Lib.hid T.below
      have oc := T.op.box.c1
      have of := T.op.free 1 (by decide)
      have hg1 : ¬ w.heap.size = w1.heap.size + 1 := by omega
      have hg2 : ¬ w1.heap.size + 1 = w.heap.size := by omega
      have HP : Hid (oparse s.data.toList = none) := by
        show oparse _ = _; rw [oparse_at HSP.out HKK.out (by decide)]; unfold oargs; rw [if_neg (by decide)]; simp only [onumbers, num_no hq0]; rfl
      clear T
      go_wp2
      try rw [Exit.noGoto_ret]
      refine bodyPost_ret (v := .tuple #[opV 0 0 0 0 false (.slice none 0 0), .bool false]) ?_ rfl ?_
      · simp only [results, Tryz.results39]
        go_simp
      · have hbw := HB9.out
        refine ret_none HP.out rfl ?_
        clear HP
        repeat (first | (with_reducible exact hbw) | refine below_set ?_ (by omega) _)
    have S1 := T.store (j := 1) (.int .i64 (numI y)) (T.op.box.set0 (numI y))
    have oc := T.op.box.c1
    have of := T.op.free 1 (by decide)
    clear T
    go_wp2
    refine wp_named fun Y1 hY1 => ?_
    rw [← hY1] at S1
    clear hY1 oc of b0
    rcases r with - | ⟨y2, r⟩
    · skip
      obtain ⟨off, cap, hws⟩ := S1.ws
      have c4 := hws.cell
      simp only [List.length_nil] at c4
      obtain ⟨x0, x1, x2, x3, x4, x5⟩ := S1.op.box
      have HPl : Hid (∀ w', Calls Tryz.prog 75 #[opV 5 (numI y) (0) (0) false (.slice none 0 0)] w' (RetOp w' 5 (numI y) (0) (0) false [])) := fun w' => plain_any 5 (numI y) (0) (0) false (.slice none 0 0) [] w' (by simp) ⟨none, 0, rfl, .inl rfl⟩
      have HSt := Lib.hid S1
      have HP : Hid (oparse s.data.toList = some ⟨5, numI y, 0, 0, false, []⟩) := by
        show oparse _ = _; rw [oparse_at HSP.out HKK.out (by decide)]; unfold oargs; rw [if_neg (by decide)]; simp only [onumbers, num_yes hq0]; rfl
      clear S1 hws
      go_wp2_with fail
      refine (HPl.out _).mono ?_
      rintro e w9 ⟨ao, co, rfl, hown, hb⟩
      have S9 := HSt.out.from_ ⟨hb⟩
      obtain ⟨z0, z1, z2, z3, z4, z5⟩ := S9.zero.box
      have zf0 := S9.zero.free 0 (by decide)
      have zf1 := S9.zero.free 1 (by decide)
      have zf2 := S9.zero.free 2 (by decide)
      have zf3 := S9.zero.free 3 (by decide)
      have zf4 := S9.zero.free 4 (by decide)
      have zf5 := S9.zero.free 5 (by decide)
      have HB9 := Lib.hid S9.below
      clear hown hb S9 HPl
      go_wp2
      try rw [Exit.noGoto_ret]
      refine bodyPost_ret (v := .tuple #[opV 5 (numI y) (0) (0) false (.slice ao 0 co), .bool true]) ?_ rfl ?_
      · simp only [results, Tryz.results39]
        go_simp
      · have hbw := HB9.out
        refine ret_some HP.out rfl ⟨ao, co, rfl, .inl rfl⟩ ?_
        clear HP
        repeat (first | (with_reducible exact hbw) | refine below_set ?_ (by omega) _)
    · skip
      obtain ⟨off, cap, hws⟩ := S1.ws
      have c4 := hws.cell
      simp only [List.length_cons] at c4
      obtain ⟨x0, x1, x2, x3, x4, x5⟩ := S1.op.box
      obtain ⟨z0, z1, z2, z3, z4, z5⟩ := S1.zero.box
      have zf0 := S1.zero.free 0 (by decide)
      have zf1 := S1.zero.free 1 (by decide)
      have zf2 := S1.zero.free 2 (by decide)
      have zf3 := S1.zero.free 3 (by decide)
      have zf4 := S1.zero.free 4 (by decide)
      have zf5 := S1.zero.free 5 (by decide)
      have HB9 := Lib.hid S1.below
      have HP : Hid (oparse s.data.toList = none) := by
        show oparse _ = _; rw [oparse_at HSP.out HKK.out (by decide)]; unfold oargs; rw [if_neg (by decide)]
        rcases onum_cons y (y2 :: r) with h | ⟨v, ns, h, -, h'⟩
        · rw [h]; rfl
        · rcases onum_cons y2 r with g | ⟨v2, ns2, g, -, -⟩
          · rw [g] at h'; cases h'
          · rw [g] at h'; cases h'; rw [h]; rfl
      clear S1 hws
      go_wp2
      try rw [Exit.noGoto_ret]
      refine bodyPost_ret (v := .tuple #[opV 0 0 0 0 false (.slice none 0 0), .bool false]) ?_ rfl ?_
      · simp only [results, Tryz.results39]
        go_simp
      · have hbw := HB9.out
        refine ret_none HP.out rfl ?_
        clear HP
        repeat (first | (with_reducible exact hbw) | refine below_set ?_ (by omega) _)

set_option maxHeartbeats 4000000 in
set_option maxRecDepth 100000 in
theorem sparse_6 (s : ByteArray) (x0 : List UInt8) (r : List (List UInt8)) (w : World) (hs : s.size ≤ 100000) (hsp : Lib.split s.data.toList [32] = x0 :: r) (hk : opKind x0 = 6) (hW : ScrW w) :
    Calls Tryz.prog 39 #[.string s] w (ParseRet s.data.toList w) := by
  have hz : Below w.heap.size w (w.alloc (.cells #[.int .i64 0, .int .i64 0, .int .i64 0, .int .i64 0, .bool false, .slice none 0 0] 58)) := (Below.refl _ _).alloc (Nat.le_refl _) _
  have I0 := split_cap s [32] (w.alloc (.cells #[.int .i64 0, .int .i64 0, .int .i64 0, .int .i64 0, .bool false, .slice none 0 0] 58)) (by omega) (by simp) (hW.from_ ⟨hz⟩).log.tabs
  rw [hsp] at I0
  have I := Lib.hid I0
  have HK : Hid (∀ w', From w w' → Calls Tryz.prog 72 #[.string (str x0)] w' fun e w'' => e = .returned (.int .i64 6) ∧ w' = w'') := fun w' hf => by
    have h := kind_any x0 w' (hW.from_ hf).kinds
    rw [hk] at h; exact h
  have HFl : Hid (∀ w', From w w' → w'.cell? ⟨1, 6, none⟩ = some (.string ⟨#[110]⟩)) := fun w' hf => (hW.from_ hf).fields 6 (by decide)
  have hlw : 1 < w.heap.size := cell_lt (hW.fields 0 (by decide))
  have TS : Hid (∀ w', Below w.heap.size w w' → Tabs w') := fun w' hb => (hW.from_ ⟨hb⟩).log.tabs
  have HW := Lib.hid hW
  have HSP := Lib.hid hsp
  have HKK := Lib.hid hk
  have hrl : r.length ≤ 100000 := by
    have h := splits_len s [32] (by simp)
    rw [hsp] at h
    simp only [List.length_cons] at h
    omega
  have hle : ∀ x ∈ r, x.length ≤ 100000 := fun x hx => by
    have h := split_le [32] (by simp) s.data.toList.length s.data.toList (Nat.le_refl _) x (by rw [hsp]; simp [hx])
    rw [size_toList] at h; omega
  have HLE := Lib.hid hle
  have HRL := Lib.hid hrl
  have HZ := Lib.hid hz
  clear hW hsp hk hle I0 hz hs
  go_enter Tryz.func39, Tryz.ntmps39
  go_wp2
  refine wp_scope_straight ?_
  go_wp2_with fail
  refine I.out.mono ?_
  rintro e w1 ⟨b, rfl, hbl, hlt, hcells, hb1⟩
  have F1 : From w w1 := ⟨HZ.out.trans (hb1.mono HZ.out.size)⟩
  have HC := Lib.hid hcells
  have c0 : w1.cell? ⟨b, 0, none⟩ = some (.string (str x0)) := hcells 0 (by simp)
  simp only [List.length_cons] at hcells ⊢
  have hz1 := hb1.size
  have hbw : w.heap.size < b := by simp at hbl; omega
  have hbw1 : b ≠ w1.heap.size := by omega
  have hbw2 : ¬ w1.heap.size = b := by omega
  have ZB : Hid (OpB w1 w.heap.size 0 0 0 0 false (.slice none 0 0)) := by
    refine OpB.from_ (w := w.alloc (.cells #[.int .i64 0, .int .i64 0, .int .i64 0, .int .i64 0, .bool false, .slice none 0 0] 58)) ⟨⟨by go_simp, by go_simp, by go_simp, by go_simp, by go_simp, by go_simp⟩, fun j _ => by go_simp⟩ ⟨?_⟩
    exact hb1.mono (Nat.le_refl _)
  clear hcells hb1 hbl
  go_wp2_with fail
  refine (HK.out _ (F1.alloc _)).mono ?_
  rintro e w2 ⟨rfl, rfl⟩
  have p0 := HFl.out _ F1
  have hw1 : w.heap.size < w1.heap.size := Nat.lt_trans hbw hlt
  have hlW : ¬ 1 = w1.heap.size := by omega
  have hlV : ¬ w1.heap.size = 1 := by omega
  have hlt1 : 1 < w1.heap.size := by omega
  have hcv : ∀ w, (convert 9 98 (.string ⟨#[110]⟩)).run Tryz.prog w = .ok (.slice (some ⟨w.heap.size, 0, none⟩) 1 (grownCap w 1 0 5)) (Lib.bytesWorld w 5 ⟨#[110]⟩) := fun w => Lib.run_convert_string_bytes w 9 98 5 ⟨#[110]⟩ Tryz.underlying9 Tryz.underlying98 Tryz.underlying5
  rcases r with - | ⟨y, r⟩
  · simp only [List.length_nil] at HRL ⊢
    go_wp2
    refine wp_label ?_
    refine then_named fun X hX => ?_
    obtain ⟨S0, HB, FX⟩ := pst_start (a0 := w) (xs := []) ZB.out hX (Nat.le_refl _) (fun j x hx => by simp at hx) hbw hlt (Nat.le_refl _) F1.out [110]
    obtain ⟨x0, x1, x2, x3, x4, x5⟩ := HB
    have p1 := HFl.out _ (F1.trans FX)
    clear hX p0
    go_wp2
    refine wp_named fun Y hY => ?_
    rw [show Lib.bytesWorld X 5 (str [110]) = Y from hY.symm] at S0
    clear hY
    refine wp_loop_rounds 6 ?_
    clear x0 x1 x2 x3 x4 x5 p1

    obtain ⟨off, cap, hws⟩ := S0.ws
    have NX := Lib.hid (next_nil _ _ _ _ _ hws)
    have b0 := S0.bytes 0 _ rfl
    obtain ⟨z0, z1, z2, z3, z4, z5⟩ := S0.zero.box
    have zf0 := S0.zero.free 0 (by decide)
    have zf1 := S0.zero.free 1 (by decide)
    have zf2 := S0.zero.free 2 (by decide)
    have zf3 := S0.zero.free 3 (by decide)
    have zf4 := S0.zero.free 4 (by decide)
    have zf5 := S0.zero.free 5 (by decide)
    have HB9 := Lib.hid S0.below
    have oc := S0.op.box.c3
    have of := S0.op.free 3 (by decide)
    have hg1 : ¬ w.heap.size = w1.heap.size + 1 := by omega
    have hg2 : ¬ w1.heap.size + 1 = w.heap.size := by omega
    have HP : Hid (oparse s.data.toList = none) := by
      show oparse _ = _; rw [oparse_at HSP.out HKK.out (by decide)]; rfl
    clear S0 hws
    rw [rounds_succ]
    go_wp2_with fail
    refine NX.out.mono ?_
    rintro e wn ⟨rfl, rfl⟩
    go_wp2
    try rw [Exit.noGoto_ret]
    refine bodyPost_ret (v := .tuple #[opV 0 0 0 0 false (.slice none 0 0), .bool false]) ?_ rfl ?_
    · simp only [results, Tryz.results39]
      go_simp
    · have hbw := HB9.out
      refine ret_none HP.out rfl ?_
      clear HP
      repeat (first | (with_reducible exact hbw) | refine below_set ?_ (by omega) _)
  · simp only [List.length_cons] at HRL ⊢
    go_wp2
    refine wp_label ?_
    refine then_named fun X hX => ?_
    obtain ⟨S0, HB, FX⟩ := pst_start (a0 := w) (xs := y :: r) ZB.out hX (Nat.le_refl _) (fun j x hx => by
      have hj : j < (y :: r).length := (List.getElem?_eq_some_iff.1 hx).1
      have h := HC.out (1 + j) (by simp only [List.length_cons] at hj ⊢; omega)
      rw [h, Nat.add_comm, strAt_cons]
      rw [strAt_get hj] at hx
      cases hx; rfl) hbw hlt (Nat.le_refl _) F1.out [110]
    obtain ⟨x0, x1, x2, x3, x4, x5⟩ := HB
    have p1 := HFl.out _ (F1.trans FX)
    clear hX p0
    go_wp2
    refine wp_named fun Y hY => ?_
    rw [show Lib.bytesWorld X 5 (str [110]) = Y from hY.symm] at S0
    clear hY
    refine wp_loop_rounds 6 ?_
    clear x0 x1 x2 x3 x4 x5 p1

    obtain ⟨off, cap, hws⟩ := S0.ws
    have hyl := HLE.out y (by simp)
    have NX := Lib.hid (next_cons _ _ _ _ y r _ hws (by omega) (by have := HRL.out; first | omega | (simp only [List.length_cons] at this; omega)) (TS.out _ S0.below))
    have b0 := S0.bytes 0 _ rfl
    have HS := Lib.hid S0
    clear S0 hws
    rw [rounds_succ]
    go_wp2_with fail
    refine NX.out.mono ?_
    rintro e wn ⟨rfl, hmn, offn, hwn⟩
    have T := HS.out.next hmn ⟨offn, _, hwn⟩
    clear hmn hwn NX HS
    cases hq0 : numB y
    · obtain ⟨z0, z1, z2, z3, z4, z5⟩ := T.zero.box
      have zf0 := T.zero.free 0 (by decide)
      have zf1 := T.zero.free 1 (by decide)
      have zf2 := T.zero.free 2 (by decide)
      have zf3 := T.zero.free 3 (by decide)
      have zf4 := T.zero.free 4 (by decide)
      have zf5 := T.zero.free 5 (by decide)
      have HB9 := Lib.hid T.below
      have oc := T.op.box.c3
      have of := T.op.free 3 (by decide)
      have hg1 : ¬ w.heap.size = w1.heap.size + 1 := by omega
      have hg2 : ¬ w1.heap.size + 1 = w.heap.size := by omega
      have HP : Hid (oparse s.data.toList = none) := by
        show oparse _ = _; rw [oparse_at HSP.out HKK.out (by decide)]; unfold oargs; rw [if_neg (by decide)]; simp only [onumbers, num_no hq0]; rfl
      clear T
      go_wp2
      try rw [Exit.noGoto_ret]
      refine bodyPost_ret (v := .tuple #[opV 0 0 0 0 false (.slice none 0 0), .bool false]) ?_ rfl ?_
      · simp only [results, Tryz.results39]
        go_simp
      · have hbw := HB9.out
        refine ret_none HP.out rfl ?_
        clear HP
        repeat (first | (with_reducible exact hbw) | refine below_set ?_ (by omega) _)
    have S1 := T.store (j := 3) (.int .i64 (numI y)) (T.op.box.set3 (numI y))
    have oc := T.op.box.c3
    have of := T.op.free 3 (by decide)
    clear T
    go_wp2
    refine wp_named fun Y1 hY1 => ?_
    rw [← hY1] at S1
    clear hY1 oc of b0
    rcases r with - | ⟨y2, r⟩
    · skip
      obtain ⟨off, cap, hws⟩ := S1.ws
      have c4 := hws.cell
      simp only [List.length_nil] at c4
      obtain ⟨x0, x1, x2, x3, x4, x5⟩ := S1.op.box
      have HPl : Hid (∀ w', Calls Tryz.prog 75 #[opV 6 (0) (0) (numI y) false (.slice none 0 0)] w' (RetOp w' 6 (0) (0) (numI y) false [])) := fun w' => plain_any 6 (0) (0) (numI y) false (.slice none 0 0) [] w' (by simp) ⟨none, 0, rfl, .inl rfl⟩
      have HSt := Lib.hid S1
      have HP : Hid (oparse s.data.toList = some ⟨6, 0, 0, numI y, false, []⟩) := by
        show oparse _ = _; rw [oparse_at HSP.out HKK.out (by decide)]; unfold oargs; rw [if_neg (by decide)]; simp only [onumbers, num_yes hq0]; rfl
      clear S1 hws
      go_wp2_with fail
      refine (HPl.out _).mono ?_
      rintro e w9 ⟨ao, co, rfl, hown, hb⟩
      have S9 := HSt.out.from_ ⟨hb⟩
      obtain ⟨z0, z1, z2, z3, z4, z5⟩ := S9.zero.box
      have zf0 := S9.zero.free 0 (by decide)
      have zf1 := S9.zero.free 1 (by decide)
      have zf2 := S9.zero.free 2 (by decide)
      have zf3 := S9.zero.free 3 (by decide)
      have zf4 := S9.zero.free 4 (by decide)
      have zf5 := S9.zero.free 5 (by decide)
      have HB9 := Lib.hid S9.below
      clear hown hb S9 HPl
      go_wp2
      try rw [Exit.noGoto_ret]
      refine bodyPost_ret (v := .tuple #[opV 6 (0) (0) (numI y) false (.slice ao 0 co), .bool true]) ?_ rfl ?_
      · simp only [results, Tryz.results39]
        go_simp
      · have hbw := HB9.out
        refine ret_some HP.out rfl ⟨ao, co, rfl, .inl rfl⟩ ?_
        clear HP
        repeat (first | (with_reducible exact hbw) | refine below_set ?_ (by omega) _)
    · skip
      obtain ⟨off, cap, hws⟩ := S1.ws
      have c4 := hws.cell
      simp only [List.length_cons] at c4
      obtain ⟨x0, x1, x2, x3, x4, x5⟩ := S1.op.box
      obtain ⟨z0, z1, z2, z3, z4, z5⟩ := S1.zero.box
      have zf0 := S1.zero.free 0 (by decide)
      have zf1 := S1.zero.free 1 (by decide)
      have zf2 := S1.zero.free 2 (by decide)
      have zf3 := S1.zero.free 3 (by decide)
      have zf4 := S1.zero.free 4 (by decide)
      have zf5 := S1.zero.free 5 (by decide)
      have HB9 := Lib.hid S1.below
      have HP : Hid (oparse s.data.toList = none) := by
        show oparse _ = _; rw [oparse_at HSP.out HKK.out (by decide)]; unfold oargs; rw [if_neg (by decide)]
        rcases onum_cons y (y2 :: r) with h | ⟨v, ns, h, -, h'⟩
        · rw [h]; rfl
        · rcases onum_cons y2 r with g | ⟨v2, ns2, g, -, -⟩
          · rw [g] at h'; cases h'
          · rw [g] at h'; cases h'; rw [h]; rfl
      clear S1 hws
      go_wp2
      try rw [Exit.noGoto_ret]
      refine bodyPost_ret (v := .tuple #[opV 0 0 0 0 false (.slice none 0 0), .bool false]) ?_ rfl ?_
      · simp only [results, Tryz.results39]
        go_simp
      · have hbw := HB9.out
        refine ret_none HP.out rfl ?_
        clear HP
        repeat (first | (with_reducible exact hbw) | refine below_set ?_ (by omega) _)

set_option maxHeartbeats 4000000 in
set_option maxRecDepth 100000 in
theorem sparse_7 (s : ByteArray) (x0 : List UInt8) (r : List (List UInt8)) (w : World) (hs : s.size ≤ 100000) (hsp : Lib.split s.data.toList [32] = x0 :: r) (hk : opKind x0 = 7) (hW : ScrW w) :
    Calls Tryz.prog 39 #[.string s] w (ParseRet s.data.toList w) := by
  have hz : Below w.heap.size w (w.alloc (.cells #[.int .i64 0, .int .i64 0, .int .i64 0, .int .i64 0, .bool false, .slice none 0 0] 58)) := (Below.refl _ _).alloc (Nat.le_refl _) _
  have I0 := split_cap s [32] (w.alloc (.cells #[.int .i64 0, .int .i64 0, .int .i64 0, .int .i64 0, .bool false, .slice none 0 0] 58)) (by omega) (by simp) (hW.from_ ⟨hz⟩).log.tabs
  rw [hsp] at I0
  have I := Lib.hid I0
  have HK : Hid (∀ w', From w w' → Calls Tryz.prog 72 #[.string (str x0)] w' fun e w'' => e = .returned (.int .i64 7) ∧ w' = w'') := fun w' hf => by
    have h := kind_any x0 w' (hW.from_ hf).kinds
    rw [hk] at h; exact h
  have HFl : Hid (∀ w', From w w' → w'.cell? ⟨1, 7, none⟩ = some (.string ⟨#[]⟩)) := fun w' hf => (hW.from_ hf).fields 7 (by decide)
  have hlw : 1 < w.heap.size := cell_lt (hW.fields 0 (by decide))
  have TS : Hid (∀ w', Below w.heap.size w w' → Tabs w') := fun w' hb => (hW.from_ ⟨hb⟩).log.tabs
  have HW := Lib.hid hW
  have HSP := Lib.hid hsp
  have HKK := Lib.hid hk
  have hrl : r.length ≤ 100000 := by
    have h := splits_len s [32] (by simp)
    rw [hsp] at h
    simp only [List.length_cons] at h
    omega
  have hle : ∀ x ∈ r, x.length ≤ 100000 := fun x hx => by
    have h := split_le [32] (by simp) s.data.toList.length s.data.toList (Nat.le_refl _) x (by rw [hsp]; simp [hx])
    rw [size_toList] at h; omega
  have HLE := Lib.hid hle
  have HRL := Lib.hid hrl
  have HZ := Lib.hid hz
  clear hW hsp hk hle I0 hz hs
  go_enter Tryz.func39, Tryz.ntmps39
  go_wp2
  refine wp_scope_straight ?_
  go_wp2_with fail
  refine I.out.mono ?_
  rintro e w1 ⟨b, rfl, hbl, hlt, hcells, hb1⟩
  have F1 : From w w1 := ⟨HZ.out.trans (hb1.mono HZ.out.size)⟩
  have HC := Lib.hid hcells
  have c0 : w1.cell? ⟨b, 0, none⟩ = some (.string (str x0)) := hcells 0 (by simp)
  simp only [List.length_cons] at hcells ⊢
  have hz1 := hb1.size
  have hbw : w.heap.size < b := by simp at hbl; omega
  have hbw1 : b ≠ w1.heap.size := by omega
  have hbw2 : ¬ w1.heap.size = b := by omega
  have ZB : Hid (OpB w1 w.heap.size 0 0 0 0 false (.slice none 0 0)) := by
    refine OpB.from_ (w := w.alloc (.cells #[.int .i64 0, .int .i64 0, .int .i64 0, .int .i64 0, .bool false, .slice none 0 0] 58)) ⟨⟨by go_simp, by go_simp, by go_simp, by go_simp, by go_simp, by go_simp⟩, fun j _ => by go_simp⟩ ⟨?_⟩
    exact hb1.mono (Nat.le_refl _)
  clear hcells hb1 hbl
  go_wp2_with fail
  refine (HK.out _ (F1.alloc _)).mono ?_
  rintro e w2 ⟨rfl, rfl⟩
  have p0 := HFl.out _ F1
  have hw1 : w.heap.size < w1.heap.size := Nat.lt_trans hbw hlt
  have hlW : ¬ 1 = w1.heap.size := by omega
  have hlV : ¬ w1.heap.size = 1 := by omega
  have hlt1 : 1 < w1.heap.size := by omega
  have hcv : ∀ w, (convert 9 98 (.string ⟨#[]⟩)).run Tryz.prog w = .ok (.slice (some ⟨w.heap.size, 0, none⟩) 0 (grownCap w 0 0 5)) (Lib.bytesWorld w 5 ⟨#[]⟩) := fun w => Lib.run_convert_string_bytes w 9 98 5 ⟨#[]⟩ Tryz.underlying9 Tryz.underlying98 Tryz.underlying5
  rcases r with - | ⟨y, r⟩
  · simp only [List.length_nil] at HRL ⊢
    go_wp2
    refine wp_label ?_
    refine then_named fun X hX => ?_
    obtain ⟨S0, HB, FX⟩ := pst_start (a0 := w) (xs := []) ZB.out hX (Nat.le_refl _) (fun j x hx => by simp at hx) hbw hlt (Nat.le_refl _) F1.out []
    obtain ⟨x0, x1, x2, x3, x4, x5⟩ := HB
    have p1 := HFl.out _ (F1.trans FX)
    clear hX p0
    go_wp2
    refine wp_named fun Y hY => ?_
    rw [show Lib.bytesWorld X 5 (str []) = Y from hY.symm] at S0
    clear hY
    refine wp_loop_rounds 6 ?_
    clear x0 x1 x2 x3 x4 x5 p1
    rw [rounds_succ]
    obtain ⟨off, cap, hws⟩ := S0.ws
    have c4 := hws.cell
    simp only [List.length_nil] at c4
    obtain ⟨x0, x1, x2, x3, x4, x5⟩ := S0.op.box
    have HPl : Hid (∀ w', Calls Tryz.prog 75 #[opV 7 (0) (0) (0) false (.slice none 0 0)] w' (RetOp w' 7 (0) (0) (0) false [])) := fun w' => plain_any 7 (0) (0) (0) false (.slice none 0 0) [] w' (by simp) ⟨none, 0, rfl, .inl rfl⟩
    have HSt := Lib.hid S0
    have HP : Hid (oparse s.data.toList = some ⟨7, 0, 0, 0, false, []⟩) := by
      show oparse _ = _; rw [oparse_at HSP.out HKK.out (by decide)]; rfl
    clear S0 hws
    go_wp2_with fail
    refine (HPl.out _).mono ?_
    rintro e w9 ⟨ao, co, rfl, hown, hb⟩
    have S9 := HSt.out.from_ ⟨hb⟩
    obtain ⟨z0, z1, z2, z3, z4, z5⟩ := S9.zero.box
    have zf0 := S9.zero.free 0 (by decide)
    have zf1 := S9.zero.free 1 (by decide)
    have zf2 := S9.zero.free 2 (by decide)
    have zf3 := S9.zero.free 3 (by decide)
    have zf4 := S9.zero.free 4 (by decide)
    have zf5 := S9.zero.free 5 (by decide)
    have HB9 := Lib.hid S9.below
    clear hown hb S9 HPl
    go_wp2
    try rw [Exit.noGoto_ret]
    refine bodyPost_ret (v := .tuple #[opV 7 (0) (0) (0) false (.slice ao 0 co), .bool true]) ?_ rfl ?_
    · simp only [results, Tryz.results39]
      go_simp
    · have hbw := HB9.out
      refine ret_some HP.out rfl ⟨ao, co, rfl, .inl rfl⟩ ?_
      clear HP
      repeat (first | (with_reducible exact hbw) | refine below_set ?_ (by omega) _)
  · simp only [List.length_cons] at HRL ⊢
    go_wp2
    refine wp_label ?_
    refine then_named fun X hX => ?_
    obtain ⟨S0, HB, FX⟩ := pst_start (a0 := w) (xs := y :: r) ZB.out hX (Nat.le_refl _) (fun j x hx => by
      have hj : j < (y :: r).length := (List.getElem?_eq_some_iff.1 hx).1
      have h := HC.out (1 + j) (by simp only [List.length_cons] at hj ⊢; omega)
      rw [h, Nat.add_comm, strAt_cons]
      rw [strAt_get hj] at hx
      cases hx; rfl) hbw hlt (Nat.le_refl _) F1.out []
    obtain ⟨x0, x1, x2, x3, x4, x5⟩ := HB
    have p1 := HFl.out _ (F1.trans FX)
    clear hX p0
    go_wp2
    refine wp_named fun Y hY => ?_
    rw [show Lib.bytesWorld X 5 (str []) = Y from hY.symm] at S0
    clear hY
    refine wp_loop_rounds 6 ?_
    clear x0 x1 x2 x3 x4 x5 p1
    rw [rounds_succ]
    obtain ⟨off, cap, hws⟩ := S0.ws
    have c4 := hws.cell
    simp only [List.length_cons] at c4
    obtain ⟨x0, x1, x2, x3, x4, x5⟩ := S0.op.box
    obtain ⟨z0, z1, z2, z3, z4, z5⟩ := S0.zero.box
    have zf0 := S0.zero.free 0 (by decide)
    have zf1 := S0.zero.free 1 (by decide)
    have zf2 := S0.zero.free 2 (by decide)
    have zf3 := S0.zero.free 3 (by decide)
    have zf4 := S0.zero.free 4 (by decide)
    have zf5 := S0.zero.free 5 (by decide)
    have HB9 := Lib.hid S0.below
    have HP : Hid (oparse s.data.toList = none) := by
      show oparse _ = _; rw [oparse_at HSP.out HKK.out (by decide)]; unfold oargs; rw [if_neg (by decide)]
      rcases onum_cons y r with h | ⟨v, ns, h, -, -⟩ <;> rw [h] <;> rfl
    clear S0 hws
    go_wp2
    try rw [Exit.noGoto_ret]
    refine bodyPost_ret (v := .tuple #[opV 0 0 0 0 false (.slice none 0 0), .bool false]) ?_ rfl ?_
    · simp only [results, Tryz.results39]
      go_simp
    · have hbw := HB9.out
      refine ret_none HP.out rfl ?_
      clear HP
      repeat (first | (with_reducible exact hbw) | refine below_set ?_ (by omega) _)

end Go.Proofs.YtdclokpoeaehlaaGreatDoor
