/- hammockref04.Parse, kind by kind. -/
import Derived.Test.YtdclokpoeaehlaaGreatDoorGv
import Derived.Deep.RegionHeld3
import Derived.Deep.RegionWith
namespace Go.Proofs.YtdclokpoeaehlaaGreatDoor
set_option linter.all false
open Go.RowKit

set_option maxHeartbeats 4000000 in
set_option maxRecDepth 100000 in
theorem rparse_3 (s : ByteArray) (x0 : List UInt8) (r : List (List UInt8)) (w : World) (hs : s.size ≤ 100000) (hsp : Lib.split s.data.toList [32] = x0 :: r) (hk : opKind x0 = 3) :
    Calls Tryz.prog 64 #[.string s] w (ParseRet s.data.toList w) := by
  have hrl : r.length ≤ 100000 := by
    have h := splits_len s [32] (by simp)
    rw [hsp] at h
    simp only [List.length_cons] at h
    omega
  have hb : Below w.heap.size w (w.alloc (.cells #[.int .i64 0, .int .i64 0, .int .i64 0, .int .i64 0, .bool false, .slice none 0 0] 58)) := (Below.refl _ _).alloc (Nat.le_refl _) _
  have I0 := words_any s (w.alloc (.cells #[.int .i64 0, .int .i64 0, .int .i64 0, .int .i64 0, .bool false, .slice none 0 0] 58)) (by omega)
  rw [hsp] at I0
  have I := Lib.hid I0
  have HB := Lib.hid hb
  have HSP := Lib.hid hsp
  have HKK := Lib.hid hk
  clear I0 hsp hk
  go_enter Tryz.func64, Tryz.ntmps64
  go_wp2_with fail
  refine I.out.mono ?_
  rintro e w1 ⟨u, rfl, hown, hb1⟩
  obtain ⟨b, cap, rfl, hble, hblt, hcap, hcells⟩ := hown.strs (by simp)
  have hz1 := hb1.size
  have hzw : w.heap.size < w1.heap.size := by simp at hz1; omega
  have hbz : w.heap.size < b := by simp at hble; omega
  have F1 : From w1 w1 := From.refl _
  have HZ : Hid (∀ w', From w1 w' → OpB w' w.heap.size 0 0 0 0 false (.slice none 0 0)) := fun w' hf => by
    refine OpB.from_ (w := w.alloc (.cells #[.int .i64 0, .int .i64 0, .int .i64 0, .int .i64 0, .bool false, .slice none 0 0] 58)) ⟨⟨by go_simp, by go_simp, by go_simp, by go_simp, by go_simp, by go_simp⟩, fun j _ => by go_simp⟩ ⟨hb1.trans (hf.out.mono hz1)⟩
  have HBW : Hid (∀ w', From w1 w' → Below w.heap.size w w') := fun w' hf => HB.out.trans ((hb1.trans (hf.out.mono hz1)).mono HB.out.size)
  simp only [List.length_cons] at hcap hcells ⊢
  have HC : Hid (∀ w' j, From w1 w' → j < r.length + 1 → w'.cell? ⟨b, j, none⟩ = some (.string (str (strAt (x0 :: r) j)))) := fun w' j hf hj => hf.cell (hcells j hj)
  have HO0 : Hid (OpB (w1.alloc (.cells #[.int .i64 0, .int .i64 0, .int .i64 0, .int .i64 0, .bool false, .slice none 0 0] 58)) w1.heap.size 0 0 0 0 false (.slice none 0 0)) := ⟨⟨by go_simp, by go_simp, by go_simp, by go_simp, by go_simp, by go_simp⟩, fun j _ => by go_simp⟩
  clear hown hcells hb1 hb hz1 hble
  go_wp2
  go_loopw [6] (fun i wr => ∃ k : Nat, 1 ≤ k ∧ k ≤ 8 ∧ i = .int .i64 k ∧ Hid (OpB wr w1.heap.size ((opTo x0 (k - 1) : Nat) : Int) 0 0 0 false (.slice none 0 0)) ∧ w1.heap.size < wr.heap.size ∧ From w1 wr) (fun i _ => 8 - (intOf i).toNat)
  case atStart => exact ⟨1, by omega, by omega, rfl, HO0.out, by simp, F1.alloc _⟩
  case round =>
    obtain ⟨k, hk1, hk2, rfl, HO, hgw, hfw⟩ := hrel
    by_cases hlt : k ≤ 7
    · have e1 : (k : Int) ≤ 7 := by omega
      have e0 : (0 : Int) ≤ (k : Int) := by omega
      have ck : wr.cell? ⟨b, 0, none⟩ = some (.string (str x0)) := HC.out wr 0 hfw (by omega)
      have HN := Lib.hid fun w => rkindName_any (k : Int) w
      have hkt : opTo x0 (k + 1 - 1) = if oname (k : Int) = x0 then k else opTo x0 (k - 1) := by
        obtain ⟨m, rfl⟩ : ∃ m, k = m + 1 := ⟨k - 1, by omega⟩
        rfl
      have F0 : From wr wr := From.refl _
      have Fd : From wr wr.drew := F0.drew
      have HK : Hid (∀ w', From wr w' → (w'.cell? ⟨b, 0, none⟩ = some (.string (str x0)) ∧ From wr w')) := fun w' hf => ⟨hf.cell ck, hf⟩
      generalize oname (k : Int) = nm at *
      by_cases hq : nm = x0
      · rw [if_pos hq] at hkt
        have HKT := Lib.hid hkt
        subst hq
        clear hkt
        go_wp2
        go_region_held3 (fun w' => w'.cell? ⟨b, 0, none⟩ = some (.string (str nm)) ∧ From wr w')
          (first
            | (with_reducible exact HK.out _ ‹_›)
            | (with_reducible exact HK.out _ (From.drew ‹_›)))
          ((go_at_call 69; ((with_reducible refine (HN.out _).mono ?_)); rintro e w2 ⟨rfl, hb2⟩; have F2 : From wr w2 := From.step ‹_› hb2; clear hb2))
        have O2 := HO.out.from_ F2
        have oc := O2.box.c0
        have of := O2.free 0 (by decide)
        have HO2 := Lib.hid O2
        have hs2 := F2.out.size
        clear O2
        go_wp2
        go_roundw
        case rel => exact ⟨k + 1, by omega, by omega, by go_num, by rw [HKT.out]; exact HO2.out.set _ (HO2.out.box.setk _), by simp; omega, ⟨below_set (hfw.trans F2).out (Nat.le_refl _) _⟩⟩
        case measure => first | (simp [intOf]; omega) | omega
      · have hne : ((str nm).toList == (str x0).toList) = false := by rw [beq_eq_false_iff_ne]; exact fun e => hq (by rw [ByteArray.toList_eq, ByteArray.toList_eq] at e; exact e)
        rw [if_neg hq] at hkt
        have HKT := Lib.hid hkt
        clear hkt hq
        go_wp2
        go_region_held3 (fun w' => w'.cell? ⟨b, 0, none⟩ = some (.string (str x0)) ∧ From wr w')
          (first
            | (with_reducible exact HK.out _ ‹_›)
            | (with_reducible exact HK.out _ (From.drew ‹_›)))
          ((go_at_call 69; ((with_reducible refine (HN.out _).mono ?_)); rintro e w2 ⟨rfl, hb2⟩; have F2 : From wr w2 := From.step ‹_› hb2; clear hb2))
        have HO2 := Lib.hid (HO.out.from_ F2)
        have hs2 := F2.out.size
        go_wp2
        go_roundw
        case rel => exact ⟨k + 1, by omega, by omega, by go_num, by rw [HKT.out]; exact HO2.out, by omega, hfw.trans F2⟩
        case measure => first | (simp [intOf]; omega) | omega
    · have hk8 : k = 8 := by omega
      subst hk8
      have hO : OpB wr w1.heap.size 3 0 0 0 false (.slice none 0 0) := by
        have h := HO.out
        rw [show 8 - 1 = 7 from rfl, opTo_7, HKK.out] at h
        exact h
      clear HO hlt hk1 hk2
      simp only [show ((8 : Nat) : Int) = 8 from rfl]
      obtain ⟨wq, hwq⟩ : ∃ wq : World, wq = wr := ⟨_, rfl⟩
      subst hwq
      have HWd : Hid (∀ w' j, From w1 w' → 1 ≤ j → j ≤ r.length → w'.cell? ⟨b, j, none⟩ = some (.string (str (strAt r (j - 1))))) := fun w' j hf h1 h2 => by
        obtain ⟨i, rfl⟩ : ∃ i, j = i + 1 := ⟨j - 1, by omega⟩
        exact HC.out w' (i + 1) hf (by omega)
      obtain ⟨q0, q1, q2, q3, q4, q5⟩ := hO.box
      go_wp2
      go_loopw [8, 9] (fun l i wr => ∃ (k : Nat) (ns : List Int), 1 ≤ k ∧ k ≤ r.length + 1 ∧ ns.length + 1 = k ∧ i = .int .i64 k ∧ Hid (NumsAt r (r.drop (k - 1)) ns) ∧ kInt.Own wq.heap.size wr l ns ∧ From wq wr) (fun _ i _ => r.length + 1 - (intOf i).toNat)
      case atStart => exact ⟨1, [], by omega, by omega, rfl, rfl, NumsAt.start _, Kin.Own.nil _ _ _, From.refl _⟩
      case round =>
        obtain ⟨k, ns, hk1, hk2, hnl, rfl, HA, hown, hfr⟩ := hrel
        obtain ⟨ao, co, rfl⟩ := hown.shape
        have HOWN := Lib.hid hown
        clear hown
        have hsz := hfr.out.size
        have HNL := Lib.hid hnl
        obtain ⟨q, hq⟩ : ∃ q, q = ns.length := ⟨_, rfl⟩
        have hqk : q + 1 ≤ k := by omega
        have hqk2 : k ≤ q + 1 := by omega
        rw [← hq] at hnl ⊢
        have HQ := Lib.hid hq
        clear hq hnl
        have hji : (0 : Int) ≤ (k : Int) := by omega
        by_cases hkm : k ≤ r.length
        · have cy := HWd.out wr k (hfw.trans hfr) hk1 hkm
          have hkl : (k : Int) < (r.length : Int) + 1 := by omega
          have hA : NumsAt r (strAt r (k - 1) :: r.drop k) ns := by
            have h := NumsAt.step HA.out (k := k - 1) (by first | omega | (simp only [List.length_cons, List.length_nil]; omega))
            rw [show k - 1 + 1 = k by omega] at h
            exact h
          generalize strAt r (k - 1) = yw at *
          have HN : Hid (∀ w, Calls Tryz.prog 44 #[.string (str yw)] w fun e w' => e = .returned (.tuple #[.int .i64 (numI yw), .bool (numB yw)]) ∧ w = w') := fun w => rnumber_any (str yw) w
          cases hnb : numB yw with
          | false =>
            have HP : Hid (oparse s.data.toList = none) := by
              have hA2 := hA.bad (num_no hnb)
              show oparse _ = _; rw [oparse_at HSP.out HKK.out (by decide)]; exact oargsK_bad (by decide) hA2
            rw [hnb] at HN
            obtain ⟨z0, z1, z2, z3, z4, z5⟩ := (HZ.out wr (hfw.trans hfr)).box
            have zf0 := (HZ.out wr (hfw.trans hfr)).free 0 (by decide)
            have zf1 := (HZ.out wr (hfw.trans hfr)).free 1 (by decide)
            have zf2 := (HZ.out wr (hfw.trans hfr)).free 2 (by decide)
            have zf3 := (HZ.out wr (hfw.trans hfr)).free 3 (by decide)
            have zf4 := (HZ.out wr (hfw.trans hfr)).free 4 (by decide)
            have zf5 := (HZ.out wr (hfw.trans hfr)).free 5 (by decide)
            have HB9 := Lib.hid (HBW.out wr (hfw.trans hfr))
            have hz9 : w.heap.size < wr.heap.size := Nat.lt_of_lt_of_le hzw (hfw.trans hfr).out.size
            clear hA HA HOWN
            go_wp2_with fail
            refine (HN.out _).mono ?_
            rintro e w2 ⟨rfl, rfl⟩
            go_wp2
            refine bodyPost_ret (v := .tuple #[opV 0 0 0 0 false (.slice none 0 0), .bool false]) ?_ rfl ?_
            · simp only [results, Tryz.results64]
              go_simp
            · have hbw := HB9.out
              refine ret_none HP.out rfl ?_
              clear HP
              repeat (first | (with_reducible exact hbw) | (with_reducible refine below_set ?_ (by omega) _) | (with_reducible refine Below.alloc ?_ (by first | omega | (simp; omega)) _) | (with_reducible refine Below.drew ?_))
          | true =>
            have HA2 : Hid (NumsAt r (r.drop (k + 1 - 1)) (ns ++ [numI yw])) := hA.good (num_yes hnb)
            rw [hnb] at HN
            clear hA HA
            have hOW : kInt.Own wq.heap.size (wr.alloc (.cells #[.int .i64 (numI yw)] 3)) (.slice ao q co) ns := by rw [HQ.out]; exact HOWN.out.alloc _
            have HOW := Lib.hid hOW
            have hnsl : ns.length ≤ k := by rw [← HQ.out]; omega
            clear hOW hnb
            generalize numI yw = ny at *
            go_wp2_with fail
            refine (HN.out _).mono ?_
            rintro e w2 ⟨rfl, rfl⟩
            go_wp2_with (at_builtin; go_must (refine Kin.append1 kInt rfl _ _ rfl wq.heap.size _ ns rfl HOW.out wr.heap.size ny rfl (cells1i_of (by go_simp)) (by unfold maxLen; omega) (by show _ * 8 ≤ _; omega) (by first | (simp; done) | (simp; omega)) ?_; intro v' w3 hown' hbel hgrow; obtain ⟨a2, c2, rfl⟩ := hown'.shape; have HO2 := Lib.hid hown'; have F3 : From wq w3 := ⟨hfr.out.trans (((Below.refl _ _).alloc (by omega) _).trans hbel)⟩; clear hown' hgrow hbel))
            go_roundw
            case rel => exact ⟨k + 1, ns ++ [ny], by omega, by omega, by rw [List.length_append, ← HQ.out]; simp; omega, by go_num, HA2.out, by have h := HO2.out; first | exact h | (rw [List.length_append] at h; exact h), F3⟩
            case measure => first | (simp [intOf]; omega) | omega
        · have hkm1 : k = r.length + 1 := by omega
          have hqm : q = r.length := by omega
          have hN : onumbers r = some ns := by
            have h := HA.out
            rw [List.drop_eq_nil_of_le (by first | omega | (simp only [List.length_cons, List.length_nil]; omega))] at h
            exact h.done
          obtain ⟨ax, cx, e, hget⟩ := ints_get HOWN.out.at_
          rw [← HQ.out, Value.slice.injEq] at e
          obtain ⟨rfl, -, rfl⟩ := e
          have HX : Hid (∀ j, j < q → ∃ lb off, ao = some ⟨lb, off, none⟩ ∧ wr.cell? ⟨lb, off + j, none⟩ = some (.int .i64 (ns.getD j 0))) := fun j hj => hget j (by rw [← HQ.out]; exact hj)
          have hF := hfw.trans hfr
          have hOr : OpB wr w1.heap.size 3 0 0 0 false (.slice none 0 0) := hO.from_ hfr
          have hHN := Lib.hid hN
          clear hget hN hkm HA
          obtain ⟨wp, hwp⟩ : ∃ wp : World, wp = wr := ⟨_, rfl⟩
          subst hwp
          have hgp : w1.heap.size < wp.heap.size := by omega
          clear hk1 hk2 hqk hqk2 hji
          rw [hkm1]
          clear hkm1
          by_cases hq1 : q = 1
          · have HP : Hid (oparse s.data.toList = some ⟨3, ns.getD 0 0, 0, 0, false, []⟩) := by
              show oparse _ = _; rw [oparse_at HSP.out HKK.out (by decide)]; rw [oargsK (by decide) hHN.out]; exact shape3_ok (by rw [← HQ.out]; exact hq1)
            obtain ⟨lb, off, rfl, l0⟩ := HX.out 0 (by omega)
            have l00 := l0
            rw [Nat.add_zero] at l00
            have hlb := cell_lt l0
            generalize ns.getD 0 0 = v0 at *
            obtain ⟨z0, z1, z2, z3, z4, z5⟩ := (HZ.out wp hF).box
            have zf0 := (HZ.out wp hF).free 0 (by decide)
            have zf1 := (HZ.out wp hF).free 1 (by decide)
            have zf2 := (HZ.out wp hF).free 2 (by decide)
            have zf3 := (HZ.out wp hF).free 3 (by decide)
            have zf4 := (HZ.out wp hF).free 4 (by decide)
            have zf5 := (HZ.out wp hF).free 5 (by decide)
            have HB9 := Lib.hid (HBW.out wp hF)
            have hz9 : w.heap.size < wp.heap.size := Nat.lt_of_lt_of_le hzw hF.out.size
            obtain ⟨q0, q1, q2, q3, q4, q5⟩ := hOr.box
            have qf1 := hOr.free 1 (by decide)
            have qf2 := hOr.free 2 (by decide)
            have qf3 := hOr.free 3 (by decide)
            have qf4 := hOr.free 4 (by decide)
            have gz1 : ¬ w.heap.size = w1.heap.size := by omega
            have gz2 : ¬ w1.heap.size = w.heap.size := by omega
            clear HOWN HX
            rw [← hqm]
            clear hqm
            subst hq1
            go_wp2
            refine wp_loop_rounds 1 ?_
            rw [rounds_succ]
            go_wp2
            refine bodyPost_ret (v := .tuple #[opV 3 (v0) (0) (0) false (.slice none 0 0), .bool true]) ?_ rfl ?_
            · simp only [results, Tryz.results64]
              go_simp
            · have hbw := HB9.out
              refine ret_some HP.out rfl ⟨none, 0, rfl, .inl rfl⟩ ?_
              clear HP
              repeat (first | (with_reducible exact hbw) | (with_reducible refine below_set ?_ (by omega) _) | (with_reducible refine Below.alloc ?_ (by first | omega | (simp; omega)) _) | (with_reducible refine Below.drew ?_))
          · by_cases hq0 : q = 0
            · have HP : Hid (oparse s.data.toList = none) := by
                show oparse _ = _; rw [oparse_at HSP.out HKK.out (by decide)]; rw [oargsK (by decide) hHN.out]; exact shape3_no (by rw [← HQ.out]; omega)
              obtain ⟨z0, z1, z2, z3, z4, z5⟩ := (HZ.out wp hF).box
              have zf0 := (HZ.out wp hF).free 0 (by decide)
              have zf1 := (HZ.out wp hF).free 1 (by decide)
              have zf2 := (HZ.out wp hF).free 2 (by decide)
              have zf3 := (HZ.out wp hF).free 3 (by decide)
              have zf4 := (HZ.out wp hF).free 4 (by decide)
              have zf5 := (HZ.out wp hF).free 5 (by decide)
              have HB9 := Lib.hid (HBW.out wp hF)
              have hz9 : w.heap.size < wp.heap.size := Nat.lt_of_lt_of_le hzw hF.out.size
              obtain ⟨q0, q1, q2, q3, q4, q5⟩ := hOr.box
              have qf1 := hOr.free 1 (by decide)
              have qf2 := hOr.free 2 (by decide)
              have qf3 := hOr.free 3 (by decide)
              have qf4 := hOr.free 4 (by decide)
              go_wp2
              refine bodyPost_ret (v := .tuple #[opV 0 0 0 0 false (.slice none 0 0), .bool false]) ?_ rfl ?_
              · simp only [results, Tryz.results64]
                go_simp
              · have hbw := HB9.out
                refine ret_none HP.out rfl ?_
                clear HP
                repeat (first | (with_reducible exact hbw) | (with_reducible refine below_set ?_ (by omega) _) | (with_reducible refine Below.alloc ?_ (by first | omega | (simp; omega)) _) | (with_reducible refine Below.drew ?_))
            · have hq2 : (1 : Int) < (q : Int) := by omega
              have HP : Hid (oparse s.data.toList = none) := by
                show oparse _ = _; rw [oparse_at HSP.out HKK.out (by decide)]; rw [oargsK (by decide) hHN.out]; exact shape3_no (by rw [← HQ.out]; omega)
              obtain ⟨z0, z1, z2, z3, z4, z5⟩ := (HZ.out wp hF).box
              have zf0 := (HZ.out wp hF).free 0 (by decide)
              have zf1 := (HZ.out wp hF).free 1 (by decide)
              have zf2 := (HZ.out wp hF).free 2 (by decide)
              have zf3 := (HZ.out wp hF).free 3 (by decide)
              have zf4 := (HZ.out wp hF).free 4 (by decide)
              have zf5 := (HZ.out wp hF).free 5 (by decide)
              have HB9 := Lib.hid (HBW.out wp hF)
              have hz9 : w.heap.size < wp.heap.size := Nat.lt_of_lt_of_le hzw hF.out.size
              obtain ⟨q0, q1, q2, q3, q4, q5⟩ := hOr.box
              have qf1 := hOr.free 1 (by decide)
              have qf2 := hOr.free 2 (by decide)
              have qf3 := hOr.free 3 (by decide)
              have qf4 := hOr.free 4 (by decide)
              go_wp2
              refine bodyPost_ret (v := .tuple #[opV 0 0 0 0 false (.slice none 0 0), .bool false]) ?_ rfl ?_
              · simp only [results, Tryz.results64]
                go_simp
              · have hbw := HB9.out
                refine ret_none HP.out rfl ?_
                clear HP
                repeat (first | (with_reducible exact hbw) | (with_reducible refine below_set ?_ (by omega) _) | (with_reducible refine Below.alloc ?_ (by first | omega | (simp; omega)) _) | (with_reducible refine Below.drew ?_))
set_option maxHeartbeats 4000000 in
set_option maxRecDepth 100000 in
theorem rparse_5 (s : ByteArray) (x0 : List UInt8) (r : List (List UInt8)) (w : World) (hs : s.size ≤ 100000) (hsp : Lib.split s.data.toList [32] = x0 :: r) (hk : opKind x0 = 5) :
    Calls Tryz.prog 64 #[.string s] w (ParseRet s.data.toList w) := by
  have hrl : r.length ≤ 100000 := by
    have h := splits_len s [32] (by simp)
    rw [hsp] at h
    simp only [List.length_cons] at h
    omega
  have hb : Below w.heap.size w (w.alloc (.cells #[.int .i64 0, .int .i64 0, .int .i64 0, .int .i64 0, .bool false, .slice none 0 0] 58)) := (Below.refl _ _).alloc (Nat.le_refl _) _
  have I0 := words_any s (w.alloc (.cells #[.int .i64 0, .int .i64 0, .int .i64 0, .int .i64 0, .bool false, .slice none 0 0] 58)) (by omega)
  rw [hsp] at I0
  have I := Lib.hid I0
  have HB := Lib.hid hb
  have HSP := Lib.hid hsp
  have HKK := Lib.hid hk
  clear I0 hsp hk
  go_enter Tryz.func64, Tryz.ntmps64
  go_wp2_with fail
  refine I.out.mono ?_
  rintro e w1 ⟨u, rfl, hown, hb1⟩
  obtain ⟨b, cap, rfl, hble, hblt, hcap, hcells⟩ := hown.strs (by simp)
  have hz1 := hb1.size
  have hzw : w.heap.size < w1.heap.size := by simp at hz1; omega
  have hbz : w.heap.size < b := by simp at hble; omega
  have F1 : From w1 w1 := From.refl _
  have HZ : Hid (∀ w', From w1 w' → OpB w' w.heap.size 0 0 0 0 false (.slice none 0 0)) := fun w' hf => by
    refine OpB.from_ (w := w.alloc (.cells #[.int .i64 0, .int .i64 0, .int .i64 0, .int .i64 0, .bool false, .slice none 0 0] 58)) ⟨⟨by go_simp, by go_simp, by go_simp, by go_simp, by go_simp, by go_simp⟩, fun j _ => by go_simp⟩ ⟨hb1.trans (hf.out.mono hz1)⟩
  have HBW : Hid (∀ w', From w1 w' → Below w.heap.size w w') := fun w' hf => HB.out.trans ((hb1.trans (hf.out.mono hz1)).mono HB.out.size)
  simp only [List.length_cons] at hcap hcells ⊢
  have HC : Hid (∀ w' j, From w1 w' → j < r.length + 1 → w'.cell? ⟨b, j, none⟩ = some (.string (str (strAt (x0 :: r) j)))) := fun w' j hf hj => hf.cell (hcells j hj)
  have HO0 : Hid (OpB (w1.alloc (.cells #[.int .i64 0, .int .i64 0, .int .i64 0, .int .i64 0, .bool false, .slice none 0 0] 58)) w1.heap.size 0 0 0 0 false (.slice none 0 0)) := ⟨⟨by go_simp, by go_simp, by go_simp, by go_simp, by go_simp, by go_simp⟩, fun j _ => by go_simp⟩
  clear hown hcells hb1 hb hz1 hble
  go_wp2
  go_loopw [6] (fun i wr => ∃ k : Nat, 1 ≤ k ∧ k ≤ 8 ∧ i = .int .i64 k ∧ Hid (OpB wr w1.heap.size ((opTo x0 (k - 1) : Nat) : Int) 0 0 0 false (.slice none 0 0)) ∧ w1.heap.size < wr.heap.size ∧ From w1 wr) (fun i _ => 8 - (intOf i).toNat)
  case atStart => exact ⟨1, by omega, by omega, rfl, HO0.out, by simp, F1.alloc _⟩
  case round =>
    obtain ⟨k, hk1, hk2, rfl, HO, hgw, hfw⟩ := hrel
    by_cases hlt : k ≤ 7
    · have e1 : (k : Int) ≤ 7 := by omega
      have e0 : (0 : Int) ≤ (k : Int) := by omega
      have ck : wr.cell? ⟨b, 0, none⟩ = some (.string (str x0)) := HC.out wr 0 hfw (by omega)
      have HN := Lib.hid fun w => rkindName_any (k : Int) w
      have hkt : opTo x0 (k + 1 - 1) = if oname (k : Int) = x0 then k else opTo x0 (k - 1) := by
        obtain ⟨m, rfl⟩ : ∃ m, k = m + 1 := ⟨k - 1, by omega⟩
        rfl
      have F0 : From wr wr := From.refl _
      have Fd : From wr wr.drew := F0.drew
      have HK : Hid (∀ w', From wr w' → (w'.cell? ⟨b, 0, none⟩ = some (.string (str x0)) ∧ From wr w')) := fun w' hf => ⟨hf.cell ck, hf⟩
      generalize oname (k : Int) = nm at *
      by_cases hq : nm = x0
      · rw [if_pos hq] at hkt
        have HKT := Lib.hid hkt
        subst hq
        clear hkt
        go_wp2
        go_region_held3 (fun w' => w'.cell? ⟨b, 0, none⟩ = some (.string (str nm)) ∧ From wr w')
          (first
            | (with_reducible exact HK.out _ ‹_›)
            | (with_reducible exact HK.out _ (From.drew ‹_›)))
          ((go_at_call 69; ((with_reducible refine (HN.out _).mono ?_)); rintro e w2 ⟨rfl, hb2⟩; have F2 : From wr w2 := From.step ‹_› hb2; clear hb2))
        have O2 := HO.out.from_ F2
        have oc := O2.box.c0
        have of := O2.free 0 (by decide)
        have HO2 := Lib.hid O2
        have hs2 := F2.out.size
        clear O2
        go_wp2
        go_roundw
        case rel => exact ⟨k + 1, by omega, by omega, by go_num, by rw [HKT.out]; exact HO2.out.set _ (HO2.out.box.setk _), by simp; omega, ⟨below_set (hfw.trans F2).out (Nat.le_refl _) _⟩⟩
        case measure => first | (simp [intOf]; omega) | omega
      · have hne : ((str nm).toList == (str x0).toList) = false := by rw [beq_eq_false_iff_ne]; exact fun e => hq (by rw [ByteArray.toList_eq, ByteArray.toList_eq] at e; exact e)
        rw [if_neg hq] at hkt
        have HKT := Lib.hid hkt
        clear hkt hq
        go_wp2
        go_region_held3 (fun w' => w'.cell? ⟨b, 0, none⟩ = some (.string (str x0)) ∧ From wr w')
          (first
            | (with_reducible exact HK.out _ ‹_›)
            | (with_reducible exact HK.out _ (From.drew ‹_›)))
          ((go_at_call 69; ((with_reducible refine (HN.out _).mono ?_)); rintro e w2 ⟨rfl, hb2⟩; have F2 : From wr w2 := From.step ‹_› hb2; clear hb2))
        have HO2 := Lib.hid (HO.out.from_ F2)
        have hs2 := F2.out.size
        go_wp2
        go_roundw
        case rel => exact ⟨k + 1, by omega, by omega, by go_num, by rw [HKT.out]; exact HO2.out, by omega, hfw.trans F2⟩
        case measure => first | (simp [intOf]; omega) | omega
    · have hk8 : k = 8 := by omega
      subst hk8
      have hO : OpB wr w1.heap.size 5 0 0 0 false (.slice none 0 0) := by
        have h := HO.out
        rw [show 8 - 1 = 7 from rfl, opTo_7, HKK.out] at h
        exact h
      clear HO hlt hk1 hk2
      simp only [show ((8 : Nat) : Int) = 8 from rfl]
      obtain ⟨wq, hwq⟩ : ∃ wq : World, wq = wr := ⟨_, rfl⟩
      subst hwq
      have HWd : Hid (∀ w' j, From w1 w' → 1 ≤ j → j ≤ r.length → w'.cell? ⟨b, j, none⟩ = some (.string (str (strAt r (j - 1))))) := fun w' j hf h1 h2 => by
        obtain ⟨i, rfl⟩ : ∃ i, j = i + 1 := ⟨j - 1, by omega⟩
        exact HC.out w' (i + 1) hf (by omega)
      obtain ⟨q0, q1, q2, q3, q4, q5⟩ := hO.box
      go_wp2
      go_loopw [8, 9] (fun l i wr => ∃ (k : Nat) (ns : List Int), 1 ≤ k ∧ k ≤ r.length + 1 ∧ ns.length + 1 = k ∧ i = .int .i64 k ∧ Hid (NumsAt r (r.drop (k - 1)) ns) ∧ kInt.Own wq.heap.size wr l ns ∧ From wq wr) (fun _ i _ => r.length + 1 - (intOf i).toNat)
      case atStart => exact ⟨1, [], by omega, by omega, rfl, rfl, NumsAt.start _, Kin.Own.nil _ _ _, From.refl _⟩
      case round =>
        obtain ⟨k, ns, hk1, hk2, hnl, rfl, HA, hown, hfr⟩ := hrel
        obtain ⟨ao, co, rfl⟩ := hown.shape
        have HOWN := Lib.hid hown
        clear hown
        have hsz := hfr.out.size
        have HNL := Lib.hid hnl
        obtain ⟨q, hq⟩ : ∃ q, q = ns.length := ⟨_, rfl⟩
        have hqk : q + 1 ≤ k := by omega
        have hqk2 : k ≤ q + 1 := by omega
        rw [← hq] at hnl ⊢
        have HQ := Lib.hid hq
        clear hq hnl
        have hji : (0 : Int) ≤ (k : Int) := by omega
        by_cases hkm : k ≤ r.length
        · have cy := HWd.out wr k (hfw.trans hfr) hk1 hkm
          have hkl : (k : Int) < (r.length : Int) + 1 := by omega
          have hA : NumsAt r (strAt r (k - 1) :: r.drop k) ns := by
            have h := NumsAt.step HA.out (k := k - 1) (by first | omega | (simp only [List.length_cons, List.length_nil]; omega))
            rw [show k - 1 + 1 = k by omega] at h
            exact h
          generalize strAt r (k - 1) = yw at *
          have HN : Hid (∀ w, Calls Tryz.prog 44 #[.string (str yw)] w fun e w' => e = .returned (.tuple #[.int .i64 (numI yw), .bool (numB yw)]) ∧ w = w') := fun w => rnumber_any (str yw) w
          cases hnb : numB yw with
          | false =>
            have HP : Hid (oparse s.data.toList = none) := by
              have hA2 := hA.bad (num_no hnb)
              show oparse _ = _; rw [oparse_at HSP.out HKK.out (by decide)]; exact oargsK_bad (by decide) hA2
            rw [hnb] at HN
            obtain ⟨z0, z1, z2, z3, z4, z5⟩ := (HZ.out wr (hfw.trans hfr)).box
            have zf0 := (HZ.out wr (hfw.trans hfr)).free 0 (by decide)
            have zf1 := (HZ.out wr (hfw.trans hfr)).free 1 (by decide)
            have zf2 := (HZ.out wr (hfw.trans hfr)).free 2 (by decide)
            have zf3 := (HZ.out wr (hfw.trans hfr)).free 3 (by decide)
            have zf4 := (HZ.out wr (hfw.trans hfr)).free 4 (by decide)
            have zf5 := (HZ.out wr (hfw.trans hfr)).free 5 (by decide)
            have HB9 := Lib.hid (HBW.out wr (hfw.trans hfr))
            have hz9 : w.heap.size < wr.heap.size := Nat.lt_of_lt_of_le hzw (hfw.trans hfr).out.size
            clear hA HA HOWN
            go_wp2_with fail
            refine (HN.out _).mono ?_
            rintro e w2 ⟨rfl, rfl⟩
            go_wp2
            refine bodyPost_ret (v := .tuple #[opV 0 0 0 0 false (.slice none 0 0), .bool false]) ?_ rfl ?_
            · simp only [results, Tryz.results64]
              go_simp
            · have hbw := HB9.out
              refine ret_none HP.out rfl ?_
              clear HP
              repeat (first | (with_reducible exact hbw) | (with_reducible refine below_set ?_ (by omega) _) | (with_reducible refine Below.alloc ?_ (by first | omega | (simp; omega)) _) | (with_reducible refine Below.drew ?_))
          | true =>
            have HA2 : Hid (NumsAt r (r.drop (k + 1 - 1)) (ns ++ [numI yw])) := hA.good (num_yes hnb)
            rw [hnb] at HN
            clear hA HA
            have hOW : kInt.Own wq.heap.size (wr.alloc (.cells #[.int .i64 (numI yw)] 3)) (.slice ao q co) ns := by rw [HQ.out]; exact HOWN.out.alloc _
            have HOW := Lib.hid hOW
            have hnsl : ns.length ≤ k := by rw [← HQ.out]; omega
            clear hOW hnb
            generalize numI yw = ny at *
            go_wp2_with fail
            refine (HN.out _).mono ?_
            rintro e w2 ⟨rfl, rfl⟩
            go_wp2_with (at_builtin; go_must (refine Kin.append1 kInt rfl _ _ rfl wq.heap.size _ ns rfl HOW.out wr.heap.size ny rfl (cells1i_of (by go_simp)) (by unfold maxLen; omega) (by show _ * 8 ≤ _; omega) (by first | (simp; done) | (simp; omega)) ?_; intro v' w3 hown' hbel hgrow; obtain ⟨a2, c2, rfl⟩ := hown'.shape; have HO2 := Lib.hid hown'; have F3 : From wq w3 := ⟨hfr.out.trans (((Below.refl _ _).alloc (by omega) _).trans hbel)⟩; clear hown' hgrow hbel))
            go_roundw
            case rel => exact ⟨k + 1, ns ++ [ny], by omega, by omega, by rw [List.length_append, ← HQ.out]; simp; omega, by go_num, HA2.out, by have h := HO2.out; first | exact h | (rw [List.length_append] at h; exact h), F3⟩
            case measure => first | (simp [intOf]; omega) | omega
        · have hkm1 : k = r.length + 1 := by omega
          have hqm : q = r.length := by omega
          have hN : onumbers r = some ns := by
            have h := HA.out
            rw [List.drop_eq_nil_of_le (by first | omega | (simp only [List.length_cons, List.length_nil]; omega))] at h
            exact h.done
          obtain ⟨ax, cx, e, hget⟩ := ints_get HOWN.out.at_
          rw [← HQ.out, Value.slice.injEq] at e
          obtain ⟨rfl, -, rfl⟩ := e
          have HX : Hid (∀ j, j < q → ∃ lb off, ao = some ⟨lb, off, none⟩ ∧ wr.cell? ⟨lb, off + j, none⟩ = some (.int .i64 (ns.getD j 0))) := fun j hj => hget j (by rw [← HQ.out]; exact hj)
          have hF := hfw.trans hfr
          have hOr : OpB wr w1.heap.size 5 0 0 0 false (.slice none 0 0) := hO.from_ hfr
          have hHN := Lib.hid hN
          clear hget hN hkm HA
          obtain ⟨wp, hwp⟩ : ∃ wp : World, wp = wr := ⟨_, rfl⟩
          subst hwp
          have hgp : w1.heap.size < wp.heap.size := by omega
          clear hk1 hk2 hqk hqk2 hji
          rw [hkm1]
          clear hkm1
          by_cases hq1 : q = 1
          · have HP : Hid (oparse s.data.toList = some ⟨5, ns.getD 0 0, 0, 0, false, []⟩) := by
              show oparse _ = _; rw [oparse_at HSP.out HKK.out (by decide)]; rw [oargsK (by decide) hHN.out]; exact shape5_ok (by rw [← HQ.out]; exact hq1)
            obtain ⟨lb, off, rfl, l0⟩ := HX.out 0 (by omega)
            have l00 := l0
            rw [Nat.add_zero] at l00
            have hlb := cell_lt l0
            generalize ns.getD 0 0 = v0 at *
            obtain ⟨z0, z1, z2, z3, z4, z5⟩ := (HZ.out wp hF).box
            have zf0 := (HZ.out wp hF).free 0 (by decide)
            have zf1 := (HZ.out wp hF).free 1 (by decide)
            have zf2 := (HZ.out wp hF).free 2 (by decide)
            have zf3 := (HZ.out wp hF).free 3 (by decide)
            have zf4 := (HZ.out wp hF).free 4 (by decide)
            have zf5 := (HZ.out wp hF).free 5 (by decide)
            have HB9 := Lib.hid (HBW.out wp hF)
            have hz9 : w.heap.size < wp.heap.size := Nat.lt_of_lt_of_le hzw hF.out.size
            obtain ⟨q0, q1, q2, q3, q4, q5⟩ := hOr.box
            have qf1 := hOr.free 1 (by decide)
            have qf2 := hOr.free 2 (by decide)
            have qf3 := hOr.free 3 (by decide)
            have qf4 := hOr.free 4 (by decide)
            have gz1 : ¬ w.heap.size = w1.heap.size := by omega
            have gz2 : ¬ w1.heap.size = w.heap.size := by omega
            clear HOWN HX
            rw [← hqm]
            clear hqm
            subst hq1
            go_wp2
            refine wp_loop_rounds 1 ?_
            rw [rounds_succ]
            go_wp2
            refine bodyPost_ret (v := .tuple #[opV 5 (v0) (0) (0) false (.slice none 0 0), .bool true]) ?_ rfl ?_
            · simp only [results, Tryz.results64]
              go_simp
            · have hbw := HB9.out
              refine ret_some HP.out rfl ⟨none, 0, rfl, .inl rfl⟩ ?_
              clear HP
              repeat (first | (with_reducible exact hbw) | (with_reducible refine below_set ?_ (by omega) _) | (with_reducible refine Below.alloc ?_ (by first | omega | (simp; omega)) _) | (with_reducible refine Below.drew ?_))
          · by_cases hq0 : q = 0
            · have HP : Hid (oparse s.data.toList = none) := by
                show oparse _ = _; rw [oparse_at HSP.out HKK.out (by decide)]; rw [oargsK (by decide) hHN.out]; exact shape5_no (by rw [← HQ.out]; omega)
              obtain ⟨z0, z1, z2, z3, z4, z5⟩ := (HZ.out wp hF).box
              have zf0 := (HZ.out wp hF).free 0 (by decide)
              have zf1 := (HZ.out wp hF).free 1 (by decide)
              have zf2 := (HZ.out wp hF).free 2 (by decide)
              have zf3 := (HZ.out wp hF).free 3 (by decide)
              have zf4 := (HZ.out wp hF).free 4 (by decide)
              have zf5 := (HZ.out wp hF).free 5 (by decide)
              have HB9 := Lib.hid (HBW.out wp hF)
              have hz9 : w.heap.size < wp.heap.size := Nat.lt_of_lt_of_le hzw hF.out.size
              obtain ⟨q0, q1, q2, q3, q4, q5⟩ := hOr.box
              have qf1 := hOr.free 1 (by decide)
              have qf2 := hOr.free 2 (by decide)
              have qf3 := hOr.free 3 (by decide)
              have qf4 := hOr.free 4 (by decide)
              go_wp2
              refine bodyPost_ret (v := .tuple #[opV 0 0 0 0 false (.slice none 0 0), .bool false]) ?_ rfl ?_
              · simp only [results, Tryz.results64]
                go_simp
              · have hbw := HB9.out
                refine ret_none HP.out rfl ?_
                clear HP
                repeat (first | (with_reducible exact hbw) | (with_reducible refine below_set ?_ (by omega) _) | (with_reducible refine Below.alloc ?_ (by first | omega | (simp; omega)) _) | (with_reducible refine Below.drew ?_))
            · have hq2 : (1 : Int) < (q : Int) := by omega
              have HP : Hid (oparse s.data.toList = none) := by
                show oparse _ = _; rw [oparse_at HSP.out HKK.out (by decide)]; rw [oargsK (by decide) hHN.out]; exact shape5_no (by rw [← HQ.out]; omega)
              obtain ⟨z0, z1, z2, z3, z4, z5⟩ := (HZ.out wp hF).box
              have zf0 := (HZ.out wp hF).free 0 (by decide)
              have zf1 := (HZ.out wp hF).free 1 (by decide)
              have zf2 := (HZ.out wp hF).free 2 (by decide)
              have zf3 := (HZ.out wp hF).free 3 (by decide)
              have zf4 := (HZ.out wp hF).free 4 (by decide)
              have zf5 := (HZ.out wp hF).free 5 (by decide)
              have HB9 := Lib.hid (HBW.out wp hF)
              have hz9 : w.heap.size < wp.heap.size := Nat.lt_of_lt_of_le hzw hF.out.size
              obtain ⟨q0, q1, q2, q3, q4, q5⟩ := hOr.box
              have qf1 := hOr.free 1 (by decide)
              have qf2 := hOr.free 2 (by decide)
              have qf3 := hOr.free 3 (by decide)
              have qf4 := hOr.free 4 (by decide)
              go_wp2
              refine bodyPost_ret (v := .tuple #[opV 0 0 0 0 false (.slice none 0 0), .bool false]) ?_ rfl ?_
              · simp only [results, Tryz.results64]
                go_simp
              · have hbw := HB9.out
                refine ret_none HP.out rfl ?_
                clear HP
                repeat (first | (with_reducible exact hbw) | (with_reducible refine below_set ?_ (by omega) _) | (with_reducible refine Below.alloc ?_ (by first | omega | (simp; omega)) _) | (with_reducible refine Below.drew ?_))
set_option maxHeartbeats 4000000 in
set_option maxRecDepth 100000 in
theorem rparse_6 (s : ByteArray) (x0 : List UInt8) (r : List (List UInt8)) (w : World) (hs : s.size ≤ 100000) (hsp : Lib.split s.data.toList [32] = x0 :: r) (hk : opKind x0 = 6) :
    Calls Tryz.prog 64 #[.string s] w (ParseRet s.data.toList w) := by
  have hrl : r.length ≤ 100000 := by
    have h := splits_len s [32] (by simp)
    rw [hsp] at h
    simp only [List.length_cons] at h
    omega
  have hb : Below w.heap.size w (w.alloc (.cells #[.int .i64 0, .int .i64 0, .int .i64 0, .int .i64 0, .bool false, .slice none 0 0] 58)) := (Below.refl _ _).alloc (Nat.le_refl _) _
  have I0 := words_any s (w.alloc (.cells #[.int .i64 0, .int .i64 0, .int .i64 0, .int .i64 0, .bool false, .slice none 0 0] 58)) (by omega)
  rw [hsp] at I0
  have I := Lib.hid I0
  have HB := Lib.hid hb
  have HSP := Lib.hid hsp
  have HKK := Lib.hid hk
  clear I0 hsp hk
  go_enter Tryz.func64, Tryz.ntmps64
  go_wp2_with fail
  refine I.out.mono ?_
  rintro e w1 ⟨u, rfl, hown, hb1⟩
  obtain ⟨b, cap, rfl, hble, hblt, hcap, hcells⟩ := hown.strs (by simp)
  have hz1 := hb1.size
  have hzw : w.heap.size < w1.heap.size := by simp at hz1; omega
  have hbz : w.heap.size < b := by simp at hble; omega
  have F1 : From w1 w1 := From.refl _
  have HZ : Hid (∀ w', From w1 w' → OpB w' w.heap.size 0 0 0 0 false (.slice none 0 0)) := fun w' hf => by
    refine OpB.from_ (w := w.alloc (.cells #[.int .i64 0, .int .i64 0, .int .i64 0, .int .i64 0, .bool false, .slice none 0 0] 58)) ⟨⟨by go_simp, by go_simp, by go_simp, by go_simp, by go_simp, by go_simp⟩, fun j _ => by go_simp⟩ ⟨hb1.trans (hf.out.mono hz1)⟩
  have HBW : Hid (∀ w', From w1 w' → Below w.heap.size w w') := fun w' hf => HB.out.trans ((hb1.trans (hf.out.mono hz1)).mono HB.out.size)
  simp only [List.length_cons] at hcap hcells ⊢
  have HC : Hid (∀ w' j, From w1 w' → j < r.length + 1 → w'.cell? ⟨b, j, none⟩ = some (.string (str (strAt (x0 :: r) j)))) := fun w' j hf hj => hf.cell (hcells j hj)
  have HO0 : Hid (OpB (w1.alloc (.cells #[.int .i64 0, .int .i64 0, .int .i64 0, .int .i64 0, .bool false, .slice none 0 0] 58)) w1.heap.size 0 0 0 0 false (.slice none 0 0)) := ⟨⟨by go_simp, by go_simp, by go_simp, by go_simp, by go_simp, by go_simp⟩, fun j _ => by go_simp⟩
  clear hown hcells hb1 hb hz1 hble
  go_wp2
  go_loopw [6] (fun i wr => ∃ k : Nat, 1 ≤ k ∧ k ≤ 8 ∧ i = .int .i64 k ∧ Hid (OpB wr w1.heap.size ((opTo x0 (k - 1) : Nat) : Int) 0 0 0 false (.slice none 0 0)) ∧ w1.heap.size < wr.heap.size ∧ From w1 wr) (fun i _ => 8 - (intOf i).toNat)
  case atStart => exact ⟨1, by omega, by omega, rfl, HO0.out, by simp, F1.alloc _⟩
  case round =>
    obtain ⟨k, hk1, hk2, rfl, HO, hgw, hfw⟩ := hrel
    by_cases hlt : k ≤ 7
    · have e1 : (k : Int) ≤ 7 := by omega
      have e0 : (0 : Int) ≤ (k : Int) := by omega
      have ck : wr.cell? ⟨b, 0, none⟩ = some (.string (str x0)) := HC.out wr 0 hfw (by omega)
      have HN := Lib.hid fun w => rkindName_any (k : Int) w
      have hkt : opTo x0 (k + 1 - 1) = if oname (k : Int) = x0 then k else opTo x0 (k - 1) := by
        obtain ⟨m, rfl⟩ : ∃ m, k = m + 1 := ⟨k - 1, by omega⟩
        rfl
      have F0 : From wr wr := From.refl _
      have Fd : From wr wr.drew := F0.drew
      have HK : Hid (∀ w', From wr w' → (w'.cell? ⟨b, 0, none⟩ = some (.string (str x0)) ∧ From wr w')) := fun w' hf => ⟨hf.cell ck, hf⟩
      generalize oname (k : Int) = nm at *
      by_cases hq : nm = x0
      · rw [if_pos hq] at hkt
        have HKT := Lib.hid hkt
        subst hq
        clear hkt
        go_wp2
        go_region_held3 (fun w' => w'.cell? ⟨b, 0, none⟩ = some (.string (str nm)) ∧ From wr w')
          (first
            | (with_reducible exact HK.out _ ‹_›)
            | (with_reducible exact HK.out _ (From.drew ‹_›)))
          ((go_at_call 69; ((with_reducible refine (HN.out _).mono ?_)); rintro e w2 ⟨rfl, hb2⟩; have F2 : From wr w2 := From.step ‹_› hb2; clear hb2))
        have O2 := HO.out.from_ F2
        have oc := O2.box.c0
        have of := O2.free 0 (by decide)
        have HO2 := Lib.hid O2
        have hs2 := F2.out.size
        clear O2
        go_wp2
        go_roundw
        case rel => exact ⟨k + 1, by omega, by omega, by go_num, by rw [HKT.out]; exact HO2.out.set _ (HO2.out.box.setk _), by simp; omega, ⟨below_set (hfw.trans F2).out (Nat.le_refl _) _⟩⟩
        case measure => first | (simp [intOf]; omega) | omega
      · have hne : ((str nm).toList == (str x0).toList) = false := by rw [beq_eq_false_iff_ne]; exact fun e => hq (by rw [ByteArray.toList_eq, ByteArray.toList_eq] at e; exact e)
        rw [if_neg hq] at hkt
        have HKT := Lib.hid hkt
        clear hkt hq
        go_wp2
        go_region_held3 (fun w' => w'.cell? ⟨b, 0, none⟩ = some (.string (str x0)) ∧ From wr w')
          (first
            | (with_reducible exact HK.out _ ‹_›)
            | (with_reducible exact HK.out _ (From.drew ‹_›)))
          ((go_at_call 69; ((with_reducible refine (HN.out _).mono ?_)); rintro e w2 ⟨rfl, hb2⟩; have F2 : From wr w2 := From.step ‹_› hb2; clear hb2))
        have HO2 := Lib.hid (HO.out.from_ F2)
        have hs2 := F2.out.size
        go_wp2
        go_roundw
        case rel => exact ⟨k + 1, by omega, by omega, by go_num, by rw [HKT.out]; exact HO2.out, by omega, hfw.trans F2⟩
        case measure => first | (simp [intOf]; omega) | omega
    · have hk8 : k = 8 := by omega
      subst hk8
      have hO : OpB wr w1.heap.size 6 0 0 0 false (.slice none 0 0) := by
        have h := HO.out
        rw [show 8 - 1 = 7 from rfl, opTo_7, HKK.out] at h
        exact h
      clear HO hlt hk1 hk2
      simp only [show ((8 : Nat) : Int) = 8 from rfl]
      obtain ⟨wq, hwq⟩ : ∃ wq : World, wq = wr := ⟨_, rfl⟩
      subst hwq
      have HWd : Hid (∀ w' j, From w1 w' → 1 ≤ j → j ≤ r.length → w'.cell? ⟨b, j, none⟩ = some (.string (str (strAt r (j - 1))))) := fun w' j hf h1 h2 => by
        obtain ⟨i, rfl⟩ : ∃ i, j = i + 1 := ⟨j - 1, by omega⟩
        exact HC.out w' (i + 1) hf (by omega)
      obtain ⟨q0, q1, q2, q3, q4, q5⟩ := hO.box
      go_wp2
      go_loopw [8, 9] (fun l i wr => ∃ (k : Nat) (ns : List Int), 1 ≤ k ∧ k ≤ r.length + 1 ∧ ns.length + 1 = k ∧ i = .int .i64 k ∧ Hid (NumsAt r (r.drop (k - 1)) ns) ∧ kInt.Own wq.heap.size wr l ns ∧ From wq wr) (fun _ i _ => r.length + 1 - (intOf i).toNat)
      case atStart => exact ⟨1, [], by omega, by omega, rfl, rfl, NumsAt.start _, Kin.Own.nil _ _ _, From.refl _⟩
      case round =>
        obtain ⟨k, ns, hk1, hk2, hnl, rfl, HA, hown, hfr⟩ := hrel
        obtain ⟨ao, co, rfl⟩ := hown.shape
        have HOWN := Lib.hid hown
        clear hown
        have hsz := hfr.out.size
        have HNL := Lib.hid hnl
        obtain ⟨q, hq⟩ : ∃ q, q = ns.length := ⟨_, rfl⟩
        have hqk : q + 1 ≤ k := by omega
        have hqk2 : k ≤ q + 1 := by omega
        rw [← hq] at hnl ⊢
        have HQ := Lib.hid hq
        clear hq hnl
        have hji : (0 : Int) ≤ (k : Int) := by omega
        by_cases hkm : k ≤ r.length
        · have cy := HWd.out wr k (hfw.trans hfr) hk1 hkm
          have hkl : (k : Int) < (r.length : Int) + 1 := by omega
          have hA : NumsAt r (strAt r (k - 1) :: r.drop k) ns := by
            have h := NumsAt.step HA.out (k := k - 1) (by first | omega | (simp only [List.length_cons, List.length_nil]; omega))
            rw [show k - 1 + 1 = k by omega] at h
            exact h
          generalize strAt r (k - 1) = yw at *
          have HN : Hid (∀ w, Calls Tryz.prog 44 #[.string (str yw)] w fun e w' => e = .returned (.tuple #[.int .i64 (numI yw), .bool (numB yw)]) ∧ w = w') := fun w => rnumber_any (str yw) w
          cases hnb : numB yw with
          | false =>
            have HP : Hid (oparse s.data.toList = none) := by
              have hA2 := hA.bad (num_no hnb)
              show oparse _ = _; rw [oparse_at HSP.out HKK.out (by decide)]; exact oargsK_bad (by decide) hA2
            rw [hnb] at HN
            obtain ⟨z0, z1, z2, z3, z4, z5⟩ := (HZ.out wr (hfw.trans hfr)).box
            have zf0 := (HZ.out wr (hfw.trans hfr)).free 0 (by decide)
            have zf1 := (HZ.out wr (hfw.trans hfr)).free 1 (by decide)
            have zf2 := (HZ.out wr (hfw.trans hfr)).free 2 (by decide)
            have zf3 := (HZ.out wr (hfw.trans hfr)).free 3 (by decide)
            have zf4 := (HZ.out wr (hfw.trans hfr)).free 4 (by decide)
            have zf5 := (HZ.out wr (hfw.trans hfr)).free 5 (by decide)
            have HB9 := Lib.hid (HBW.out wr (hfw.trans hfr))
            have hz9 : w.heap.size < wr.heap.size := Nat.lt_of_lt_of_le hzw (hfw.trans hfr).out.size
            clear hA HA HOWN
            go_wp2_with fail
            refine (HN.out _).mono ?_
            rintro e w2 ⟨rfl, rfl⟩
            go_wp2
            refine bodyPost_ret (v := .tuple #[opV 0 0 0 0 false (.slice none 0 0), .bool false]) ?_ rfl ?_
            · simp only [results, Tryz.results64]
              go_simp
            · have hbw := HB9.out
              refine ret_none HP.out rfl ?_
              clear HP
              repeat (first | (with_reducible exact hbw) | (with_reducible refine below_set ?_ (by omega) _) | (with_reducible refine Below.alloc ?_ (by first | omega | (simp; omega)) _) | (with_reducible refine Below.drew ?_))
          | true =>
            have HA2 : Hid (NumsAt r (r.drop (k + 1 - 1)) (ns ++ [numI yw])) := hA.good (num_yes hnb)
            rw [hnb] at HN
            clear hA HA
            have hOW : kInt.Own wq.heap.size (wr.alloc (.cells #[.int .i64 (numI yw)] 3)) (.slice ao q co) ns := by rw [HQ.out]; exact HOWN.out.alloc _
            have HOW := Lib.hid hOW
            have hnsl : ns.length ≤ k := by rw [← HQ.out]; omega
            clear hOW hnb
            generalize numI yw = ny at *
            go_wp2_with fail
            refine (HN.out _).mono ?_
            rintro e w2 ⟨rfl, rfl⟩
            go_wp2_with (at_builtin; go_must (refine Kin.append1 kInt rfl _ _ rfl wq.heap.size _ ns rfl HOW.out wr.heap.size ny rfl (cells1i_of (by go_simp)) (by unfold maxLen; omega) (by show _ * 8 ≤ _; omega) (by first | (simp; done) | (simp; omega)) ?_; intro v' w3 hown' hbel hgrow; obtain ⟨a2, c2, rfl⟩ := hown'.shape; have HO2 := Lib.hid hown'; have F3 : From wq w3 := ⟨hfr.out.trans (((Below.refl _ _).alloc (by omega) _).trans hbel)⟩; clear hown' hgrow hbel))
            go_roundw
            case rel => exact ⟨k + 1, ns ++ [ny], by omega, by omega, by rw [List.length_append, ← HQ.out]; simp; omega, by go_num, HA2.out, by have h := HO2.out; first | exact h | (rw [List.length_append] at h; exact h), F3⟩
            case measure => first | (simp [intOf]; omega) | omega
        · have hkm1 : k = r.length + 1 := by omega
          have hqm : q = r.length := by omega
          have hN : onumbers r = some ns := by
            have h := HA.out
            rw [List.drop_eq_nil_of_le (by first | omega | (simp only [List.length_cons, List.length_nil]; omega))] at h
            exact h.done
          obtain ⟨ax, cx, e, hget⟩ := ints_get HOWN.out.at_
          rw [← HQ.out, Value.slice.injEq] at e
          obtain ⟨rfl, -, rfl⟩ := e
          have HX : Hid (∀ j, j < q → ∃ lb off, ao = some ⟨lb, off, none⟩ ∧ wr.cell? ⟨lb, off + j, none⟩ = some (.int .i64 (ns.getD j 0))) := fun j hj => hget j (by rw [← HQ.out]; exact hj)
          have hF := hfw.trans hfr
          have hOr : OpB wr w1.heap.size 6 0 0 0 false (.slice none 0 0) := hO.from_ hfr
          have hHN := Lib.hid hN
          clear hget hN hkm HA
          obtain ⟨wp, hwp⟩ : ∃ wp : World, wp = wr := ⟨_, rfl⟩
          subst hwp
          have hgp : w1.heap.size < wp.heap.size := by omega
          clear hk1 hk2 hqk hqk2 hji
          rw [hkm1]
          clear hkm1
          by_cases hq1 : q = 1
          · have HP : Hid (oparse s.data.toList = some ⟨6, 0, 0, ns.getD 0 0, false, []⟩) := by
              show oparse _ = _; rw [oparse_at HSP.out HKK.out (by decide)]; rw [oargsK (by decide) hHN.out]; exact shape6_ok (by rw [← HQ.out]; exact hq1)
            obtain ⟨lb, off, rfl, l0⟩ := HX.out 0 (by omega)
            have l00 := l0
            rw [Nat.add_zero] at l00
            have hlb := cell_lt l0
            generalize ns.getD 0 0 = v0 at *
            obtain ⟨z0, z1, z2, z3, z4, z5⟩ := (HZ.out wp hF).box
            have zf0 := (HZ.out wp hF).free 0 (by decide)
            have zf1 := (HZ.out wp hF).free 1 (by decide)
            have zf2 := (HZ.out wp hF).free 2 (by decide)
            have zf3 := (HZ.out wp hF).free 3 (by decide)
            have zf4 := (HZ.out wp hF).free 4 (by decide)
            have zf5 := (HZ.out wp hF).free 5 (by decide)
            have HB9 := Lib.hid (HBW.out wp hF)
            have hz9 : w.heap.size < wp.heap.size := Nat.lt_of_lt_of_le hzw hF.out.size
            obtain ⟨q0, q1, q2, q3, q4, q5⟩ := hOr.box
            have qf1 := hOr.free 1 (by decide)
            have qf2 := hOr.free 2 (by decide)
            have qf3 := hOr.free 3 (by decide)
            have qf4 := hOr.free 4 (by decide)
            have gz1 : ¬ w.heap.size = w1.heap.size := by omega
            have gz2 : ¬ w1.heap.size = w.heap.size := by omega
            clear HOWN HX
            rw [← hqm]
            clear hqm
            subst hq1
            go_wp2
            refine wp_loop_rounds 1 ?_
            rw [rounds_succ]
            go_wp2
            refine bodyPost_ret (v := .tuple #[opV 6 (0) (0) (v0) false (.slice none 0 0), .bool true]) ?_ rfl ?_
            · simp only [results, Tryz.results64]
              go_simp
            · have hbw := HB9.out
              refine ret_some HP.out rfl ⟨none, 0, rfl, .inl rfl⟩ ?_
              clear HP
              repeat (first | (with_reducible exact hbw) | (with_reducible refine below_set ?_ (by omega) _) | (with_reducible refine Below.alloc ?_ (by first | omega | (simp; omega)) _) | (with_reducible refine Below.drew ?_))
          · by_cases hq0 : q = 0
            · have HP : Hid (oparse s.data.toList = none) := by
                show oparse _ = _; rw [oparse_at HSP.out HKK.out (by decide)]; rw [oargsK (by decide) hHN.out]; exact shape6_no (by rw [← HQ.out]; omega)
              obtain ⟨z0, z1, z2, z3, z4, z5⟩ := (HZ.out wp hF).box
              have zf0 := (HZ.out wp hF).free 0 (by decide)
              have zf1 := (HZ.out wp hF).free 1 (by decide)
              have zf2 := (HZ.out wp hF).free 2 (by decide)
              have zf3 := (HZ.out wp hF).free 3 (by decide)
              have zf4 := (HZ.out wp hF).free 4 (by decide)
              have zf5 := (HZ.out wp hF).free 5 (by decide)
              have HB9 := Lib.hid (HBW.out wp hF)
              have hz9 : w.heap.size < wp.heap.size := Nat.lt_of_lt_of_le hzw hF.out.size
              obtain ⟨q0, q1, q2, q3, q4, q5⟩ := hOr.box
              have qf1 := hOr.free 1 (by decide)
              have qf2 := hOr.free 2 (by decide)
              have qf3 := hOr.free 3 (by decide)
              have qf4 := hOr.free 4 (by decide)
              go_wp2
              refine bodyPost_ret (v := .tuple #[opV 0 0 0 0 false (.slice none 0 0), .bool false]) ?_ rfl ?_
              · simp only [results, Tryz.results64]
                go_simp
              · have hbw := HB9.out
                refine ret_none HP.out rfl ?_
                clear HP
                repeat (first | (with_reducible exact hbw) | (with_reducible refine below_set ?_ (by omega) _) | (with_reducible refine Below.alloc ?_ (by first | omega | (simp; omega)) _) | (with_reducible refine Below.drew ?_))
            · have hq2 : (1 : Int) < (q : Int) := by omega
              have HP : Hid (oparse s.data.toList = none) := by
                show oparse _ = _; rw [oparse_at HSP.out HKK.out (by decide)]; rw [oargsK (by decide) hHN.out]; exact shape6_no (by rw [← HQ.out]; omega)
              obtain ⟨z0, z1, z2, z3, z4, z5⟩ := (HZ.out wp hF).box
              have zf0 := (HZ.out wp hF).free 0 (by decide)
              have zf1 := (HZ.out wp hF).free 1 (by decide)
              have zf2 := (HZ.out wp hF).free 2 (by decide)
              have zf3 := (HZ.out wp hF).free 3 (by decide)
              have zf4 := (HZ.out wp hF).free 4 (by decide)
              have zf5 := (HZ.out wp hF).free 5 (by decide)
              have HB9 := Lib.hid (HBW.out wp hF)
              have hz9 : w.heap.size < wp.heap.size := Nat.lt_of_lt_of_le hzw hF.out.size
              obtain ⟨q0, q1, q2, q3, q4, q5⟩ := hOr.box
              have qf1 := hOr.free 1 (by decide)
              have qf2 := hOr.free 2 (by decide)
              have qf3 := hOr.free 3 (by decide)
              have qf4 := hOr.free 4 (by decide)
              go_wp2
              refine bodyPost_ret (v := .tuple #[opV 0 0 0 0 false (.slice none 0 0), .bool false]) ?_ rfl ?_
              · simp only [results, Tryz.results64]
                go_simp
              · have hbw := HB9.out
                refine ret_none HP.out rfl ?_
                clear HP
                repeat (first | (with_reducible exact hbw) | (with_reducible refine below_set ?_ (by omega) _) | (with_reducible refine Below.alloc ?_ (by first | omega | (simp; omega)) _) | (with_reducible refine Below.drew ?_))
end Go.Proofs.YtdclokpoeaehlaaGreatDoor
