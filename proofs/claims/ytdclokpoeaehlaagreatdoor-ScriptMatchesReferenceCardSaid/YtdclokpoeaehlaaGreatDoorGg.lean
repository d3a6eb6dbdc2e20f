/- LogM, LogN: together in one text. -/
import Derived.Test.YtdclokpoeaehlaaGreatDoorGe
import Derived.Test.YtdclokpoeaehlaaGreatDoorGf
import Derived.Deep.RegionHeld3
/- hammockref24.Parse. -/
namespace Go.Proofs.YtdclokpoeaehlaaGreatDoor
set_option linter.all false
open Go.RowKit

/-- What parsing a line gives, as a pair. -/
def parseD (l : List UInt8) : Dec := (dparse l).getD ⟨0, 0, 0, 0⟩
def parseB (l : List UInt8) : Bool := (dparse l).isSome
theorem dv_dash : dvalue [45] = some (-1) := rfl
theorem dv_num {y : List UInt8} (h : y ≠ [45]) (hb : numB y = true) (hn : numI y ≠ -1) : dvalue y = some (numI y) := by
  unfold dvalue
  unfold numB at hb
  unfold numI at hn ⊢
  cases hx : num y with
  | none => rw [hx] at hb; cases hb
  | some n => rw [hx] at hn; simp only [Option.getD_some] at hn ⊢; rw [if_neg h, if_neg hn]
theorem dv_bad {y : List UInt8} (h : y ≠ [45]) (hb : numB y = false ∨ numI y = -1) : dvalue y = none := by
  unfold dvalue
  unfold numB numI at hb
  cases hx : num y with
  | none => rw [if_neg h]
  | some n =>
    rw [hx] at hb
    rcases hb with hb | hb
    · cases hb
    · simp only [Option.getD_some] at hb
      rw [if_neg h]
      show (if n = -1 then none else some n) = none
      rw [if_pos hb]
theorem dparse_some {l x0 y1 y2 y3 : List UInt8} {a b c : Int} (h : Lib.split l [32] = [x0, y1, y2, y3]) (hk : kindOf x0 ≠ 0) (h1 : dvalue y1 = some a) (h2 : dvalue y2 = some b) (h3 : dvalue y3 = some c) : dparse l = some ⟨kindOf x0, a, b, c⟩ := by
  unfold dparse
  rw [h]
  simp only [h1, h2, h3]
  rw [if_neg hk]
theorem dparse_kind {l x0 : List UInt8} {r : List (List UInt8)} (h : Lib.split l [32] = x0 :: r) (hk : kindOf x0 = 0) : dparse l = none := by
  unfold dparse
  rw [h]
  split
  · rename_i e
    simp only [List.cons.injEq] at e
    obtain ⟨rfl, _⟩ := e
    rw [if_pos hk]
  · rfl
theorem dparse_len {l : List UInt8} (h : (Lib.split l [32]).length ≠ 4) : dparse l = none := by
  unfold dparse
  split
  · rename_i e
    rw [e] at h
    exact absurd rfl h
  · rfl
theorem dparse_val {l x0 : List UInt8} {r : List (List UInt8)} (h : Lib.split l [32] = x0 :: r) {j : Nat} {y : List UInt8} (hy : r[j]? = some y) (hv : dvalue y = none) : dparse l = none := by
  unfold dparse
  rw [h]
  split
  · rename_i a b c d e
    simp only [List.cons.injEq] at e
    obtain ⟨rfl, rfl⟩ := e
    split
    · rfl
    · split
      · rename_i h1 h2 h3
        match j, hy with
        | 0, hy => cases hy; rw [hv] at h1; cases h1
        | 1, hy => cases hy; rw [hv] at h2; cases h2
        | 2, hy => cases hy; rw [hv] at h3; cases h3
        | _ + 3, hy => cases hy
      · rfl
  · rfl
theorem vals_push {xs : List (List UInt8)} {ns : List Int} {v : Int} (h : ∀ j, j < ns.length → dvalue (strAt xs (j + 1)) = ns[j]?) (hv : dvalue (strAt xs (ns.length + 1)) = some v) : ∀ j, j < (ns ++ [v]).length → dvalue (strAt xs (j + 1)) = (ns ++ [v])[j]? := by
  intro j hj
  rw [List.length_append] at hj
  simp only [List.length_cons, List.length_nil] at hj
  rcases Nat.lt_or_ge j ns.length with h1 | h1
  · rw [List.getElem?_append_left h1]; exact h j h1
  · have : j = ns.length := by omega
    subst this
    rw [hv]; simp
theorem parse_none {l : List UInt8} (h : dparse l = none) : parseD l = ⟨0, 0, 0, 0⟩ ∧ parseB l = false := by
  unfold parseD parseB
  rw [h]
  exact ⟨rfl, rfl⟩
theorem parse_some {l : List UInt8} {d : Dec} (h : dparse l = some d) : parseD l = d ∧ parseB l = true := by
  unfold parseD parseB
  rw [h]
  exact ⟨rfl, rfl⟩
set_option maxHeartbeats 4000000 in
set_option maxRecDepth 100000 in
theorem rparse_any (s : ByteArray) (w : World) (hs : s.size < 4294967281) :
    Calls Tryz.prog 20 #[.string s] w fun e w' => e = .returned (.tuple #[decV (parseD s.data.toList), .bool (parseB s.data.toList)]) ∧ Below w.heap.size w w' := by
  have hb : Below w.heap.size w (w.alloc (.cells #[.int .i64 0, .int .i64 0, .int .i64 0, .int .i64 0] 23)) := (Below.refl _ _).alloc (Nat.le_refl _) _
  have I := Lib.hid (words_any s (w.alloc (.cells #[.int .i64 0, .int .i64 0, .int .i64 0, .int .i64 0] 23)) hs)
  have HB := Lib.hid hb
  go_enter Tryz.func20, Tryz.ntmps20
  go_wp2_with fail
  refine I.out.mono ?_
  rintro e w1 ⟨u, rfl, hown, hb1⟩
  obtain ⟨x0, r, hxs⟩ : ∃ x0 r, Lib.split s.data.toList [32] = x0 :: r := by
    cases h : Lib.split s.data.toList [32] with
    | nil => exact absurd h (split_ne _ _)
    | cons a b => exact ⟨a, b, rfl⟩
  have hat := hown.at_
  clear hown
  rw [hxs] at hat
  obtain ⟨a, cap, rfl, h | ⟨b, off, rfl, hlt, hcells⟩⟩ := hat
  · cases h
  have HC := Lib.hid (strs_cells hcells)
  clear hcells
  have F1 : From w1 w1 := From.refl _
  have HZ : Hid (∀ w', From w1 w' → (w'.cell? ⟨w.heap.size, 0, none⟩ = some (.int .i64 0) ∧ w'.cell? ⟨w.heap.size, 1, none⟩ = some (.int .i64 0) ∧ w'.cell? ⟨w.heap.size, 2, none⟩ = some (.int .i64 0) ∧ w'.cell? ⟨w.heap.size, 3, none⟩ = some (.int .i64 0) ∧ w'.frozen? ⟨w.heap.size, 0, none⟩ = false ∧ w'.frozen? ⟨w.heap.size, 1, none⟩ = false ∧ w'.frozen? ⟨w.heap.size, 2, none⟩ = false ∧ w'.frozen? ⟨w.heap.size, 3, none⟩ = false)) := fun w' hf => by
    have hf1 : From (w.alloc (.cells #[.int .i64 0, .int .i64 0, .int .i64 0, .int .i64 0] 23)) w' := From.step ⟨hb1⟩ (hf.out.mono (Nat.le_refl _))
    have hlt2 : w.heap.size < (w.alloc (.cells #[.int .i64 0, .int .i64 0, .int .i64 0, .int .i64 0] 23)).heap.size := by simp
    refine ⟨hf1.cell (by go_simp), hf1.cell (by go_simp), hf1.cell (by go_simp), hf1.cell (by go_simp), ?_, ?_, ?_, ?_⟩
    all_goals (rw [hf1.out.frozen (p := ⟨w.heap.size, _, none⟩) hlt2]; go_simp)
  have HB1 := Lib.hid hb1
  clear hb1 hb
  have c0 : w1.cell? ⟨b, off, none⟩ = some (.string (str x0)) := HC.out 0 (by simp)
  go_wp2
  go_loopw [5, 6] (fun kd i wr => ∃ k : Nat, 1 ≤ k ∧ k ≤ 12 ∧ i = .int .i64 k ∧ kd = .int .i64 (kindTo x0 (k - 1) : Nat) ∧ From w1 wr) (fun _ i _ => 12 - (intOf i).toNat)
  case atStart => exact ⟨1, by omega, by omega, rfl, rfl, F1⟩
  case round =>
    obtain ⟨k, hk1, hk2, rfl, rfl, hfw⟩ := hrel
    by_cases hlt : k ≤ 11
    · have e1 : (k : Int) ≤ 11 := by omega
      have e0 : (0 : Int) ≤ (k : Int) := by omega
      have ck := hfw.cell c0
      have HN := Lib.hid fun w => rname_any (k : Int) w
      have hkt : kindTo x0 (k + 1 - 1) = if dname (k : Int) = x0 then k else kindTo x0 (k - 1) := by
        obtain ⟨m, rfl⟩ : ∃ m, k = m + 1 := ⟨k - 1, by omega⟩
        rfl
      have F0 : From wr wr := From.refl _
      have Fd : From wr wr.drew := F0.drew
      have HK : Hid (∀ w', From wr w' → (w'.cell? ⟨b, off, none⟩ = some (.string (str x0)) ∧ From wr w')) := fun w' hf => ⟨hf.cell ck, hf⟩
      generalize dname (k : Int) = nm at *
      by_cases hq : nm = x0
      · rw [if_pos hq] at hkt
        have HKT := Lib.hid hkt
        subst hq
        clear hkt
        go_wp2
        go_region_held3 (fun w' => w'.cell? ⟨b, off, none⟩ = some (.string (str nm)) ∧ From wr w')
          (first
            | (with_reducible exact HK.out _ ‹_›)
            | (with_reducible exact HK.out _ (From.drew ‹_›)))
          ((go_at_call 16; ((with_reducible refine (HN.out _).mono ?_)); rintro e w2 ⟨rfl, hb2⟩; have F2 : From wr w2 := From.step ‹_› hb2; clear hb2))
        go_wp2
        go_roundw
        case rel => exact ⟨k + 1, by omega, by omega, by go_num, by rw [HKT.out], hfw.trans F2⟩
        case measure => first | (simp [intOf]; omega) | omega
      · have hne : ((str nm).toList == (str x0).toList) = false := by rw [beq_eq_false_iff_ne]; exact fun e => hq (by rw [ByteArray.toList_eq, ByteArray.toList_eq] at e; exact e)
        rw [if_neg hq] at hkt
        have HKT := Lib.hid hkt
        clear hkt hq
        go_wp2
        go_region_held3 (fun w' => w'.cell? ⟨b, off, none⟩ = some (.string (str x0)) ∧ From wr w')
          (first
            | (with_reducible exact HK.out _ ‹_›)
            | (with_reducible exact HK.out _ (From.drew ‹_›)))
          ((go_at_call 16; ((with_reducible refine (HN.out _).mono ?_)); rintro e w2 ⟨rfl, hb2⟩; have F2 : From wr w2 := From.step ‹_› hb2; clear hb2))
        go_wp2
        go_roundw
        case rel => exact ⟨k + 1, by omega, by omega, by go_num, by rw [HKT.out], hfw.trans F2⟩
        case measure => first | (simp [intOf]; omega) | omega
    · have hk12 : k = 12 := by omega
      subst hk12
      have hK : kindTo x0 (12 - 1) = kindOf x0 := kindTo_11 x0
      rw [hK]
      clear hK hlt hk1 hk2
      simp only [show ((12 : Nat) : Int) = 12 from rfl]
      have z := HZ.out wr hfw
      obtain ⟨z0, z1, z2, z3, zf0, zf1, zf2, zf3⟩ := z
      have HBw : Hid (Below w.heap.size w wr) := HB.out.trans ((HB1.out.trans (hfw.out.mono HB1.out.size)).mono HB.out.size)
      by_cases hk0 : kindOf x0 = 0
      · have hp := parse_none (dparse_kind hxs hk0)
        have HP := Lib.hid hp
        have hb0 : ((kindOf x0 : Int) == 0) = true := by rw [beq_iff_eq]; omega
        clear hp hxs
        generalize kindOf x0 = K at *
        go_wp2
        refine bodyPost_ret (v := .tuple #[decV ⟨0, 0, 0, 0⟩, .bool false]) ?_ rfl ⟨by rw [HP.out.1, HP.out.2], ?_⟩
        · simp only [results, Tryz.results20]
          go_simp
        · have hbw := HBw.out
          clear HP
          repeat (first | (with_reducible exact hbw) | refine below_set ?_ (Nat.le_refl _) _)
      · have hb0 : ((kindOf x0 : Int) == 0) = false := by rw [beq_eq_false_iff_ne]; omega
        by_cases hl : r.length = 3
        · obtain ⟨y1, y2, y3, hr⟩ : ∃ y1 y2 y3, r = [y1, y2, y3] := by
            match r, hl with
            | [a, b, c], _ => exact ⟨a, b, c, rfl⟩
          subst hr
          clear hl z0 z1 z2 z3 zf0 zf1 zf2 zf3
          have HXS := Lib.hid hxs
          clear hxs
          have HK0 := Lib.hid hk0
          clear hk0
          generalize hKK : kindOf x0 = K at *
          have HKK := Lib.hid hKK
          clear hKK
          go_wp2
          simp only [List.length_cons, List.length_nil, Nat.zero_add, Nat.reduceAdd]
          obtain ⟨wo, hwo⟩ : ∃ wo : World, wo = wr := ⟨_, rfl⟩
          subst hwo
          go_loopw [7, 8] (fun l i wr => ∃ (k : Nat) (ns : List Int), 1 ≤ k ∧ k ≤ 4 ∧ ns.length + 1 = k ∧ i = .int .i64 k ∧ kInt.Own w1.heap.size wr l ns ∧ Hid (∀ j, j < ns.length → dvalue (strAt [x0, y1, y2, y3] (j + 1)) = ns[j]?) ∧ From w1 wr) (fun _ i _ => 4 - (intOf i).toNat)
          case atStart => exact ⟨1, [], by omega, by omega, rfl, rfl, Kin.Own.nil _ _ _, fun j hj => absurd hj (Nat.not_lt_zero _), hfw⟩
          case round =>
            obtain ⟨k, ns, hk1, hk2, hnl, rfl, hown, HV, hfr⟩ := hrel
            obtain ⟨ao, co, rfl⟩ := hown.shape
            have HOWN := Lib.hid hown; clear hown
            obtain ⟨z0, z1, z2, z3, zf0, zf1, zf2, zf3⟩ := HZ.out wr hfr
            have HBr : Hid (Below w.heap.size w wr) := HB.out.trans ((HB1.out.trans (hfr.out.mono HB1.out.size)).mono HB.out.size)
            have hsz := hfr.out.size
            have hnl1 : ns.length + 1 ≤ k := by omega
            have hnl2 : k ≤ ns.length + 1 := by omega
            have HNL := Lib.hid hnl
            clear hnl
            by_cases hk4 : k = 4
            · subst hk4
              have hnl := HNL.out
              obtain ⟨a1, a2, a3, hns⟩ : ∃ a b c, ns = [a, b, c] := by
                match ns, hnl with
                | [a, b, c], _ => exact ⟨a, b, c, rfl⟩
              subst hns
              have hp := parse_some (dparse_some HXS.out (by rw [HKK.out]; exact HK0.out) (HV.out 0 (by simp)) (HV.out 1 (by simp)) (HV.out 2 (by simp)))
              rw [HKK.out] at hp
              have HP := Lib.hid hp
              clear hp HV
              obtain ⟨g, cp, hsl, hg, hcs⟩ := HOWN.out.ints (by simp)
              cases hsl
              have q0 := hcs 0 a1 rfl
              have q1 := hcs 1 a2 rfl
              have q2 := hcs 2 a3 rfl
              have hgw : w.heap.size < g := by have := HB1.out.size; simp at this; omega
              clear hcs hnl hk1 hk2
              simp only [show ((4 : Nat) : Int) = 4 from rfl, List.length_cons, List.length_nil, Nat.zero_add, Nat.reduceAdd]
              go_wp2
              have hne1 : ¬ w.heap.size = g := by omega
              have hne2 : ¬ g = w.heap.size := by omega
              go_region_held3 (fun w' => w'.cell? ⟨g, 0, none⟩ = some (.int .i64 a1) ∧ w'.cell? ⟨g, 1, none⟩ = some (.int .i64 a2) ∧ w'.cell? ⟨g, 2, none⟩ = some (.int .i64 a3))
                (go_keep)
                (fail)
              go_wp2
              refine bodyPost_ret (v := .tuple #[decV ⟨K, a1, a2, a3⟩, .bool true]) ?_ rfl ⟨by rw [HP.out.1, HP.out.2], ?_⟩
              · simp only [results, Tryz.results20]
                go_simp
              · have hbw := HBr.out
                clear HP
                repeat (first | (with_reducible exact hbw) | refine below_set ?_ (Nat.le_refl _) _ | refine Below.drew ?_)
            · have hk3 : k < 4 := by omega
              have cy := hfr.cell (HC.out k (by simpa using hk3))
              have HY : Hid ([y1, y2, y3][k - 1]? = some (strAt [x0, y1, y2, y3] k)) := by
                have : k = 1 ∨ k = 2 ∨ k = 3 := by omega
                rcases this with rfl | rfl | rfl <;> rfl
              have hkz : (k : Int) < 4 := by omega
              have hk0' : (0 : Int) ≤ (k : Int) := by omega
              have hky : k < 4 := hk3
              obtain ⟨y, hy⟩ : ∃ y, y = strAt [x0, y1, y2, y3] k := ⟨_, rfl⟩
              rw [← hy] at cy HY
              have HYE := Lib.hid hy
              clear hy
              have HN : Hid (∀ w, Calls Tryz.prog 44 #[.string (str y)] w fun e w' => e = .returned (.tuple #[.int .i64 (numI y), .bool (numB y)]) ∧ w = w') := fun w => rnumber_any (str y) w
              by_cases h45 : y = [45]
              · have hdv : dvalue y = some (-1) := by rw [h45]; rfl
                have hne : ((str y).toList == [45]) = true := by rw [beq_iff_eq, ByteArray.toList_eq]; exact h45
                have HV2 : Hid (∀ j, j < (ns ++ [-1]).length → dvalue (strAt [x0, y1, y2, y3] (j + 1)) = (ns ++ [-1])[j]?) := vals_push HV.out (by rw [HNL.out, ← HYE.out]; exact hdv)
                clear hdv h45 HY
                generalize numI y = ny at *
                generalize numB y = by_ at *
                go_wp2_with fail
                refine (HN.out _).mono ?_
                rintro e w2 ⟨rfl, rfl⟩
                have hOW : kInt.Own w1.heap.size (wr.alloc (.cells #[.int .i64 (-1)] 3)) (.slice ao ns.length co) ns := HOWN.out.alloc _
                have HOW := Lib.hid hOW; clear hOW
                go_wp2_with (at_builtin; go_must (refine Kin.append1 kInt rfl _ _ rfl w1.heap.size _ ns rfl HOW.out wr.heap.size (-1) rfl (cells1i_of (by go_simp)) (by unfold maxLen; omega) (by show _ * 8 ≤ _; omega) (by first | (simp; done) | (simp; omega)) ?_; intro v' w3 hown' hbel hgrow; obtain ⟨a2, c2, rfl⟩ := hown'.shape; have HO2 := Lib.hid hown'; clear hown'))
                go_roundw
                case rel => exact ⟨k + 1, ns ++ [-1], by omega, by omega, by rw [List.length_append]; simp; omega, by go_num, by have h := HO2.out; rw [List.length_append] at h; exact h, HV2.out, ⟨hfr.out.trans (((Below.refl _ _).alloc (by omega) _).trans hbel)⟩⟩
                case measure => first | (simp [intOf]; omega) | omega
              · have hne : ((str y).toList == [45]) = false := by rw [beq_eq_false_iff_ne, ByteArray.toList_eq]; exact h45
                by_cases hbad : numB y = false ∨ numI y = -1
                · have hp := parse_none (dparse_val HXS.out HY.out (dv_bad h45 hbad))
                  have HP := Lib.hid hp
                  clear hp h45
                  rcases hbad with hbad | hbad
                  · rw [hbad] at HN
                    clear hbad
                    generalize numI y = ny at *
                    go_wp2_with fail
                    refine (HN.out _).mono ?_
                    rintro e w2 ⟨rfl, rfl⟩
                    go_wp2
                    all_goals
                      refine bodyPost_ret (v := .tuple #[decV ⟨0, 0, 0, 0⟩, .bool false]) ?_ rfl ⟨by rw [HP.out.1, HP.out.2], ?_⟩
                      · simp only [results, Tryz.results20]
                        go_simp
                      · have hbw := HBr.out
                        clear HP
                        repeat (first | (with_reducible exact hbw) | refine below_set ?_ (Nat.le_refl _) _)
                  · rw [hbad] at HN
                    clear hbad
                    generalize numB y = bb at *
                    cases bb
                    all_goals
                      go_wp2_with fail
                      refine (HN.out _).mono ?_
                      rintro e w2 ⟨rfl, rfl⟩
                      go_wp2
                      refine bodyPost_ret (v := .tuple #[decV ⟨0, 0, 0, 0⟩, .bool false]) ?_ rfl ⟨by rw [HP.out.1, HP.out.2], ?_⟩
                      · simp only [results, Tryz.results20]
                        go_simp
                      · have hbw := HBr.out
                        clear HP
                        repeat (first | (with_reducible exact hbw) | refine below_set ?_ (Nat.le_refl _) _)
                · have hb1 : numB y = true := by cases h : numB y with | true => rfl | false => exact absurd (.inl h) hbad
                  have hn1 : numI y ≠ -1 := fun h => hbad (.inr h)
                  have hdv := dv_num h45 hb1 hn1
                  have hnb : (numI y == -1) = false := by rw [beq_eq_false_iff_ne]; exact hn1
                  rw [hb1] at HN
                  have HV2 : Hid (∀ j, j < (ns ++ [numI y]).length → dvalue (strAt [x0, y1, y2, y3] (j + 1)) = (ns ++ [numI y])[j]?) := vals_push HV.out (by rw [HNL.out, ← HYE.out]; exact hdv)
                  clear hdv h45 HY hb1 hn1 hbad
                  generalize numI y = ny at *
                  go_wp2_with fail
                  refine (HN.out _).mono ?_
                  rintro e w2 ⟨rfl, rfl⟩
                  have hOW : kInt.Own w1.heap.size (wr.alloc (.cells #[.int .i64 (ny)] 3)) (.slice ao ns.length co) ns := HOWN.out.alloc _
                  have HOW := Lib.hid hOW; clear hOW
                  go_wp2_with (at_builtin; go_must (refine Kin.append1 kInt rfl _ _ rfl w1.heap.size _ ns rfl HOW.out wr.heap.size (ny) rfl (cells1i_of (by go_simp)) (by unfold maxLen; omega) (by show _ * 8 ≤ _; omega) (by first | (simp; done) | (simp; omega)) ?_; intro v' w3 hown' hbel hgrow; obtain ⟨a2, c2, rfl⟩ := hown'.shape; have HO2 := Lib.hid hown'; clear hown'))
                  go_roundw
                  case rel => exact ⟨k + 1, ns ++ [ny], by omega, by omega, by rw [List.length_append]; simp; omega, by go_num, by have h := HO2.out; rw [List.length_append] at h; exact h, HV2.out, ⟨hfr.out.trans (((Below.refl _ _).alloc (by omega) _).trans hbel)⟩⟩
                  case measure => first | (simp [intOf]; omega) | omega
        · have hp := parse_none (dparse_len (l := s.data.toList) (by rw [hxs]; simp only [List.length_cons]; omega))
          have HP := Lib.hid hp
          have hl2 : ¬ (r.length + 1 = 4) := by omega
          clear hp hxs hk0 hl
          generalize kindOf x0 = K at *
          generalize r.length = m at *
          go_wp2
          refine bodyPost_ret (v := .tuple #[decV ⟨0, 0, 0, 0⟩, .bool false]) ?_ rfl ⟨by rw [HP.out.1, HP.out.2], ?_⟩
          · simp only [results, Tryz.results20]
            go_simp
          · have hbw := HBw.out
            clear HP
            repeat (first | (with_reducible exact hbw) | refine below_set ?_ (Nat.le_refl _) _)
end Go.Proofs.YtdclokpoeaehlaaGreatDoor
/- What log.Parse calls: strings.Split, the index of a name, its closure. -/
namespace Go.Proofs.YtdclokpoeaehlaaGreatDoor
set_option linter.all false
open Go.RowKit

/-- w came of a by new memory, draws, and stores into block g. -/
structure Mut (g : Nat) (a w : World) : Prop where
  os : w.os = a.os
  tape : w.tape = a.tape
  output : w.output = a.output
  size : a.heap.size ≤ w.heap.size
  block : ∀ k, k < a.heap.size → k ≠ g → w.heap[k]? = a.heap[k]?
theorem Mut.refl (g : Nat) (a : World) : Mut g a a := ⟨rfl, rfl, rfl, Nat.le_refl _, fun _ _ _ => rfl⟩
theorem Mut.step {g : Nat} {a w w' : World} (h : Mut g a w) (hb : Below w.heap.size w w') : Mut g a w' :=
  ⟨hb.os.trans h.os, hb.tape.trans h.tape, hb.output.trans h.output, Nat.le_trans h.size hb.size, fun k hk hg => (hb.block k (Nat.lt_of_lt_of_le hk h.size)).trans (h.block k hk hg)⟩
theorem Mut.drew {g : Nat} {a w : World} (h : Mut g a w) : Mut g a w.drew := h.step (From.refl w).drew.out
theorem Mut.alloc {g : Nat} {a w : World} (h : Mut g a w) (o : Obj) : Mut g a (w.alloc o) := h.step ((From.refl w).alloc o).out
theorem Mut.set {g o : Nat} {a w : World} (h : Mut g a w) (v : Value) : Mut g a (w.setCell ⟨g, o, none⟩ v) := by
  refine ⟨h.os, h.tape, h.output, by simpa using h.size, fun k hk hg => ?_⟩
  rw [← h.block k hk hg]
  show (w.heap.modify g _)[k]? = w.heap[k]?
  rw [Array.getElem?_modify, if_neg (Ne.symm hg)]
theorem Mut.trans {g : Nat} {a w w' : World} (h : Mut g a w) (k : Mut g w w') : Mut g a w' :=
  ⟨k.os.trans h.os, k.tape.trans h.tape, k.output.trans h.output, Nat.le_trans h.size k.size, fun j hj hg => (k.block j (Nat.lt_of_lt_of_le hj h.size) hg).trans (h.block j hj hg)⟩
theorem Mut.of_below {g : Nat} {a w : World} (h : Below a.heap.size a w) : Mut g a w := (Mut.refl g a).step h
theorem Mut.cell {g : Nat} {a w : World} (h : Mut g a w) {b o : Nat} {v : Value} (hb : b ≠ g) (hc : a.cell? ⟨b, o, none⟩ = some v) : w.cell? ⟨b, o, none⟩ = some v :=
  (World.cell?_of_block (a := ⟨b, o, none⟩) (h.block b (cell_lt hc) hb)).trans hc
theorem Mut.frozen {g : Nat} {a w : World} (h : Mut g a w) {b o : Nat} (hb : b ≠ g) (hl : b < a.heap.size) : w.frozen? ⟨b, o, none⟩ = a.frozen? ⟨b, o, none⟩ :=
  World.frozen?_of_block (a := ⟨b, o, none⟩) (h.block b hl hb)
theorem Mut.below {g B : Nat} {x a w : World} (h : Mut g a w) (hx : Below B x a) (hB : B ≤ a.heap.size) (hg : B ≤ g) : Below B x w :=
  ⟨h.os.trans hx.os, h.tape.trans hx.tape, h.output.trans hx.output, Nat.le_trans hx.size h.size, fun k hk => (h.block k (by omega) (by omega)).trans (hx.block k hk)⟩
theorem Mut.var {g : Nat} {n : String} {w w' : World} {cs : Array Value} (h : w.var? Tryz.prog n = some cs) (hb : Mut g w w') (hg : Tryz.prog.globalNamed n ≠ some g) : w'.var? Tryz.prog n = some cs := by
  unfold World.var? at h ⊢
  cases hx : Tryz.prog.globalNamed n with
  | none => rw [hx] at h; cases h
  | some i =>
    rw [hx] at h
    simp only [Option.bind_some] at h ⊢
    have hlt : i < w.heap.size := by
      rcases Nat.lt_or_ge i w.heap.size with h' | h'
      · exact h'
      · rw [Array.getElem?_eq_none h'] at h; cases h
    rw [hb.block i hlt (fun e => hg (by rw [hx, e]))]
    exact h
theorem cell_new (w : World) (cs : Array Value) (e : TypeId) (j : Nat) : (w.alloc (.cells cs e)).cell? ⟨w.heap.size, j, none⟩ = cs[j]? := by
  unfold World.cell?
  rw [show (w.alloc (.cells cs e)).heap[w.heap.size]? = some (.cells cs e (0, 0)) from heap_alloc_new w _]
  rfl
theorem split_any (s : ByteArray) (sep : List UInt8) (w : World) (hs : s.size < 4294967281) (hsep : 1 ≤ sep.length) (ht : Tabs w) :
    Calls Tryz.prog 49 #[.string s, .string (str sep)] w fun e w' => ∃ b cap, e = .returned (.slice (some ⟨b, 0, none⟩) (Lib.split s.data.toList sep).length cap) ∧ b < w'.heap.size ∧ (∀ j, j < (Lib.split s.data.toList sep).length → w'.cell? ⟨b, j, none⟩ = some (.string (str (strAt (Lib.split s.data.toList sep) j)))) ∧ Below w.heap.size w w' := by
  obtain ⟨m, hm⟩ := ht.len
  refine (Tryz.strings_Split s (str sep) m w hs hm (by rw [str_size]; exact hsep)).mono ?_
  rintro e w' ⟨rfl, rfl⟩
  have h1 : 1 ≤ (str sep).size := by rw [str_size]; exact hsep
  have hn := count_split s (str sep) h1
  have hx := splitB_split (str sep) h1 s.size s (Nat.le_refl _)
  rw [str_toList] at hn hx
  refine ⟨w.heap.size, _, by rw [hn], by simp, fun j hj => ?_, (Below.refl _ _).alloc (Nat.le_refl _) _⟩
  rw [hx]
  have h2 : ((((Lib.split s.data.toList sep).map str).map Value.string).toArray)[j]? = some (.string (str (strAt (Lib.split s.data.toList sep) j))) := by
    simp only [List.map_map, List.getElem?_toArray, List.getElem?_map]
    rw [strAt_get hj]
    rfl
  rw [cell_new, h2]
theorem idxFrom_find (x : List UInt8) : ∀ (l : List (List UInt8)) (i : Nat), Lib.idxFromS (l.map str) (str x) i = match l.findIdx? (· == x) with | some j => ((i + j : Nat) : Int) | none => -1
  | [], i => rfl
  | y :: l, i => by
    simp only [List.map_cons, Lib.idxFromS, List.findIdx?_cons]
    by_cases h : y = x
    · subst h
      simp
    · rw [if_neg (fun e => h (str_inj e)), idxFrom_find x l (i + 1)]
      have hb : (y == x) = false := by rw [beq_eq_false_iff_ne]; exact h
      rw [hb]
      cases l.findIdx? (· == x) with
      | none => rfl
      | some j =>
        show ((i + 1 + j : Nat) : Int) = ((i + (j + 1) : Nat) : Int)
        congr 1; omega
theorem idx_kind (x : List UInt8) : Lib.idxOfS ((decNames.tail.map str).take 11) (str x) + 1 = (kindOf x : Int) := by
  have e : (decNames.tail.map str).take 11 = decNames.tail.map str := List.take_of_length_le (by simp [decNames])
  rw [e]
  unfold Lib.idxOfS kindOf
  rw [idxFrom_find]
  cases decNames.tail.findIdx? (· == x) with
  | none => rfl
  | some j => simp
theorem index_any (x : List UInt8) (w : World) (hn : NamesAt w) :
    Calls Tryz.prog 50 #[.slice (some ⟨0, 1, none⟩) 11 11, .string (str x)] w fun e w' => e = .returned (.int .i64 ((kindOf x : Int) - 1)) ∧ w' = w := by
  refine (Tryz.slices_Index_string 0 1 11 11 (decNames.tail.map str) (str x) w (by decide) (by decide) fun j hj => ?_).mono fun e w' ⟨he, hw⟩ => ⟨by rw [he, ← idx_kind x]; congr 2; omega, hw⟩
  have hj' : j < 11 := by simpa [decNames] using hj
  rw [Nat.add_comm, hn (j + 1) (by omega)]
  have : j = 0 ∨ j = 1 ∨ j = 2 ∨ j = 3 ∨ j = 4 ∨ j = 5 ∨ j = 6 ∨ j = 7 ∨ j = 8 ∨ j = 9 ∨ j = 10 := by omega
  rcases this with rfl | rfl | rfl | rfl | rfl | rfl | rfl | rfl | rfl | rfl | rfl <;> rfl
/-- What the closure finds of a word: whether it is a value, and the value. -/
def vB (y : List UInt8) : Bool := (dvalue y).isSome
def vI (y : List UInt8) : Int := if y = [45] then -1 else numI y
theorem v_some {y : List UInt8} (h : vB y = true) : dvalue y = some (vI y) := by
  unfold vB at h
  unfold vI
  by_cases h1 : y = [45]
  · rw [if_pos h1, h1]; rfl
  · rw [if_neg h1]
    by_cases h2 : numB y = false ∨ numI y = -1
    · rw [dv_bad h1 h2] at h; cases h
    · have h3 : numB y = true := by cases h4 : numB y with | true => rfl | false => exact absurd (.inl h4) h2
      exact dv_num h1 h3 (fun h => h2 (.inr h))
theorem v_none {y : List UInt8} (h : vB y = false) : dvalue y = none := by
  unfold vB at h
  cases h1 : dvalue y with
  | none => rfl
  | some v => rw [h1] at h; cases h
theorem vB_num {y : List UInt8} (h : y ≠ [45]) : vB y = (numB y && numI y != -1) := by
  unfold vB
  by_cases h2 : numB y = false ∨ numI y = -1
  · rw [dv_bad h h2]
    rcases h2 with h2 | h2 <;> simp [h2]
  · have h3 : numB y = true := by cases h4 : numB y with | true => rfl | false => exact absurd (.inl h4) h2
    have h4 : numI y ≠ -1 := fun h => h2 (.inr h)
    rw [dv_num h h3 h4, h3]
    simp [h4]
set_option maxHeartbeats 1000000 in
set_option maxRecDepth 100000 in
theorem val_any (y : List UInt8) (g : Nat) (r : Bool) (w : World) (hl : y.length ≤ 140737488351232) (ht : Tabs w) (hc : w.cell? ⟨g, 0, none⟩ = some (.bool r)) (hf : w.frozen? ⟨g, 0, none⟩ = false) :
    Calls Tryz.prog 51 #[.string (str y), .pointer (some ⟨g, 0, none⟩)] w fun e w' => e = .returned (.int .i64 (vI y)) ∧ Mut g w w' ∧ w'.cell? ⟨g, 0, none⟩ = some (.bool (r && vB y)) ∧ w'.frozen? ⟨g, 0, none⟩ = false := by
  have hg := cell_lt hc
  by_cases h45 : y = [45]
  · have e1 : vI y = -1 := by unfold vI; rw [if_pos h45]
    have e2 : vB y = true := by unfold vB; rw [h45]; rfl
    have hb : ((str y).toList == [45]) = true := by rw [beq_iff_eq, ByteArray.toList_eq]; exact h45
    rw [e1, e2, Bool.and_true]
    clear e1 e2 h45
    have HC := Lib.hid hc
    have HF := Lib.hid hf
    clear hc hf
    go_enter Tryz.func51, Tryz.ntmps51
    go_wp2
    go_ret
    exact ⟨rfl, Mut.refl _ _, HC.out, HF.out⟩
  · have e1 : vI y = numI y := by unfold vI; rw [if_neg h45]
    have hb : ((str y).toList == [45]) = false := by rw [beq_eq_false_iff_ne, ByteArray.toList_eq]; exact h45
    have HN := Lib.hid (number_any y w hl ht)
    have e2 := vB_num h45
    rw [e1, e2]
    have HC := Lib.hid hc
    have HF := Lib.hid hf
    clear e1 e2 h45 hc hf ht
    generalize numI y = n at *
    generalize numB y = b at *
    have hstart : ∀ q, q = (r && (b && n != -1)) → Calls Tryz.prog 51 #[.string (str y), .pointer (some ⟨g, 0, none⟩)] w fun e w' => e = .returned (.int .i64 n) ∧ Mut g w w' ∧ w'.cell? ⟨g, 0, none⟩ = some (.bool q) ∧ w'.frozen? ⟨g, 0, none⟩ = false := by
      intro q hq
      cases r
      · obtain rfl : q = false := by rw [hq]; rfl
        clear hq
        go_enter Tryz.func51, Tryz.ntmps51
        go_wp2_with fail
        refine HN.out.mono ?_
        rintro e w1 ⟨rfl, hb1⟩
        have c1 := keepl hb1 HC.out
        have f1 : w1.frozen? ⟨g, 0, none⟩ = false := (hb1.frozen (p := ⟨g, 0, none⟩) hg).trans HF.out
        have M1 := Mut.of_below (g := g) hb1
        clear hb1
        go_wp2
        go_ret
        exact ⟨rfl, M1.set _, by go_simp, by go_simp⟩
      · cases b
        · obtain rfl : q = false := by rw [hq]; rfl
          clear hq
          go_enter Tryz.func51, Tryz.ntmps51
          go_wp2_with fail
          refine HN.out.mono ?_
          rintro e w1 ⟨rfl, hb1⟩
          have c1 := keepl hb1 HC.out
          have f1 : w1.frozen? ⟨g, 0, none⟩ = false := (hb1.frozen (p := ⟨g, 0, none⟩) hg).trans HF.out
          have M1 := Mut.of_below (g := g) hb1
          clear hb1
          go_wp2
          go_ret
          exact ⟨rfl, M1.set _, by go_simp, by go_simp⟩
        · have hq' : (n != -1) = q := by rw [hq]; rfl
          clear hq
          go_enter Tryz.func51, Tryz.ntmps51
          go_wp2_with fail
          refine HN.out.mono ?_
          rintro e w1 ⟨rfl, hb1⟩
          have c1 := keepl hb1 HC.out
          have f1 : w1.frozen? ⟨g, 0, none⟩ = false := (hb1.frozen (p := ⟨g, 0, none⟩) hg).trans HF.out
          have M1 := Mut.of_below (g := g) hb1
          clear hb1
          go_wp2
          go_ret
          exact ⟨rfl, M1.set _, by go_simp, by go_simp⟩
    exact hstart _ rfl
end Go.Proofs.YtdclokpoeaehlaaGreatDoor
