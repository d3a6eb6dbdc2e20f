/- LogL, LogH, LogI: together in one text. -/
import Derived.Test.YtdclokpoeaehlaaGreatDoorGd
import Derived.Test.YtdclokpoeaehlaaGreatDoorSLogB
import Derived.Lib.AtoiErrMem
/- hammockref24.parts. -/
namespace Go.Proofs.YtdclokpoeaehlaaGreatDoor
set_option linter.all false
open Go.RowKit

/-- The parts so far. -/
structure PartsAt (s : ByteArray) (k f : Nat) (xs : List (List UInt8)) : Prop where
  fk : f ≤ k + 1
  fs : f ≤ s.size
  no : ∀ j, f ≤ j → j < k → ¬ (s.data.toList[j]? = some 44 ∧ s.data.toList[j + 1]? = some 32)
  eq : Lib.split s.data.toList [44, 32] = xs ++ Lib.split (s.data.toList.drop f) [44, 32]
theorem PartsAt.hit {s : ByteArray} {k f : Nat} {xs : List (List UInt8)} (h : PartsAt s k f xs) (hk : k + 1 < s.size) (hf : f ≤ k) (h0 : s[k].toNat = 44) (h1 : s[k + 1].toNat = 32) : PartsAt s (k + 1) (k + 2) (xs ++ [(s.extract f k).data.toList]) := by
  refine ⟨by omega, by omega, fun j _ _ => by omega, ?_⟩
  rw [h.eq, split2_hit hf ⟨(byte_eq (by omega) (c := 44)).2 h0, (byte_eq hk (c := 32)).2 h1⟩ h.no, extract_list _ _ _ (by omega)]
  simp
theorem PartsAt.miss {s : ByteArray} {k f : Nat} {xs : List (List UInt8)} (h : PartsAt s k f xs) (hk : k < s.size) (hn : f ≤ k → ∀ h1 : k + 1 < s.size, s[k].toNat = 44 → s[k + 1].toNat ≠ 32) : PartsAt s (k + 1) f xs := by
  refine ⟨Nat.le_succ_of_le h.fk, h.fs, fun j hj hjk e => ?_, h.eq⟩
  rcases Nat.lt_or_ge j k with h' | h'
  · exact h.no j hj h' e
  · have : j = k := by omega
    subst this
    have h1 : j + 1 < s.size := by
      have := (List.getElem?_eq_some_iff.1 e.2).1
      rw [size_toList] at this; exact this
    exact hn hj h1 ((byte_eq hk (c := 44)).1 e.1) ((byte_eq h1 (c := 32)).1 e.2)
theorem PartsAt.last {s : ByteArray} {f : Nat} {xs : List (List UInt8)} (h : PartsAt s s.size f xs) : Lib.split s.data.toList [44, 32] = xs ++ [(s.extract f s.size).data.toList] := by
  rw [h.eq, split2_end, extract_list _ _ _ (Nat.le_refl _), List.take_of_length_le (by rw [List.length_drop, size_toList]; omega)]
  intro j hj e
  rcases Nat.lt_or_ge j s.size with h' | h'
  · exact h.no j hj h' e
  · rw [byte_none s j h'] at e; cases e.1
set_option maxHeartbeats 4000000 in
set_option maxRecDepth 100000 in
theorem parts_any (s : ByteArray) (w : World) (hs : s.size < 4294967281) :
    Calls Tryz.prog 53 #[.string s] w fun e w' => ∃ v, e = .returned v ∧ kStr.Own w.heap.size w' v (Lib.split s.data.toList [44, 32]) ∧ Below w.heap.size w w' := by
  go_enter Tryz.func53, Tryz.ntmps53
  go_wp2
  go_loopw [3, 4, 5] (fun v fr i wr => ∃ (k f : Nat) (xs : List (List UInt8)), k ≤ s.size ∧ f ≤ s.size ∧ xs.length ≤ k ∧ i = .int .i64 k ∧ fr = .int .i64 f ∧ Hid (PartsAt s k f xs) ∧ kStr.Own w.heap.size wr v xs ∧ From w wr) (fun _ _ i _ => s.size - (intOf i).toNat)
  case atStart => exact ⟨0, 0, [], Nat.zero_le _, Nat.zero_le _, Nat.zero_le _, rfl, rfl, ⟨Nat.zero_le _, Nat.zero_le _, fun j _ h => by omega, rfl⟩, Kin.Own.nil _ _ _, From.refl _⟩
  case round =>
    obtain ⟨k, f, xs, hk, hf, hxl, rfl, rfl, HW, hown, hfw⟩ := hrel
    obtain ⟨ao, co, rfl⟩ := hown.shape
    have HOWN := Lib.hid hown; clear hown
    have hsz := hfw.out.size
    have hki : (0 : Int) ≤ (k : Int) := by omega
    have hfi : (0 : Int) ≤ (f : Int) := by omega
    by_cases h0 : k < s.size
    · by_cases h1 : k + 1 < s.size
      · have e1 : ((k : Int) + 1 < (s.size : Int)) := by omega
        have e2 : 0 ≤ (k : Int) + 1 := by omega
        have e3 : ((k : Int) + 1).toNat = k + 1 := by omega
        by_cases h2 : f ≤ k
        · by_cases h3 : s[k].toNat = 44
          · have hb : ((s[k].toNat : Int) == 44) = true := by rw [beq_iff_eq]; omega
            by_cases h4 : s[k + 1].toNat = 32
            · have hb2 : ((s[k + 1].toNat : Int) == 32) = true := by rw [beq_iff_eq]; omega
              have HN := Lib.hid (HW.out.hit h1 h2 h3 h4)
              have hOW : kStr.Own w.heap.size (wr.alloc (.cells #[.string (s.extract f k)] 9)) (.slice ao xs.length co) xs := HOWN.out.alloc _
              have HOW := Lib.hid hOW; clear hOW
              clear HW h3 h4
              go_wp2_with (at_builtin; go_must (refine Kin.append1 kStr rfl _ _ rfl w.heap.size _ xs rfl HOW.out wr.heap.size (s.extract f k).data.toList rfl (cells1_of (by rw [str_data]; go_simp)) (by unfold maxLen; omega) (by show _ * 16 ≤ _; omega) (by first | (simp; done) | (simp; omega)) ?_; intro v' w3 hown' hbel hgrow; obtain ⟨a2, c2, rfl⟩ := hown'.shape; have HO2 := Lib.hid hown'; clear hown'))
              go_roundw
              case rel => exact ⟨k + 1, k + 2, xs ++ [(s.extract f k).data.toList], by omega, by omega, by rw [List.length_append]; simp; omega, by go_num, by go_num, HN.out, by have h := HO2.out; rw [List.length_append] at h; exact h, ⟨hfw.out.trans (((Below.refl _ _).alloc (by omega) _).trans hbel)⟩⟩
              case measure => first | (simp [intOf]; omega) | omega
            · have hb2 : ((s[k + 1].toNat : Int) == 32) = false := by rw [beq_eq_false_iff_ne]; omega
              have HN := Lib.hid (HW.out.miss h0 (fun _ _ _ h => h4 h))
              clear HW h3 h4
              go_wp2
              go_roundw
              case rel => exact ⟨k + 1, f, xs, by omega, by omega, by omega, by go_num, rfl, HN.out, HOWN.out, hfw⟩
              case measure => first | (simp [intOf]; omega) | omega
          · have hb : ((s[k].toNat : Int) == 44) = false := by rw [beq_eq_false_iff_ne]; omega
            have HN := Lib.hid (HW.out.miss h0 (fun _ _ h => absurd h h3))
            clear HW h3
            go_wp2
            go_roundw
            case rel => exact ⟨k + 1, f, xs, by omega, by omega, by omega, by go_num, rfl, HN.out, HOWN.out, hfw⟩
            case measure => first | (simp [intOf]; omega) | omega
        · have hfk : (k : Int) < (f : Int) := by omega
          have HN := Lib.hid (HW.out.miss h0 (fun h => absurd h h2))
          clear HW h2
          go_wp2
          go_roundw
          case rel => exact ⟨k + 1, f, xs, by omega, by omega, by omega, by go_num, rfl, HN.out, HOWN.out, hfw⟩
          case measure => first | (simp [intOf]; omega) | omega
      · have e1 : ¬ ((k : Int) + 1 < (s.size : Int)) := by omega
        have HN := Lib.hid (HW.out.miss h0 (fun _ h => absurd h h1))
        clear HW h1
        go_wp2
        go_roundw
        case rel => exact ⟨k + 1, f, xs, by omega, by omega, by omega, by go_num, rfl, HN.out, HOWN.out, hfw⟩
        case measure => first | (simp [intOf]; omega) | omega
    · have he : k = s.size := by omega
      have hfin := Lib.hid ((he ▸ HW.out).last)
      clear HW
      have hOW : kStr.Own w.heap.size (wr.alloc (.cells #[.string (s.extract f s.size)] 9)) (.slice ao xs.length co) xs := HOWN.out.alloc _
      have HOW := Lib.hid hOW; clear hOW
      have hks : s.size ≤ k := by omega
      clear he
      go_wp2_with (at_builtin; go_must (refine Kin.append1 kStr rfl _ _ rfl w.heap.size _ xs rfl HOW.out wr.heap.size (s.extract f s.size).data.toList rfl (cells1_of (by rw [str_data]; go_simp)) (by unfold maxLen; omega) (by show _ * 16 ≤ _; omega) (by first | (simp; done) | (simp; omega)) ?_; intro v' w3 hown' hbel hgrow; obtain ⟨a2, c2, rfl⟩ := hown'.shape; have HO2 := Lib.hid hown'; clear hown'))
      go_ret
      exact ⟨_, rfl, by rw [hfin.out]; have h := HO2.out; rw [List.length_append] at h; exact h, hfw.out.trans (((Below.refl _ _).alloc (by omega) _).trans hbel)⟩
end Go.Proofs.YtdclokpoeaehlaaGreatDoor
/- script.Number. -/
namespace Go.Proofs.YtdclokpoeaehlaaGreatDoor
set_option linter.all false
open Go.RowKit

def numI (l : List UInt8) : Int := (num l).getD 0
def numB (l : List UInt8) : Bool := (num l).isSome
set_option maxHeartbeats 1000000 in
set_option maxRecDepth 100000 in
theorem number_any (l : List UInt8) (w : World) (hl : l.length ≤ 140737488351232) (ht : Tabs w) :
    Calls Tryz.prog 43 #[.string (str l)] w fun e w' => e = .returned (.tuple #[.int .i64 (numI l), .bool (numB l)]) ∧ Below w.heap.size w w' := by
  have hsz : (str l).size = l.length := str_size l
  cases ha : Lib.atoiAll l with
  | «syntax» =>
    have e : num l = none := by unfold num; rw [ha]
    obtain ⟨tp, p, hv⟩ := ht.syn
    have I := Lib.hid (Tryz.strconv_Atoi_syntax_var (str l) (by omega) ha tp p w hv)
    unfold numI numB
    rw [e]
    clear ha e hsz hl ht
    go_enter Tryz.func43, Tryz.ntmps43
    go_wp2_with fail
    refine I.out.mono ?_
    rintro e w1 ⟨g, rfl, -, -, hb⟩
    go_wp2
    go_ret2
    exact ⟨rfl, hb⟩
  | range =>
    have e : num l = none := by unfold num; rw [ha]
    obtain ⟨tp, p, hv⟩ := ht.rng
    have I := Lib.hid (Tryz.strconv_Atoi_range_var (str l) (by omega) ha tp p w hv)
    unfold numI numB
    rw [e]
    clear ha e hsz hl ht
    go_enter Tryz.func43, Tryz.ntmps43
    go_wp2_with fail
    refine I.out.mono ?_
    rintro e w1 ⟨g, rfl, -, -, hb⟩
    go_wp2
    go_ret2
    exact ⟨rfl, hb⟩
  | ok v =>
    obtain ⟨v0, v1⟩ := Lib.atoiAll_bounds ha
    have I0 : Calls Tryz.prog 78 #[.string (str l)] w fun e w' => e = .returned (.tuple #[.int .i64 v, .nilIface]) ∧ Below w.heap.size w w' := by
      refine (Tryz.strconv_Atoi_ok (str l) (by omega) v ha w).mono ?_
      rintro e w' ⟨he, rfl | ⟨t, rfl⟩⟩
      · exact ⟨he, Below.refl _ _⟩
      · exact ⟨he, Lib.bytesWorld_below w _ t⟩
    have I := Lib.hid I0
    clear I0
    have J := Lib.hid fun w' (hb : Below w.heap.size w w') => itoa_any v w' v0 v1 (ht.below hb)
    have en : num l = if Lib.itoa v = l ∧ -4611686018427387904 ≤ v ∧ v ≤ 4611686018427387904 then some v else none := by unfold num; rw [ha]
    unfold numI numB
    rw [en]
    generalize Lib.itoa v = sv at *
    clear ha
    have hstart : Calls Tryz.prog 43 #[.string (str l)] w fun e w' => e = .returned (.tuple #[.int .i64 ((if sv = l ∧ -4611686018427387904 ≤ v ∧ v ≤ 4611686018427387904 then some v else none : Option Int).getD 0), .bool (if sv = l ∧ -4611686018427387904 ≤ v ∧ v ≤ 4611686018427387904 then some v else none : Option Int).isSome]) ∧ Below w.heap.size w w' := by
      clear en
      by_cases h0 : sv = l
      · subst h0
        by_cases h1 : v < -4611686018427387904
        · rw [if_neg (by omega)]
          simp only [Option.getD_none, Option.isSome_none]
          go_enter Tryz.func43, Tryz.ntmps43
          go_wp2_with fail
          refine I.out.mono ?_
          rintro e w1 ⟨rfl, hb⟩
          have HB := Lib.hid hb
          go_wp2_with fail
          refine (J.out _ HB.out).mono ?_
          rintro e w2 ⟨rfl, hb2⟩
          have HB2 := Lib.hid hb2
          clear hb hb2
          go_wp2
          go_ret2
          exact ⟨rfl, HB.out.trans (HB2.out.mono HB.out.size)⟩
        · by_cases h2 : 4611686018427387904 < v
          · rw [if_neg (by omega)]
            simp only [Option.getD_none, Option.isSome_none]
            go_enter Tryz.func43, Tryz.ntmps43
            go_wp2_with fail
            refine I.out.mono ?_
            rintro e w1 ⟨rfl, hb⟩
            have HB := Lib.hid hb
            go_wp2_with fail
            refine (J.out _ HB.out).mono ?_
            rintro e w2 ⟨rfl, hb2⟩
            have HB2 := Lib.hid hb2
            clear hb hb2
            go_wp2
            go_ret2
            exact ⟨rfl, HB.out.trans (HB2.out.mono HB.out.size)⟩
          · have h3 : -4611686018427387904 ≤ v := by omega
            have h4 : v ≤ 4611686018427387904 := by omega
            rw [if_pos ⟨rfl, h3, h4⟩]
            simp only [Option.getD_some, Option.isSome_some]
            clear h1 h2
            go_enter Tryz.func43, Tryz.ntmps43
            go_wp2_with fail
            refine I.out.mono ?_
            rintro e w1 ⟨rfl, hb⟩
            have HB := Lib.hid hb
            go_wp2_with fail
            refine (J.out _ HB.out).mono ?_
            rintro e w2 ⟨rfl, hb2⟩
            have HB2 := Lib.hid hb2
            clear hb hb2
            go_wp2
            go_ret2
            exact ⟨rfl, HB.out.trans (HB2.out.mono HB.out.size)⟩
      · have hne : ¬ (str sv).toList = (str l).toList := fun e => h0 (str_inj (by rw [ByteArray.toList_eq, ByteArray.toList_eq] at e; exact ByteArray.ext (Array.toList_inj.1 e)))
        rw [if_neg (fun h => h0 h.1)]
        simp only [Option.getD_none, Option.isSome_none]
        clear h0
        go_enter Tryz.func43, Tryz.ntmps43
        go_wp2_with fail
        refine I.out.mono ?_
        rintro e w1 ⟨rfl, hb⟩
        have HB := Lib.hid hb
        go_wp2_with fail
        refine (J.out _ HB.out).mono ?_
        rintro e w2 ⟨rfl, hb2⟩
        have HB2 := Lib.hid hb2
        clear hb hb2
        go_wp2
        go_ret2
        exact ⟨rfl, HB.out.trans (HB2.out.mono HB.out.size)⟩
    exact hstart
end Go.Proofs.YtdclokpoeaehlaaGreatDoor
/- hammockref04.Number. -/
namespace Go.Proofs.YtdclokpoeaehlaaGreatDoor
set_option linter.all false
open Go.RowKit

theorem scan_drop {s : ByteArray} {k a : Nat} (h : k < s.size) : scan a (s.data.toList.drop k) = if 48 ≤ s[k].toNat ∧ s[k].toNat ≤ 57 ∧ a * 10 + (s[k].toNat - 48) ≤ 4611686018427387904 then scan (a * 10 + (s[k].toNat - 48)) (s.data.toList.drop (k + 1)) else none := by
  rw [List.drop_eq_getElem_cons (by rw [size_toList]; exact h), scan]
  rfl
theorem scan_end {s : ByteArray} {a : Nat} : scan a (s.data.toList.drop s.size) = some a := by
  rw [List.drop_of_length_le (by rw [size_toList]; exact Nat.le_refl _)]; rfl
/-- What refNum finds, as a pair. -/
theorem num_of_ref {s : ByteArray} {r : Option Int} (h : refNum s.data.toList = r) : numI s.data.toList = r.getD 0 ∧ numB s.data.toList = r.isSome := by
  unfold numI numB
  rw [← refNum_num, h]
  exact ⟨rfl, rfl⟩
theorem head_of {s : ByteArray} (h : 0 < s.size) : s.data.toList.head? = some s[0] := by
  rw [List.head?_eq_getElem?, List.getElem?_eq_getElem (by rw [size_toList]; exact h)]
  rfl
set_option maxHeartbeats 2000000 in
set_option maxRecDepth 100000 in
theorem rnum_plain (s : ByteArray) (w : World) (h0 : 0 < s.size) (h19 : s.size ≤ 19) (h45 : s[0].toNat ≠ 45) (h48 : s[0].toNat ≠ 48) :
    Calls Tryz.prog 44 #[.string s] w fun e w' => e = .returned (.tuple #[.int .i64 (numI s.data.toList), .bool (numB s.data.toList)]) ∧ w = w' := by
  have hl0 : s.data.toList ≠ [] := fun e => by have := congrArg List.length e; rw [size_toList] at this; simp only [List.length_nil] at this; omega
  have hd : s.data.toList.head? = some s[0] := head_of h0
  have HR : Hid (∀ r, scan 0 s.data.toList = r → numI s.data.toList = (r.map fun (u : Nat) => (u : Int)).getD 0 ∧ numB s.data.toList = (r.map fun (u : Nat) => (u : Int)).isSome) := fun r hr => num_of_ref (by
    unfold refNum
    rw [if_neg, if_neg, hr]
    · rintro (e | e | ⟨e, e'⟩)
      · exact hl0 e
      · rw [size_toList] at e; omega
      · rw [hd] at e
        exact h48 (by rw [Option.some.inj e]; rfl)
    · rw [hd]; exact fun e => h45 (by rw [Option.some.inj e]; rfl))
  clear hl0 hd
  have he1 : s.toList.isEmpty = false := by rw [ByteArray.toList_eq]; cases h : s.data.toList with | nil => (have := congrArg List.length h; rw [size_toList] at this; simp only [List.length_nil] at this; omega) | cons _ _ => rfl
  have h45' : ((s[0].toNat : Int) == 45) = false := by rw [beq_eq_false_iff_ne]; omega
  have h48' : ((s[0].toNat : Int) == 48) = false := by rw [beq_eq_false_iff_ne]; omega
  go_enter Tryz.func44, Tryz.ntmps44
  go_wp2
  go_loop [6, 7] (fun n i => ∃ k a : Nat, k ≤ s.size ∧ a ≤ 4611686018427387904 ∧ i = .int .i64 k ∧ n = .int .i64 a ∧ Hid (scan 0 s.data.toList = scan a (s.data.toList.drop k))) (fun _ i => s.size - (intOf i).toNat)
  case atStart => exact ⟨0, 0, Nat.zero_le _, by omega, rfl, rfl, rfl⟩
  case round =>
    obtain ⟨k, a, hk, ham, rfl, rfl, hrun⟩ := hrel
    by_cases hlt : k < s.size
    · have hst := scan_drop (s := s) (a := a) hlt
      have hc256 := UInt8.toNat_lt s[k]
      by_cases c1 : s[k].toNat < 48
      · have hfin := HR.out _ (hrun.out.trans (hst.trans (if_neg (by omega))))
        simp only [Option.map_none, Option.getD_none, Option.isSome_none] at hfin
        have HF := Lib.hid hfin
        clear hfin hst hrun
        go_wp2
        go_ret2
        exact ⟨by rw [HF.out.1, HF.out.2]; rfl, rfl⟩
      · by_cases c2 : 57 < s[k].toNat
        · have hfin := HR.out _ (hrun.out.trans (hst.trans (if_neg (by omega))))
          simp only [Option.map_none, Option.getD_none, Option.isSome_none] at hfin
          have HF := Lib.hid hfin
          clear hfin hst hrun
          go_wp2
          go_ret2
          exact ⟨by rw [HF.out.1, HF.out.2]; rfl, rfl⟩
        · by_cases c3 : a * 10 + (s[k].toNat - 48) ≤ 4611686018427387904
          · have hnx := Lib.hid (hrun.out.trans (hst.trans (if_pos ⟨by omega, by omega, c3⟩)))
            have c4 : ¬ (4611686018427387904 - ((s[k].toNat : Int) - 48)) / 10 < (a : Int) := by omega
            have c5 : (a : Int) ≤ (4611686018427387904 - ((s[k].toNat : Int) - 48)) / 10 := by omega
            have c6 : (10 : Int) * a + ((s[k].toNat : Int) - 48) ≤ 4611686018427387904 := by omega
            clear hst hrun
            go_wp2
            go_round
            case rel => exact ⟨k + 1, a * 10 + (s[k].toNat - 48), by omega, c3, by go_num, by first | (congr 1; done) | (congr 1; omega), hnx⟩
            case measure => first | (simp [intOf]; omega) | omega
          · have hfin := HR.out _ (hrun.out.trans (hst.trans (if_neg (fun h => c3 h.2.2))))
            simp only [Option.map_none, Option.getD_none, Option.isSome_none] at hfin
            have HF := Lib.hid hfin
            have c4 : (4611686018427387904 - ((s[k].toNat : Int) - 48)) / 10 < (a : Int) := by omega
            clear hfin hst hrun c3
            go_wp2
            go_ret2
            exact ⟨by rw [HF.out.1, HF.out.2]; rfl, rfl⟩
    · have he : k = s.size := by omega
      have hfin := HR.out _ (hrun.out.trans (show scan a (s.data.toList.drop k) = some a by rw [he]; exact scan_end))
      simp only [Option.map_some, Option.getD_some, Option.isSome_some] at hfin
      have HF := Lib.hid hfin
      clear hfin hrun he
      go_wp2
      go_ret2
      exact ⟨by rw [HF.out.1, HF.out.2]; rfl, rfl⟩
set_option maxHeartbeats 2000000 in
set_option maxRecDepth 100000 in
theorem rnum_zero (w : World) :
    Calls Tryz.prog 44 #[.string ⟨#[48]⟩] w fun e w' => e = .returned (.tuple #[.int .i64 (numI (⟨#[48]⟩ : ByteArray).data.toList), .bool (numB (⟨#[48]⟩ : ByteArray).data.toList)]) ∧ w = w' := by
  have e1 : numI (⟨#[48]⟩ : ByteArray).data.toList = 0 ∧ numB (⟨#[48]⟩ : ByteArray).data.toList = true := by
    have h : refNum (⟨#[48]⟩ : ByteArray).data.toList = some 0 := by decide +kernel
    exact num_of_ref h
  rw [e1.1, e1.2]
  clear e1
  go_enter Tryz.func44, Tryz.ntmps44
  go_wp2
  refine wp_loop_rounds 2 ?_
  rw [rounds_succ]
  go_wp2
  rw [rounds_succ]
  go_wp2
  go_ret2
  exact ⟨rfl, rfl⟩
set_option maxHeartbeats 2000000 in
set_option maxRecDepth 100000 in
theorem rnum_bad (s : ByteArray) (w : World) (h : s.size = 0 ∨ (∃ h0 : 0 < s.size, s[0].toNat ≠ 45 ∧ (19 < s.size ∨ (s[0].toNat = 48 ∧ s ≠ ⟨#[48]⟩)))) :
    Calls Tryz.prog 44 #[.string s] w fun e w' => e = .returned (.tuple #[.int .i64 (numI s.data.toList), .bool (numB s.data.toList)]) ∧ w = w' := by
  have hb : numI s.data.toList = 0 ∧ numB s.data.toList = false := by
    refine num_of_ref (r := none) ?_
    unfold refNum
    rcases h with h | ⟨h0, h45, h⟩
    · have e : s.data.toList = [] := List.eq_nil_of_length_eq_zero (by rw [size_toList]; exact h)
      rw [e]; rfl
    · have hd : s.data.toList.head? = some s[0] := head_of h0
      rw [if_neg (by rw [hd]; exact fun e => h45 (by rw [Option.some.inj e]; rfl)), if_pos]
      rcases h with h | ⟨h, h'⟩
      · exact .inr (.inl (by rw [size_toList]; exact h))
      · refine .inr (.inr ⟨by rw [hd]; congr 1; exact byte_of_toNat h (by decide), fun e => h' ?_⟩)
        rw [← str_data s, e]; rfl
  rw [hb.1, hb.2]
  clear hb
  rcases h with h | ⟨h0, h45, h⟩
  · have he1 : s.toList.isEmpty = true := by
      have e0 : s.data.toList = [] := List.eq_nil_of_length_eq_zero (by rw [size_toList]; exact h)
      rw [ByteArray.toList_eq, e0]; rfl
    have HH := Lib.hid h
    clear h
    go_enter Tryz.func44, Tryz.ntmps44
    go_wp2
    go_ret2
    exact ⟨rfl, rfl⟩
  have he1 : s.toList.isEmpty = false := by rw [ByteArray.toList_eq]; cases h : s.data.toList with | nil => (have := congrArg List.length h; rw [size_toList] at this; simp only [List.length_nil] at this; omega) | cons _ _ => rfl
  have h45' : ((s[0].toNat : Int) == 45) = false := by rw [beq_eq_false_iff_ne]; omega
  rcases h with h | ⟨h, h'⟩
  · go_enter Tryz.func44, Tryz.ntmps44
    go_wp2
    go_ret2
    exact ⟨rfl, rfl⟩
  · by_cases h19 : 19 < s.size
    · have h48' := Lib.hid h
      clear h h'
      go_enter Tryz.func44, Tryz.ntmps44
      go_wp2
      go_ret2
      exact ⟨rfl, rfl⟩
    · have h48' : ((s[0].toNat : Int) == 48) = true := by rw [beq_iff_eq]; omega
      have hne : ¬ s.toList = [48] := fun e => h' (by rw [ByteArray.toList_eq] at e; rw [← str_data s, e]; rfl)
      have hne3 : (s.toList == [48]) = false := by simpa using hne
      clear hne
      have h19' : s.size ≤ 19 := by omega
      clear h h' h19
      go_enter Tryz.func44, Tryz.ntmps44
      go_wp2
      go_ret2
      exact ⟨rfl, rfl⟩
end Go.Proofs.YtdclokpoeaehlaaGreatDoor
