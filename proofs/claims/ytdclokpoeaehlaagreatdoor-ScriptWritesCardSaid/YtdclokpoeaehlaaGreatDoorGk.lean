/- LogP, LogR: together in one text. -/
import Derived.Test.YtdclokpoeaehlaaGreatDoorSLogO
import Derived.Test.YtdclokpoeaehlaaGreatDoorGd
import Derived.Test.YtdclokpoeaehlaaGreatDoorGj
import Derived.Test.YtdclokpoeaehlaaGreatDoorSFNames
/- log.Read and its reference. -/
namespace Go.Proofs.YtdclokpoeaehlaaGreatDoor
set_option linter.all false
open Go.RowKit

def readD (l : List UInt8) : List Dec := (dread l).getD []
def readB (l : List UInt8) : Bool := (dread l).isSome
theorem dparses_step {xs : List (List UInt8)} {k : Nat} (h : k < xs.length) : dparses (xs.drop k) = match dparse (strAt xs k) with | some d => (dparses (xs.drop (k + 1))).map (d :: ·) | none => none := by
  have e : strAt xs k = xs[k] := by unfold strAt; rw [List.getD_eq_getElem?_getD, List.getElem?_eq_getElem h]; rfl
  rw [List.drop_eq_getElem_cons h, e]
  rfl
/-- What has been read so far. -/
def ReadAt (xs : List (List UInt8)) (k : Nat) (ds : List Dec) : Prop := dparses xs = (dparses (xs.drop k)).map (ds ++ ·)
theorem ReadAt.bad {xs : List (List UInt8)} {k : Nat} {ds : List Dec} (h : ReadAt xs k ds) (hk : k < xs.length) (hp : dparse (strAt xs k) = none) : dparses xs = none := by
  unfold ReadAt at h
  rw [h, dparses_step hk, hp]
  rfl
theorem ReadAt.good {xs : List (List UInt8)} {k : Nat} {ds : List Dec} {d : Dec} (h : ReadAt xs k ds) (hk : k < xs.length) (hp : dparse (strAt xs k) = some d) : ReadAt xs (k + 1) (ds ++ [d]) := by
  unfold ReadAt at h ⊢
  rw [h, dparses_step hk, hp]
  simp only
  cases dparses (xs.drop (k + 1)) with
  | none => rfl
  | some r => simp
theorem ReadAt.done {xs : List (List UInt8)} {k : Nat} {ds : List Dec} (h : ReadAt xs k ds) (hk : xs.length ≤ k) : dparses xs = some ds := by
  unfold ReadAt at h
  rw [h, List.drop_eq_nil_of_le hk]
  simp [dparses]
theorem read_of {l : List UInt8} (hn : l ≠ sNone) {r : Option (List Dec)} (h : dparses (Lib.split l [44, 32]) = r) : readD l = r.getD [] ∧ readB l = r.isSome := by
  unfold readD readB dread
  rw [if_neg hn, h]
  exact ⟨rfl, rfl⟩
theorem parse_cases (x : List UInt8) : (dparse x = none ∧ parseB x = false) ∨ (dparse x = some (parseD x) ∧ parseB x = true) := by
  unfold parseB parseD
  cases dparse x with
  | none => exact .inl ⟨rfl, rfl⟩
  | some d => exact .inr ⟨rfl, rfl⟩
theorem splits_len (s : ByteArray) (sep : List UInt8) (hsep : sep ≠ []) : (Lib.split s.data.toList sep).length ≤ s.size + 1 := by
  have h1 : 1 ≤ (str sep).size := by rw [str_size]; exact List.length_pos_iff.2 hsep
  have h := count_split s (str sep) h1
  rw [str_toList] at h
  have := Lib.countB_le (str sep) h1 s.size s (Nat.le_refl _)
  omega
set_option maxHeartbeats 4000000 in
set_option maxRecDepth 100000 in
theorem lread_any (s : ByteArray) (w : World) (hs : s.size < 4294967281) (ht : Tabs w) (hn : NamesAt w) :
    Calls Tryz.prog 21 #[.string s] w fun e w' => ∃ v, e = .returned (.tuple #[v, .bool (readB s.data.toList)]) ∧ kDec.Own w.heap.size w' v (readD s.data.toList) ∧ Below w.heap.size w w' := by
  by_cases hnone : s.data.toList = sNone
  · have e1 : readD s.data.toList = [] ∧ readB s.data.toList = true := by unfold readD readB dread; rw [if_pos hnone]; exact ⟨rfl, rfl⟩
    rw [e1.1, e1.2]
    have hb : (s.toList == [110, 111, 110, 101]) = true := by rw [beq_iff_eq, ByteArray.toList_eq]; exact hnone
    clear e1 hnone
    go_enter Tryz.func21, Tryz.ntmps21
    go_wp2
    go_ret2
    exact ⟨_, rfl, Kin.Own.nil _ _ _, Below.refl _ _⟩
  have hb : (s.toList == [110, 111, 110, 101]) = false := by rw [beq_eq_false_iff_ne, ByteArray.toList_eq]; exact hnone
  have I := Lib.hid (split_any s [44, 32] w hs (by simp) ht)
  have HR : Hid (∀ r, dparses (Lib.split s.data.toList [44, 32]) = r → readD s.data.toList = r.getD [] ∧ readB s.data.toList = r.isSome) := fun r h => read_of hnone h
  have hxl := splits_len s [44, 32] (by simp)
  have HLE : Hid (∀ j, (strAt (Lib.split s.data.toList [44, 32]) j).length ≤ s.size) := fun j => strAt_le (fun x hx => by have := split_le [44, 32] (by simp) _ s.data.toList (Nat.le_refl _) x hx; rw [size_toList] at this; exact this) j
  have HT := Lib.hid ht
  have HNM := Lib.hid hn
  clear ht hn
  generalize Lib.split s.data.toList [44, 32] = xs at *
  clear hnone
  go_enter Tryz.func21, Tryz.ntmps21
  go_wp2_with fail
  refine I.out.mono ?_
  rintro e w1 ⟨b, cap, rfl, hlt, hcells, hb1⟩
  have F1 : From w w1 := ⟨hb1⟩
  have HC : Hid (∀ j, j < xs.length → w1.cell? ⟨b, 0 + j, none⟩ = some (.string (str (strAt xs j)))) := fun j hj => by rw [Nat.zero_add]; exact hcells j hj
  clear hcells hb1
  go_wp2
  go_loopw [4, 14] (fun v i wr => ∃ (k : Nat) (ds : List Dec), k ≤ xs.length ∧ i = .int .i64 k ∧ Hid (ds.length = k) ∧ Hid (ReadAt xs k ds) ∧ kDec.Own w1.heap.size wr v ds ∧ From w1 wr) (fun _ i _ => xs.length - (intOf i).toNat)
  case atStart => exact ⟨0, [], Nat.zero_le _, rfl, rfl, by show dparses xs = _; simp, Kin.Own.nil _ _ _, From.refl _⟩
  case round =>
    obtain ⟨k, ds, hk, rfl, HK, HA, hown, hfw⟩ := hrel
    obtain ⟨ao, co, rfl⟩ := hown.shape
    have HOWN := Lib.hid hown; clear hown
    have hdl : ds.length ≤ k := Nat.le_of_eq HK.out
    have hsz := hfw.out.size
    have hsz1 := F1.out.size
    by_cases hlt2 : k < xs.length
    · have cx := hfw.cell (HC.out k hlt2)
      rw [Nat.zero_add] at cx
      obtain ⟨x, hx⟩ : ∃ x, x = strAt xs k := ⟨_, rfl⟩
      have hxs : (str x).size < 4294967281 := by rw [str_size, hx]; have := HLE.out k; omega
      have hki : (0 : Int) ≤ (k : Int) := by omega
      have hkl : (k : Int) < (xs.length : Int) := by omega
      have HP : Hid (∀ w', From w1 w' → Calls Tryz.prog 19 #[.string (str x)] w' fun e w'' => e = .returned (.tuple #[decV (parseD x), .bool (parseB x)]) ∧ Below w'.heap.size w' w'') := fun w' hf => lparse_any (str x) w' hxs (HT.out.from_ (F1.trans hf)) (HNM.out.below (F1.trans hf).out)
      rw [← hx] at cx
      clear hxs
      rcases parse_cases x with ⟨hp, hpb⟩ | ⟨hp, hpb⟩
      · have hfin := HR.out _ (HA.out.bad hlt2 (by rw [← hx]; exact hp))
        simp only [Option.getD_none, Option.isSome_none] at hfin
        have HF := Lib.hid hfin
        rw [hpb] at HP
        clear hfin hp hpb hx
        generalize parseD x = dx at *
        go_wp2_with fail
        refine (HP.out _ hfw).mono ?_
        rintro e w2 ⟨rfl, hb2⟩
        have F2 := hfw.step hb2
        clear hb2
        go_wp2
        go_ret2
        exact ⟨_, by rw [HF.out.2]; rfl, by rw [HF.out.1]; exact Kin.Own.nil _ _ _, ((F1.trans F2).alloc _).out⟩
      · have HN := Lib.hid (HA.out.good hlt2 (by rw [← hx]; exact hp))
        rw [hpb] at HP
        clear hp hpb hx
        generalize parseD x = dx at *
        go_wp2_with fail
        refine (HP.out _ hfw).mono ?_
        rintro e w2 ⟨rfl, hb2⟩
        have F2 := hfw.step hb2
        have hs2 := F2.out.size
        have hOW : kDec.Own w1.heap.size ((w2.alloc (.cells #[.int .i64 dx.kind, .int .i64 dx.id, .int .i64 dx.node, .int .i64 dx.at_] 23)).alloc (.cells #[.int .i64 dx.kind, .int .i64 dx.id, .int .i64 dx.node, .int .i64 dx.at_] 23)) (.slice ao ds.length co) ds := ((HOWN.out.below hb2).alloc _).alloc _
        have HOW := Lib.hid hOW; clear hOW hb2
        go_wp2_with (at_builtin; go_must (refine Kin.append1 kDec rfl _ _ rfl w1.heap.size _ ds rfl HOW.out (w2.heap.size + 1) dx rfl (cells4_of (by go_simp) (by go_simp) (by go_simp) (by go_simp)) (by unfold maxLen; omega) (by show _ * 32 ≤ _; omega) (by first | (simp; done) | (simp; omega)) ?_; intro v' w3 hown' hbel hgrow; obtain ⟨a2, c2, rfl⟩ := hown'.shape; have HO2 := Lib.hid hown'; clear hown'))
        go_roundw
        case rel => exact ⟨k + 1, ds ++ [dx], by omega, by go_num, by show _ = _; rw [List.length_append, HK.out]; rfl, HN.out, by have h := HO2.out; rw [List.length_append] at h; exact h, ⟨((F2.alloc _).alloc _).out.trans hbel⟩⟩
        case measure => first | (simp [intOf]; omega) | omega
    · have hfin := HR.out _ (HA.out.done (by omega))
      simp only [Option.getD_some, Option.isSome_some] at hfin
      have HF := Lib.hid hfin
      clear hfin
      go_wp2
      go_ret2
      exact ⟨_, by rw [HF.out.2]; rfl, by rw [HF.out.1]; exact HOWN.out.low hsz1, (F1.trans hfw).out⟩
set_option maxHeartbeats 4000000 in
set_option maxRecDepth 100000 in
theorem rread_any (s : ByteArray) (w : World) (hs : s.size < 4294967281) :
    Calls Tryz.prog 22 #[.string s] w fun e w' => ∃ v, e = .returned (.tuple #[v, .bool (readB s.data.toList)]) ∧ kDec.Own w.heap.size w' v (readD s.data.toList) ∧ Below w.heap.size w w' := by
  by_cases hnone : s.data.toList = sNone
  · have e1 : readD s.data.toList = [] ∧ readB s.data.toList = true := by unfold readD readB dread; rw [if_pos hnone]; exact ⟨rfl, rfl⟩
    rw [e1.1, e1.2]
    have hb : (s.toList == [110, 111, 110, 101]) = true := by rw [beq_iff_eq, ByteArray.toList_eq]; exact hnone
    clear e1 hnone
    go_enter Tryz.func22, Tryz.ntmps22
    go_wp2
    go_ret2
    exact ⟨_, rfl, Kin.Own.nil _ _ _, Below.refl _ _⟩
  have hb : (s.toList == [110, 111, 110, 101]) = false := by rw [beq_eq_false_iff_ne, ByteArray.toList_eq]; exact hnone
  have I := Lib.hid (parts_any s w hs)
  have HR : Hid (∀ r, dparses (Lib.split s.data.toList [44, 32]) = r → readD s.data.toList = r.getD [] ∧ readB s.data.toList = r.isSome) := fun r h => read_of hnone h
  have hxl := splits_len s [44, 32] (by simp)
  have HLE : Hid (∀ j, (strAt (Lib.split s.data.toList [44, 32]) j).length ≤ s.size) := fun j => strAt_le (fun x hx => by have := split_le [44, 32] (by simp) _ s.data.toList (Nat.le_refl _) x hx; rw [size_toList] at this; exact this) j
  generalize Lib.split s.data.toList [44, 32] = xs at *
  clear hnone
  go_enter Tryz.func22, Tryz.ntmps22
  go_wp2_with fail
  refine I.out.mono ?_
  rintro e w1 ⟨u, rfl, hown, hb1⟩
  have F1 : From w w1 := ⟨hb1⟩
  obtain ⟨a, cap, rfl, h | ⟨b, off, rfl, hlt, hcells⟩⟩ := hown.at_
  · subst h
    have hfin := HR.out _ rfl
    simp only [dparses, Option.getD_some, Option.isSome_some] at hfin
    have HF := Lib.hid hfin
    clear hfin hown hb1
    go_wp2
    refine wp_loop_rounds 1 ?_
    rw [rounds_succ]
    go_wp2
    go_ret2
    exact ⟨_, by rw [HF.out.2]; rfl, by rw [HF.out.1]; exact Kin.Own.nil _ _ _, F1.out⟩
  have HC : Hid (∀ j, j < xs.length → w1.cell? ⟨b, off + j, none⟩ = some (.string (str (strAt xs j)))) := strs_cells hcells
  clear hcells hown hb1
  go_wp2
  go_loopw [5, 6] (fun v i wr => ∃ (k : Nat) (ds : List Dec), k ≤ xs.length ∧ i = .int .i64 k ∧ Hid (ds.length = k) ∧ Hid (ReadAt xs k ds) ∧ kDec.Own w1.heap.size wr v ds ∧ From w1 wr) (fun _ i _ => xs.length - (intOf i).toNat)
  case atStart => exact ⟨0, [], Nat.zero_le _, rfl, rfl, by show dparses xs = _; simp, Kin.Own.nil _ _ _, From.refl _⟩
  case round =>
    obtain ⟨k, ds, hk, rfl, HK, HA, hown, hfw⟩ := hrel
    obtain ⟨ao, co, rfl⟩ := hown.shape
    have HOWN := Lib.hid hown; clear hown
    have hdl : ds.length ≤ k := Nat.le_of_eq HK.out
    have hsz := hfw.out.size
    have hsz1 := F1.out.size
    by_cases hlt2 : k < xs.length
    · have cx := hfw.cell (HC.out k hlt2)
      skip
      obtain ⟨x, hx⟩ : ∃ x, x = strAt xs k := ⟨_, rfl⟩
      have hxs : (str x).size < 4294967281 := by rw [str_size, hx]; have := HLE.out k; omega
      have hki : (0 : Int) ≤ (k : Int) := by omega
      have hkl : (k : Int) < (xs.length : Int) := by omega
      have HP : Hid (∀ w', From w1 w' → Calls Tryz.prog 20 #[.string (str x)] w' fun e w'' => e = .returned (.tuple #[decV (parseD x), .bool (parseB x)]) ∧ Below w'.heap.size w' w'') := fun w' hf => rparse_any (str x) w' hxs
      rw [← hx] at cx
      clear hxs
      rcases parse_cases x with ⟨hp, hpb⟩ | ⟨hp, hpb⟩
      · have hfin := HR.out _ (HA.out.bad hlt2 (by rw [← hx]; exact hp))
        simp only [Option.getD_none, Option.isSome_none] at hfin
        have HF := Lib.hid hfin
        rw [hpb] at HP
        clear hfin hp hpb hx
        generalize parseD x = dx at *
        go_wp2_with fail
        refine (HP.out _ hfw).mono ?_
        rintro e w2 ⟨rfl, hb2⟩
        have F2 := hfw.step hb2
        clear hb2
        go_wp2
        go_ret2
        exact ⟨_, by rw [HF.out.2]; rfl, by rw [HF.out.1]; exact Kin.Own.nil _ _ _, ((F1.trans F2).alloc _).out⟩
      · have HN := Lib.hid (HA.out.good hlt2 (by rw [← hx]; exact hp))
        rw [hpb] at HP
        clear hp hpb hx
        generalize parseD x = dx at *
        go_wp2_with fail
        refine (HP.out _ hfw).mono ?_
        rintro e w2 ⟨rfl, hb2⟩
        have F2 := hfw.step hb2
        have hs2 := F2.out.size
        have hOW : kDec.Own w1.heap.size ((w2.alloc (.cells #[.int .i64 dx.kind, .int .i64 dx.id, .int .i64 dx.node, .int .i64 dx.at_] 23)).alloc (.cells #[.int .i64 dx.kind, .int .i64 dx.id, .int .i64 dx.node, .int .i64 dx.at_] 23)) (.slice ao ds.length co) ds := ((HOWN.out.below hb2).alloc _).alloc _
        have HOW := Lib.hid hOW; clear hOW hb2
        go_wp2_with (at_builtin; go_must (refine Kin.append1 kDec rfl _ _ rfl w1.heap.size _ ds rfl HOW.out (w2.heap.size + 1) dx rfl (cells4_of (by go_simp) (by go_simp) (by go_simp) (by go_simp)) (by unfold maxLen; omega) (by show _ * 32 ≤ _; omega) (by first | (simp; done) | (simp; omega)) ?_; intro v' w3 hown' hbel hgrow; obtain ⟨a2, c2, rfl⟩ := hown'.shape; have HO2 := Lib.hid hown'; clear hown'))
        go_roundw
        case rel => exact ⟨k + 1, ds ++ [dx], by omega, by go_num, by show _ = _; rw [List.length_append, HK.out]; rfl, HN.out, by have h := HO2.out; rw [List.length_append] at h; exact h, ⟨((F2.alloc _).alloc _).out.trans hbel⟩⟩
        case measure => first | (simp [intOf]; omega) | omega
    · have hfin := HR.out _ (HA.out.done (by omega))
      simp only [Option.getD_some, Option.isSome_some] at hfin
      have HF := Lib.hid hfin
      clear hfin
      go_wp2
      go_ret2
      exact ⟨_, by rw [HF.out.2]; rfl, by rw [HF.out.1]; exact HOWN.out.low hsz1, (F1.trans hfw).out⟩
end Go.Proofs.YtdclokpoeaehlaaGreatDoor
/- log.Answer of an error; hammocklaw24.awake. -/
namespace Go.Proofs.YtdclokpoeaehlaaGreatDoor
set_option linter.all false
open Go.RowKit

def sOther : List UInt8 := [111, 116, 104, 101, 114]
/-- The word for a code: its name, or the word other. -/
def errName (c : Int) : List UInt8 := if (codeName c).data.toList = [] then sOther else (codeName c).data.toList
theorem codeName_cases (c : Int) : (codeName c).data.toList = [] ∨ (codeName c).data.toList ∈ errNames := by
  unfold codeName
  by_cases h : 0 ≤ c ∧ c < 11
  · rw [if_pos h]
    have : c = 0 ∨ c = 1 ∨ c = 2 ∨ c = 3 ∨ c = 4 ∨ c = 5 ∨ c = 6 ∨ c = 7 ∨ c = 8 ∨ c = 9 ∨ c = 10 := by omega
    rcases this with rfl | rfl | rfl | rfl | rfl | rfl | rfl | rfl | rfl | rfl | rfl <;> decide
  · rw [if_neg h]; exact .inl rfl
theorem errName_mem (c : Int) : errName c ∈ errNames := by
  unfold errName
  split
  · decide
  · rename_i h
    rcases codeName_cases c with h1 | h1
    · exact absurd h1 h
    · exact h1
theorem errName_le (c : Int) : (errName c).length ≤ 10 := by
  have h : ∀ x ∈ errNames, x.length ≤ 10 := by decide
  exact h _ (errName_mem c)
theorem strs2 {w : World} {g : Nat} {x0 x1 : List UInt8} (hg : g < w.heap.size) (h0 : w.cell? ⟨g, 0, none⟩ = some (.string (str x0))) (h1 : w.cell? ⟨g, 1, none⟩ = some (.string (str x1))) : kStr.At w (.slice (some ⟨g, 0, none⟩) 2 2) [x0, x1] :=
  ⟨_, _, rfl, .inr ⟨g, 0, rfl, hg, fun j x hx i u hu => by
    have hi : i = 0 := by
      rcases Nat.eq_zero_or_pos i with h | h
      · exact h
      · obtain ⟨i', rfl⟩ : ∃ i', i = i' + 1 := ⟨i - 1, by omega⟩
        cases hu
    subst hi
    cases hu
    match j, hx with
    | 0, hx => cases hx; exact h0
    | 1, hx => cases hx; exact h1
    | _ + 2, hx => cases hx⟩⟩
theorem join_err (x : List UInt8) : Lib.join [[101, 114, 114, 111, 114], x] [32] = sError ++ x := by
  rw [join_cons2, Lib.join_one]; rfl
set_option maxHeartbeats 2000000 in
set_option maxRecDepth 100000 in
theorem lanswer_err (v : Value) (e : EV) (w : World) (hE : ErrType w) (hC : CodesAt w) :
    Calls Tryz.prog 24 #[v, e.val] w fun r w' => r = .returned (.string (str (sError ++ errName (e.asC.getD 0)))) ∧ Below w.heap.size w w' := by
  have hc := faultCode_any (some e) w hE
  simp only [errV, Option.bind_some] at hc
  have hn : ∀ w', From w w' → Calls Tryz.prog 55 #[.int .i64 (e.asC.getD 0)] w' fun r w'' => r = .returned (.string (codeName (e.asC.getD 0))) ∧ w' = w'' := fun w' hf => fCodeName_any _ w' (hC.below hf.out)
  have hle := errName_le (e.asC.getD 0)
  have hj : ∀ w' u, kStr.At w' u [[101, 114, 114, 111, 114], errName (e.asC.getD 0)] → (∀ a n c, u = .slice a n c → n ≤ c) → Calls Tryz.prog 46 #[u] w' fun r w'' => r = .returned (.string (str (sError ++ errName (e.asC.getD 0)))) ∧ Below w'.heap.size w' w'' := fun w' u h hcap => by
    rw [← join_err]
    exact joined_any u _ w' h hcap (by simp) (by rw [join_err, List.length_append]; simp [sError]; omega)
  obtain ⟨tt, vv, hev⟩ := e.iface
  rw [hev] at hc ⊢
  generalize e.asC.getD 0 = c at *
  generalize e.asC.isSome = ok at *
  have HCd := Lib.hid hc
  have HN := Lib.hid hn
  have HJ := Lib.hid hj
  clear hc hn hj hev hle hE hC
  by_cases h0 : (codeName c).data.toList = []
  · have e1 : errName c = sOther := by unfold errName; rw [if_pos h0]
    rw [e1] at HJ ⊢
    have hem : (codeName c).toList.isEmpty = true := by rw [ByteArray.toList_eq, h0]; rfl
    clear h0 e1
    generalize codeName c = nm at *
    go_enter Tryz.func24, Tryz.ntmps24
    go_wp2_with fail
    refine HCd.out.mono ?_
    rintro r w1 ⟨rfl, hb1⟩
    have F1 : From w w1 := ⟨hb1⟩
    clear hb1
    go_wp2_with fail
    refine (HN.out w1 F1).mono ?_
    rintro r w2 ⟨rfl, rfl⟩
    go_wp2_with fail
    refine (HJ.out _ _ (strs2 (x0 := [101, 114, 114, 111, 114]) (x1 := sOther) (by simp) (by go_simp; rfl) (by go_simp; rfl)) (fun a n c e => by cases e; decide)).mono ?_
    rintro r w3 ⟨rfl, hb3⟩
    go_wp2
    go_ret
    exact ⟨rfl, ((F1.alloc _).step hb3).out⟩
  · have e1 : errName c = (codeName c).data.toList := by unfold errName; rw [if_neg h0]
    rw [e1] at HJ ⊢
    have hem : (codeName c).toList.isEmpty = false := by rw [ByteArray.toList_eq]; cases h : (codeName c).data.toList with | nil => exact absurd h h0 | cons _ _ => rfl
    clear h0 e1
    generalize codeName c = nm at *
    go_enter Tryz.func24, Tryz.ntmps24
    go_wp2_with fail
    refine HCd.out.mono ?_
    rintro r w1 ⟨rfl, hb1⟩
    have F1 : From w w1 := ⟨hb1⟩
    clear hb1
    go_wp2_with fail
    refine (HN.out w1 F1).mono ?_
    rintro r w2 ⟨rfl, rfl⟩
    go_wp2_with fail
    refine (HJ.out _ _ (strs2 (x0 := [101, 114, 114, 111, 114]) (x1 := nm.data.toList) (by simp) (by go_simp; rfl) (by rw [str_data]; go_simp)) (fun a n c e => by cases e; decide)).mono ?_
    rintro r w3 ⟨rfl, hb3⟩
    go_wp2
    go_ret
    exact ⟨rfl, ((F1.alloc _).step hb3).out⟩
theorem errorsNew_any (s : ByteArray) (w : World) : Calls Tryz.prog 31 #[.string s] w fun r w' => r = .returned (.iface 89 (.pointer (some ⟨w.heap.size, 0, none⟩))) ∧ Below w.heap.size w w' := by
  go_enter Tryz.func31, Tryz.ntmps31
  go_wp2
  go_ret
  exact ⟨rfl, (Below.refl _ _).alloc (Nat.le_refl _) _⟩
/-- What the laws on the log need of the world. -/
structure LogW (w : World) : Prop where
  tabs : Tabs w
  names : NamesAt w
  err : ErrType w
  codes : CodesAt w
theorem LogW.from_ {w w' : World} (h : LogW w) (hf : From w w') : LogW w' := ⟨h.tabs.from_ hf, h.names.below hf.out, h.err.below hf.out, h.codes.below hf.out⟩
theorem LogW.below {w w' : World} (h : LogW w) (hf : Below w.heap.size w w') : LogW w' := h.from_ ⟨hf⟩
end Go.Proofs.YtdclokpoeaehlaaGreatDoor
