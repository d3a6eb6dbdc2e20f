/- LogJ, LogM0: together in one text. -/
import Derived.Test.YtdclokpoeaehlaaGreatDoorGe
import Derived.Test.YtdclokpoeaehlaaGreatDoorGa
/- hammockref04.Number at a word with a minus sign; at every word. -/
namespace Go.Proofs.YtdclokpoeaehlaaGreatDoor
set_option linter.all false
open Go.RowKit

theorem tail_of {s : ByteArray} : (s.extract 1 s.size).data.toList = s.data.toList.tail := by
  rw [ByteArray.data_extract, Array.toList_extract, List.extract_eq_drop_take, List.take_of_length_le (by rw [List.length_drop, size_toList]; omega), List.drop_one]
set_option maxHeartbeats 2000000 in
set_option maxRecDepth 100000 in
theorem rnum_neg (s ds : ByteArray) (w : World) (h0 : 0 < s.size) (h45 : s[0].toNat = 45) (hds : s.extract 1 s.size = ds) (hd0 : 0 < ds.size) (h19 : ds.size ≤ 19) (h48 : ds[0].toNat ≠ 48) :
    Calls Tryz.prog 44 #[.string s] w fun e w' => e = .returned (.tuple #[.int .i64 (numI s.data.toList), .bool (numB s.data.toList)]) ∧ w = w' := by
  have ht : ds.data.toList = s.data.toList.tail := by rw [← hds]; exact tail_of
  have hl0 : ds.data.toList ≠ [] := fun e => by have := congrArg List.length e; rw [size_toList] at this; simp only [List.length_nil] at this; omega
  have hd : s.data.toList.head? = some s[0] := head_of h0
  have hd' : ds.data.toList.head? = some ds[0] := head_of hd0
  have HR : Hid (∀ r, scan 0 ds.data.toList = r → numI s.data.toList = (r.map fun (u : Nat) => -(u : Int)).getD 0 ∧ numB s.data.toList = (r.map fun (u : Nat) => -(u : Int)).isSome) := fun r hr => num_of_ref (by
    unfold refNum
    rw [if_pos (by rw [hd]; congr 1; exact byte_of_toNat h45 (by decide)), ← ht, if_neg, hr]
    rintro (e | e | e)
    · exact hl0 e
    · rw [size_toList] at e; omega
    · rw [hd'] at e
      exact h48 (by rw [Option.some.inj e]; rfl))
  clear hl0 hd hd' ht
  have he1 : s.toList.isEmpty = false := by rw [ByteArray.toList_eq]; cases h : s.data.toList with | nil => (have := congrArg List.length h; rw [size_toList] at this; simp only [List.length_nil] at this; omega) | cons _ _ => rfl
  have he2 : ds.toList.isEmpty = false := by rw [ByteArray.toList_eq]; cases h : ds.data.toList with | nil => (have := congrArg List.length h; rw [size_toList] at this; simp only [List.length_nil] at this; omega) | cons _ _ => rfl
  have h45' : ((s[0].toNat : Int) == 45) = true := by rw [beq_iff_eq]; omega
  have h48' : ((ds[0].toNat : Int) == 48) = false := by rw [beq_eq_false_iff_ne]; omega
  go_enter Tryz.func44, Tryz.ntmps44
  go_wp2
  go_loop [6, 7] (fun n i => ∃ k a : Nat, k ≤ ds.size ∧ a ≤ 4611686018427387904 ∧ i = .int .i64 k ∧ n = .int .i64 a ∧ Hid (scan 0 ds.data.toList = scan a (ds.data.toList.drop k))) (fun _ i => ds.size - (intOf i).toNat)
  case atStart => exact ⟨0, 0, Nat.zero_le _, by omega, rfl, rfl, rfl⟩
  case round =>
    obtain ⟨k, a, hk, ham, rfl, rfl, hrun⟩ := hrel
    by_cases hlt : k < ds.size
    · have hst := scan_drop (s := ds) (a := a) hlt
      have hc256 := UInt8.toNat_lt ds[k]
      by_cases c1 : ds[k].toNat < 48
      · have hfin := HR.out _ (hrun.out.trans (hst.trans (if_neg (by omega))))
        simp only [Option.map_none, Option.getD_none, Option.isSome_none] at hfin
        have HF := Lib.hid hfin
        clear hfin hst hrun
        go_wp2
        go_ret2
        exact ⟨by rw [HF.out.1, HF.out.2]; rfl, rfl⟩
      · by_cases c2 : 57 < ds[k].toNat
        · have hfin := HR.out _ (hrun.out.trans (hst.trans (if_neg (by omega))))
          simp only [Option.map_none, Option.getD_none, Option.isSome_none] at hfin
          have HF := Lib.hid hfin
          clear hfin hst hrun
          go_wp2
          go_ret2
          exact ⟨by rw [HF.out.1, HF.out.2]; rfl, rfl⟩
        · by_cases c3 : a * 10 + (ds[k].toNat - 48) ≤ 4611686018427387904
          · have hnx := Lib.hid (hrun.out.trans (hst.trans (if_pos ⟨by omega, by omega, c3⟩)))
            have c4 : ¬ (4611686018427387904 - ((ds[k].toNat : Int) - 48)) / 10 < (a : Int) := by omega
            have c5 : (a : Int) ≤ (4611686018427387904 - ((ds[k].toNat : Int) - 48)) / 10 := by omega
            have c6 : (10 : Int) * a + ((ds[k].toNat : Int) - 48) ≤ 4611686018427387904 := by omega
            clear hst hrun
            go_wp2
            go_round
            case rel => exact ⟨k + 1, a * 10 + (ds[k].toNat - 48), by omega, c3, by go_num, by first | (congr 1; done) | (congr 1; omega), hnx⟩
            case measure => first | (simp [intOf]; omega) | omega
          · have hfin := HR.out _ (hrun.out.trans (hst.trans (if_neg (fun h => c3 h.2.2))))
            simp only [Option.map_none, Option.getD_none, Option.isSome_none] at hfin
            have HF := Lib.hid hfin
            have c4 : (4611686018427387904 - ((ds[k].toNat : Int) - 48)) / 10 < (a : Int) := by omega
            clear hfin hst hrun c3
            go_wp2
            go_ret2
            exact ⟨by rw [HF.out.1, HF.out.2]; rfl, rfl⟩
    · have he : k = ds.size := by omega
      have hfin := HR.out _ (hrun.out.trans (show scan a (ds.data.toList.drop k) = some a by rw [he]; exact scan_end))
      simp only [Option.map_some, Option.getD_some, Option.isSome_some] at hfin
      have HF := Lib.hid hfin
      clear hfin hrun he
      go_wp2
      go_ret2
      exact ⟨by rw [HF.out.1, HF.out.2]; rfl, rfl⟩
set_option maxHeartbeats 2000000 in
set_option maxRecDepth 100000 in
theorem rnum_negbad (s ds : ByteArray) (w : World) (h0 : 0 < s.size) (h45 : s[0].toNat = 45) (hds : s.extract 1 s.size = ds) (h : ds.size = 0 ∨ 19 < ds.size ∨ ∃ hd0 : 0 < ds.size, ds[0].toNat = 48) :
    Calls Tryz.prog 44 #[.string s] w fun e w' => e = .returned (.tuple #[.int .i64 (numI s.data.toList), .bool (numB s.data.toList)]) ∧ w = w' := by
  have ht : ds.data.toList = s.data.toList.tail := by rw [← hds]; exact tail_of
  have hd : s.data.toList.head? = some s[0] := head_of h0
  have hb : numI s.data.toList = 0 ∧ numB s.data.toList = false := by
    refine num_of_ref (r := none) ?_
    unfold refNum
    rw [if_pos (by rw [hd]; congr 1; exact byte_of_toNat h45 (by decide)), ← ht, if_pos]
    rcases h with h | h | ⟨h, h'⟩
    · exact .inl (List.eq_nil_of_length_eq_zero (by rw [size_toList]; exact h))
    · exact .inr (.inl (by rw [size_toList]; exact h))
    · exact .inr (.inr (by rw [head_of h]; congr 1; exact byte_of_toNat h' (by decide)))
  rw [hb.1, hb.2]
  clear hb ht hd
  have he1 : s.toList.isEmpty = false := by rw [ByteArray.toList_eq]; cases h : s.data.toList with | nil => (have := congrArg List.length h; rw [size_toList] at this; simp only [List.length_nil] at this; omega) | cons _ _ => rfl
  have h45' : ((s[0].toNat : Int) == 45) = true := by rw [beq_iff_eq]; omega
  rcases h with h | h | ⟨h, h'⟩
  · have he2 : ds.toList.isEmpty = true := by
      have e0 : ds.data.toList = [] := List.eq_nil_of_length_eq_zero (by rw [size_toList]; exact h)
      rw [ByteArray.toList_eq, e0]; rfl
    have HH := Lib.hid h
    clear h
    go_enter Tryz.func44, Tryz.ntmps44
    go_wp2
    go_ret2
    exact ⟨rfl, rfl⟩
  · have hd0 : 0 < ds.size := by omega
    have he2 : ds.toList.isEmpty = false := by rw [ByteArray.toList_eq]; cases h9 : ds.data.toList with | nil => (have := congrArg List.length h9; rw [size_toList] at this; simp only [List.length_nil] at this; omega) | cons _ _ => rfl
    go_enter Tryz.func44, Tryz.ntmps44
    go_wp2
    go_ret2
    exact ⟨rfl, rfl⟩
  · by_cases h19 : 19 < ds.size
    · have he2 : ds.toList.isEmpty = false := by rw [ByteArray.toList_eq]; cases h9 : ds.data.toList with | nil => (have := congrArg List.length h9; rw [size_toList] at this; simp only [List.length_nil] at this; omega) | cons _ _ => rfl
      have h48' := Lib.hid h'
      clear h'
      go_enter Tryz.func44, Tryz.ntmps44
      go_wp2
      go_ret2
      exact ⟨rfl, rfl⟩
    · have he2 : ds.toList.isEmpty = false := by rw [ByteArray.toList_eq]; cases h9 : ds.data.toList with | nil => (have := congrArg List.length h9; rw [size_toList] at this; simp only [List.length_nil] at this; omega) | cons _ _ => rfl
      have h48' : ((ds[0].toNat : Int) == 48) = true := by rw [beq_iff_eq]; omega
      have hne : ¬ s.toList = [48] := fun e => by
        rw [ByteArray.toList_eq] at e
        have e1 : s = ⟨#[48]⟩ := by rw [← str_data s, e]; rfl
        subst e1
        exact absurd (show (48 : UInt8).toNat = 45 from h45) (by decide)
      have hne3 : (s.toList == [48]) = false := by simpa using hne
      have h19' : ds.size ≤ 19 := by omega
      clear h' h19 hne
      go_enter Tryz.func44, Tryz.ntmps44
      go_wp2
      go_ret2
      exact ⟨rfl, rfl⟩
theorem rnumber_any (s : ByteArray) (w : World) : Calls Tryz.prog 44 #[.string s] w fun e w' => e = .returned (.tuple #[.int .i64 (numI s.data.toList), .bool (numB s.data.toList)]) ∧ w = w' := by
  by_cases h0 : 0 < s.size
  · by_cases h45 : s[0].toNat = 45
    · by_cases hd : 0 < (s.extract 1 s.size).size
      · by_cases hok : (s.extract 1 s.size).size ≤ 19 ∧ (s.extract 1 s.size)[0].toNat ≠ 48
        · exact rnum_neg s _ w h0 h45 rfl hd hok.1 hok.2
        · refine rnum_negbad s _ w h0 h45 rfl ?_
          by_cases h : (s.extract 1 s.size).size ≤ 19
          · refine .inr (.inr ⟨hd, ?_⟩)
            by_cases h' : (s.extract 1 s.size)[0].toNat = 48
            · exact h'
            · exact absurd ⟨h, h'⟩ hok
          · exact .inr (.inl (by omega))
      · exact rnum_negbad s _ w h0 h45 rfl (.inl (by omega))
    · by_cases h19 : s.size ≤ 19
      · by_cases h48 : s[0].toNat = 48
        · by_cases hz : s = ⟨#[48]⟩
          · subst hz; exact rnum_zero w
          · exact rnum_bad s w (.inr ⟨h0, h45, .inr ⟨h48, hz⟩⟩)
        · exact rnum_plain s w h0 h19 h45 h48
      · exact rnum_bad s w (.inr ⟨h0, h45, .inl (by omega)⟩)
  · exact rnum_bad s w (.inl (by omega))
end Go.Proofs.YtdclokpoeaehlaaGreatDoor
/- The kind with a name, found by going through all. Plain. -/
namespace Go.Proofs.YtdclokpoeaehlaaGreatDoor
set_option linter.all false
/-- The last of the kinds 1 .. n with a name; 0: none. -/
def kindTo (x : List UInt8) : Nat → Nat
  | 0 => 0
  | n + 1 => if dname ((n + 1 : Nat) : Int) = x then n + 1 else kindTo x n
theorem kindTo_11 (x : List UInt8) : kindTo x 11 = kindOf x := by
  by_cases h1 : x = dname 1
  · subst h1; decide
  by_cases h2 : x = dname 2
  · subst h2; decide
  by_cases h3 : x = dname 3
  · subst h3; decide
  by_cases h4 : x = dname 4
  · subst h4; decide
  by_cases h5 : x = dname 5
  · subst h5; decide
  by_cases h6 : x = dname 6
  · subst h6; decide
  by_cases h7 : x = dname 7
  · subst h7; decide
  by_cases h8 : x = dname 8
  · subst h8; decide
  by_cases h9 : x = dname 9
  · subst h9; decide
  by_cases h10 : x = dname 10
  · subst h10; decide
  by_cases h11 : x = dname 11
  · subst h11; decide
  have e1 : kindTo x 11 = 0 := by
    simp only [kindTo]
    rw [if_neg (fun h => h11 h.symm), if_neg (fun h => h10 h.symm), if_neg (fun h => h9 h.symm), if_neg (fun h => h8 h.symm), if_neg (fun h => h7 h.symm), if_neg (fun h => h6 h.symm), if_neg (fun h => h5 h.symm), if_neg (fun h => h4 h.symm), if_neg (fun h => h3 h.symm), if_neg (fun h => h2 h.symm), if_neg (fun h => h1 h.symm)]
  have e2 : kindOf x = 0 := by
    unfold kindOf
    have : decNames.tail.findIdx? (· == x) = none := by
      rw [List.findIdx?_eq_none_iff]
      intro y hy
      have hn : decNames.tail = [dname 1, dname 2, dname 3, dname 4, dname 5, dname 6, dname 7, dname 8, dname 9, dname 10, dname 11] := by decide
      rw [hn] at hy
      simp only [List.mem_cons, List.not_mem_nil, or_false] at hy
      rw [beq_eq_false_iff_ne]
      intro e
      subst e
      rcases hy with h | h | h | h | h | h | h | h | h | h | h <;> contradiction
    rw [this]
  rw [e1, e2]
end Go.Proofs.YtdclokpoeaehlaaGreatDoor
