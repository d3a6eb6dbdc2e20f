/- hammockref04.Number. -/
import Derived.Test.YtdclokpoeaehlaaGreatDoorLogH
namespace Go.Proofs.YtdclokpoeaehlaaGreatDoor
set_option linter.all false
open Go.RowKit

theorem scan_drop {s : ByteArray} {k a : Nat} (h : k < s.size) : scan a (s.data.toList.drop k) = if 48 ≤ s[k].toNat ∧ s[k].toNat ≤ 57 ∧ a * 10 + (s[k].toNat - 48) ≤ 4611686018427387904 then scan (a * 10 + (s[k].toNat - 48)) (s.data.toList.drop (k + 1)) else none := by
  rw [List.drop_eq_getElem_cons (by rw [size_toList]; exact h), scan]
  rfl
theorem scan_end {s : ByteArray} {a : Nat} : scan a (s.data.toList.drop s.size) = some a := by
  rw [List.drop_of_length_le (by rw [size_toList]; exact Nat.le_refl _)]; rfl
/-- What refNum finds, as a pair. -/
theorem num_of_ref {s : ByteArray} {r : Option Int} (h : refNum s.data.toList = r) : numI s.data.toList = r.getD 0 ∧ numB s.data.toList = r.isSome := by
  unfold numI numB
  rw [← refNum_num, h]
  exact ⟨rfl, rfl⟩
theorem head_of {s : ByteArray} (h : 0 < s.size) : s.data.toList.head? = some s[0] := by
  rw [List.head?_eq_getElem?, List.getElem?_eq_getElem (by rw [size_toList]; exact h)]
  rfl
set_option maxHeartbeats 2000000 in
set_option maxRecDepth 100000 in
theorem rnum_plain (s : ByteArray) (w : World) (h0 : 0 < s.size) (h19 : s.size ≤ 19) (h45 : s[0].toNat ≠ 45) (h48 : s[0].toNat ≠ 48) :
    Calls Tryz.prog 44 #[.string s] w fun e w' => e = .returned (.tuple #[.int .i64 (numI s.data.toList), .bool (numB s.data.toList)]) ∧ w = w' := by
  have hl0 : s.data.toList ≠ [] := fun e => by have := congrArg List.length e; rw [size_toList] at this; simp only [List.length_nil] at this; omega
  have hd : s.data.toList.head? = some s[0] := head_of h0
  have HR : Hid (∀ r, scan 0 s.data.toList = r → numI s.data.toList = (r.map fun (u : Nat) => (u : Int)).getD 0 ∧ numB s.data.toList = (r.map fun (u : Nat) => (u : Int)).isSome) := fun r hr => num_of_ref (by
    unfold refNum
    rw [if_neg, if_neg, hr]
    · rintro (e | e | ⟨e, e'⟩)
      · exact hl0 e
      · rw [size_toList] at e; omega
      · rw [hd] at e
        exact h48 (by rw [Option.some.inj e]; rfl)
    · rw [hd]; exact fun e => h45 (by rw [Option.some.inj e]; rfl))
  clear hl0 hd
  have he1 : s.toList.isEmpty = false := by rw [ByteArray.toList_eq]; cases h : s.data.toList with | nil => (have := congrArg List.length h; rw [size_toList] at this; simp only [List.length_nil] at this; omega) | cons _ _ => rfl
  have h45' : ((s[0].toNat : Int) == 45) = false := by rw [beq_eq_false_iff_ne]; omega
  have h48' : ((s[0].toNat : Int) == 48) = false := by rw [beq_eq_false_iff_ne]; omega
  go_enter Tryz.func44, Tryz.ntmps44
  go_wp2
  go_loop [6, 7] (fun n i => ∃ k a : Nat, k ≤ s.size ∧ a ≤ 4611686018427387904 ∧ i = .int .i64 k ∧ n = .int .i64 a ∧ Hid (scan 0 s.data.toList = scan a (s.data.toList.drop k))) (fun _ i => s.size - (intOf i).toNat)
  case atStart => exact ⟨0, 0, Nat.zero_le _, by omega, rfl, rfl, rfl⟩
  case round =>
    obtain ⟨k, a, hk, ham, rfl, rfl, hrun⟩ := hrel
    by_cases hlt : k < s.size
    · have hst := scan_drop (s := s) (a := a) hlt
      have hc256 := UInt8.toNat_lt s[k]
      by_cases c1 : s[k].toNat < 48
      · have hfin := HR.out _ (hrun.out.trans (hst.trans (if_neg (by omega))))
        simp only [Option.map_none, Option.getD_none, Option.isSome_none] at hfin
        have HF := Lib.hid hfin
        clear hfin hst hrun
        go_wp2
        go_ret2
        exact ⟨by rw [HF.out.1, HF.out.2]; rfl, rfl⟩
      · by_cases c2 : 57 < s[k].toNat
        · have hfin := HR.out _ (hrun.out.trans (hst.trans (if_neg (by omega))))
          simp only [Option.map_none, Option.getD_none, Option.isSome_none] at hfin
          have HF := Lib.hid hfin
          clear hfin hst hrun
          go_wp2
          go_ret2
          exact ⟨by rw [HF.out.1, HF.out.2]; rfl, rfl⟩
        · by_cases c3 : a * 10 + (s[k].toNat - 48) ≤ 4611686018427387904
          · have hnx := Lib.hid (hrun.out.trans (hst.trans (if_pos ⟨by omega, by omega, c3⟩)))
            have c4 : ¬ (4611686018427387904 - ((s[k].toNat : Int) - 48)) / 10 < (a : Int) := by omega
            have c5 : (a : Int) ≤ (4611686018427387904 - ((s[k].toNat : Int) - 48)) / 10 := by omega
            have c6 : (10 : Int) * a + ((s[k].toNat : Int) - 48) ≤ 4611686018427387904 := by omega
            clear hst hrun
            go_wp2
            go_round
            case rel => exact ⟨k + 1, a * 10 + (s[k].toNat - 48), by omega, c3, by go_num, by first | (congr 1; done) | (congr 1; omega), hnx⟩
            case measure => first | (simp [intOf]; omega) | omega
          · have hfin := HR.out _ (hrun.out.trans (hst.trans (if_neg (fun h => c3 h.2.2))))
            simp only [Option.map_none, Option.getD_none, Option.isSome_none] at hfin
            have HF := Lib.hid hfin
            have c4 : (4611686018427387904 - ((s[k].toNat : Int) - 48)) / 10 < (a : Int) := by omega
            clear hfin hst hrun c3
            go_wp2
            go_ret2
            exact ⟨by rw [HF.out.1, HF.out.2]; rfl, rfl⟩
    · have he : k = s.size := by omega
      have hfin := HR.out _ (hrun.out.trans (show scan a (s.data.toList.drop k) = some a by rw [he]; exact scan_end))
      simp only [Option.map_some, Option.getD_some, Option.isSome_some] at hfin
      have HF := Lib.hid hfin
      clear hfin hrun he
      go_wp2
      go_ret2
      exact ⟨by rw [HF.out.1, HF.out.2]; rfl, rfl⟩
set_option maxHeartbeats 2000000 in
set_option maxRecDepth 100000 in
theorem rnum_zero (w : World) :
    Calls Tryz.prog 44 #[.string ⟨#[48]⟩] w fun e w' => e = .returned (.tuple #[.int .i64 (numI (⟨#[48]⟩ : ByteArray).data.toList), .bool (numB (⟨#[48]⟩ : ByteArray).data.toList)]) ∧ w = w' := by
  have e1 : numI (⟨#[48]⟩ : ByteArray).data.toList = 0 ∧ numB (⟨#[48]⟩ : ByteArray).data.toList = true := by
    have h : refNum (⟨#[48]⟩ : ByteArray).data.toList = some 0 := by decide +kernel
    exact num_of_ref h
  rw [e1.1, e1.2]
  clear e1
  go_enter Tryz.func44, Tryz.ntmps44
  go_wp2
  refine wp_loop_rounds 2 ?_
  rw [rounds_succ]
  go_wp2
  rw [rounds_succ]
  go_wp2
  go_ret2
  exact ⟨rfl, rfl⟩
set_option maxHeartbeats 2000000 in
set_option maxRecDepth 100000 in
theorem rnum_bad (s : ByteArray) (w : World) (h : s.size = 0 ∨ (∃ h0 : 0 < s.size, s[0].toNat ≠ 45 ∧ (19 < s.size ∨ (s[0].toNat = 48 ∧ s ≠ ⟨#[48]⟩)))) :
    Calls Tryz.prog 44 #[.string s] w fun e w' => e = .returned (.tuple #[.int .i64 (numI s.data.toList), .bool (numB s.data.toList)]) ∧ w = w' := by
  have hb : numI s.data.toList = 0 ∧ numB s.data.toList = false := by
    refine num_of_ref (r := none) ?_
    unfold refNum
    rcases h with h | ⟨h0, h45, h⟩
    · have e : s.data.toList = [] := List.eq_nil_of_length_eq_zero (by rw [size_toList]; exact h)
      rw [e]; rfl
    · have hd : s.data.toList.head? = some s[0] := head_of h0
      rw [if_neg (by rw [hd]; exact fun e => h45 (by rw [Option.some.inj e]; rfl)), if_pos]
      rcases h with h | ⟨h, h'⟩
      · exact .inr (.inl (by rw [size_toList]; exact h))
      · refine .inr (.inr ⟨by rw [hd]; congr 1; exact byte_of_toNat h (by decide), fun e => h' ?_⟩)
        rw [← str_data s, e]; rfl
  rw [hb.1, hb.2]
  clear hb
  rcases h with h | ⟨h0, h45, h⟩
  · have he1 : s.toList.isEmpty = true := by
      have e0 : s.data.toList = [] := List.eq_nil_of_length_eq_zero (by rw [size_toList]; exact h)
      rw [ByteArray.toList_eq, e0]; rfl
    have HH := Lib.hid h
    clear h
    go_enter Tryz.func44, Tryz.ntmps44
    go_wp2
    go_ret2
    exact ⟨rfl, rfl⟩
  have he1 : s.toList.isEmpty = false := by rw [ByteArray.toList_eq]; cases h : s.data.toList with | nil => (have := congrArg List.length h; rw [size_toList] at this; simp only [List.length_nil] at this; omega) | cons _ _ => rfl
  have h45' : ((s[0].toNat : Int) == 45) = false := by rw [beq_eq_false_iff_ne]; omega
  rcases h with h | ⟨h, h'⟩
  · go_enter Tryz.func44, Tryz.ntmps44
    go_wp2
    go_ret2
    exact ⟨rfl, rfl⟩
  · by_cases h19 : 19 < s.size
    · have h48' := Lib.hid h
      clear h h'
      go_enter Tryz.func44, Tryz.ntmps44
      go_wp2
      go_ret2
      exact ⟨rfl, rfl⟩
    · have h48' : ((s[0].toNat : Int) == 48) = true := by rw [beq_iff_eq]; omega
      have hne : ¬ s.toList = [48] := fun e => h' (by rw [ByteArray.toList_eq] at e; rw [← str_data s, e]; rfl)
      have hne3 : (s.toList == [48]) = false := by simpa using hne
      clear hne
      have h19' : s.size ≤ 19 := by omega
      clear h h' h19
      go_enter Tryz.func44, Tryz.ntmps44
      go_wp2
      go_ret2
      exact ⟨rfl, rfl⟩
end Go.Proofs.YtdclokpoeaehlaaGreatDoor
