/- hammockref24.parts. -/
import Derived.Test.YtdclokpoeaehlaaGreatDoorLogK
namespace Go.Proofs.YtdclokpoeaehlaaGreatDoor
set_option linter.all false
open Go.RowKit

/-- The parts so far. -/
structure PartsAt (s : ByteArray) (k f : Nat) (xs : List (List UInt8)) : Prop where
  fk : f ≤ k + 1
  fs : f ≤ s.size
  no : ∀ j, f ≤ j → j < k → ¬ (s.data.toList[j]? = some 44 ∧ s.data.toList[j + 1]? = some 32)
  eq : Lib.split s.data.toList [44, 32] = xs ++ Lib.split (s.data.toList.drop f) [44, 32]
theorem PartsAt.hit {s : ByteArray} {k f : Nat} {xs : List (List UInt8)} (h : PartsAt s k f xs) (hk : k + 1 < s.size) (hf : f ≤ k) (h0 : s[k].toNat = 44) (h1 : s[k + 1].toNat = 32) : PartsAt s (k + 1) (k + 2) (xs ++ [(s.extract f k).data.toList]) := by
  refine ⟨by omega, by omega, fun j _ _ => by omega, ?_⟩
  rw [h.eq, split2_hit hf ⟨(byte_eq (by omega) (c := 44)).2 h0, (byte_eq hk (c := 32)).2 h1⟩ h.no, extract_list _ _ _ (by omega)]
  simp
theorem PartsAt.miss {s : ByteArray} {k f : Nat} {xs : List (List UInt8)} (h : PartsAt s k f xs) (hk : k < s.size) (hn : f ≤ k → ∀ h1 : k + 1 < s.size, s[k].toNat = 44 → s[k + 1].toNat ≠ 32) : PartsAt s (k + 1) f xs := by
  refine ⟨Nat.le_succ_of_le h.fk, h.fs, fun j hj hjk e => ?_, h.eq⟩
  rcases Nat.lt_or_ge j k with h' | h'
  · exact h.no j hj h' e
  · have : j = k := by omega
    subst this
    have h1 : j + 1 < s.size := by
      have := (List.getElem?_eq_some_iff.1 e.2).1
      rw [size_toList] at this; exact this
    exact hn hj h1 ((byte_eq hk (c := 44)).1 e.1) ((byte_eq h1 (c := 32)).1 e.2)
theorem PartsAt.last {s : ByteArray} {f : Nat} {xs : List (List UInt8)} (h : PartsAt s s.size f xs) : Lib.split s.data.toList [44, 32] = xs ++ [(s.extract f s.size).data.toList] := by
  rw [h.eq, split2_end, extract_list _ _ _ (Nat.le_refl _), List.take_of_length_le (by rw [List.length_drop, size_toList]; omega)]
  intro j hj e
  rcases Nat.lt_or_ge j s.size with h' | h'
  · exact h.no j hj h' e
  · rw [byte_none s j h'] at e; cases e.1
set_option maxHeartbeats 4000000 in
set_option maxRecDepth 100000 in
theorem parts_any (s : ByteArray) (w : World) (hs : s.size < 4294967281) :
    Calls Tryz.prog 53 #[.string s] w fun e w' => ∃ v, e = .returned v ∧ kStr.Own w.heap.size w' v (Lib.split s.data.toList [44, 32]) ∧ Below w.heap.size w w' := by
  go_enter Tryz.func53, Tryz.ntmps53
  go_wp2
  go_loopw [3, 4, 5] (fun v fr i wr => ∃ (k f : Nat) (xs : List (List UInt8)), k ≤ s.size ∧ f ≤ s.size ∧ xs.length ≤ k ∧ i = .int .i64 k ∧ fr = .int .i64 f ∧ Hid (PartsAt s k f xs) ∧ kStr.Own w.heap.size wr v xs ∧ From w wr) (fun _ _ i _ => s.size - (intOf i).toNat)
  case atStart => exact ⟨0, 0, [], Nat.zero_le _, Nat.zero_le _, Nat.zero_le _, rfl, rfl, ⟨Nat.zero_le _, Nat.zero_le _, fun j _ h => by omega, rfl⟩, Kin.Own.nil _ _ _, From.refl _⟩
  case round =>
    obtain ⟨k, f, xs, hk, hf, hxl, rfl, rfl, HW, hown, hfw⟩ := hrel
    obtain ⟨ao, co, rfl⟩ := hown.shape
    have HOWN := Lib.hid hown; clear hown
    have hsz := hfw.out.size
    have hki : (0 : Int) ≤ (k : Int) := by omega
    have hfi : (0 : Int) ≤ (f : Int) := by omega
    by_cases h0 : k < s.size
    · by_cases h1 : k + 1 < s.size
      · have e1 : ((k : Int) + 1 < (s.size : Int)) := by omega
        have e2 : 0 ≤ (k : Int) + 1 := by omega
        have e3 : ((k : Int) + 1).toNat = k + 1 := by omega
        by_cases h2 : f ≤ k
        · by_cases h3 : s[k].toNat = 44
          · have hb : ((s[k].toNat : Int) == 44) = true := by rw [beq_iff_eq]; omega
            by_cases h4 : s[k + 1].toNat = 32
            · have hb2 : ((s[k + 1].toNat : Int) == 32) = true := by rw [beq_iff_eq]; omega
              have HN := Lib.hid (HW.out.hit h1 h2 h3 h4)
              have hOW : kStr.Own w.heap.size (wr.alloc (.cells #[.string (s.extract f k)] 9)) (.slice ao xs.length co) xs := HOWN.out.alloc _
              have HOW := Lib.hid hOW; clear hOW
              clear HW h3 h4
              go_wp2_with (at_builtin; go_must (refine Kin.append1 kStr rfl _ _ rfl w.heap.size _ xs rfl HOW.out wr.heap.size (s.extract f k).data.toList rfl (cells1_of (by rw [str_data]; go_simp)) (by unfold maxLen; omega) (by show _ * 16 ≤ _; omega) (by first | (simp; done) | (simp; omega)) ?_; intro v' w3 hown' hbel hgrow; obtain ⟨a2, c2, rfl⟩ := hown'.shape; have HO2 := Lib.hid hown'; clear hown'))
              go_roundw
              case rel => exact ⟨k + 1, k + 2, xs ++ [(s.extract f k).data.toList], by omega, by omega, by rw [List.length_append]; simp; omega, by go_num, by go_num, HN.out, by have h := HO2.out; rw [List.length_append] at h; exact h, ⟨hfw.out.trans (((Below.refl _ _).alloc (by omega) _).trans hbel)⟩⟩
              case measure => first | (simp [intOf]; omega) | omega
            · have hb2 : ((s[k + 1].toNat : Int) == 32) = false := by rw [beq_eq_false_iff_ne]; omega
              have HN := Lib.hid (HW.out.miss h0 (fun _ _ _ h => h4 h))
              clear HW h3 h4
              go_wp2
              go_roundw
              case rel => exact ⟨k + 1, f, xs, by omega, by omega, by omega, by go_num, rfl, HN.out, HOWN.out, hfw⟩
              case measure => first | (simp [intOf]; omega) | omega
          · have hb : ((s[k].toNat : Int) == 44) = false := by rw [beq_eq_false_iff_ne]; omega
            have HN := Lib.hid (HW.out.miss h0 (fun _ _ h => absurd h h3))
            clear HW h3
            go_wp2
            go_roundw
            case rel => exact ⟨k + 1, f, xs, by omega, by omega, by omega, by go_num, rfl, HN.out, HOWN.out, hfw⟩
            case measure => first | (simp [intOf]; omega) | omega
        · have hfk : (k : Int) < (f : Int) := by omega
          have HN := Lib.hid (HW.out.miss h0 (fun h => absurd h h2))
          clear HW h2
          go_wp2
          go_roundw
          case rel => exact ⟨k + 1, f, xs, by omega, by omega, by omega, by go_num, rfl, HN.out, HOWN.out, hfw⟩
          case measure => first | (simp [intOf]; omega) | omega
      · have e1 : ¬ ((k : Int) + 1 < (s.size : Int)) := by omega
        have HN := Lib.hid (HW.out.miss h0 (fun _ h => absurd h h1))
        clear HW h1
        go_wp2
        go_roundw
        case rel => exact ⟨k + 1, f, xs, by omega, by omega, by omega, by go_num, rfl, HN.out, HOWN.out, hfw⟩
        case measure => first | (simp [intOf]; omega) | omega
    · have he : k = s.size := by omega
      have hfin := Lib.hid ((he ▸ HW.out).last)
      clear HW
      have hOW : kStr.Own w.heap.size (wr.alloc (.cells #[.string (s.extract f s.size)] 9)) (.slice ao xs.length co) xs := HOWN.out.alloc _
      have HOW := Lib.hid hOW; clear hOW
      have hks : s.size ≤ k := by omega
      clear he
      go_wp2_with (at_builtin; go_must (refine Kin.append1 kStr rfl _ _ rfl w.heap.size _ xs rfl HOW.out wr.heap.size (s.extract f s.size).data.toList rfl (cells1_of (by rw [str_data]; go_simp)) (by unfold maxLen; omega) (by show _ * 16 ≤ _; omega) (by first | (simp; done) | (simp; omega)) ?_; intro v' w3 hown' hbel hgrow; obtain ⟨a2, c2, rfl⟩ := hown'.shape; have HO2 := Lib.hid hown'; clear hown'))
      go_ret
      exact ⟨_, rfl, by rw [hfin.out]; have h := HO2.out; rw [List.length_append] at h; exact h, hfw.out.trans (((Below.refl _ _).alloc (by omega) _).trans hbel)⟩
end Go.Proofs.YtdclokpoeaehlaaGreatDoor
