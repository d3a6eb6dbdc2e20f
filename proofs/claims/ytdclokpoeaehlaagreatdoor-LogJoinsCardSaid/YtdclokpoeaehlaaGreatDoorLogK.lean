/- hammockref04.Words. -/
import Derived.Test.YtdclokpoeaehlaaGreatDoorLogB
import Derived.Test.YtdclokpoeaehlaaGreatDoorCutB
namespace Go.Proofs.YtdclokpoeaehlaaGreatDoor
set_option linter.all false
open Go.RowKit

theorem cells1_of {w : World} {g : Nat} {x : List UInt8} (h0 : w.cell? ⟨g, 0, none⟩ = some (.string (str x))) : ∀ j u, (kStr.enc x)[j]? = some u → w.cell? ⟨g, j, none⟩ = some u
  | 0, _, h => by cases h; exact h0
  | _ + 1, _, h => by cases h
/-- The words so far. -/
def WordsAt (s : ByteArray) (k f : Nat) (xs : List (List UInt8)) : Prop :=
  (k ≤ s.size ∧ f ≤ k ∧ (∀ j, f ≤ j → j < k → s.data.toList[j]? ≠ some 32) ∧ Lib.split s.data.toList [32] = xs ++ Lib.split (s.data.toList.drop f) [32]) ∨ (s.size < k ∧ Lib.split s.data.toList [32] = xs)
theorem WordsAt.last {s : ByteArray} {f : Nat} {xs : List (List UInt8)} (h : WordsAt s s.size f xs) : f ≤ s.size ∧ ∀ k, s.size < k → ∀ f', WordsAt s k f' (xs ++ [(s.extract f s.size).data.toList]) := by
  rcases h with ⟨h1, h2, h3, h4⟩ | ⟨h, _⟩
  · refine ⟨h2, fun k hk f' => .inr ⟨hk, ?_⟩⟩
    rw [h4, split1_end, extract_list _ _ _ (Nat.le_refl _), List.take_of_length_le (by rw [List.length_drop, size_toList]; omega)]
    intro j hj e
    rcases Nat.lt_or_ge j s.size with h | h
    · exact h3 j hj h e
    · rw [byte_none s j h] at e; cases e
  · omega
theorem WordsAt.hit {s : ByteArray} {k f : Nat} {xs : List (List UInt8)} (h : WordsAt s k f xs) (hk : k < s.size) (hb : s[k].toNat = 32) : f ≤ k ∧ WordsAt s (k + 1) (k + 1) (xs ++ [(s.extract f k).data.toList]) := by
  rcases h with ⟨h1, h2, h3, h4⟩ | ⟨h, _⟩
  · refine ⟨h2, .inl ⟨by omega, Nat.le_refl _, fun j _ _ => by omega, ?_⟩⟩
    rw [h4, split1_hit h2 ((byte_eq hk (c := 32)).2 hb) h3, extract_list _ _ _ (by omega)]
    simp
  · omega
theorem WordsAt.miss {s : ByteArray} {k f : Nat} {xs : List (List UInt8)} (h : WordsAt s k f xs) (hk : k < s.size) (hb : s[k].toNat ≠ 32) : WordsAt s (k + 1) f xs := by
  rcases h with ⟨h1, h2, h3, h4⟩ | ⟨h, _⟩
  · refine .inl ⟨by omega, by omega, fun j hj hjk e => ?_, h4⟩
    rcases Nat.lt_or_ge j k with h | h
    · exact h3 j hj h e
    · have : j = k := by omega
      subst this
      exact hb ((byte_eq hk (c := 32)).1 e)
  · omega
theorem WordsAt.done {s : ByteArray} {k f : Nat} {xs : List (List UInt8)} (h : WordsAt s k f xs) (hk : s.size < k) : Lib.split s.data.toList [32] = xs := by
  rcases h with ⟨h1, _⟩ | ⟨_, h⟩
  · omega
  · exact h
set_option maxHeartbeats 4000000 in
set_option maxRecDepth 100000 in
theorem words_any (s : ByteArray) (w : World) (hs : s.size < 4294967281) :
    Calls Tryz.prog 52 #[.string s] w fun e w' => ∃ v, e = .returned v ∧ kStr.Own w.heap.size w' v (Lib.split s.data.toList [32]) ∧ Below w.heap.size w w' := by
  go_enter Tryz.func52, Tryz.ntmps52
  go_wp2
  go_loopw [3, 4, 5] (fun v fr i wr => ∃ (k f : Nat) (xs : List (List UInt8)), k ≤ s.size + 1 ∧ f ≤ s.size + 1 ∧ xs.length ≤ k ∧ i = .int .i64 k ∧ fr = .int .i64 f ∧ Hid (WordsAt s k f xs) ∧ kStr.Own w.heap.size wr v xs ∧ From w wr) (fun _ _ i _ => s.size + 1 - (intOf i).toNat)
  case atStart => exact ⟨0, 0, [], Nat.zero_le _, Nat.zero_le _, Nat.zero_le _, rfl, rfl, .inl ⟨Nat.zero_le _, Nat.le_refl _, fun j _ h => by omega, rfl⟩, Kin.Own.nil _ _ _, From.refl _⟩
  case round =>
    obtain ⟨k, f, xs, hk, hf, hxl, rfl, rfl, HW, hown, hfw⟩ := hrel
    obtain ⟨ao, co, rfl⟩ := hown.shape
    have HOWN := Lib.hid hown; clear hown
    have hsz := hfw.out.size
    by_cases h0 : s.size < k
    · have hfin := Lib.hid (HW.out.done h0)
      clear HW
      generalize xs.length = m at *
      go_wp2
      go_ret
      exact ⟨_, rfl, by rw [hfin.out]; exact HOWN.out, hfw.out⟩
    · have hki : (0 : Int) ≤ (k : Int) := by omega
      have hfi : (0 : Int) ≤ (f : Int) := by omega
      by_cases h1 : k = s.size
      · obtain ⟨hfk, hnx⟩ := (h1 ▸ HW.out).last
        have HN := Lib.hid (hnx (k + 1) (by omega) (k + 1))
        have hfk' : f ≤ k := by omega
        have hke : (k : Int) = (s.size : Int) := by omega
        have hks : s.size ≤ k := by omega
        have HK := Lib.hid h1
        have hOW : kStr.Own w.heap.size (wr.alloc (.cells #[.string (s.extract f s.size)] 9)) (.slice ao xs.length co) xs := HOWN.out.alloc _
        have HOW := Lib.hid hOW; clear hOW
        clear HW hnx h1 hfk
        go_wp2_with (at_builtin; go_must (refine Kin.append1 kStr rfl _ _ rfl w.heap.size _ xs rfl HOW.out wr.heap.size (s.extract f s.size).data.toList rfl (cells1_of (by rw [str_data]; go_simp)) (by unfold maxLen; omega) (by show _ * 16 ≤ _; omega) (by first | (simp; done) | (simp; omega)) ?_; intro v' w3 hown' hbel hgrow; obtain ⟨a2, c2, rfl⟩ := hown'.shape; have HO2 := Lib.hid hown'; clear hown'))
        go_roundw
        case rel => exact ⟨k + 1, k + 1, xs ++ [(s.extract f s.size).data.toList], by omega, by omega, by rw [List.length_append]; simp; omega, by go_num, by go_num, HN.out, by have h := HO2.out; rw [List.length_append] at h; exact h, ⟨hfw.out.trans (((Below.refl _ _).alloc (by omega) _).trans hbel)⟩⟩
        case measure => first | (simp [intOf]; omega) | omega
      · have hkl : k < s.size := by omega
        by_cases h2 : s[k].toNat = 32
        · obtain ⟨hfk, hnx⟩ := HW.out.hit hkl h2
          have HN := Lib.hid hnx
          have hb : ((s[k].toNat : Int) == 32) = true := by rw [beq_iff_eq]; omega
          have hne : ((k : Int) == (s.size : Int)) = false := by rw [beq_eq_false_iff_ne]; omega
          have hOW : kStr.Own w.heap.size (wr.alloc (.cells #[.string (s.extract f k)] 9)) (.slice ao xs.length co) xs := HOWN.out.alloc _
          have HOW := Lib.hid hOW; clear hOW
          clear HW hnx h1 h2
          go_wp2_with (at_builtin; go_must (refine Kin.append1 kStr rfl _ _ rfl w.heap.size _ xs rfl HOW.out wr.heap.size (s.extract f k).data.toList rfl (cells1_of (by rw [str_data]; go_simp)) (by unfold maxLen; omega) (by show _ * 16 ≤ _; omega) (by first | (simp; done) | (simp; omega)) ?_; intro v' w3 hown' hbel hgrow; obtain ⟨a2, c2, rfl⟩ := hown'.shape; have HO2 := Lib.hid hown'; clear hown'))
          go_roundw
          case rel => exact ⟨k + 1, k + 1, xs ++ [(s.extract f k).data.toList], by omega, by omega, by rw [List.length_append]; simp; omega, by go_num, by go_num, HN.out, by have h := HO2.out; rw [List.length_append] at h; exact h, ⟨hfw.out.trans (((Below.refl _ _).alloc (by omega) _).trans hbel)⟩⟩
          case measure => first | (simp [intOf]; omega) | omega
        · have HN := Lib.hid (HW.out.miss hkl h2)
          have hb : ((s[k].toNat : Int) == 32) = false := by rw [beq_eq_false_iff_ne]; omega
          have hne : ((k : Int) == (s.size : Int)) = false := by rw [beq_eq_false_iff_ne]; omega
          clear HW h1 h2
          go_wp2
          go_roundw
          case rel => exact ⟨k + 1, f, xs, by omega, by omega, by omega, by go_num, rfl, HN.out, HOWN.out, hfw⟩
          case measure => first | (simp [intOf]; omega) | omega
end Go.Proofs.YtdclokpoeaehlaaGreatDoor
