/- The reference's Find; Victims of both; slices.Equal of ints. -/
import Derived.Test.YtllipidegjpidaaGreatDoorJDec
import Derived.Test.YtllipidegjpidaaGreatDoorInts
import Derived.OwnWalk
import Derived.Deep.RegionWith
import Derived.Deep.QuietTactic
namespace Go.Proofs.YtllipidegjpidaaGreatDoor
set_option linter.all false
open Go.RowKit

set_option maxHeartbeats 2000000 in
set_option maxRecDepth 100000 in
theorem rfind_any (v : Value) (ds : List Dec) (kind id : Int) (w : World) (h : kDec.At w v ds) (hn : ds.length ≤ 50) :
    Calls Tryz.prog 7 #[v, .int .i64 kind, .int .i64 id] w fun e w' => e = .returned (.int .i64 (findD kind id ds)) ∧ w = w' := by
  obtain ⟨a, cap, rfl, hget⟩ := kDec_get h
  obtain ⟨q, hq⟩ : ∃ q, q = ds.length := ⟨_, rfl⟩
  rw [← hq] at hn hget ⊢
  have HG := Lib.hid hget
  have HQ := Lib.hid hq
  clear h hget hq
  go_enter Tryz.func7, Tryz.ntmps7
  go_wp2
  go_loop [7] (fun iv => ∃ k : Nat, k ≤ q ∧ iv = .int .i64 k ∧ Hid (∀ j, j < k → isD kind id (decAt ds j) = false)) (fun iv => q - (intOf iv).toNat)
  case atStart => exact ⟨0, Nat.zero_le _, rfl, fun j hj => absurd hj (Nat.not_lt_zero _)⟩
  case round =>
    obtain ⟨k, hk, rfl, HA⟩ := hrel
    have hki : (0 : Int) ≤ (k : Int) := by omega
    by_cases hlt : k < q
    · obtain ⟨b, off, rfl, hb, c0, c1, c2, c3⟩ := HG.out k hlt
      have hkl : (k : Int) < (q : Int) := by omega
      have HHIT : Hid (isD kind id (decAt ds k) = true → findD kind id ds = k) := fun h => findD_hit (by rw [← HQ.out]; exact hlt) h HA.out
      have HMISS : Hid (isD kind id (decAt ds k) = false → ∀ j, j < k + 1 → isD kind id (decAt ds j) = false) := fun h j hj => by
        rcases Nat.lt_or_ge j k with h1 | h1
        · exact HA.out j h1
        · rw [show j = k by omega]; exact h
      have hd : isD kind id (decAt ds k) = ((decAt ds k).kind == kind && (decAt ds k).id == id) := rfl
      rw [hd] at HHIT HMISS
      clear hd
      generalize (decAt ds k).kind = dk at *
      generalize (decAt ds k).id = di at *
      cases h1 : dk == kind
      · rw [h1] at HMISS
        have HN := Lib.hid (HMISS.out rfl)
        clear HMISS HHIT
        go_wp2
        go_round
        case rel => exact ⟨k + 1, by omega, by go_num, HN.out⟩
        case measure => simp [intOf]; omega
      · cases h2 : di == id
        · rw [h1, h2] at HMISS
          have HN := Lib.hid (HMISS.out rfl)
          clear HMISS HHIT
          go_wp2
          go_round
          case rel => exact ⟨k + 1, by omega, by go_num, HN.out⟩
          case measure => simp [intOf]; omega
        · rw [h1, h2] at HHIT
          have HE := Lib.hid (HHIT.out rfl)
          clear HMISS HHIT
          go_wp2
          go_ret
          exact ⟨by rw [HE.out]; rfl, rfl⟩
    · have hkl : ¬ ((k : Int) < (q : Int)) := by omega
      have HE : Hid (findD kind id ds = -1) := findD_none fun j hj => HA.out j (by rw [← HQ.out] at hj; omega)
      go_wp2
      go_ret
      exact ⟨by rw [HE.out]; rfl, rfl⟩
set_option maxHeartbeats 4000000 in
set_option maxRecDepth 100000 in
theorem victims_any (v : Value) (ds : List Dec) (w : World) (h : kDec.At w v ds) (hn : ds.length ≤ 50) :
    Calls Tryz.prog 9 #[v] w fun e w' => ∃ a cp, e = .returned (.slice a (victimsD ds).length cp) ∧ kInt.Own w.heap.size w' (.slice a (victimsD ds).length cp) (victimsD ds) ∧ Below w.heap.size w w' := by
  obtain ⟨a, cap, rfl, hget⟩ := kDec_get h
  obtain ⟨q, hq⟩ : ∃ q, q = ds.length := ⟨_, rfl⟩
  rw [← hq] at hn hget ⊢
  have HG := Lib.hid hget
  have HQ := Lib.hid hq
  clear h hget hq
  go_enter Tryz.func9, Tryz.ntmps9
  go_wp2
  go_loopw [3, 8] (fun lv iv wr => ∃ (k : Nat) (xs : List Int), k ≤ q ∧ iv = .int .i64 k ∧ kInt.Own w.heap.size wr lv xs ∧ Hid (xs = victimsD (ds.take k)) ∧ From w wr) (fun _ iv _ => q - (intOf iv).toNat)
  case atStart => exact ⟨0, [], Nat.zero_le _, rfl, Kin.Own.nil _ _ _, by rw [List.take_zero]; rfl, From.refl _⟩
  case round =>
    obtain ⟨k, xs, hk, rfl, hown, HX, hfw⟩ := hrel
    obtain ⟨ao, co, rfl⟩ := hown.shape
    have hki : (0 : Int) ≤ (k : Int) := by omega
    have hxl : xs.length ≤ 50 := by
      have h1 := victimsD_len (ds.take k)
      have h2 : (ds.take k).length ≤ ds.length := by simp; omega
      rw [HX.out]; rw [← HQ.out] at h2; omega
    have hsz := hfw.out.size
    by_cases hlt : k < q
    · obtain ⟨b, off, rfl, hb, hc⟩ := HG.out k hlt
      obtain ⟨c0, c1, c2, c3⟩ := hc.from_ hfw
      have hkl : (k : Int) < (q : Int) := by omega
      have hst := victimsD_step (ds := ds) (k := k) (by rw [← HQ.out]; exact hlt)
      have HST := Lib.hid hst
      clear hc hst
      generalize decAt ds k = d at *
      cases h1 : d.kind == 6
      · have HN : Hid (xs = victimsD (ds.take (k + 1))) := by rw [HST.out, if_neg (by rw [h1]; decide), List.append_nil]; exact HX.out
        have HOWN := Lib.hid hown
        clear hown HST
        go_wp2
        go_roundw
        case rel => exact ⟨k + 1, xs, by omega, by go_num, HOWN.out.alloc _, HN.out, hfw.alloc _⟩
        case measure => first | (simp [intOf]; omega) | omega
      · have HN : Hid (xs ++ [d.id] = victimsD (ds.take (k + 1))) := by rw [HST.out, if_pos h1, HX.out]; exact rfl
        have hOW : kInt.Own w.heap.size ((wr.alloc (.cells #[.int .i64 d.kind, .int .i64 d.id, .int .i64 d.node, .int .i64 d.at_] 26)).alloc (.cells #[.int .i64 d.id] 3)) (.slice ao xs.length co) xs := (hown.alloc _).alloc _
        have HOW := Lib.hid hOW
        have HF9 := Lib.hid (hfw.alloc (.cells #[.int .i64 d.kind, .int .i64 d.id, .int .i64 d.node, .int .i64 d.at_] 26))
        clear hOW hown HST
        go_wp2_with (at_builtin; go_must (refine Kin.append1 kInt rfl _ _ rfl w.heap.size _ xs rfl HOW.out (wr.heap.size + 1) d.id rfl (cells1i_of (by go_simp)) (by unfold maxLen; omega) (by show _ * 8 ≤ _; omega) (by first | (simp; done) | (simp; omega)) ?_; intro v' w3 hown' hbel hgrow; have F3 : From w w3 := ⟨(HF9.out.alloc _).out.trans hbel⟩; obtain ⟨a2, c2, rfl⟩ := hown'.shape; have HO2 := Lib.hid hown'; clear hown' hbel hgrow))
        go_roundw
        case rel => exact ⟨k + 1, xs ++ [d.id], by omega, by go_num, by have h := HO2.out; rw [List.length_append] at h; exact h, HN.out, F3⟩
        case measure => first | (simp [intOf]; omega) | omega
    · have hkl : ¬ ((k : Int) < (q : Int)) := by omega
      have HE : Hid (xs = victimsD ds) := by rw [HX.out, List.take_of_length_le (by rw [← HQ.out]; omega)]; exact rfl
      have HOWN := Lib.hid hown
      clear hown
      go_wp2
      go_ret
      have hE := HE.out
      have hO := HOWN.out
      rw [hE] at hO
      exact ⟨ao, co, by rw [hE]; rfl, hO, hfw.out⟩
set_option maxHeartbeats 4000000 in
set_option maxRecDepth 100000 in
theorem rvictims_any (v : Value) (ds : List Dec) (w : World) (h : kDec.At w v ds) (hn : ds.length ≤ 50) :
    Calls Tryz.prog 10 #[v] w fun e w' => ∃ a cp, e = .returned (.slice a (victimsD ds).length cp) ∧ kInt.Own w.heap.size w' (.slice a (victimsD ds).length cp) (victimsD ds) ∧ Below w.heap.size w w' := by
  obtain ⟨a, cap, rfl, hget⟩ := kDec_get h
  obtain ⟨q, hq⟩ : ∃ q, q = ds.length := ⟨_, rfl⟩
  rw [← hq] at hn hget ⊢
  have HG := Lib.hid hget
  have HQ := Lib.hid hq
  clear h hget hq
  go_enter Tryz.func10, Tryz.ntmps10
  go_wp2
  go_loopw [3, 4] (fun lv iv wr => ∃ (k : Nat) (xs : List Int), k ≤ q ∧ iv = .int .i64 k ∧ kInt.Own w.heap.size wr lv xs ∧ Hid (xs = victimsD (ds.take k)) ∧ From w wr) (fun _ iv _ => q - (intOf iv).toNat)
  case atStart => exact ⟨0, [], Nat.zero_le _, rfl, Kin.Own.nil _ _ _, by rw [List.take_zero]; rfl, From.refl _⟩
  case round =>
    obtain ⟨k, xs, hk, rfl, hown, HX, hfw⟩ := hrel
    obtain ⟨ao, co, rfl⟩ := hown.shape
    have hki : (0 : Int) ≤ (k : Int) := by omega
    have hxl : xs.length ≤ 50 := by
      have h1 := victimsD_len (ds.take k)
      have h2 : (ds.take k).length ≤ ds.length := by simp; omega
      rw [HX.out]; rw [← HQ.out] at h2; omega
    have hsz := hfw.out.size
    by_cases hlt : k < q
    · obtain ⟨b, off, rfl, hb, hc⟩ := HG.out k hlt
      obtain ⟨c0, c1, c2, c3⟩ := hc.from_ hfw
      have hkl : (k : Int) < (q : Int) := by omega
      have hst := victimsD_step (ds := ds) (k := k) (by rw [← HQ.out]; exact hlt)
      have HST := Lib.hid hst
      clear hc hst
      generalize decAt ds k = d at *
      cases h1 : d.kind == 6
      · have HN : Hid (xs = victimsD (ds.take (k + 1))) := by rw [HST.out, if_neg (by rw [h1]; decide), List.append_nil]; exact HX.out
        have HOWN := Lib.hid hown
        clear hown HST
        go_wp2
        go_roundw
        case rel => exact ⟨k + 1, xs, by omega, by go_num, HOWN.out, HN.out, hfw⟩
        case measure => first | (simp [intOf]; omega) | omega
      · have HN : Hid (xs ++ [d.id] = victimsD (ds.take (k + 1))) := by rw [HST.out, if_pos h1, HX.out]; exact rfl
        have hOW : kInt.Own w.heap.size (wr.alloc (.cells #[.int .i64 d.id] 3)) (.slice ao xs.length co) xs := hown.alloc _
        have HOW := Lib.hid hOW
        have HF9 := Lib.hid hfw
        clear hOW hown HST
        go_wp2_with (at_builtin; go_must (refine Kin.append1 kInt rfl _ _ rfl w.heap.size _ xs rfl HOW.out wr.heap.size d.id rfl (cells1i_of (by go_simp)) (by unfold maxLen; omega) (by show _ * 8 ≤ _; omega) (by first | (simp; done) | (simp; omega)) ?_; intro v' w3 hown' hbel hgrow; have F3 : From w w3 := ⟨(HF9.out.alloc _).out.trans hbel⟩; obtain ⟨a2, c2, rfl⟩ := hown'.shape; have HO2 := Lib.hid hown'; clear hown' hbel hgrow))
        go_roundw
        case rel => exact ⟨k + 1, xs ++ [d.id], by omega, by go_num, by have h := HO2.out; rw [List.length_append] at h; exact h, HN.out, F3⟩
        case measure => first | (simp [intOf]; omega) | omega
    · have hkl : ¬ ((k : Int) < (q : Int)) := by omega
      have HE : Hid (xs = victimsD ds) := by rw [HX.out, List.take_of_length_le (by rw [← HQ.out]; omega)]; exact rfl
      have HOWN := Lib.hid hown
      clear hown
      go_wp2
      go_ret
      have hE := HE.out
      have hO := HOWN.out
      rw [hE] at hO
      exact ⟨ao, co, by rw [hE]; rfl, hO, hfw.out⟩
set_option maxHeartbeats 2000000 in
set_option maxRecDepth 100000 in
theorem equal_any (v1 v2 : Value) (xs : List Int) (w : World) (h1 : IntsAt w v1 xs) (h2 : IntsAt w v2 xs) (hn : xs.length ≤ 50) :
    Calls Tryz.prog 8 #[v1, v2] w fun e w' => e = .returned (.bool true) ∧ Below w.heap.size w w' := by
  obtain ⟨a, cap, rfl, hi⟩ := h1
  obtain ⟨a', cap', rfl, hi'⟩ := h2
  obtain ⟨q, hq⟩ : ∃ q, q = xs.length := ⟨_, rfl⟩
  have HC : Hid (∀ j, j < q → ∃ b off, a = some ⟨b, off, none⟩ ∧ w.cell? ⟨b, off + j, none⟩ = some (.int .i64 (xs.getD j 0))) := fun j hj => by
    rcases hi with hi | ⟨b, off, h1, _, h2⟩
    · subst hi; simp at hq; omega
    · exact ⟨b, off, h1, h2 j (by rw [← hq]; exact hj)⟩
  have HC' : Hid (∀ j, j < q → ∃ b off, a' = some ⟨b, off, none⟩ ∧ w.cell? ⟨b, off + j, none⟩ = some (.int .i64 (xs.getD j 0))) := fun j hj => by
    rcases hi' with hi | ⟨b, off, h1, _, h2⟩
    · subst hi; simp at hq; omega
    · exact ⟨b, off, h1, h2 j (by rw [← hq]; exact hj)⟩
  rw [← hq] at hn ⊢
  clear hi hi' hq
  go_enter Tryz.func8, Tryz.ntmps8
  go_wp2
  go_loopw [13] (fun iv wr => ∃ k : Nat, k ≤ q ∧ iv = .int .i64 k ∧ From w wr) (fun iv _ => q - (intOf iv).toNat)
  case atStart => exact ⟨0, Nat.zero_le _, rfl, From.refl _⟩
  case round =>
    obtain ⟨k, hk, rfl, hfw⟩ := hrel
    have hki : (0 : Int) ≤ (k : Int) := by omega
    by_cases hlt : k < q
    · obtain ⟨b, off, rfl, hc⟩ := HC.out k hlt
      obtain ⟨b2, off2, rfl, hc2⟩ := HC'.out k hlt
      have d1 := hfw.cell hc
      have d2 := hfw.cell hc2
      have hkl : (k : Int) < (q : Int) := by omega
      clear hc hc2
      generalize xs.getD k 0 = x at *
      go_wp2
      go_quiet (fail)
      go_wp2
      go_roundw
      case rel => exact ⟨k + 1, by omega, by go_num, hfw.drewN _⟩
      case measure => first | (simp [intOf]; omega) | omega
    · have hkl : ¬ ((k : Int) < (q : Int)) := by omega
      go_wp2
      go_ret
      exact ⟨rfl, hfw.out⟩
end Go.Proofs.YtllipidegjpidaaGreatDoor
