/- justify.Find and the reference's, over whatever decisions. -/
import Derived.Test.YtllipidegjpidaaGreatDoorJDec
namespace Go.Proofs.YtllipidegjpidaaGreatDoor
set_option linter.all false
open Go.RowKit

set_option maxRecDepth 100000 in
theorem jfew_any (a : Option Addr) (n cap : Nat) (w : World) : Calls Tryz.prog 5 #[.slice a n cap] w fun e w' => e = .returned (.bool (decide (n ≤ 50))) ∧ w = w' := by
  have hd : decide (n ≤ 50) = decide ((n : Int) ≤ 50) := by rw [decide_eq_decide]; omega
  rw [hd]
  go_enter Tryz.func5, Tryz.ntmps5
  go_wp2
  go_ret
  exact ⟨rfl, rfl⟩
set_option maxRecDepth 100000 in
theorem isD_any (kind id : Int) (d : Dec) (gk gi : Nat) (w : World) (hk : w.cell? ⟨gk, 0, none⟩ = some (.int .i64 kind)) (hi : w.cell? ⟨gi, 0, none⟩ = some (.int .i64 id)) :
    Calls Tryz.prog 16 #[decV d, .pointer (some ⟨gk, 0, none⟩), .pointer (some ⟨gi, 0, none⟩)] w fun e w' => e = .returned (.bool (isD kind id d)) ∧ Below w.heap.size w w' := by
  have hlk := cell_lt hk
  have hli := cell_lt hi
  obtain ⟨k, i, n, t⟩ := d
  have hd : isD kind id ⟨k, i, n, t⟩ = (k == kind && i == id) := rfl
  rw [hd]
  cases hq : k == kind
  · go_enter Tryz.func16, Tryz.ntmps16
    go_wp2
    go_ret
    exact ⟨rfl, ((From.refl w).alloc _).out⟩
  · go_enter Tryz.func16, Tryz.ntmps16
    go_wp2
    go_ret
    exact ⟨rfl, ((From.refl w).alloc _).out⟩
set_option maxHeartbeats 2000000 in
set_option maxRecDepth 100000 in
theorem indexD_any (v : Value) (ds : List Dec) (kind id : Int) (gk gi : Nat) (w : World) (h : kDec.At w v ds) (hn : ds.length ≤ 50) (hk : w.cell? ⟨gk, 0, none⟩ = some (.int .i64 kind)) (hi : w.cell? ⟨gi, 0, none⟩ = some (.int .i64 id)) :
    Calls Tryz.prog 15 #[v, .func (Fn.func 16) #[] #[.pointer (some ⟨gk, 0, none⟩), .pointer (some ⟨gi, 0, none⟩)]] w fun e w' => e = .returned (.int .i64 (findD kind id ds)) ∧ Below w.heap.size w w' := by
  have HC : Hid (∀ d w', From w w' → Calls Tryz.prog 16 #[decV d, .pointer (some ⟨gk, 0, none⟩), .pointer (some ⟨gi, 0, none⟩)] w' fun e w'' => e = .returned (.bool (isD kind id d)) ∧ Below w'.heap.size w' w'') := fun d w' f => isD_any kind id d gk gi w' (f.cell hk) (f.cell hi)
  obtain ⟨a, cap, rfl, hget⟩ := kDec_get h
  obtain ⟨q, hq⟩ : ∃ q, q = ds.length := ⟨_, rfl⟩
  rw [← hq] at hn hget ⊢
  have HG := Lib.hid hget
  have HQ := Lib.hid hq
  clear hk hi h hget hq
  go_enter Tryz.func15, Tryz.ntmps15
  go_wp2
  go_loopw [8] (fun iv wr => ∃ k : Nat, k ≤ q ∧ iv = .int .i64 k ∧ Hid (∀ j, j < k → isD kind id (decAt ds j) = false) ∧ From w wr) (fun iv _ => q - (intOf iv).toNat)
  case atStart => exact ⟨0, Nat.zero_le _, rfl, fun j hj => absurd hj (Nat.not_lt_zero _), From.refl _⟩
  case round =>
    obtain ⟨k, hk, rfl, HA, hfw⟩ := hrel
    have hki : (0 : Int) ≤ (k : Int) := by omega
    by_cases hlt : k < q
    · obtain ⟨b, off, rfl, hb, hc⟩ := HG.out k hlt
      obtain ⟨c0, c1, c2, c3⟩ := hc.from_ hfw
      have hkl : (k : Int) < (q : Int) := by omega
      have HCk := Lib.hid (HC.out (decAt ds k) wr hfw)
      have HHIT : Hid (isD kind id (decAt ds k) = true → findD kind id ds = k) := fun h => findD_hit (by rw [← HQ.out]; exact hlt) h HA.out
      have HMISS : Hid (isD kind id (decAt ds k) = false → ∀ j, j < k + 1 → isD kind id (decAt ds j) = false) := fun h j hj => by
        rcases Nat.lt_or_ge j k with h1 | h1
        · exact HA.out j h1
        · rw [show j = k by omega]; exact h
      generalize decAt ds k = d at *
      go_wp2_with fail
      refine HCk.out.mono ?_
      rintro e w1 ⟨rfl, hb1⟩
      have F1 := hfw.step hb1
      clear hb1
      cases hz : isD kind id d
      · have HN := Lib.hid (HMISS.out hz)
        go_wp2
        go_roundw
        case rel => exact ⟨k + 1, by omega, by go_num, HN.out, F1⟩
        case measure => first | (simp [intOf]; omega) | omega
      · have HE := Lib.hid (HHIT.out hz)
        go_wp2
        go_ret
        exact ⟨by rw [HE.out]; rfl, F1.out⟩
    · have hkl : ¬ ((k : Int) < (q : Int)) := by omega
      have HE : Hid (findD kind id ds = -1) := findD_none fun j hj => HA.out j (by rw [← HQ.out] at hj; omega)
      go_wp2
      go_ret
      exact ⟨by rw [HE.out]; rfl, hfw.out⟩
end Go.Proofs.YtllipidegjpidaaGreatDoor
