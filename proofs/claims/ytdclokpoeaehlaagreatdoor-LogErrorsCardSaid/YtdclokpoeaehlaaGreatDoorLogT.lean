/- LogCounts, LogParses, LogAnswers: the walks. -/
import Derived.Test.YtdclokpoeaehlaaGreatDoorLogS
import Derived.Test.YtdclokpoeaehlaaGreatDoorLogG
namespace Go.Proofs.YtdclokpoeaehlaaGreatDoor
set_option linter.all false
open Go.RowKit

theorem sameD_refl (ds : List Dec) : sameD ds ds = true := by unfold sameD; exact decide_eq_true rfl
set_option maxHeartbeats 4000000 in
set_option maxRecDepth 100000 in
theorem logCounts_walk (v : Value) (ds : List Dec) (kind id : Int) (w : World) (hx : ds.length * 32 ≤ 140737488351232) (h : kDec.At w v ds) (hW : LogW w) :
    Calls Tryz.prog 6 #[v, .int .i64 kind, .int .i64 id] w fun e w' => e = .returned (.bool true) ∧ Below w.heap.size w w' := by
  have HA : Hid (∀ w', From w w' → Calls Tryz.prog 14 #[] w' fun r w'' => r = .returned (.bool true) ∧ Below w'.heap.size w' w'') := fun w' hf => awake24_any w' (hW.from_ hf)
  have HCt : Hid (∀ w', From w w' → Calls Tryz.prog 26 #[v, .int .i64 kind] w' fun e w'' => e = .returned (.int .i64 ((ds.filter (countB kind)).length : Int)) ∧ Below w'.heap.size w' w'') := fun w' hf => count_any v ds kind w' hx (h.below hf.out)
  have HAb : Hid (∀ w', From w w' → Calls Tryz.prog 27 #[v, .int .i64 id] w' fun e w'' => ∃ v', e = .returned v' ∧ kDec.Own w'.heap.size w'' v' (ds.filter (aboutB id)) ∧ Below w'.heap.size w' w'') := fun w' hf => about_any v ds id w' hx (h.below hf.out)
  have HRa : Hid (∀ w', From w w' → Calls Tryz.prog 28 #[v, .int .i64 id] w' fun e w'' => ∃ v', e = .returned v' ∧ kDec.Own w'.heap.size w'' v' (ds.filter (aboutB id)) ∧ Below w'.heap.size w' w'') := fun w' hf => rabout_any v ds id w' hx (h.below hf.out)
  have hfl : (ds.filter (aboutB id)).length ≤ ds.length := List.length_filter_le _ _
  have HS : Hid (∀ w' u u', kDec.At w' u (ds.filter (aboutB id)) → kDec.At w' u' (ds.filter (aboutB id)) → Calls Tryz.prog 23 #[u, u'] w' fun e w'' => e = .returned (.bool true) ∧ Below w'.heap.size w' w'') := fun w' u u' h1 h2 => by
    have h3 := sameD_any u u' _ _ w' (by omega) h1 h2
    rw [sameD_refl] at h3; exact h3
  have F0 := From.refl w
  obtain ⟨a, cap, rfl, hcs⟩ := h
  have hfc : ∀ k, k ≤ ds.length → ((ds.take k).filter (countB kind)).length ≤ k := fun k hk => Nat.le_trans (List.length_filter_le _ _) (by simp; omega)
  have HFC := Lib.hid hfc
  clear hfc hW
  by_cases h100 : 100 < ds.length
  · obtain ⟨l, hl⟩ : ∃ n, n = ds.length := ⟨_, rfl⟩
    rw [← hl] at h100 hx ⊢
    clear hcs hl hfl HFC HCt HAb HRa HS
    go_enter Tryz.func6, Tryz.ntmps6
    go_wp2_with fail
    refine (HA.out _ F0).mono ?_
    rintro e w1 ⟨rfl, hb⟩
    have F1 := F0.step hb
    clear hb
    go_wp2_with fail
    refine (HA.out _ F1).mono ?_
    rintro e w2 ⟨rfl, hb⟩
    have F2 := F1.step hb
    clear hb
    go_wp2
    go_ret
    exact ⟨rfl, F2.out⟩
  have h100' : ds.length ≤ 100 := by omega
  clear h100
  have HD : Hid (∀ j, j < ds.length → ∃ b off, a = some ⟨b, off, none⟩ ∧ DecCells w b (off + j * 4) (decAt ds j)) := fun j hj => by
    rcases hcs with rfl | ⟨b, off, rfl, hlt, hc⟩
    · simp at hj
    · exact ⟨b, off, rfl, decs_cells hc j hj⟩
  clear hcs
  obtain ⟨l, hl⟩ : ∃ n, n = ds.length := ⟨_, rfl⟩
  rw [← hl] at h100' hx HCt HAb HRa hfl ⊢
  have HL := Lib.hid hl
  clear hl hfl
  go_enter Tryz.func6, Tryz.ntmps6
  go_wp2_with fail
  refine (HA.out _ F0).mono ?_
  rintro e w1 ⟨rfl, hb⟩
  have F1 := F0.step hb
  clear hb
  go_wp2
  go_loop [7, 8] (fun n i => ∃ k : Nat, k ≤ l ∧ i = .int .i64 k ∧ n = .int .i64 ((((ds.take k).filter (countB kind)).length : Nat) : Int)) (fun _ i => l - (intOf i).toNat)
  case atStart => exact ⟨0, Nat.zero_le _, rfl, rfl⟩
  case round =>
    obtain ⟨k, hk, rfl, rfl⟩ := hrel
    have hle := HFC.out k (by rw [← HL.out]; exact hk)
    by_cases hlt : k < l
    · obtain ⟨b, off, rfl, hcc⟩ := HD.out k (by rw [← HL.out]; exact hlt)
      have hst := congrArg List.length (take_filt (ds := ds) (k := k) (countB kind) (by rw [← HL.out]; exact hlt))
      rw [List.length_append] at hst
      generalize decAt ds k = x at *
      have p0 := F1.cell hcc.1
      clear hcc
      have hki : (0 : Int) ≤ (k : Int) := by omega
      have hkl : (k : Int) < (l : Int) := by omega
      generalize ((ds.take k).filter (countB kind)).length = m at *
      cases hd : (x.kind == kind)
      · have hst' : ((ds.take (k + 1)).filter (countB kind)).length = m := by
          rw [hst]; simp [countB, hd]
        have HST := Lib.hid hst'
        clear hst hst'
        go_wp2
        go_round
        case rel => exact ⟨k + 1, by omega, by go_num, by rw [HST.out]⟩
        case measure => simp [intOf]; omega
      · have hst' : ((ds.take (k + 1)).filter (countB kind)).length = m + 1 := by
          rw [hst]; simp [countB, hd]
        have HST := Lib.hid hst'
        clear hst hst'
        go_wp2
        go_round
        case rel => exact ⟨k + 1, by omega, by go_num, by rw [HST.out]; go_num⟩
        case measure => simp [intOf]; omega
    · have he : k = l := by omega
      have hfin : ((ds.take k).filter (countB kind)).length = (ds.filter (countB kind)).length := by rw [he, HL.out, List.take_length]
      rw [hfin]
      obtain ⟨m, hm⟩ : ∃ m : Nat, m = (ds.filter (countB kind)).length := ⟨_, rfl⟩
      rw [← hm] at HCt ⊢
      clear hfin hm he hle
      go_wp2_with fail
      refine (HCt.out _ F1).mono ?_
      rintro e w2 ⟨rfl, hb⟩
      have F2 := F1.step hb
      clear hb
      go_wp2_with fail
      refine (HAb.out _ F2).mono ?_
      rintro e w3 ⟨u, rfl, hown, hb⟩
      have F3 := F2.step hb
      have HO := Lib.hid hown.at_
      clear hb hown
      go_wp2_with fail
      refine (HRa.out _ F3).mono ?_
      rintro e w4 ⟨u', rfl, hown, hb⟩
      have F4 := F3.step hb
      have HO2 := Lib.hid hown.at_
      have HO3 := Lib.hid (HO.out.below hb)
      clear hb hown
      go_wp2_with fail
      refine (HS.out _ _ _ HO3.out HO2.out).mono ?_
      rintro e w5 ⟨rfl, hb⟩
      have F5 := F4.step hb
      clear hb
      go_wp2
      go_ret
      exact ⟨rfl, F5.out⟩
end Go.Proofs.YtdclokpoeaehlaaGreatDoor
