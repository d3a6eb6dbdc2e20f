/- hammockref24.About. -/
import Derived.Test.YtdclokpoeaehlaaGreatDoorLogE
namespace Go.Proofs.YtdclokpoeaehlaaGreatDoor
set_option linter.all false
open Go.RowKit

def raboutB (id : Int) (d : Dec) : Bool := d.id == id && d.kind != 1 && d.kind != 4 && d.kind != 11
theorem raboutB_eq (id : Int) : raboutB id = aboutB id := by
  funext d
  unfold raboutB aboutB
  cases d.id == id <;> cases d.kind != 1 <;> cases d.kind != 4 <;> cases d.kind != 11 <;> rfl
set_option maxHeartbeats 4000000 in
set_option maxRecDepth 100000 in
theorem rabout_some (id : Int) (b off cap : Nat) (ds : List Dec) (w : World) (hx : ds.length * 32 ≤ 140737488351232) (hb : b < w.heap.size)
    (hc : ∀ j, j < ds.length → DecCells w b (off + j * 4) (decAt ds j)) :
    Calls Tryz.prog 28 #[.slice (some ⟨b, off, none⟩) ds.length cap, .int .i64 id] w fun e w' => ∃ v, e = .returned v ∧ kDec.Own w.heap.size w' v (ds.filter (raboutB id)) ∧ Below w.heap.size w w' := by
  obtain ⟨l, hl⟩ : ∃ n, n = ds.length := ⟨_, rfl⟩
  rw [← hl] at hx ⊢
  have HL := Lib.hid hl; clear hl
  have HC := Lib.hid hc; clear hc
  go_enter Tryz.func28, Tryz.ntmps28
  go_wp2
  go_loopw [5, 6] (fun v i wr => ∃ k : Nat, k ≤ l ∧ i = .int .i64 k ∧ kDec.Own w.heap.size wr v ((ds.take k).filter (raboutB id)) ∧ From w wr) (fun _ i _ => l - (intOf i).toNat)
  case atStart => exact ⟨0, Nat.zero_le _, rfl, Kin.Own.nil _ _ _, From.refl _⟩
  case round =>
    obtain ⟨k, hk, rfl, hown, hfw⟩ := hrel
    by_cases hlt : k < l
    · have hcc := (HC.out k (by rw [← HL.out]; exact hlt)).below hfw.out hb
      have hst := take_filt (ds := ds) (k := k) (raboutB id) (by rw [← HL.out]; exact hlt)
      have hle : ((ds.take k).filter (raboutB id)).length ≤ k := Nat.le_trans (List.length_filter_le _ _) (by simp; omega)
      generalize decAt ds k = x at *
      obtain ⟨p0, p1, p2, p3⟩ := hcc
      have hki : (0 : Int) ≤ (k : Int) := by omega
      have hkl : (k : Int) < (l : Int) := by omega
      have hsz := hfw.out.size
      obtain ⟨ao, co, rfl⟩ := hown.shape
      have HOWN := Lib.hid hown; clear hown
      generalize List.filter (raboutB id) (List.take k ds) = F at *
      cases hd0 : raboutB id x
      · have hst' : (ds.take (k + 1)).filter (raboutB id) = F := by rw [hst]; simp [hd0]
        have HST := Lib.hid hst'; clear hst hst'
        unfold raboutB at hd0
        cases h1 : (x.id == id)
        · clear hd0
          go_wp2
          go_roundw
          case rel => exact ⟨k + 1, by omega, by go_num, by rw [HST.out]; exact HOWN.out, hfw⟩
          case measure => simp [intOf]; omega
        · cases h2 : (x.kind != 1)
          · clear hd0
            go_wp2
            go_roundw
            case rel => exact ⟨k + 1, by omega, by go_num, by rw [HST.out]; exact HOWN.out, hfw⟩
            case measure => simp [intOf]; omega
          · cases h3 : (x.kind != 4)
            · clear hd0
              go_wp2
              go_roundw
              case rel => exact ⟨k + 1, by omega, by go_num, by rw [HST.out]; exact HOWN.out, hfw⟩
              case measure => simp [intOf]; omega
            · have h4 : (x.kind != 11) = false := by rw [h1, h2, h3] at hd0; simpa using hd0
              clear hd0
              go_wp2
              go_roundw
              case rel => exact ⟨k + 1, by omega, by go_num, by rw [HST.out]; exact HOWN.out, hfw⟩
              case measure => simp [intOf]; omega
      · have hst' : (ds.take (k + 1)).filter (raboutB id) = F ++ [x] := by rw [hst]; simp [hd0]
        have HST := Lib.hid hst'; clear hst hst'
        unfold raboutB at hd0
        simp only [Bool.and_eq_true] at hd0
        obtain ⟨⟨⟨h1, h2⟩, h3⟩, h4⟩ := hd0
        have hOW : kDec.Own w.heap.size (wr.alloc (.cells #[.int .i64 x.kind, .int .i64 x.id, .int .i64 x.node, .int .i64 x.at_] 23)) (.slice ao F.length co) F := HOWN.out.alloc _
        have HOW := Lib.hid hOW; clear hOW
        go_wp2_with (at_builtin; go_must (refine Kin.append1 kDec rfl _ _ rfl w.heap.size _ F rfl HOW.out wr.heap.size x rfl (cells4_of (by go_simp) (by go_simp) (by go_simp) (by go_simp)) (by unfold maxLen; omega) (by show _ * 32 ≤ _; omega) (by first | (simp; done) | (simp; omega)) ?_; intro v' w3 hown' hbel hgrow; obtain ⟨a2, c2, rfl⟩ := hown'.shape; have HO2 := Lib.hid hown'; clear hown'))
        go_roundw
        case rel => exact ⟨k + 1, by omega, by go_num, by rw [HST.out]; have h := HO2.out; rw [List.length_append] at h; exact h, ⟨hfw.out.trans (((Below.refl _ _).alloc (by omega) _).trans hbel)⟩⟩
        case measure => simp [intOf]; omega
    · have he : k = l := by omega
      have hfin : Hid ((ds.take k).filter (raboutB id) = ds.filter (raboutB id)) := by rw [he, HL.out, List.take_length]; rfl
      obtain ⟨ao, co, rfl⟩ := hown.shape
      have HOWN := Lib.hid hown; clear hown
      generalize (List.filter (raboutB id) (List.take k ds)).length = m at *
      go_wp2
      go_ret
      exact ⟨_, rfl, by rw [← hfin.out]; exact HOWN.out, hfw.out⟩
set_option maxRecDepth 100000 in
theorem rabout_none (id : Int) (a : Option Addr) (cap : Nat) (w : World) :
    Calls Tryz.prog 28 #[.slice a 0 cap, .int .i64 id] w fun e w' => e = .returned (.slice none 0 0) ∧ w = w' := by
  go_enter Tryz.func28, Tryz.ntmps28
  go_wp2
  refine wp_loop_rounds 1 ?_
  rw [rounds_succ]
  go_wp2
  go_ret
  exact ⟨rfl, rfl⟩
theorem rabout_any (v : Value) (ds : List Dec) (id : Int) (w : World) (hx : ds.length * 32 ≤ 140737488351232) (h : kDec.At w v ds) :
    Calls Tryz.prog 28 #[v, .int .i64 id] w fun e w' => ∃ v, e = .returned v ∧ kDec.Own w.heap.size w' v (ds.filter (aboutB id)) ∧ Below w.heap.size w w' := by
  rw [← raboutB_eq]
  obtain ⟨a, cap, rfl, rfl | ⟨b, off, rfl, hlt, hc⟩⟩ := h
  · exact (rabout_none id a cap w).mono fun e w' ⟨he, hw⟩ => ⟨_, he, Kin.Own.nil _ _ _, hw ▸ Below.refl _ _⟩
  · exact rabout_some id b off cap ds w hx hlt (decs_cells hc)
end Go.Proofs.YtdclokpoeaehlaaGreatDoor
