/- What the Pod laws share, part 2: PodE, PodF, PodG, PodH, PodI, PodJ, PodK, PodL, PodM, Wrong, Wrong01, Err, AsWalk, AsC, AsF, AsP, ErrorsAs, FaultAs, PodN, PodO, PodP, PodQ. -/
import Derived.Test.YtcegipkhmibdeaaDoorPods1
import Derived.MapKept
/- hammockref13.On and hammockref13.With: the pods of a list with a property. -/
namespace Go.Proofs.YtcegipkhmibdeaaDoor
set_option linter.all false
open Go.RowKit

theorem take_filter {ps : List Pod} {k : Nat} (f : Pod → Bool) (h : k < ps.length) : (ps.take (k + 1)).filter f = (ps.take k).filter f ++ (if f (podAt ps k) then [podAt ps k] else []) := by
  rw [List.take_succ_eq_append_getElem h, List.filter_append, podAt_get h]
  congr 1
  cases hf : f ps[k] <;> simp [hf]
def onB (node : Int) (p : Pod) : Bool := p.node == node && decide (2 ≤ p.ph) && decide (p.ph ≤ 4)
def withB (ph : Int) (p : Pod) : Bool := p.ph == ph
set_option maxHeartbeats 4000000 in
set_option maxRecDepth 100000 in
theorem refWith_some (b off cap : Nat) (ps : List Pod) (ph : Int) (Y : Nat → Prop) (w : World) (hx' : ps.length * 88 ≤ 140737488351232) (hb : b < w.heap.size)
    (hc : ∀ j, j < ps.length → ∃ rv, PodCells w b (off + j * 9) (podAt ps j) rv ∧ IntsIn Y w rv (podAt ps j).req) :
    Calls Tryd.prog 71 #[.slice (some ⟨b, off, none⟩) ps.length cap, .int .i64 ph] w fun e w' => ∃ v, e = .returned v ∧ OwnPods (Lo Y w.heap.size) w.heap.size w' v (ps.filter (withB ph)) ∧ Below w.heap.size w w' := by
  obtain ⟨l, hl⟩ : ∃ n, n = ps.length := ⟨_, rfl⟩
  rw [← hl] at hx' ⊢
  have HL := Lib.hid hl; clear hl
  have HC := Lib.hid hc; clear hc
  go_enter Tryd.func71, Tryd.ntmps71
  go_wp2
  go_loopw [5, 6] (fun v i wr => ∃ k : Nat, k ≤ l ∧ i = .int .i64 k ∧ OwnPods (Lo Y w.heap.size) w.heap.size wr v ((ps.take k).filter (withB ph)) ∧ Aside (Below w.heap.size w wr)) (fun _ i _ => l - (intOf i).toNat)
  case atStart => exact ⟨0, Nat.zero_le _, rfl, by simpa using OwnPods.nil _ _ _, Below.refl _ _⟩
  case round =>
    obtain ⟨k, hk, rfl, hown, hbw⟩ := hrel
    by_cases hlt : k < l
    · obtain ⟨rv, hcc, hri⟩ := HC.out k (by rw [← HL.out]; exact hlt)
      have hst := take_filter (ps := ps) (k := k) (withB ph) (by rw [← HL.out]; exact hlt)
      have hle : ((ps.take k).filter (withB ph)).length ≤ k := Nat.le_trans (List.length_filter_le _ _) (by simp; omega)
      generalize podAt ps k = x at *
      have hcr := hcc.below hbw.out hb
      have hIn := hri.within.below hbw.out (Nat.le_refl _)
      clear hcc hri
      obtain ⟨a, c1, rfl, -⟩ := id hIn
      obtain ⟨n1, hn1⟩ : ∃ n, n = x.req.length := ⟨_, rfl⟩
      rw [← hn1] at hcr hIn
      have HN1 := Lib.hid hn1; clear hn1
      have hIn' := Lib.hid hIn; clear hIn
      have hki : (0 : Int) ≤ (k : Int) := by omega
      have hkl : (k : Int) < (l : Int) := by omega
      have hsz := hbw.out.size
      obtain ⟨ao, co, rfl⟩ := hown.shape
      have HOWN := Lib.hid hown; clear hown
      obtain ⟨p0, p1, p2, p3, p4, p5, p6, p7, p8⟩ := hcr
      generalize List.filter (withB ph) (List.take k ps) = F at *
      cases hd0 : (x.ph == ph)
      · have hst' : (ps.take (k + 1)).filter (withB ph) = F := by rw [hst]; simp [withB, hd0]
        have HST := Lib.hid hst'; clear hst hst'
        go_wp2
        go_roundw
        case rel => exact ⟨k + 1, by omega, by go_num, by rw [HST.out]; exact HOWN.out, hbw.out⟩
        case measure => simp [intOf]; omega
      · skip
        have hst' : (ps.take (k + 1)).filter (withB ph) = F ++ [x] := by rw [hst]; simp [withB, hd0]
        have HST := Lib.hid hst'; clear hst hst'
        have hIW : IntsIn (Lo Y w.heap.size) (wr.alloc (.cells #[.int .i64 x.id, .int .i64 x.prio, .bool x.pre, .int .i64 x.grace, .slice a n1 c1, .int .i64 x.arr, .int .i64 x.ph, .int .i64 x.node, .int .i64 x.dead] 65)) (.slice a n1 c1) x.req := hIn'.out.below ((Below.refl _ wr).alloc (Nat.le_refl _) _) hsz
        have hOW : OwnPods (Lo Y w.heap.size) w.heap.size (wr.alloc (.cells #[.int .i64 x.id, .int .i64 x.prio, .bool x.pre, .int .i64 x.grace, .slice a n1 c1, .int .i64 x.arr, .int .i64 x.ph, .int .i64 x.node, .int .i64 x.dead] 65)) (.slice ao F.length co) F := by
          obtain ⟨rvs, h1, h2, h3⟩ := HOWN.out
          exact ⟨rvs, h1, h2.alloc _, fun j hj => (h3 j hj).below ((Below.refl _ wr).alloc (Nat.le_refl _) _) hsz⟩
        have HIW := Lib.hid hIW; clear hIW
        have HOW := Lib.hid hOW; clear hOW
        go_wp2_with (at_builtin; go_must (refine wpList_append_pod (B := w.heap.size) rfl _ _ rfl w.heap.size _ F rfl HOW.out wr.heap.size x (.slice a n1 c1) rfl (cells9_of (by go_simp) (by go_simp) (by go_simp) (by go_simp) (by go_simp) (by go_simp) (by go_simp) (by go_simp) (by go_simp)) HIW.out (by omega) (by first | (simp; done) | (simp; omega)) (Nat.le_refl _) ?_; intro v' w1 hown' hgrow; obtain ⟨a2, c2, rfl⟩ := hown'.shape; have HO2 := Lib.hid hown'; clear hown'))
        go_roundw
        case rel => exact ⟨k + 1, by omega, by go_num, by rw [HST.out]; have h := HO2.out; rw [List.length_append] at h; exact h, (hbw.out.alloc hsz _).trans hgrow⟩
        case measure => simp [intOf]; omega
    · have he : k = l := by omega
      have hfin : Hid ((ps.take k).filter (withB ph) = ps.filter (withB ph)) := by rw [he, HL.out, List.take_length]; rfl
      obtain ⟨ao, co, rfl⟩ := hown.shape
      have HOWN := Lib.hid hown; clear hown
      generalize (List.filter (withB ph) (List.take k ps)).length = m at *
      go_wp2
      go_ret
      exact ⟨_, rfl, by rw [← hfin.out]; exact HOWN.out, hbw.out⟩
set_option maxRecDepth 100000 in
theorem refWith_none (a : Option Addr) (cap : Nat) (ph : Int) (w : World) :
    Calls Tryd.prog 71 #[.slice a 0 cap, .int .i64 ph] w fun e w' => e = .returned (.slice none 0 0) ∧ w = w' := by
  go_enter Tryd.func71, Tryd.ntmps71
  go_wp2
  refine wp_loop_rounds 1 ?_
  rw [rounds_succ]
  go_wp2
  go_ret
  exact ⟨rfl, rfl⟩
theorem refWith_any (v : Value) (ps : List Pod) (ph : Int) (Y : Nat → Prop) (w : World) (hx : ps.length * 88 ≤ 140737488351232) (h : PodsX Y w v ps) :
    Calls Tryd.prog 71 #[v, .int .i64 ph] w fun e w' => ∃ v, e = .returned v ∧ OwnPods (Lo Y w.heap.size) w.heap.size w' v (ps.filter (withB ph)) ∧ Below w.heap.size w w' := by
  obtain ⟨a, cap, rfl, rfl | ⟨b, off, rfl, _, hlt, hc⟩⟩ := h
  · exact (refWith_none a cap ph w).mono fun e w' ⟨he, hw⟩ => ⟨_, he, OwnPods.nil _ _ _, hw ▸ Below.refl _ _⟩
  · exact refWith_some b off cap ps ph Y w hx hlt hc
set_option maxHeartbeats 4000000 in
set_option maxRecDepth 100000 in
theorem refOn_some (b off cap : Nat) (ps : List Pod) (node : Int) (Y : Nat → Prop) (w : World) (hx' : ps.length * 88 ≤ 140737488351232) (hb : b < w.heap.size)
    (hc : ∀ j, j < ps.length → ∃ rv, PodCells w b (off + j * 9) (podAt ps j) rv ∧ IntsIn Y w rv (podAt ps j).req) :
    Calls Tryd.prog 69 #[.slice (some ⟨b, off, none⟩) ps.length cap, .int .i64 node] w fun e w' => ∃ v, e = .returned v ∧ OwnPods (Lo Y w.heap.size) w.heap.size w' v (ps.filter (onB node)) ∧ Below w.heap.size w w' := by
  obtain ⟨l, hl⟩ : ∃ n, n = ps.length := ⟨_, rfl⟩
  rw [← hl] at hx' ⊢
  have HL := Lib.hid hl; clear hl
  have HC := Lib.hid hc; clear hc
  go_enter Tryd.func69, Tryd.ntmps69
  go_wp2
  go_loopw [5, 6] (fun v i wr => ∃ k : Nat, k ≤ l ∧ i = .int .i64 k ∧ OwnPods (Lo Y w.heap.size) w.heap.size wr v ((ps.take k).filter (onB node)) ∧ Aside (Below w.heap.size w wr)) (fun _ i _ => l - (intOf i).toNat)
  case atStart => exact ⟨0, Nat.zero_le _, rfl, by simpa using OwnPods.nil _ _ _, Below.refl _ _⟩
  case round =>
    obtain ⟨k, hk, rfl, hown, hbw⟩ := hrel
    by_cases hlt : k < l
    · obtain ⟨rv, hcc, hri⟩ := HC.out k (by rw [← HL.out]; exact hlt)
      have hst := take_filter (ps := ps) (k := k) (onB node) (by rw [← HL.out]; exact hlt)
      have hle : ((ps.take k).filter (onB node)).length ≤ k := Nat.le_trans (List.length_filter_le _ _) (by simp; omega)
      generalize podAt ps k = x at *
      have hcr := hcc.below hbw.out hb
      have hIn := hri.within.below hbw.out (Nat.le_refl _)
      clear hcc hri
      obtain ⟨a, c1, rfl, -⟩ := id hIn
      obtain ⟨n1, hn1⟩ : ∃ n, n = x.req.length := ⟨_, rfl⟩
      rw [← hn1] at hcr hIn
      have HN1 := Lib.hid hn1; clear hn1
      have hIn' := Lib.hid hIn; clear hIn
      have hki : (0 : Int) ≤ (k : Int) := by omega
      have hkl : (k : Int) < (l : Int) := by omega
      have hsz := hbw.out.size
      obtain ⟨ao, co, rfl⟩ := hown.shape
      have HOWN := Lib.hid hown; clear hown
      obtain ⟨p0, p1, p2, p3, p4, p5, p6, p7, p8⟩ := hcr
      generalize List.filter (onB node) (List.take k ps) = F at *
      cases hd0 : (x.node == node)
      · have hst' : (ps.take (k + 1)).filter (onB node) = F := by rw [hst]; simp [onB, hd0]
        have HST := Lib.hid hst'; clear hst hst'
        go_wp2
        go_roundw
        case rel => exact ⟨k + 1, by omega, by go_num, by rw [HST.out]; exact HOWN.out, hbw.out⟩
        case measure => simp [intOf]; omega
      · skip
        by_cases hd1 : (2 : Int) ≤ x.ph
        case neg =>
          have hst' : (ps.take (k + 1)).filter (onB node) = F := by rw [hst]; simp [onB, hd0, hd1]
          have HST := Lib.hid hst'; clear hst hst'
          go_wp2
          go_roundw
          case rel => exact ⟨k + 1, by omega, by go_num, by rw [HST.out]; exact HOWN.out, hbw.out⟩
          case measure => simp [intOf]; omega
        by_cases hd2 : x.ph ≤ (4 : Int)
        case neg =>
          have hst' : (ps.take (k + 1)).filter (onB node) = F := by rw [hst]; simp [onB, hd0, hd1, hd2]
          have HST := Lib.hid hst'; clear hst hst'
          go_wp2
          go_roundw
          case rel => exact ⟨k + 1, by omega, by go_num, by rw [HST.out]; exact HOWN.out, hbw.out⟩
          case measure => simp [intOf]; omega
        have hst' : (ps.take (k + 1)).filter (onB node) = F ++ [x] := by rw [hst]; simp [onB, hd0, hd1, hd2]
        have HST := Lib.hid hst'; clear hst hst'
        have hIW : IntsIn (Lo Y w.heap.size) (wr.alloc (.cells #[.int .i64 x.id, .int .i64 x.prio, .bool x.pre, .int .i64 x.grace, .slice a n1 c1, .int .i64 x.arr, .int .i64 x.ph, .int .i64 x.node, .int .i64 x.dead] 65)) (.slice a n1 c1) x.req := hIn'.out.below ((Below.refl _ wr).alloc (Nat.le_refl _) _) hsz
        have hOW : OwnPods (Lo Y w.heap.size) w.heap.size (wr.alloc (.cells #[.int .i64 x.id, .int .i64 x.prio, .bool x.pre, .int .i64 x.grace, .slice a n1 c1, .int .i64 x.arr, .int .i64 x.ph, .int .i64 x.node, .int .i64 x.dead] 65)) (.slice ao F.length co) F := by
          obtain ⟨rvs, h1, h2, h3⟩ := HOWN.out
          exact ⟨rvs, h1, h2.alloc _, fun j hj => (h3 j hj).below ((Below.refl _ wr).alloc (Nat.le_refl _) _) hsz⟩
        have HIW := Lib.hid hIW; clear hIW
        have HOW := Lib.hid hOW; clear hOW
        go_wp2_with (at_builtin; go_must (refine wpList_append_pod (B := w.heap.size) rfl _ _ rfl w.heap.size _ F rfl HOW.out wr.heap.size x (.slice a n1 c1) rfl (cells9_of (by go_simp) (by go_simp) (by go_simp) (by go_simp) (by go_simp) (by go_simp) (by go_simp) (by go_simp) (by go_simp)) HIW.out (by omega) (by first | (simp; done) | (simp; omega)) (Nat.le_refl _) ?_; intro v' w1 hown' hgrow; obtain ⟨a2, c2, rfl⟩ := hown'.shape; have HO2 := Lib.hid hown'; clear hown'))
        go_roundw
        case rel => exact ⟨k + 1, by omega, by go_num, by rw [HST.out]; have h := HO2.out; rw [List.length_append] at h; exact h, (hbw.out.alloc hsz _).trans hgrow⟩
        case measure => simp [intOf]; omega
    · have he : k = l := by omega
      have hfin : Hid ((ps.take k).filter (onB node) = ps.filter (onB node)) := by rw [he, HL.out, List.take_length]; rfl
      obtain ⟨ao, co, rfl⟩ := hown.shape
      have HOWN := Lib.hid hown; clear hown
      generalize (List.filter (onB node) (List.take k ps)).length = m at *
      go_wp2
      go_ret
      exact ⟨_, rfl, by rw [← hfin.out]; exact HOWN.out, hbw.out⟩
set_option maxRecDepth 100000 in
theorem refOn_none (a : Option Addr) (cap : Nat) (node : Int) (w : World) :
    Calls Tryd.prog 69 #[.slice a 0 cap, .int .i64 node] w fun e w' => e = .returned (.slice none 0 0) ∧ w = w' := by
  go_enter Tryd.func69, Tryd.ntmps69
  go_wp2
  refine wp_loop_rounds 1 ?_
  rw [rounds_succ]
  go_wp2
  go_ret
  exact ⟨rfl, rfl⟩
theorem refOn_any (v : Value) (ps : List Pod) (node : Int) (Y : Nat → Prop) (w : World) (hx : ps.length * 88 ≤ 140737488351232) (h : PodsX Y w v ps) :
    Calls Tryd.prog 69 #[v, .int .i64 node] w fun e w' => ∃ v, e = .returned v ∧ OwnPods (Lo Y w.heap.size) w.heap.size w' v (ps.filter (onB node)) ∧ Below w.heap.size w w' := by
  obtain ⟨a, cap, rfl, rfl | ⟨b, off, rfl, _, hlt, hc⟩⟩ := h
  · exact (refOn_none a cap node w).mono fun e w' ⟨he, hw⟩ => ⟨_, he, OwnPods.nil _ _ _, hw ▸ Below.refl _ _⟩
  · exact refOn_some b off cap ps node Y w hx hlt hc
end Go.Proofs.YtcegipkhmibdeaaDoor
/- hammockref06.Few: few pods, small ones. -/
namespace Go.Proofs.YtcegipkhmibdeaaDoor
set_option linter.all false
open Go.RowKit

def fewOne (p : Pod) : Bool := !(decide (p.prio < -1073741824)) && !(decide (1073741824 < p.prio)) && !(decide (20 < p.req.length))
def fewP (ps : List Pod) : Bool := ps.all fewOne && decide (ps.length ≤ 100)
theorem few_step {ps : List Pod} {k : Nat} (h : k < ps.length) : (ps.drop k).all fewOne = (fewOne (podAt ps k) && (ps.drop (k + 1)).all fewOne) := by
  rw [List.drop_eq_getElem_cons h, podAt_get h, List.all_cons]
set_option maxHeartbeats 1000000 in
set_option maxRecDepth 100000 in
theorem few_some (b off cap : Nat) (ps : List Pod) (w : World) (hx : ps.length * 88 ≤ 140737488351232)
    (hc : ∀ j, j < ps.length → ∃ rv, PodCells w b (off + j * 9) (podAt ps j) rv ∧ IntsAt w rv (podAt ps j).req) :
    Calls Tryd.prog 58 #[.slice (some ⟨b, off, none⟩) ps.length cap] w fun e w' => e = .returned (.bool (fewP ps)) ∧ w = w' := by
  obtain ⟨l, hl⟩ : ∃ n, n = ps.length := ⟨_, rfl⟩
  rw [← hl] at hx ⊢
  have HL := Lib.hid hl; clear hl
  have HC := Lib.hid hc; clear hc
  go_enter Tryd.func58, Tryd.ntmps58
  go_wp2
  go_loop [3] (fun i => ∃ k : Nat, k ≤ l ∧ i = .int .i64 k ∧ Hid (ps.all fewOne = (ps.drop k).all fewOne)) (fun i => l - (intOf i).toNat)
  case atStart => exact ⟨0, Nat.zero_le _, rfl, rfl⟩
  case round =>
    obtain ⟨k, hk, rfl, hrun⟩ := hrel
    by_cases hlt : k < l
    · obtain ⟨rv, hcc, hri⟩ := HC.out k (by rw [← HL.out]; exact hlt)
      have hs := few_step (ps := ps) (k := k) (by rw [← HL.out]; exact hlt)
      generalize podAt ps k = x at *
      obtain ⟨a, c1, rfl, -⟩ := id hri
      obtain ⟨n1, hn1⟩ : ∃ n, n = x.req.length := ⟨_, rfl⟩
      rw [← hn1] at hcc
      obtain ⟨p0, p1, p2, p3, p4, p5, p6, p7, p8⟩ := hcc
      clear hri p0 p2 p3 p5 p6 p7 p8
      have hki : (0 : Int) ≤ (k : Int) := by omega
      have hkl : (k : Int) < (l : Int) := by omega
      have hf1 : fewOne x = (!(decide (x.prio < -1073741824)) && !(decide (1073741824 < x.prio)) && !(decide (20 < n1))) := by rw [hn1]; rfl
      clear hn1
      rw [hf1] at hs
      clear hf1
      generalize x.prio = y at *
      by_cases h1 : y < -1073741824
      · have hfin : Hid (fewP ps = false) := by unfold fewP; rw [hrun.out, hs]; simp [h1, Hid]
        clear hs hrun
        go_wp2
        go_ret
        exact ⟨by rw [hfin.out]; rfl, rfl⟩
      by_cases h2 : 1073741824 < y
      · have hfin : Hid (fewP ps = false) := by unfold fewP; rw [hrun.out, hs]; simp [h2, Hid]
        clear hs hrun
        go_wp2
        go_ret
        exact ⟨by rw [hfin.out]; rfl, rfl⟩
      by_cases h3 : 20 < n1
      · have hfin : Hid (fewP ps = false) := by unfold fewP; rw [hrun.out, hs]; simp [h3, Hid]
        have h3' : (20 : Int) < (n1 : Int) := by omega
        clear hs hrun h3
        go_wp2
        go_ret
        exact ⟨by rw [hfin.out]; rfl, rfl⟩
      · have hfin : Hid (ps.all fewOne = (ps.drop (k + 1)).all fewOne) := by rw [hrun.out, hs]; simp [h1, h2, h3, Hid]
        have h3' : ¬ (20 : Int) < (n1 : Int) := by omega
        clear hs hrun h3
        go_wp2
        go_round
        case rel => exact ⟨k + 1, by omega, by go_num, hfin⟩
        case measure => simp [intOf]; omega
    · have hfin : Hid (fewP ps = decide (l ≤ 100)) := by unfold fewP; rw [hrun.out, List.drop_eq_nil_of_le (by rw [← HL.out]; omega), ← HL.out]; simp [Hid]
      clear hrun
      by_cases h100 : l ≤ 100
      · have h' : (l : Int) ≤ 100 := by omega
        have hd : decide (l ≤ 100) = true := by simp [h100]
        rw [hd] at hfin
        clear h100 hd
        go_wp2
        go_ret
        exact ⟨by rw [hfin.out]; rfl, rfl⟩
      · have h' : ¬ (l : Int) ≤ 100 := by omega
        have hd : decide (l ≤ 100) = false := by simp [h100]
        rw [hd] at hfin
        clear h100 hd
        go_wp2
        go_ret
        exact ⟨by rw [hfin.out]; rfl, rfl⟩
set_option maxRecDepth 100000 in
theorem few_none (a : Option Addr) (cap : Nat) (w : World) : Calls Tryd.prog 58 #[.slice a 0 cap] w fun e w' => e = .returned (.bool true) ∧ w = w' := by
  go_enter Tryd.func58, Tryd.ntmps58
  go_wp2
  refine wp_loop_rounds 1 ?_
  rw [rounds_succ]
  go_wp2
  go_ret
  exact ⟨rfl, rfl⟩
theorem few_any (v : Value) (ps : List Pod) (w : World) (hx : ps.length * 88 ≤ 140737488351232) (h : PodsAt w v ps) :
    Calls Tryd.prog 58 #[v] w fun e w' => e = .returned (.bool (fewP ps)) ∧ w = w' := by
  obtain ⟨a, cap, rfl, rfl | ⟨b, off, rfl, hlt, hc⟩⟩ := h
  · exact few_none a cap w
  · exact few_some b off cap ps w hx hc
end Go.Proofs.YtcegipkhmibdeaaDoor
/- Appends of pods inside a region that draws its order. -/
namespace Go.Proofs.YtcegipkhmibdeaaDoor
set_option linter.all false
open Go.RowKit

theorem OwnPods.below {Y : Nat → Prop} {B base : Nat} {w w' : World} {v : Value} {ps : List Pod} (h : OwnPods (Lo Y B) base w v ps) (hb : Below w.heap.size w w') (hB : B ≤ w.heap.size) : OwnPods (Lo Y B) base w' v ps := by
  obtain ⟨rvs, h1, h2, h3⟩ := h
  exact ⟨rvs, h1, ownsRow_below h2 hb, fun j hj => (h3 j hj).below hb hB⟩
theorem OwnPods.low {X : Nat → Prop} {base base' : Nat} {w : World} {v : Value} {ps : List Pod} (h : OwnPods X base w v ps) (hb : base' ≤ base) : OwnPods X base' w v ps := by
  obtain ⟨rvs, h1, h2, h3⟩ := h
  exact ⟨rvs, h1, ownsRow_low h2 hb, h3⟩
/-- The requests' values of a list of pods. -/
theorem PodsX.rvs {Y : Nat → Prop} {B : Nat} {w : World} {b off : Nat} : ∀ (ps : List Pod), (∀ j, j < ps.length → ∃ rv, PodCells w b (off + j * 9) (podAt ps j) rv ∧ IntsIn (Lo Y B) w rv (podAt ps j).req) →
    ∃ rvs : List Value, rvs.length = ps.length ∧ ∀ j, j < ps.length → PodCells w b (off + j * 9) (podAt ps j) (rvs.getD j undef) ∧ IntsIn (Lo Y B) w (rvs.getD j undef) (podAt ps j).req := by
  intro ps h
  classical
  refine ⟨(List.range ps.length).map (fun j => if hj : j < ps.length then Classical.choose (h j hj) else undef), by simp, fun j hj => ?_⟩
  have e : ((List.range ps.length).map (fun j => if hj : j < ps.length then Classical.choose (h j hj) else undef)).getD j undef = Classical.choose (h j hj) := by
    rw [List.getD_eq_getElem?_getD, List.getElem?_map, List.getElem?_range hj]
    simp [hj]
  rw [e]
  exact Classical.choose_spec (h j hj)
theorem podRow_cells {w : World} {b off : Nat} (ps : List Pod) (rvs : List Value) (hl : rvs.length = ps.length) (h : ∀ j, j < ps.length → PodCells w b (off + j * 9) (podAt ps j) (rvs.getD j undef)) :
    ∀ i u, (podRow ps rvs)[i]? = some u → w.cell? ((⟨b, off, none⟩ : Addr).add i) = some u := by
  intro i u hu
  have hi : i < ps.length * 9 := by rw [← podRow_length ps rvs hl]; exact (List.getElem?_eq_some_iff.1 hu).1
  have hj : i / 9 < ps.length := by omega
  have e : i = i / 9 * 9 + i % 9 := by omega
  rw [e, podRow_get ps rvs _ _ hl hj (by omega)] at hu
  obtain ⟨h0, h1, h2, h3, h4, h5, h6, h7, h8⟩ := h _ hj
  rw [add_mk, e, ← Nat.add_assoc]
  generalize i % 9 = f at hu
  match f, hu with
  | 0, hu => cases hu; exact h0
  | 1, hu => cases hu; exact h1
  | 2, hu => cases hu; exact h2
  | 3, hu => cases hu; exact h3
  | 4, hu => cases hu; exact h4
  | 5, hu => cases hu; exact h5
  | 6, hu => cases hu; exact h6
  | 7, hu => cases hu; exact h7
  | 8, hu => cases hu; exact h8
  | _ + 9, hu => cases hu
theorem podRow_one : ∀ (ps : List Pod) (rvs : List Value), rvs.length = ps.length → (∀ j, j < ps.length → (rvs.getD j undef).oneCell' = true) → ∀ u ∈ podRow ps rvs, u.oneCell' = true
  | [], _, _, _, u, hu => by simp [podRow] at hu
  | _ :: _, [], h, _, _, _ => by simp at h
  | q :: ps, r :: rvs, h, h1, u, hu => by
    simp only [podRow, List.mem_append] at hu
    rcases hu with hu | hu
    · have hr := h1 0 (by simp)
      simp only [cells9, List.mem_cons, List.not_mem_nil, or_false] at hu
      rcases hu with rfl | rfl | rfl | rfl | rfl | rfl | rfl | rfl | rfl
      all_goals first | rfl | exact hr
    · exact podRow_one ps rvs (by simpa using h) (fun j hj => by have := h1 (j + 1) (by simpa using hj); simpa using this) u hu
/-- append of a whole list of pods onto a new slice, as one operation. -/
theorem wp_append_all {Y : Nat → Prop} {B : Nat} {w : World} {o : Oper} {a : Act} {K : Act → World → Prop} {Q : Exit → Act → World → Prop} (s x : Operand)
    (ho : o.op = .call { callee := .builtin .append, args := #[s, x], argTypes := #[72, 72] }) (base : Nat)
    (v : Value) (hs : a.eval s = v) (hown : w.ownsRow base 65 9 v 0 []) (xv : Value) (ps : List Pod) (hx : a.eval x = xv) (hP : PodsX (Lo Y B) w xv ps) (hb : ps.length * 88 ≤ 140737488351232) (hbase : base ≤ w.heap.size) (hB : B ≤ base)
    (h : ∀ v' w', OwnPods (Lo Y B) base w' v' ps → Below base w w' → w.grownBy w' v.ownBlock → K (a.put o.dst v') w') : o.wp Tryd.prog a w K Q := by
  obtain ⟨i0, hi, hz0, hz1, hz2⟩ := info_parts infoPod
  obtain ⟨ax, cap, rfl, hP⟩ := hP
  have hrowge : ∀ k, v.ownBlock = some k → base ≤ k := fun k hk => by
    rcases hown.2 with ⟨rfl, _⟩ | ⟨g', cap, cur, rfl, hb', _⟩
    · simp [Value.ownBlock] at hk
    · simp [Value.ownBlock] at hk; omega
  have hsome : ∀ ad rvs, ax = some ad → rvs.length = ps.length → (∀ i u, (podRow ps rvs)[i]? = some u → w.cell? (ad.add i) = some u) → (∀ j, j < ps.length → IntsIn (Lo Y B) w (rvs.getD j undef) (podAt ps j).req) → o.wp Tryd.prog a w K Q := by
    rintro ad rvs rfl hl hc hi'
    refine wp_append_own w s x 72 ho base 65 i0 _ 9 88 Tryd.underlying72 hi hz0 hz1 hz2 rfl (by decide) v 0 [] hs hown ad ps.length cap (podRow ps rvs) hx (podRow_length ps rvs hl) hc
      (podRow_one ps rvs hl fun j hj => by obtain ⟨_, _, e, _⟩ := hi' j hj; rw [e]; rfl) (by unfold maxLen; omega) (by omega) hbase (fun v' w' h1 h2 _ => ?_)
    refine h v' w' ⟨rvs, hl, by simpa using h1, fun j hj => (hi' j hj).kept h2 fun k hk => Nat.le_trans hB (hrowge k hk)⟩ ((Below.refl _ _).grown h2 hbase hrowge) h2
  rcases hP with rfl | ⟨b, off, rfl, hbB, hlt, hc⟩
  · cases ax with
    | some ad => exact hsome ad [] rfl rfl (fun j u hu => by simp [podRow] at hu) (fun j hj => by simp at hj)
    | none =>
      have hrun := run_append_none (P := Tryd.prog) (w := w) (base := base) (t := 72) (ty := o.type) (c := cap) Tryd.underlying72 hi v 0 [] hown
      unfold Oper.wp
      simp only [List.length_nil] at hx
      simp [execOp, ho, resolve, invoke, builtin, hs, hx, hrun, Result.andThen]
      exact h v w ⟨[], rfl, hown, fun j hj => by simp at hj⟩ (Below.refl _ _) ⟨rfl, rfl, rfl, Nat.le_refl _, fun _ _ _ => rfl⟩
  · obtain ⟨rvs, hl, hr⟩ := PodsX.rvs ps hc
    exact hsome _ rvs rfl hl (podRow_cells ps rvs hl fun j hj => (hr j hj).1) (fun j hj => (hr j hj).2)
/-- append of one pod, as one operation. -/
theorem wp_append_pod {Y : Nat → Prop} {B : Nat} {w : World} {o : Oper} {a : Act} {K : Act → World → Prop} {Q : Exit → Act → World → Prop} (s x : Operand)
    (ho : o.op = .call { callee := .builtin .append, args := #[s, x], argTypes := #[72, 72] }) (base : Nat)
    (v : Value) (ps : List Pod) (hs : a.eval s = v) (hown : OwnPods (Lo Y B) base w v ps) (g : Nat) (p : Pod) (rv : Value) (hx : a.eval x = .slice (some ⟨g, 0, none⟩) 1 1)
    (hcells : ∀ j u, (cells9 p rv)[j]? = some u → w.cell? ⟨g, j, none⟩ = some u) (hI : IntsIn (Lo Y B) w rv p.req) (hb : (ps.length + 1) * 88 ≤ 140737488351232) (hbase : base ≤ w.heap.size) (hB : B ≤ base)
    (h : ∀ v' w', OwnPods (Lo Y B) base w' v' (ps ++ [p]) → Below base w w' → K (a.put o.dst v') w') : o.wp Tryd.prog a w K Q := by
  obtain ⟨i0, hi, hz0, hz1, hz2⟩ := info_parts infoPod
  obtain ⟨rvs, hl, hrow, hri⟩ := hown
  obtain ⟨ar, cr, hrv, -⟩ := id hI
  have hrowge : ∀ k, v.ownBlock = some k → base ≤ k := fun k hk => by
    rcases hrow.2 with ⟨rfl, _⟩ | ⟨g', cap, cur, rfl, hb', _⟩
    · simp [Value.ownBlock] at hk
    · simp [Value.ownBlock] at hk; omega
  refine wp_append_own w s x 72 ho base 65 i0 _ 9 88 Tryd.underlying72 hi hz0 hz1 hz2 rfl (by decide) v ps.length (podRow ps rvs) hs hrow ⟨g, 0, none⟩ 1 1 (cells9 p rv) hx rfl
    (fun j u hu => by rw [add_mk, Nat.zero_add]; exact hcells j u hu) ?_ (by unfold maxLen; omega) (by omega) hbase (fun v' w' h1 h2 _ => ?_)
  · intro u hu
    subst hrv
    simp only [cells9, List.mem_cons, List.not_mem_nil, or_false] at hu
    rcases hu with rfl | rfl | rfl | rfl | rfl | rfl | rfl | rfl | rfl <;> rfl
  · refine h v' w' ⟨rvs ++ [rv], by simp [hl], ?_, fun j hj => ?_⟩ ((Below.refl _ _).grown h2 hbase hrowge)
    · rw [podRow_snoc ps rvs p rv hl, List.length_append]
      exact h1
    · have hr := fun k hk => Nat.le_trans hB (hrowge k hk)
      by_cases hjl : j < ps.length
      · have e1 : (rvs ++ [rv]).getD j undef = rvs.getD j undef := by
          rw [List.getD_eq_getElem?_getD, List.getD_eq_getElem?_getD, List.getElem?_append_left (by omega)]
        have e2 : podAt (ps ++ [p]) j = podAt ps j := by
          unfold podAt; rw [List.getD_eq_getElem?_getD, List.getD_eq_getElem?_getD, List.getElem?_append_left hjl]
        rw [e1, e2]
        exact (hri j hjl).kept h2 hr
      · have hje : j = ps.length := by simp at hj; omega
        subst hje
        have e1 : (rvs ++ [rv]).getD ps.length undef = rv := by
          rw [List.getD_eq_getElem?_getD, List.getElem?_append_right (by omega), hl]; simp
        have e2 : podAt (ps ++ [p]) ps.length = p := by
          unfold podAt; rw [List.getD_eq_getElem?_getD, List.getElem?_append_right (by omega)]; simp
        rw [e1, e2]
        exact hI.kept h2 hr
end Go.Proofs.YtcegipkhmibdeaaDoor
/- hammockref13.Submit. -/
namespace Go.Proofs.YtcegipkhmibdeaaDoor
set_option linter.all false
open Go.RowKit

/-- The list afterwards, and the code. -/
def newPod (ps : List Pod) (p : Pod) : Pod := { p with ph := 1, node := -1, dead := -1, arr := ps.length }
def subR (ps : List Pod) (size : Int) (p : Pod) : List Pod × Int :=
  if 0 ≤ findI ps 0 p.id then (ps, 6) else if size ≤ (ps.length : Int) then (ps, 7) else (ps ++ [newPod ps p], 0)
set_option maxHeartbeats 4000000 in
set_option maxRecDepth 100000 in
theorem refSubmit_old (i1 i2 : Int) (b3 : Bool) (i4 : Int) (a : Option Addr) (nr cr : Nat) (i6 i7 i8 i9 : Int) (al : Option Addr) (cl : Nat) (ps : List Pod) (size : Int) (w : World) (hx : ps.length * 9 * 8 ≤ 140737488351232) (hl : PodsAt w (.slice al ps.length cl) ps)
    (h : 0 ≤ findI ps 0 i1 ∨ size ≤ (ps.length : Int)) :
    Calls Tryd.prog 59 #[.slice al ps.length cl, .int .i64 size, .agg #[.int .i64 i1, .int .i64 i2, .bool b3, .int .i64 i4, .slice a nr cr, .int .i64 i6, .int .i64 i7, .int .i64 i8, .int .i64 i9]] w fun e w' => e = .returned (.tuple #[.slice al ps.length cl, .int .i64 (if 0 ≤ findI ps 0 i1 then 6 else 7)]) ∧ Below w.heap.size w w' := by
  have hb0 : Below w.heap.size w (w.alloc (.cells #[.int .i64 i1, .int .i64 i2, .bool b3, .int .i64 i4, .slice a nr cr, .int .i64 i6, .int .i64 i7, .int .i64 i8, .int .i64 i9] 65)) := (Below.refl _ _).alloc (Nat.le_refl _) _
  have HF := Lib.hid (find_any (.slice al ps.length cl) ps i1 (w.alloc (.cells #[.int .i64 i1, .int .i64 i2, .bool b3, .int .i64 i4, .slice a nr cr, .int .i64 i6, .int .i64 i7, .int .i64 i8, .int .i64 i9] 65)) hx (hl.below hb0))
  generalize findI ps 0 i1 = f at *
  clear hl
  by_cases h0 : 0 ≤ f
  · rw [if_pos h0]
    clear h
    generalize ps.length = l at *
    go_enter Tryd.func59, Tryd.ntmps59
    go_wp2_with fail
    refine HF.out.mono ?_
    rintro e w1 ⟨rfl, rfl⟩
    go_wp2
    go_ret2
    exact ⟨rfl, hb0⟩
  · rw [if_neg h0]
    have h1 : size ≤ (ps.length : Int) := by rcases h with h | h; exact absurd h h0; exact h
    clear h
    generalize ps.length = l at *
    go_enter Tryd.func59, Tryd.ntmps59
    go_wp2_with fail
    refine HF.out.mono ?_
    rintro e w1 ⟨rfl, rfl⟩
    go_wp2
    go_ret2
    exact ⟨rfl, hb0⟩
set_option maxHeartbeats 4000000 in
set_option maxRecDepth 100000 in
theorem refSubmit_new (i1 i2 : Int) (b3 : Bool) (i4 : Int) (zs : List Int) (a : Option Addr) (nr cr : Nat) (i6 i7 i8 i9 : Int) (al : Option Addr) (cl : Nat) (ps : List Pod) (size : Int) (Y : Nat → Prop) (w : World) (hx : (ps.length + 1) * 88 ≤ 140737488351232) (hl : PodsX Y w (.slice al ps.length cl) ps)
    (hi : IntsIn Y w (.slice a nr cr) zs) (h0 : ¬ 0 ≤ findI ps 0 i1) (h1 : ¬ size ≤ (ps.length : Int)) :
    Calls Tryd.prog 59 #[.slice al ps.length cl, .int .i64 size, .agg #[.int .i64 i1, .int .i64 i2, .bool b3, .int .i64 i4, .slice a nr cr, .int .i64 i6, .int .i64 i7, .int .i64 i8, .int .i64 i9]] w fun e w' => ∃ v, e = .returned (.tuple #[v, .int .i64 0]) ∧ OwnPods (Lo Y w.heap.size) w.heap.size w' v (ps ++ [⟨i1, i2, b3, i4, zs, ps.length, 1, -1, -1⟩]) ∧ Below w.heap.size w w' := by
  have hb0 : Below w.heap.size w (w.alloc (.cells #[.int .i64 i1, .int .i64 i2, .bool b3, .int .i64 i4, .slice a nr cr, .int .i64 i6, .int .i64 i7, .int .i64 i8, .int .i64 i9] 65)) := (Below.refl _ _).alloc (Nat.le_refl _) _
  have HF := Lib.hid (find_any (.slice al ps.length cl) ps i1 (w.alloc (.cells #[.int .i64 i1, .int .i64 i2, .bool b3, .int .i64 i4, .slice a nr cr, .int .i64 i6, .int .i64 i7, .int .i64 i8, .int .i64 i9] 65)) (by omega) (hl.pods.below hb0))
  generalize findI ps 0 i1 = f at *
  have HP := Lib.hid hl.within; clear hl
  have HI := Lib.hid hi.within; clear hi
  have hsl : al = al := rfl
  obtain ⟨l, hll⟩ : ∃ l, l = ps.length := ⟨_, rfl⟩
  rw [← hll] at HF HP hx h1 ⊢
  have HL := Lib.hid hll; clear hll
  go_enter Tryd.func59, Tryd.ntmps59
  go_wp2_with fail
  refine HF.out.mono ?_
  rintro e w1 ⟨rfl, rfl⟩
  go_wp2
  refine wp_named fun W hW => ?_
  have hBW : Below w.heap.size w W := by rw [hW]; repeat (first | exact Below.refl _ _ | refine Below.setCell ?_ (Nat.le_refl _) _ | refine Below.alloc ?_ (Nat.le_refl _) _)
  have hsz : W.heap.size = w.heap.size + 1 := by rw [hW]; simp
  have p0 : W.cell? ⟨w.heap.size, 0, none⟩ = some (.int .i64 i1) := by rw [hW]; go_simp
  have p1 : W.cell? ⟨w.heap.size, 1, none⟩ = some (.int .i64 i2) := by rw [hW]; go_simp
  have p2 : W.cell? ⟨w.heap.size, 2, none⟩ = some (.bool b3) := by rw [hW]; go_simp
  have p3 : W.cell? ⟨w.heap.size, 3, none⟩ = some (.int .i64 i4) := by rw [hW]; go_simp
  have p4 : W.cell? ⟨w.heap.size, 4, none⟩ = some (.slice a nr cr) := by rw [hW]; go_simp
  have p5 : W.cell? ⟨w.heap.size, 5, none⟩ = some (.int .i64 (l : Int)) := by rw [hW]; go_simp
  have p6 : W.cell? ⟨w.heap.size, 6, none⟩ = some (.int .i64 1) := by rw [hW]; go_simp
  have p7 : W.cell? ⟨w.heap.size, 7, none⟩ = some (.int .i64 (-1)) := by rw [hW]; go_simp
  have p8 : W.cell? ⟨w.heap.size, 8, none⟩ = some (.int .i64 (-1)) := by rw [hW]; go_simp
  have HW := Lib.hid hW; clear hW
  have hlt : w.heap.size < W.heap.size := by omega
  have HK : Hid (∀ w' : World, Below W.heap.size W w' → (w'.cell? ⟨w.heap.size, 0, none⟩ = some (.int .i64 i1) ∧ w'.cell? ⟨w.heap.size, 1, none⟩ = some (.int .i64 i2) ∧ w'.cell? ⟨w.heap.size, 2, none⟩ = some (.bool b3) ∧ w'.cell? ⟨w.heap.size, 3, none⟩ = some (.int .i64 i4) ∧ w'.cell? ⟨w.heap.size, 4, none⟩ = some (.slice a nr cr) ∧ w'.cell? ⟨w.heap.size, 5, none⟩ = some (.int .i64 (l : Int)) ∧ w'.cell? ⟨w.heap.size, 6, none⟩ = some (.int .i64 1) ∧ w'.cell? ⟨w.heap.size, 7, none⟩ = some (.int .i64 (-1)) ∧ w'.cell? ⟨w.heap.size, 8, none⟩ = some (.int .i64 (-1)))) := fun w' h => ⟨keepl h p0, keepl h p1, keepl h p2, keepl h p3, keepl h p4, keepl h p5, keepl h p6, keepl h p7, keepl h p8⟩
  have hv0 : Below W.heap.size W W.drew := (Below.refl _ _).drew
  have hd0 : (W.alloc (.cells #[] 65)).heap.size = w.heap.size + 1 + 1 := by simp [hsz]
  have e1 : Below W.heap.size W ((W.alloc (.cells #[] 65)).drew) := ((Below.refl _ _).alloc (Nat.le_refl _) _).drew
  have e2 : Below W.heap.size W (((W.alloc (.cells #[.int .i64 i1, .int .i64 i2, .bool b3, .int .i64 i4, .slice a nr cr, .int .i64 (l : Int), .int .i64 1, .int .i64 (-1), .int .i64 (-1)] 65)).alloc (.cells #[] 65)).drew) := (((Below.refl _ _).alloc (Nat.le_refl _) _).alloc (by simp) _).drew
  have e3 : Below W.heap.size W (((W.alloc (.cells #[] 65)).alloc (.cells #[.int .i64 i1, .int .i64 i2, .bool b3, .int .i64 i4, .slice a nr cr, .int .i64 (l : Int), .int .i64 1, .int .i64 (-1), .int .i64 (-1)] 65)).drew) := (((Below.refl _ _).alloc (Nat.le_refl _) _).alloc (by simp) _).drew
  have o1 : ((W.alloc (.cells #[] 65)).drew).ownsRow (w.heap.size + 1) 65 9 (.slice (some ⟨w.heap.size + 1, 0, none⟩) 0 0) 0 [] := by
    have h := World.ownsRow_made W (base := w.heap.size + 1) (e := 65) (size := 9) #[] 0 (by omega) (by decide) rfl
    rw [hsz] at h; exact h
  have o2 : (((W.alloc (.cells #[.int .i64 i1, .int .i64 i2, .bool b3, .int .i64 i4, .slice a nr cr, .int .i64 (l : Int), .int .i64 1, .int .i64 (-1), .int .i64 (-1)] 65)).alloc (.cells #[] 65)).drew).ownsRow (w.heap.size + 1 + 1) 65 9 (.slice (some ⟨w.heap.size + 1 + 1, 0, none⟩) 0 0) 0 [] := by
    have h := World.ownsRow_made (W.alloc (.cells #[.int .i64 i1, .int .i64 i2, .bool b3, .int .i64 i4, .slice a nr cr, .int .i64 (l : Int), .int .i64 1, .int .i64 (-1), .int .i64 (-1)] 65)) (base := w.heap.size + 1 + 1) (e := 65) (size := 9) #[] 0 (by simp [hsz]) (by decide) rfl
    rw [World.size_alloc, hsz] at h; exact h
  have o3 : (((W.alloc (.cells #[] 65)).alloc (.cells #[.int .i64 i1, .int .i64 i2, .bool b3, .int .i64 i4, .slice a nr cr, .int .i64 (l : Int), .int .i64 1, .int .i64 (-1), .int .i64 (-1)] 65)).drew).ownsRow (w.heap.size + 1) 65 9 (.slice (some ⟨w.heap.size + 1, 0, none⟩) 0 0) 0 [] := by
    have h := (World.ownsRow_made W (base := w.heap.size + 1) (e := 65) (size := 9) #[] 0 (by omega) (by decide) rfl).alloc (.cells #[.int .i64 i1, .int .i64 i2, .bool b3, .int .i64 i4, .slice a nr cr, .int .i64 (l : Int), .int .i64 1, .int .i64 (-1), .int .i64 (-1)] 65)
    rw [hsz] at h; exact h
  have O1 := Lib.hid o1; clear o1
  have O2 := Lib.hid o2; clear o2
  have O3 := Lib.hid o3; clear o3
  have HV : ∀ w', Below W.heap.size W w' → PodsX (Lo Y w.heap.size) w' (.slice al l cl) ps := fun w' h => HP.out.below (hBW.trans (h.mono hBW.size)) (Nat.le_refl _)
  have HN : ∀ w', Below W.heap.size W w' → IntsIn (Lo Y w.heap.size) w' (.slice a nr cr) zs := fun w' h => HI.out.below (hBW.trans (h.mono hBW.size)) (Nat.le_refl _)
  have HHV := Lib.hid HV; clear HV
  have HHN := Lib.hid HN; clear HN
  have HEL : Hid (ps.length = l) := HL.out.symm
  go_region_held3 (fun w' => w'.cell? ⟨w.heap.size, 0, none⟩ = some (.int .i64 i1) ∧ w'.cell? ⟨w.heap.size, 1, none⟩ = some (.int .i64 i2) ∧ w'.cell? ⟨w.heap.size, 2, none⟩ = some (.bool b3) ∧ w'.cell? ⟨w.heap.size, 3, none⟩ = some (.int .i64 i4) ∧ w'.cell? ⟨w.heap.size, 4, none⟩ = some (.slice a nr cr) ∧ w'.cell? ⟨w.heap.size, 5, none⟩ = some (.int .i64 (l : Int)) ∧ w'.cell? ⟨w.heap.size, 6, none⟩ = some (.int .i64 1) ∧ w'.cell? ⟨w.heap.size, 7, none⟩ = some (.int .i64 (-1)) ∧ w'.cell? ⟨w.heap.size, 8, none⟩ = some (.int .i64 (-1)))
    (first
      | exact HK.out _ hg2
      | exact HK.out _ (hg1.alloc hg1.size _)
      | exact HK.out _ hg1
      | exact HK.out _ ((hv0.alloc (Nat.le_refl _) _).alloc (by simp) _)
      | exact HK.out _ (hv0.alloc (Nat.le_refl _) _)
      | go_keep)
    (first
    | (rw [if_pos (by rfl)]; (refine wp_append_all (B := w.heap.size) (.tmp 25) (.tmp 26) rfl (w.heap.size + 1) _ rfl O1.out _ ps rfl (HHV.out _ e1) (by rw [HEL.out]; omega) (by simp [hsz]) (Nat.le_succ _) ?_); intro v1 w1 hown hgr hgro; obtain ⟨ao, co, rfl⟩ := hown.shape; have hg1 : Below W.heap.size W w1 := e1.trans (hgr.mono (by rw [hsz]; exact Nat.le_refl _)); have HO1 := Lib.hid hown; clear hown hgro hgr)
    | (rw [if_pos (by rfl)]; (refine wp_append_all (B := w.heap.size) (.tmp 25) (.tmp 26) rfl (w.heap.size + 1 + 1) _ rfl O2.out _ ps rfl (HHV.out _ e2) (by rw [HEL.out]; omega) (by simp [hsz]) (by omega) ?_); intro v1 w1 hown hgr hgro; obtain ⟨ao, co, rfl⟩ := hown.shape; have hg1 : Below W.heap.size W w1 := e2.trans (hgr.mono (by rw [hsz]; exact Nat.le_succ _)); have HO1 := Lib.hid hown; have HGR := Lib.hid hgr; clear hown hgro hgr)
    | (rw [if_pos (by rfl)]; (refine wp_append_all (B := w.heap.size) (.tmp 25) (.tmp 26) rfl (w.heap.size + 1) _ rfl O3.out _ ps rfl (HHV.out _ e3) (by rw [HEL.out]; omega) (by simp [hsz]; try omega) (Nat.le_succ _) ?_); intro v1 w1 hown hgr hgro; obtain ⟨ao, co, rfl⟩ := hown.shape; have hg1 : Below W.heap.size W w1 := e3.trans (hgr.mono (by rw [hsz]; exact Nat.le_refl _)); have HO1 := Lib.hid hown; have HGO : Hid (World.grownBy _ w1 (some (w.heap.size + 1))) := hgro; clear hown hgro hgr)
    | (rw [if_pos (by rfl)]; (refine wp_append_pod (B := w.heap.size) (.tmp 27) (.tmp 29) rfl (w.heap.size + 1) _ ps rfl (HO1.out.below ((Below.refl _ w1).alloc (Nat.le_refl _) _) (by have := hg1.size; omega)) w1.heap.size ⟨i1, i2, b3, i4, zs, l, 1, -1, -1⟩ (.slice a nr cr) rfl (cells9_of (by go_simp) (by go_simp) (by go_simp) (by go_simp) (by go_simp) (by go_simp) (by go_simp) (by go_simp) (by go_simp)) (HHN.out _ (hg1.alloc hg1.size _)) (by rw [HEL.out]; omega) (by have := hg1.size; simp; omega) (Nat.le_succ _) ?_); intro v2 w2 hown2 hgr2; obtain ⟨ao2, co2, rfl⟩ := hown2.shape; have hg2 : Below W.heap.size W w2 := (hg1.alloc hg1.size _).trans (hgr2.mono (by rw [hsz]; exact Nat.le_refl _)); have HO2 := Lib.hid (hown2.low (base' := w.heap.size) (by omega)); clear hown2 hgr2)
    | (rw [if_pos (by rfl)]; (refine wp_append_pod (B := w.heap.size) (.tmp 27) (.tmp 29) rfl (w.heap.size + 1 + 1) _ ps rfl HO1.out (w.heap.size + 1) ⟨i1, i2, b3, i4, zs, l, 1, -1, -1⟩ (.slice a nr cr) rfl (cells9_of (keepc HGR.out (by omega) (by go_simp)) (keepc HGR.out (by omega) (by go_simp)) (keepc HGR.out (by omega) (by go_simp)) (keepc HGR.out (by omega) (by go_simp)) (keepc HGR.out (by omega) (by go_simp)) (keepc HGR.out (by omega) (by go_simp)) (keepc HGR.out (by omega) (by go_simp)) (keepc HGR.out (by omega) (by go_simp)) (keepc HGR.out (by omega) (by go_simp))) (HHN.out _ hg1) (by rw [HEL.out]; omega) (by have := HGR.out.size; simp at this; omega) (by omega) ?_); intro v2 w2 hown2 hgr2; obtain ⟨ao2, co2, rfl⟩ := hown2.shape; have hg2 : Below W.heap.size W w2 := hg1.trans (hgr2.mono (by rw [hsz]; exact Nat.le_succ _)); have HO2 := Lib.hid (hown2.low (base' := w.heap.size) (by omega)); clear hown2 hgr2)
    | (rw [if_pos (by rfl)]; (refine wp_append_pod (B := w.heap.size) (.tmp 27) (.tmp 29) rfl (w.heap.size + 1) _ ps rfl HO1.out (w.heap.size + 1 + 1) ⟨i1, i2, b3, i4, zs, l, 1, -1, -1⟩ (.slice a nr cr) rfl (cells9_of (HGO.out.cell (by go_simp) (by simp)) (HGO.out.cell (by go_simp) (by simp)) (HGO.out.cell (by go_simp) (by simp)) (HGO.out.cell (by go_simp) (by simp)) (HGO.out.cell (by go_simp) (by simp)) (HGO.out.cell (by go_simp) (by simp)) (HGO.out.cell (by go_simp) (by simp)) (HGO.out.cell (by go_simp) (by simp)) (HGO.out.cell (by go_simp) (by simp))) (HHN.out _ hg1) (by rw [HEL.out]; omega) (by have := hg1.size; omega) (Nat.le_succ _) ?_); intro v2 w2 hown2 hgr2; obtain ⟨ao2, co2, rfl⟩ := hown2.shape; have hg2 : Below W.heap.size W w2 := hg1.trans (hgr2.mono (by rw [hsz]; exact Nat.le_refl _)); have HO2 := Lib.hid (hown2.low (base' := w.heap.size) (by omega)); clear hown2 hgr2)
    | (trace_state; fail))
  all_goals
    have hfin := hBW.trans (hg2.mono hBW.size)
    go_wp2
    go_ret2
    exact ⟨_, rfl, by have h := HO2.out; rw [List.length_append] at h; exact h, hfin⟩
end Go.Proofs.YtcegipkhmibdeaaDoor
/- hammockref13.Submit and hammockref13.Apply at any list. -/
namespace Go.Proofs.YtcegipkhmibdeaaDoor
set_option linter.all false
open Go.RowKit

theorem refSubmit_any (p : Pod) (rv : Value) (v : Value) (ps : List Pod) (size : Int) (Y : Nat → Prop) (w : World) (hx : (ps.length + 1) * 88 ≤ 140737488351232) (hl : PodsX Y w v ps) (hi : IntsIn Y w rv p.req) :
    Calls Tryd.prog 59 #[v, .int .i64 size, podV p rv] w fun e w' => ∃ v', e = .returned (.tuple #[v', .int .i64 (subR ps size p).2]) ∧ PodsX (fun b => Y b ∨ w.heap.size ≤ b) w' v' (subR ps size p).1 ∧ Below w.heap.size w w' := by
  obtain ⟨al, cl, rfl⟩ := hl.pods.len
  obtain ⟨i1, i2, b3, i4, zs, i6, i7, i8, i9⟩ := p
  obtain ⟨a, cr, rfl, -⟩ := id hi
  unfold subR
  by_cases h0 : 0 ≤ findI ps 0 i1
  · refine (refSubmit_old i1 i2 b3 i4 a zs.length cr i6 i7 i8 i9 al cl ps size w (by omega) hl.pods (.inl h0)).mono ?_
    rintro e w' ⟨rfl, hb⟩
    refine ⟨.slice al ps.length cl, ?_, ?_, hb⟩
    · simp only [if_pos h0]
    · simp only [if_pos h0]; exact (hl.within.below hb (Nat.le_refl _)).imp fun b _ hx => .inl hx.1
  by_cases h1 : size ≤ (ps.length : Int)
  · refine (refSubmit_old i1 i2 b3 i4 a zs.length cr i6 i7 i8 i9 al cl ps size w (by omega) hl.pods (.inr h1)).mono ?_
    rintro e w' ⟨rfl, hb⟩
    refine ⟨.slice al ps.length cl, ?_, ?_, hb⟩
    · simp only [if_neg h0, if_pos h1]
    · simp only [if_neg h0, if_pos h1]; exact (hl.within.below hb (Nat.le_refl _)).imp fun b _ hx => .inl hx.1
  · refine (refSubmit_new i1 i2 b3 i4 zs a zs.length cr i6 i7 i8 i9 al cl ps size Y w hx hl hi h0 h1).mono ?_
    rintro e w' ⟨v', rfl, ho, hb⟩
    refine ⟨v', ?_, ?_, hb⟩
    · simp only [if_neg h0, if_neg h1]
    · simp only [if_neg h0, if_neg h1]; exact ho.podsX.imp fun b _ hx => hx.imp (fun h => h.1) id

/-- Pods in a block of their own, from its first cell on. -/
structure PodRowAt (Y : Nat → Prop) (B : Nat) (w : World) (g : Nat) (a : Option Addr) (ps : List Pod) : Prop where
  addr : 0 < ps.length → a = some ⟨g, 0, none⟩
  lt : 0 < ps.length → g < w.heap.size
  ge : 0 < ps.length → B ≤ g
  cells : ∀ j, j < ps.length → ∃ rv, PodCells w g (j * 9) (podAt ps j) rv ∧ IntsIn (Lo Y B) w rv (podAt ps j).req
  free : 0 < ps.length → ∀ o, w.frozen? ⟨g, o, none⟩ = false
theorem podRow_at {Y : Nat → Prop} {B base : Nat} {w : World} {v : Value} {ps : List Pod} (h : OwnPods (Lo Y B) base w v ps) (hB : B ≤ base) : ∃ a cap g, v = .slice a ps.length cap ∧ PodRowAt Y B w g a ps := by
  have hp := h.pods
  obtain ⟨rvs, hl, hr, hi⟩ := h
  rcases hr.2 with ⟨rfl, h0⟩ | ⟨g, cap, cur, rfl, hb, hg, hn, hc, hs, ht⟩
  · refine ⟨none, 0, 0, by rw [h0], fun h1 => by omega, fun h1 => by omega, fun h1 => by omega, fun j hj => by omega, fun h1 => by omega⟩
  · refine ⟨_, cap, g, rfl, fun _ => rfl, fun _ => (Array.getElem?_eq_some_iff.1 hg).1, fun _ => by omega, fun j hj => ?_, fun _ o => hr.frozenAt o⟩
    obtain ⟨a', cap', e, h2⟩ := hp
    cases e
    rcases h2 with rfl | ⟨b, off, e, _, hcs⟩
    · simp at hj
    · cases e
      refine ⟨rvs.getD j undef, ?_, hi j hj⟩
      have key : ∀ f u, f < 9 → (cells9 (podAt ps j) (rvs.getD j undef))[f]? = some u → w.cell? ⟨g, j * 9 + f, none⟩ = some u := fun f u hf hu => by
        have h1 := hr.cells (g := g) rfl (j * 9 + f) u (by rw [podRow_get ps rvs j f hl hj hf]; exact hu)
        rw [add_mk, Nat.zero_add] at h1
        exact h1
      exact ⟨key 0 _ (by omega) rfl, key 1 _ (by omega) rfl, key 2 _ (by omega) rfl, key 3 _ (by omega) rfl, key 4 _ (by omega) rfl, key 5 _ (by omega) rfl, key 6 _ (by omega) rfl, key 7 _ (by omega) rfl, key 8 _ (by omega) rfl⟩
theorem podAt_set {ps : List Pod} {k j : Nat} {p : Pod} (hk : k < ps.length) : podAt (ps.set k p) j = if j = k then p else podAt ps j := by
  unfold podAt
  rw [List.getD_eq_getElem?_getD, List.getD_eq_getElem?_getD, List.getElem?_set]
  by_cases h : j = k
  · subst h; simp [hk]
  · simp [Ne.symm h, h]
/-- One pod's cells turned. -/
theorem PodRowAt.turn {Y : Nat → Prop} {B g k cap : Nat} {w w' : World} {a : Option Addr} {ps : List Pod} {p : Pod} {rv : Value} (h : PodRowAt Y B w g a ps) (hk : k < ps.length) (hsz : w'.heap.size = w.heap.size) (hne : ∀ b o, b ≠ g → w'.cell? ⟨b, o, none⟩ = w.cell? ⟨b, o, none⟩)
    (hout : ∀ o, (o < k * 9 ∨ k * 9 + 9 ≤ o) → w'.cell? ⟨g, o, none⟩ = w.cell? ⟨g, o, none⟩) (hp : PodCells w' g (k * 9) p rv) (hi : IntsIn (Lo Y B) w rv p.req) : PodsX (fun b => Y b ∨ B ≤ b) w' (.slice a ps.length cap) (ps.set k p) := by
  have hge := h.ge (by omega)
  have keep : ∀ {v zs}, IntsIn (Lo Y B) w v zs → IntsIn (fun b => Y b ∨ B ≤ b) w' v zs := by
    rintro v zs ⟨a, cap, rfl, h | ⟨b, off, rfl, hX, hlt, hc⟩⟩
    · exact ⟨a, cap, rfl, .inl h⟩
    · exact ⟨_, cap, rfl, .inr ⟨b, off, rfl, .inl hX.1, by omega, fun j hj => by rw [hne b _ (by have := hX.2; omega)]; exact hc j hj⟩⟩
  refine ⟨a, cap, by rw [List.length_set], .inr ⟨g, 0, h.addr (by omega), .inr hge, by rw [hsz]; exact h.lt (by omega), fun j hj => ?_⟩⟩
  rw [List.length_set] at hj
  rw [podAt_set hk, Nat.zero_add]
  by_cases hjk : j = k
  · subst hjk
    rw [if_pos rfl]
    exact ⟨rv, hp, keep hi⟩
  · rw [if_neg hjk]
    obtain ⟨rv', ⟨h0, h1, h2, h3, h4, h5, h6, h7, h8⟩, hi'⟩ := h.cells j hj
    have ho : ∀ f, f < 9 → j * 9 + f < k * 9 ∨ k * 9 + 9 ≤ j * 9 + f := fun f hf => by omega
    refine ⟨rv', ⟨?_, ?_, ?_, ?_, ?_, ?_, ?_, ?_, ?_⟩, keep hi'⟩
    · rw [hout (j * 9) (by omega)]; exact h0
    · rw [hout _ (ho 1 (by omega))]; exact h1
    · rw [hout _ (ho 2 (by omega))]; exact h2
    · rw [hout _ (ho 3 (by omega))]; exact h3
    · rw [hout _ (ho 4 (by omega))]; exact h4
    · rw [hout _ (ho 5 (by omega))]; exact h5
    · rw [hout _ (ho 6 (by omega))]; exact h6
    · rw [hout _ (ho 7 (by omega))]; exact h7
    · rw [hout _ (ho 8 (by omega))]; exact h8
/-- A pod behind an event that applies. -/
def turned (p : Pod) (ev node dead : Int) : Pod := { p with ph := nx p.ph ev, node := if ev = 1 ∨ ev = 2 then node else if ev = 3 ∨ ev = 5 then -1 else p.node, dead := if ev = 4 then dead else -1 }
/-- The list afterwards, and the code. -/
def appR (ps : List Pod) (id ev node dead : Int) : List Pod × Int :=
  if findI ps 0 id < 0 then (ps, 5) else if nx (podAt ps (findI ps 0 id).toNat).ph ev = 0 then (ps, 8) else (ps.set (findI ps 0 id).toNat (turned (podAt ps (findI ps 0 id).toNat) ev node dead), 0)
theorem nx_ev {x e : Int} (h : ¬ nx x e = 0) : e = 1 ∨ e = 2 ∨ e = 3 ∨ e = 4 ∨ e = 5 := by
  by_cases e1 : e = 1
  · exact .inl e1
  by_cases e2 : e = 2
  · exact .inr (.inl e2)
  by_cases e3 : e = 3
  · exact .inr (.inr (.inl e3))
  by_cases e4 : e = 4
  · exact .inr (.inr (.inr (.inl e4)))
  by_cases e5 : e = 5
  · exact .inr (.inr (.inr (.inr e5)))
  exact absurd (by simp [nx, e1, e2, e3, e4, e5]) h
theorem findI_bound : ∀ (ps : List Pod) (k : Nat) (id : Int), findI ps k id = -1 ∨ ((k : Int) ≤ findI ps k id ∧ findI ps k id < k + ps.length)
  | [], _, _ => .inl rfl
  | p :: ps, k, id => by
    unfold findI
    split
    · right; simp; omega
    · rcases findI_bound ps (k + 1) id with h | h
      · exact .inl h
      · right; simp; omega
set_option maxHeartbeats 2000000 in
set_option maxRecDepth 100000 in
theorem refApply_none (id ev node dead : Int) (al : Option Addr) (cl : Nat) (ps : List Pod) (w : World) (hx : ps.length * 9 * 8 ≤ 140737488351232) (hl : PodsAt w (.slice al ps.length cl) ps) (h : findI ps 0 id < 0) :
    Calls Tryd.prog 109 #[.slice al ps.length cl, .int .i64 id, .int .i64 ev, .int .i64 node, .int .i64 dead] w fun e w' => e = .returned (.tuple #[.slice al ps.length cl, .int .i64 5]) ∧ Below w.heap.size w w' := by
  have HF := Lib.hid (find_any (.slice al ps.length cl) ps id w hx hl)
  generalize findI ps 0 id = f at *
  clear hl
  generalize ps.length = l at *
  go_enter Tryd.func109, Tryd.ntmps109
  go_wp2_with fail
  refine HF.out.mono ?_
  rintro e w1 ⟨rfl, rfl⟩
  go_wp2
  go_ret2
  exact ⟨rfl, Below.refl _ _⟩
set_option maxHeartbeats 2000000 in
set_option maxRecDepth 100000 in
theorem refApply_bad (k : Nat) (id ev node dead : Int) (al : Option Addr) (cl : Nat) (ps : List Pod) (w : World) (b off : Nat) (hx : ps.length * 9 * 8 ≤ 140737488351232) (hl : PodsAt w (.slice al ps.length cl) ps) (h : findI ps 0 id = (k : Int)) (hk : k < ps.length) (hal : al = some ⟨b, off, none⟩)
    (hc : ∃ rv, PodCells w b (off + k * 9) (podAt ps k) rv) (hn : nx (podAt ps k).ph ev = 0) :
    Calls Tryd.prog 109 #[.slice al ps.length cl, .int .i64 id, .int .i64 ev, .int .i64 node, .int .i64 dead] w fun e w' => e = .returned (.tuple #[.slice al ps.length cl, .int .i64 8]) ∧ Below w.heap.size w w' := by
  have HF := Lib.hid (find_any (.slice al ps.length cl) ps id w hx hl)
  rw [h] at HF
  obtain ⟨rv, -, -, -, -, -, -, h6, -, -⟩ := hc
  have HN := Lib.hid (refNext_any (podAt ps k).ph ev)
  generalize (podAt ps k).ph = x at *
  rw [hn] at HN
  clear hl h hn
  generalize ps.length = l at *
  subst hal
  have hki : (0 : Int) ≤ (k : Int) := by omega
  have hkl : (k : Int) < (l : Int) := by omega
  go_enter Tryd.func109, Tryd.ntmps109
  go_wp2_with fail
  refine HF.out.mono ?_
  rintro e w1 ⟨rfl, rfl⟩
  go_wp2_with fail
  refine (HN.out _).mono ?_
  rintro e w1 ⟨rfl, rfl⟩
  go_wp2
  go_ret2
  exact ⟨rfl, Below.refl _ _⟩
set_option maxHeartbeats 4000000 in
set_option maxRecDepth 100000 in
theorem refApply_good (Y : Nat → Prop) (k : Nat) (id ev node dead : Int) (al : Option Addr) (cl : Nat) (ps : List Pod) (w : World) (b off : Nat) (hx : ps.length * 88 ≤ 140737488351232) (hl : PodsX Y w (.slice al ps.length cl) ps) (h : findI ps 0 id = (k : Int)) (hk : k < ps.length) (hal : al = some ⟨b, off, none⟩)
    (hc : ∃ rv, PodCells w b (off + k * 9) (podAt ps k) rv) (hn : ¬ nx (podAt ps k).ph ev = 0) :
    Calls Tryd.prog 109 #[.slice al ps.length cl, .int .i64 id, .int .i64 ev, .int .i64 node, .int .i64 dead] w fun e w' => ∃ v, e = .returned (.tuple #[v, .int .i64 0]) ∧ PodsX (fun b => Y b ∨ w.heap.size ≤ b) w' v (ps.set k (turned (podAt ps k) ev node dead)) ∧ Below w.heap.size w w' := by
  have HF := Lib.hid (find_any (.slice al ps.length cl) ps id w (by omega) hl.pods)
  rw [h] at HF
  obtain ⟨rv, -, -, -, -, -, -, h6, -, -⟩ := hc
  have HN := Lib.hid (refNext_any (podAt ps k).ph ev)
  have hev5 := nx_ev hn
  have HP := Lib.hid hl.within; clear hl
  have HT : Hid (turned (podAt ps k) ev node dead = turned (podAt ps k) ev node dead) := rfl
  generalize hq : podAt ps k = q at *
  have hto : (nx q.ph ev == 0) = false := by simp [hn]
  generalize hto' : nx q.ph ev = to at *
  have HTO := Lib.hid hto'; clear hto'
  have HQ := Lib.hid hq; clear hq
  clear h hn
  obtain ⟨l, hll⟩ : ∃ l, l = ps.length := ⟨_, rfl⟩
  rw [← hll] at HF HP hk hx ⊢
  have HL := Lib.hid hll; clear hll
  subst hal
  have hki : (0 : Int) ≤ (k : Int) := by omega
  have hkl : (k : Int) < (l : Int) := by omega
  rcases hev5 with rfl | rfl | rfl | rfl | rfl
  all_goals
    go_enter Tryd.func109, Tryd.ntmps109
    go_wp2_with fail
    refine HF.out.mono ?_
    rintro e w1 ⟨rfl, rfl⟩
    go_wp2_with fail
    refine (HN.out _).mono ?_
    rintro e w1 ⟨rfl, rfl⟩
    have hown : (w.alloc (.cells #[] 65)).ownsRow w.heap.size 65 9 (.slice (some ⟨w.heap.size, 0, none⟩) 0 0) 0 [] := World.ownsRow_made w #[] 0 (Nat.le_refl _) (by decide) rfl
    have hP1 := HP.out.below ((Below.refl _ w).alloc (Nat.le_refl _) (.cells #[] 65)) (Nat.le_refl _)
    have HOWN := Lib.hid hown; clear hown
    have HP1 := Lib.hid hP1; clear hP1
    have hlen : ps.length * 88 ≤ 140737488351232 := by rw [← HL.out]; exact hx
    have HLEN := Lib.hid hlen; clear hlen
    go_wp2_with (at_builtin; go_must (refine wpList_plain rfl fun K hK => wp_append_all (B := w.heap.size) _ _ rfl w.heap.size _ rfl HOWN.out _ ps rfl HP1.out HLEN.out (by simp) (Nat.le_refl _) (fun v1 w1 h1 h2 h3 => hK _ _ ?_); obtain ⟨a1, c1, g, rfl, hro⟩ := podRow_at h1 (Nat.le_refl _); have hB1 : Below w.heap.size w w1 := ((Below.refl _ w).alloc (Nat.le_refl _) _).trans h2; obtain rfl := hro.addr (by have := HL.out; omega); obtain ⟨rv1, hpc, hri⟩ := hro.cells k (by have := HL.out; omega); rw [HQ.out] at hpc hri; have hfz := hro.free (by have := HL.out; omega); rw [← HL.out]; obtain ⟨q0, q1, q2, q3, q4, q5, q6, q7, q8⟩ := hpc; clear h1 h2 h3 h6))
    have hph := HTO.out
    have hge := hro.ge (by have := HL.out; omega)
    have hkp : k < ps.length := by have := HL.out; omega
    go_ret2
    refine ⟨_, rfl, ?_, ?_⟩
    · rw [HL.out]
      refine hro.turn (rv := rv1) hkp (by simp) ?_ ?_ ⟨?_, ?_, ?_, ?_, ?_, ?_, ?_, ?_, ?_⟩ hri
      · intro b' o' hb'
        repeat (rw [setCell_ne]; rotate_left; · exact .inl (Ne.symm hb'))
      · intro o' ho'
        repeat (rw [setCell_ne]; rotate_left; · right; omega)
      all_goals ((try simp only [turned, hph]); first | (go_simp; done) | exact World.cell?_setCell_same' _ _ _ (by rw [World.cell?_setCell_same' _ _ _ (by rw [show (w1.setCell ⟨g, k * 9 + 6, none⟩ (.int .i64 to)).cell? ⟨g, k * 9 + 8, none⟩ = some (.int .i64 q.dead) by go_simp]; rfl)]; rfl))
    · repeat (first | (with_reducible exact hB1) | (with_reducible refine Below.setCell ?_ (by exact hge) _))
theorem refApply_any (id ev node dead : Int) (v : Value) (ps : List Pod) (w : World) (Y : Nat → Prop) (hx : ps.length * 88 ≤ 140737488351232) (hl : PodsX Y w v ps) :
    Calls Tryd.prog 109 #[v, .int .i64 id, .int .i64 ev, .int .i64 node, .int .i64 dead] w fun e w' => ∃ v', e = .returned (.tuple #[v', .int .i64 (appR ps id ev node dead).2]) ∧ PodsX (fun b => Y b ∨ w.heap.size ≤ b) w' v' (appR ps id ev node dead).1 ∧ Below w.heap.size w w' := by
  have hl2 := hl
  obtain ⟨al, cl, rfl, hl'⟩ := hl2
  unfold appR
  rcases findI_bound ps 0 id with h | ⟨h1, h2⟩
  · have hneg : findI ps 0 id < 0 := by omega
    refine (refApply_none id ev node dead al cl ps w (by omega) hl.pods hneg).mono ?_
    rintro e w' ⟨rfl, hb⟩
    refine ⟨.slice al ps.length cl, ?_, ?_, hb⟩
    · simp only [if_pos hneg]
    · simp only [if_pos hneg]; exact (hl.within.below hb (Nat.le_refl _)).imp fun b _ hx => .inl hx.1
  · have hneg : ¬ findI ps 0 id < 0 := by omega
    obtain ⟨k, hk⟩ : ∃ k : Nat, findI ps 0 id = (k : Int) := ⟨(findI ps 0 id).toNat, by omega⟩
    have hkl : k < ps.length := by omega
    have hkt : (findI ps 0 id).toNat = k := by omega
    rcases hl' with h0 | ⟨b, off, rfl, _, hlt, hc⟩
    · subst h0; simp at hkl
    · obtain ⟨rv, hpc, -⟩ := hc k hkl
      by_cases hn : nx (podAt ps k).ph ev = 0
      · refine (refApply_bad k id ev node dead _ cl ps w b off (by omega) hl.pods hk hkl rfl ⟨rv, hpc⟩ hn).mono ?_
        rintro e w' ⟨rfl, hb⟩
        refine ⟨.slice (some ⟨b, off, none⟩) ps.length cl, ?_, ?_, hb⟩
        · simp only [if_neg hneg, hkt, if_pos hn]
        · simp only [if_neg hneg, hkt, if_pos hn]; exact (hl.within.below hb (Nat.le_refl _)).imp fun b _ hx => .inl hx.1
      · refine (refApply_good Y k id ev node dead _ cl ps w b off hx hl hk hkl rfl ⟨rv, hpc⟩ hn).mono ?_
        rintro e w' ⟨v', rfl, hp, hb⟩
        refine ⟨v', ?_, ?_, hb⟩
        · simp only [if_neg hneg, hkt, if_neg hn]
        · simp only [if_neg hneg, hkt, if_neg hn]; exact hp
end Go.Proofs.YtcegipkhmibdeaaDoor
/- The map of a table of pods: what a look-up finds, what an entry more or a turned entry leaves. -/
namespace Go.Proofs.YtcegipkhmibdeaaDoor
set_option linter.all false
open Go.RowKit

theorem findI_none {ps : List Pod} {id : Int} : ∀ {k : Nat}, findI ps k id = -1 → ∀ p ∈ ps, p.id ≠ id := by
  induction ps with
  | nil => intro k h p hp; simp at hp
  | cons q ps ih =>
    intro k h p hp
    unfold findI at h
    split at h
    · omega
    · rcases List.mem_cons.1 hp with rfl | hp
      · assumption
      · exact ih h p hp
theorem findI_some {ps : List Pod} {id : Int} : ∀ {k i : Nat}, findI ps k id = (i : Int) → k ≤ i ∧ i - k < ps.length ∧ (podAt ps (i - k)).id = id ∧ ∀ j, j < i - k → (podAt ps j).id ≠ id := by
  induction ps with
  | nil => intro k i h; unfold findI at h; omega
  | cons q ps ih =>
    intro k i h
    unfold findI at h
    split at h
    · rename_i hq
      obtain rfl : k = i := by omega
      refine ⟨Nat.le_refl _, by simp, ?_, fun j hj => by omega⟩
      rw [Nat.sub_self]; first | done | exact hq
    · rename_i hq
      obtain ⟨h1, h2, h3, h4⟩ := ih h
      have e : i - k = (i - (k + 1)) + 1 := by omega
      refine ⟨by omega, by simp; omega, ?_, fun j hj => ?_⟩
      · rw [e]; exact h3
      · cases j with
        | zero => exact hq
        | succ j => exact h4 j (by omega)
/-- The entries of a table of pods, in the order of their arrival. -/
def Entries (ps : List Pod) (rvs : List Value) : List (Value × Value) := (ps.zip rvs).map fun x => (Value.int .i64 x.1.id, podV x.1 x.2)
theorem findNow_none {ps : List Pod} {id : Int} : ∀ {rvs : List Value} {es : List MapEntry} {i : Nat}, rvs.length = ps.length → es.map (fun e => (e.key, e.val)) = Entries ps rvs → (∀ p ∈ ps, p.id ≠ id) →
    Instr.findNow (.int .i64) (.int .i64 id) es i = some none := by
  induction ps with
  | nil => intro rvs es i hl h _; cases es with
    | nil => rfl
    | cons e es => simp [Entries] at h
  | cons q ps ih =>
    intro rvs es i hl h hn
    cases rvs with
    | nil => simp at hl
    | cons r rvs =>
      cases es with
      | nil => simp [Entries] at h
      | cons e es =>
        simp only [Entries, List.zip_cons_cons, List.map_cons, List.cons.injEq, Prod.mk.injEq] at h
        have hq : (id == q.id) = false := by have := hn q (by simp); simp; exact fun h => this h.symm
        unfold Instr.findNow
        rw [h.1.1]
        simp only [Instr.sameNow, if_true, hq]
        exact ih (by simpa using hl) h.2 (fun p hp => hn p (by simp [hp]))
theorem findNow_some {ps : List Pod} {id : Int} : ∀ {rvs : List Value} {es : List MapEntry} {i k : Nat}, rvs.length = ps.length → es.map (fun e => (e.key, e.val)) = Entries ps rvs → k < ps.length → (podAt ps k).id = id → (∀ j, j < k → (podAt ps j).id ≠ id) →
    Instr.findNow (.int .i64) (.int .i64 id) es i = some (some (i + k, podV (podAt ps k) (rvs.getD k undef))) := by
  induction ps with
  | nil => intro rvs es i k hl h hk; simp at hk
  | cons q ps ih =>
    intro rvs es i k hl h hk hid hne
    cases rvs with
    | nil => simp at hl
    | cons r rvs =>
      cases es with
      | nil => simp [Entries] at h
      | cons e es =>
        simp only [Entries, List.zip_cons_cons, List.map_cons, List.cons.injEq, Prod.mk.injEq] at h
        unfold Instr.findNow
        rw [h.1.1]
        cases k with
        | zero =>
          have hq : (id == q.id) = true := by have : q.id = id := hid; simp [this]
          simp only [Instr.sameNow, if_true, hq]
          rw [h.1.2]; rfl
        | succ k =>
          have hq : (id == q.id) = false := by have : q.id ≠ id := hne 0 (by omega); simp; exact fun h => this h.symm
          simp only [Instr.sameNow, if_true, hq]
          have := ih (i := i + 1) (k := k) (by simpa using hl) h.2 (by simpa using hk) hid (fun j hj => hne (j + 1) (by omega))
          rw [this, Nat.add_assoc, Nat.add_comm 1 k]; rfl
/-- A map that holds these pods. -/
def MapAt (w : World) (bm : Nat) (ps : List Pod) (rvs : List Value) : Prop :=
  ∃ es clock, w.heap[bm]? = some (.map es clock) ∧ es.toList.map (fun e => (e.key, e.val)) = Entries ps rvs ∧ rvs.length = ps.length
def pod0 : Pod := ⟨0, 0, false, 0, [], 0, 0, 0, 0⟩
theorem zeroPod (w : World) : (zeroValue 65).run Tryd.prog w = .ok (podV pod0 (.slice none 0 0)) w := by kernel_rfl
theorem checkInt (em : Bool) (id : Int) (w : World) : (Instr.checkKey em 10000 3 (.int .i64 id)).run Tryd.prog w = .ok () w := by kernel_rfl
theorem look_none {w : World} {bm : Nat} {ps : List Pod} {rvs : List Value} (h : MapAt w bm ps rvs) {id : Int} (hn : findI ps 0 id = -1) :
    (Instr.lookup 165 (.map (some bm)) (.int .i64 id) true).run Tryd.prog w = .ok (.tuple #[podV pod0 (.slice none 0 0), .bool false]) w := by
  obtain ⟨es, clock, hb, he, hl⟩ := h
  have hf := MapKept.run_findKey (w := w) Tryd.underlying3 (findNow_none (i := 0) hl he (findI_none hn))
  simp only [Instr.lookup, Sem.run_bind, run_underlying Tryd.underlying165, Result.andThen_ok, MapKept.run_getObj_map hb, Sem.run_pure, checkInt, hf, zeroPod]
  rfl
theorem look_some {w : World} {bm : Nat} {ps : List Pod} {rvs : List Value} (h : MapAt w bm ps rvs) {id : Int} {k : Nat} (hn : findI ps 0 id = (k : Int)) :
    (Instr.lookup 165 (.map (some bm)) (.int .i64 id) true).run Tryd.prog w = .ok (.tuple #[podV (podAt ps k) (rvs.getD k undef), .bool true]) w := by
  obtain ⟨es, clock, hb, he, hl⟩ := h
  obtain ⟨-, h2, h3, h4⟩ := findI_some hn
  rw [Nat.sub_zero] at h2 h3 h4
  have hf := MapKept.run_findKey (w := w) Tryd.underlying3 (findNow_some (i := 0) hl he h2 h3 h4)
  simp only [Instr.lookup, Sem.run_bind, run_underlying Tryd.underlying165, Result.andThen_ok, MapKept.run_getObj_map hb, Sem.run_pure, checkInt, hf]
  rfl
theorem entries_snoc : ∀ (ps : List Pod) (rvs : List Value) (p : Pod) (rv : Value), rvs.length = ps.length → Entries (ps ++ [p]) (rvs ++ [rv]) = Entries ps rvs ++ [(Value.int .i64 p.id, podV p rv)] := by
  intro ps rvs p rv h
  unfold Entries
  rw [List.zip_append h.symm, List.map_append]; rfl
theorem entries_set : ∀ (ps : List Pod) (rvs : List Value) (k : Nat) (p : Pod) (rv : Value), rvs.length = ps.length → k < ps.length → Entries (ps.set k p) (rvs.set k rv) = (Entries ps rvs).set k (Value.int .i64 p.id, podV p rv)
  | [], _, k, p, rv, _, hk => by simp at hk
  | _ :: _, [], _, _, _, h, _ => by simp at h
  | q :: ps, r :: rvs, 0, p, rv, h, hk => by simp [Entries]
  | q :: ps, r :: rvs, k + 1, p, rv, h, hk => by
    have := entries_set ps rvs k p rv (by simpa using h) (by simpa using hk)
    simp only [Entries, List.set_cons_succ, List.zip_cons_cons, List.map_cons] at this ⊢
    rw [this]
/-- An entry more. -/
theorem upd_new {w : World} {bm : Nat} {ps : List Pod} {rvs : List Value} (h : MapAt w bm ps rvs) {p : Pod} {rv : Value} (hn : findI ps 0 p.id = -1) :
    ∃ o, (Instr.mapUpdate 165 (.map (some bm)) (.int .i64 p.id) (podV p rv)).run Tryd.prog w = .ok () { w with heap := w.heap.setIfInBounds bm o } ∧ MapAt { w with heap := w.heap.setIfInBounds bm o } bm (ps ++ [p]) (rvs ++ [rv]) := by
  obtain ⟨es, clock, hb, he, hl⟩ := h
  have hf := MapKept.run_findKey (w := w) Tryd.underlying3 (findNow_none (i := 0) hl he (findI_none hn))
  refine ⟨.map (es.push { key := .int .i64 p.id, val := podV p rv, born := clock }) (clock + 1), ?_, ?_⟩
  · simp only [Instr.mapUpdate, Sem.run_bind, run_underlying Tryd.underlying165, Result.andThen_ok, MapKept.run_getObj_map hb, checkInt, hf]
    rw [MapKept.run_setObj_map _ hb]
  · refine ⟨_, _, (MapKept.heap_set hb).1, ?_, by simp [hl]⟩
    rw [entries_snoc ps rvs p rv hl, Array.toList_push, List.map_append, he]; rfl
theorem stays (a : Int) (w : World) : (Instr.keyThatStays (.int .i64 a) (.int .i64 a)).run Tryd.prog w = .ok (.int .i64 a) w := by
  simp [Instr.keyThatStays, Instr.sameBits, Sem.run_pure]
theorem list_modify_set {α : Type} : ∀ (l : List α) (k : Nat) (f : α → α) (x : α), l[k]? = some x → l.modify k f = l.set k (f x)
  | [], k, f, x, h => by simp at h
  | a :: l, 0, f, x, h => by cases h; simp
  | a :: l, k + 1, f, x, h => by
    have := list_modify_set l k f x (by simpa using h)
    simp [this]
theorem entries_get : ∀ (ps : List Pod) (rvs : List Value) (k : Nat), rvs.length = ps.length → k < ps.length → (Entries ps rvs)[k]? = some (Value.int .i64 (podAt ps k).id, podV (podAt ps k) (rvs.getD k undef))
  | [], _, k, _, hk => by simp at hk
  | _ :: _, [], _, h, _ => by simp at h
  | q :: ps, r :: rvs, 0, h, hk => by simp [Entries, podAt]
  | q :: ps, r :: rvs, k + 1, h, hk => by
    have := entries_get ps rvs k (by simpa using h) (by simpa using hk)
    simp only [Entries, List.zip_cons_cons, List.map_cons, List.getElem?_cons_succ] at this ⊢
    exact this
/-- An entry turned. -/
theorem upd_set {w : World} {bm : Nat} {ps : List Pod} {rvs : List Value} (h : MapAt w bm ps rvs) {p : Pod} {rv : Value} {k : Nat} (hn : findI ps 0 p.id = (k : Int)) :
    ∃ o, (Instr.mapUpdate 165 (.map (some bm)) (.int .i64 p.id) (podV p rv)).run Tryd.prog w = .ok () { w with heap := w.heap.setIfInBounds bm o } ∧ MapAt { w with heap := w.heap.setIfInBounds bm o } bm (ps.set k p) (rvs.set k rv) := by
  obtain ⟨es, clock, hb, he, hl⟩ := h
  obtain ⟨-, h2, h3, h4⟩ := findI_some hn
  rw [Nat.sub_zero] at h2 h3 h4
  have hf := MapKept.run_findKey (w := w) Tryd.underlying3 (findNow_some (i := 0) hl he h2 h3 h4)
  rw [Nat.zero_add] at hf
  have hget := entries_get ps rvs k hl h2
  rw [← he, List.getElem?_map] at hget
  obtain ⟨e0, he0, hk0⟩ : ∃ e0, es.toList[k]? = some e0 ∧ (e0.key, e0.val) = (Value.int .i64 (podAt ps k).id, podV (podAt ps k) (rvs.getD k undef)) := by
    cases hx : es.toList[k]? with
    | none => rw [hx] at hget; cases hget
    | some e0 => rw [hx] at hget; exact ⟨e0, rfl, Option.some.inj hget⟩
  have hkey : e0.key = .int .i64 p.id := by rw [(Prod.mk.inj hk0).1, h3]
  have he1 : es[k]? = some e0 := by rw [← Array.getElem?_toList]; exact he0
  refine ⟨.map (es.modify k fun e => { e with key := .int .i64 p.id, val := podV p rv }) clock, ?_, ?_⟩
  · simp only [Instr.mapUpdate, Sem.run_bind, run_underlying Tryd.underlying165, Result.andThen_ok, MapKept.run_getObj_map hb, checkInt, hf, he1, Option.map_some, Option.getD_some, hkey, stays]
    rw [MapKept.run_setObj_map _ hb]
  · refine ⟨_, _, (MapKept.heap_set hb).1, ?_, by simp [hl]⟩
    rw [entries_set ps rvs k p rv hl h2, ← he, Array.toList_modify, list_modify_set _ _ _ _ he0, List.map_set]
end Go.Proofs.YtcegipkhmibdeaaDoor
/- A store of pods in memory; pod.copied; the table's Get, has, Room. -/
namespace Go.Proofs.YtcegipkhmibdeaaDoor
set_option linter.all false
open Go.RowKit

abbrev z9 : Array Value := #[.int .i64 0, .int .i64 0, .bool false, .int .i64 0, .slice none 0 0, .int .i64 0, .int .i64 0, .int .i64 0, .int .i64 0]
/-- A result that is a pod with a request of its own. -/
def RetPod (W : World) (p : Pod) (e : Ending) (w' : World) : Prop :=
  ∃ a cap, e = .returned (podV p (.slice a p.req.length cap)) ∧ w'.ownsRow W.heap.size 2 1 (.slice a p.req.length cap) p.req.length (p.req.map (Value.int .i64)) ∧ Below W.heap.size W w'
set_option maxHeartbeats 1000000 in
set_option maxRecDepth 100000 in
theorem copied_any (p : Pod) (rv : Value) (w : World) (hz : p.req.length * 8 ≤ 140737488351232) (h : IntsAt w rv p.req) : Calls Tryd.prog 103 #[podV p rv] w (RetPod w p) := by
  have h' := h.below (((Below.refl _ w).alloc (Nat.le_refl _) (.cells #[.int .i64 p.id, .int .i64 p.prio, .bool p.pre, .int .i64 p.grace, rv, .int .i64 p.arr, .int .i64 p.ph, .int .i64 p.node, .int .i64 p.dead] 65)).alloc (by simp) (.cells z9 65))
  obtain ⟨a0, c0, rfl, -⟩ := id h
  clear h
  have HC := Lib.hid (clone_any (.slice a0 p.req.length c0) p.req _ hz h'); clear h' hz
  obtain ⟨l, hl⟩ : ∃ l, l = p.req.length := ⟨_, rfl⟩
  rw [← hl] at HC ⊢
  have HL := Lib.hid hl; clear hl
  go_enter Tryd.func103, Tryd.ntmps103
  go_wp2_with fail
  refine HC.out.mono ?_
  rintro e w' ⟨a', c', rfl, hown, hb⟩
  obtain ⟨hc, hf⟩ := bcell hb
  have hsz := hb.size
  rw [← HL.out] at hown ⊢
  have q0 : w'.cell? ⟨w.heap.size, 0, none⟩ = some (.int .i64 p.id) := by rw [hc _ _ (by simp; omega)]; go_simp
  have q1 : w'.cell? ⟨w.heap.size, 1, none⟩ = some (.int .i64 p.prio) := by rw [hc _ _ (by simp; omega)]; go_simp
  have q2 : w'.cell? ⟨w.heap.size, 2, none⟩ = some (.bool p.pre) := by rw [hc _ _ (by simp; omega)]; go_simp
  have q3 : w'.cell? ⟨w.heap.size, 3, none⟩ = some (.int .i64 p.grace) := by rw [hc _ _ (by simp; omega)]; go_simp
  have q4 : w'.cell? ⟨w.heap.size, 4, none⟩ = some (.slice a0 l c0) := by rw [hc _ _ (by simp; omega)]; go_simp
  have q5 : w'.cell? ⟨w.heap.size, 5, none⟩ = some (.int .i64 p.arr) := by rw [hc _ _ (by simp; omega)]; go_simp
  have q6 : w'.cell? ⟨w.heap.size, 6, none⟩ = some (.int .i64 p.ph) := by rw [hc _ _ (by simp; omega)]; go_simp
  have q7 : w'.cell? ⟨w.heap.size, 7, none⟩ = some (.int .i64 p.node) := by rw [hc _ _ (by simp; omega)]; go_simp
  have q8 : w'.cell? ⟨w.heap.size, 8, none⟩ = some (.int .i64 p.dead) := by rw [hc _ _ (by simp; omega)]; go_simp
  have r0 : w'.cell? ⟨w.heap.size + 1, 0, none⟩ = some (.int .i64 0) := by rw [hc _ _ (by simp)]; go_simp
  have r1 : w'.cell? ⟨w.heap.size + 1, 1, none⟩ = some (.int .i64 0) := by rw [hc _ _ (by simp)]; go_simp
  have r2 : w'.cell? ⟨w.heap.size + 1, 2, none⟩ = some (.bool false) := by rw [hc _ _ (by simp)]; go_simp
  have r3 : w'.cell? ⟨w.heap.size + 1, 3, none⟩ = some (.int .i64 0) := by rw [hc _ _ (by simp)]; go_simp
  have r4 : w'.cell? ⟨w.heap.size + 1, 4, none⟩ = some (.slice none 0 0) := by rw [hc _ _ (by simp)]; go_simp
  have r5 : w'.cell? ⟨w.heap.size + 1, 5, none⟩ = some (.int .i64 0) := by rw [hc _ _ (by simp)]; go_simp
  have r6 : w'.cell? ⟨w.heap.size + 1, 6, none⟩ = some (.int .i64 0) := by rw [hc _ _ (by simp)]; go_simp
  have r7 : w'.cell? ⟨w.heap.size + 1, 7, none⟩ = some (.int .i64 0) := by rw [hc _ _ (by simp)]; go_simp
  have r8 : w'.cell? ⟨w.heap.size + 1, 8, none⟩ = some (.int .i64 0) := by rw [hc _ _ (by simp)]; go_simp
  have hown' : w'.ownsRow (w.heap.size + 1 + 1) 2 1 (.slice a' l c') l (p.req.map (Value.int .i64)) := by simpa using hown
  have hb0 : Below w.heap.size w w' := Below.trans (((Below.refl _ w).alloc (Nat.le_refl _) _).alloc (by simp) _) (hb.mono (by simp; omega))
  clear hown hb hc
  go_wp2
  refine bodyPost_ret (v := podV p (.slice a' l c')) ?_ rfl ⟨a', c', by rw [← HL.out], ?_, ?_⟩
  · simp only [results, Tryd.results103]
    go_simp
  · rw [← HL.out]
    refine ownsRow_low ?_ (show w.heap.size ≤ w.heap.size + 1 + 1 by omega)
    repeat (first | (with_reducible exact hown') | refine ownsRow_setCell_below ?_ (by show _ < _; simp only []; omega) _)
  · repeat (first | (with_reducible exact hb0) | refine Below.setCell ?_ (by show _ ≤ _; simp only []; omega) _)

/-- The blocks of a store: its own, its table's, the map's, the row of ids. -/
structure Mem where
  bs : Nat
  bt : Nat
  bm : Nat
  gi : Nat
/-- None of the blocks that a store turns. -/
def Off (m : Mem) (b : Nat) : Prop := b ≠ m.bs ∧ b ≠ m.bm ∧ b ≠ m.gi
structure StoreAt (m : Mem) (B : Nat) (X : Nat → Prop) (w : World) (size : Int) (ps : List Pod) : Prop where
  c0 : w.cell? ⟨m.bs, 0, none⟩ = some (.pointer (some ⟨m.bt, 0, none⟩))
  t0 : w.cell? ⟨m.bt, 0, none⟩ = some (.int .i64 size)
  t1 : w.cell? ⟨m.bt, 1, none⟩ = some (.map (some m.bm))
  ids : ∃ a cap, w.cell? ⟨m.bs, 1, none⟩ = some (.slice a ps.length cap) ∧ w.ownsRow B 3 1 (.slice a ps.length cap) ps.length (ps.map fun p => .int .i64 p.id) ∧ (ps.length = 0 → a = none) ∧ (0 < ps.length → a = some ⟨m.gi, 0, none⟩)
  map : ∃ rvs, MapAt w m.bm ps rvs ∧ ∀ j, j < ps.length → IntsIn (fun b => Off m b ∧ X b) w (rvs.getD j undef) (podAt ps j).req
  f0 : ∀ j, w.frozen? ⟨m.bs, j, none⟩ = false
  bs : B ≤ m.bs
  bm : B ≤ m.bm
  gi : B ≤ m.gi
  ne : m.bt ≠ m.bs ∧ m.bt ≠ m.bm ∧ m.bs ≠ m.bm ∧ m.bt ≠ m.gi ∧ m.gi ≠ m.bm ∧ (0 < ps.length → m.gi ≠ m.bs)
theorem MapAt.lt {w : World} {bm : Nat} {ps : List Pod} {rvs : List Value} (h : MapAt w bm ps rvs) : bm < w.heap.size := by
  obtain ⟨es, clock, hb, _⟩ := h; exact (Array.getElem?_eq_some_iff.1 hb).1
theorem MapAt.below {w w' : World} {n bm : Nat} {ps : List Pod} {rvs : List Value} (h : MapAt w bm ps rvs) (hb : Below n w w') (hl : bm < n) : MapAt w' bm ps rvs := by
  obtain ⟨es, clock, h1, h2⟩ := h; exact ⟨es, clock, (hb.block bm hl).trans h1, h2⟩
theorem StoreAt.below {m : Mem} {B : Nat} {X : Nat → Prop} {w w' : World} {size : Int} {ps : List Pod} (h : StoreAt m B X w size ps) (hb : Below w.heap.size w w') : StoreAt m B X w' size ps := by
  obtain ⟨c0, t0, t1, ⟨a, cap, i1, i2, i3⟩, ⟨rvs, m1, m2⟩, f0, h1, h2, h3, h4⟩ := h
  exact ⟨keepl hb c0, keepl hb t0, keepl hb t1, ⟨a, cap, keepl hb i1, ownsRow_below i2 hb, i3⟩, ⟨rvs, m1.below hb m1.lt, fun j hj => ((m2 j hj).within.below hb (Nat.le_refl _)).imp fun b _ hx => hx.1⟩, fun j => (hb.frozen (p := ⟨m.bs, j, none⟩) (cell_lt c0)).trans (f0 j), h1, h2, h3, h4⟩
/-- What a look-up finds. -/
def getP (ps : List Pod) (id : Int) : Pod := if findI ps 0 id < 0 then pod0 else podAt ps (findI ps 0 id).toNat
def hasP (ps : List Pod) (id : Int) : Bool := decide (0 ≤ findI ps 0 id)
theorem StoreAt.look {m : Mem} {B : Nat} {X : Nat → Prop} {w : World} {size : Int} {ps : List Pod} (h : StoreAt m B X w size ps) (id : Int) :
    ∃ a cap, IntsIn (Off m) w (.slice a (getP ps id).req.length cap) (getP ps id).req ∧ ∀ w', Below w.heap.size w w' → (Instr.lookup 165 (.map (some m.bm)) (.int .i64 id) true).run Tryd.prog w' = .ok (.tuple #[podV (getP ps id) (.slice a (getP ps id).req.length cap), .bool (hasP ps id)]) w' := by
  obtain ⟨rvs, hm, hi⟩ := h.map
  rcases findI_bound ps 0 id with hf | ⟨h1, h2⟩
  · have e1 : getP ps id = pod0 := by unfold getP; rw [if_pos (by omega)]
    have e2 : hasP ps id = false := by unfold hasP; exact decide_eq_false (by omega)
    rw [e1, e2]
    exact ⟨none, 0, ⟨_, _, rfl, .inl rfl⟩, fun w' hb => look_none (hm.below hb hm.lt) hf⟩
  · obtain ⟨k, hk⟩ : ∃ k : Nat, findI ps 0 id = (k : Int) := ⟨(findI ps 0 id).toNat, by omega⟩
    have e1 : getP ps id = podAt ps k := by unfold getP; rw [if_neg (by omega), hk]; rfl
    have e2 : hasP ps id = true := by unfold hasP; exact decide_eq_true (by omega)
    rw [e1, e2]
    have hik := (hi k (by omega)).imp (Y := Off m) fun b _ h => h.1
    obtain ⟨a, cap, e, hr⟩ := hik
    refine ⟨a, cap, ⟨a, cap, rfl, hr⟩, fun w' hb => ?_⟩
    have := look_some (hm.below hb hm.lt) hk
    rw [e] at this
    exact this
end Go.Proofs.YtcegipkhmibdeaaDoor
/- The table's Get, has and Room; the store's Get and Len. -/
namespace Go.Proofs.YtcegipkhmibdeaaDoor
set_option linter.all false
open Go.RowKit

/-- The pod that is found, and whether there is one. -/
def RetGet (m : Mem) (ps : List Pod) (id : Int) (W : World) (e : Ending) (w' : World) : Prop :=
  ∃ a cap, e = .returned (.tuple #[podV (getP ps id) (.slice a (getP ps id).req.length cap), .bool (hasP ps id)]) ∧ IntsIn (Off m) w' (.slice a (getP ps id).req.length cap) (getP ps id).req ∧ Below W.heap.size W w'
set_option maxHeartbeats 1000000 in
set_option maxRecDepth 100000 in
theorem tget_any {m : Mem} {B : Nat} {X : Nat → Prop} {size : Int} {ps : List Pod} (id : Int) (w : World) (h : StoreAt m B X w size ps) : Calls Tryd.prog 108 #[.pointer (some ⟨m.bt, 0, none⟩), .int .i64 id] w (RetGet m ps id w) := by
  unfold RetGet
  obtain ⟨a, cap, hI, hl⟩ := h.look id
  have hl1 := hl (w.alloc (.cells z9 65)) ((Below.refl _ _).alloc (Nat.le_refl _) _)
  have ht1 := h.t1
  have hbt := cell_lt ht1
  have HI := Lib.hid hI; clear hI
  clear h hl
  generalize getP ps id = p at *
  generalize hasP ps id = b at *
  obtain ⟨l, hll⟩ : ∃ l, l = p.req.length := ⟨_, rfl⟩
  rw [← hll] at HI hl1
  have HL := Lib.hid hll; clear hll
  go_enter Tryd.func108, Tryd.ntmps108
  go_wp2
  refine bodyPost_ret (v := .tuple #[podV p (.slice a l cap), .bool b]) ?_ rfl ?_
  · simp only [results, Tryd.results108]
    go_simp
  · refine ⟨a, cap, by rw [← HL.out], ?_, ?_⟩
    · rw [← HL.out]
      exact (HI.out.within.below (by repeat (first | exact Below.refl _ _ | refine Below.drew ?_ | refine Below.alloc ?_ (by first | omega | (simp; done) | (simp; omega)) _)) (Nat.le_refl _)).imp fun b _ hx => hx.1
    · exact (by repeat (first | exact Below.refl _ _ | refine Below.drew ?_ | refine Below.alloc ?_ (by first | omega | (simp; done) | (simp; omega)) _))
set_option maxHeartbeats 1000000 in
set_option maxRecDepth 100000 in
theorem thas_any {m : Mem} {B : Nat} {X : Nat → Prop} {size : Int} {ps : List Pod} (id : Int) (w : World) (h : StoreAt m B X w size ps) : Calls Tryd.prog 120 #[.pointer (some ⟨m.bt, 0, none⟩), .int .i64 id] w fun e w' => e = .returned (.bool (hasP ps id)) ∧ Below w.heap.size w w' := by
  have hg := tget_any id w h
  unfold RetGet at hg
  generalize getP ps id = p at *
  generalize hasP ps id = b at *
  generalize p.req = zs at *
  have HG := Lib.hid hg; clear hg h
  go_enter Tryd.func120, Tryd.ntmps120
  go_wp2_with fail
  refine HG.out.mono ?_
  rintro e w1 ⟨a, cap, rfl, -, hb⟩
  generalize zs.length = l at *
  go_wp2
  go_ret
  exact ⟨rfl, hb.alloc hb.size _⟩
theorem mapLen {w : World} {bm : Nat} {ps : List Pod} {rvs : List Value} (h : MapAt w bm ps rvs) : ∃ es clock, w.heap[bm]? = some (.map es clock) ∧ es.size = ps.length := by
  obtain ⟨es, clock, hb, he, hl⟩ := h
  refine ⟨es, clock, hb, ?_⟩
  have := congrArg List.length he
  simp only [Entries, List.length_map, List.length_zip, hl, Nat.min_self, Array.length_toList] at this
  exact this
set_option maxHeartbeats 1000000 in
set_option maxRecDepth 100000 in
theorem troom_any {m : Mem} {B : Nat} {X : Nat → Prop} {size : Int} {ps : List Pod} (w : World) (h : StoreAt m B X w size ps) (h0 : 0 ≤ size) (h1 : size ≤ 9223372036854775807) (hx : ps.length * 9 * 8 ≤ 140737488351232) : Calls Tryd.prog 121 #[.pointer (some ⟨m.bt, 0, none⟩)] w fun e w' => e = .returned (.int .i64 (size - ps.length)) ∧ Below w.heap.size w w' := by
  obtain ⟨rvs, hm, -⟩ := h.map
  obtain ⟨es, clock, hb, hs⟩ := mapLen hm
  have ht0 := h.t0
  have ht1 := h.t1
  clear h hm
  generalize ps.length = l at *
  have hl : l ≤ 140737488351232 := by omega
  clear hx
  go_enter Tryd.func121, Tryd.ntmps121
  go_wp2
  have HL : (Builtin.len_ #[165] 3 #[.map (some m.bm)]).run Tryd.prog w.drew = .ok (.int .i64 l) w.drew := by
    have e := run_len_map (P := Tryd.prog) (w := w.drew) 165 3 m.bm es clock (by kernel_rfl) ((((Below.refl _ w).drew).block m.bm (Array.getElem?_eq_some_iff.1 hb).1).trans hb)
    rw [hs] at e
    exact e
  go_region
  go_wp2
  go_ret
  exact ⟨rfl, (Below.refl _ _).drew⟩
end Go.Proofs.YtcegipkhmibdeaaDoor
/- Store.Get and Store.Len. -/
namespace Go.Proofs.YtcegipkhmibdeaaDoor
set_option linter.all false
open Go.RowKit

/-- A pod of one's own, and whether it was found. -/
def RetOwn (W : World) (p : Pod) (b : Bool) (e : Ending) (w' : World) : Prop :=
  ∃ a cap, e = .returned (.tuple #[podV p (.slice a p.req.length cap), .bool b]) ∧ w'.ownsRow W.heap.size 2 1 (.slice a p.req.length cap) p.req.length (p.req.map (Value.int .i64)) ∧ Below W.heap.size W w'
set_option maxHeartbeats 1000000 in
set_option maxRecDepth 100000 in
theorem sget_nil (id : Int) (w : World) : Calls Tryd.prog 62 #[.pointer none, .int .i64 id] w (RetOwn w pod0 false) := by
  go_enter Tryd.func62, Tryd.ntmps62
  go_wp2
  refine bodyPost_ret (v := .tuple #[podV pod0 (.slice none 0 0), .bool false]) ?_ rfl ⟨none, 0, rfl, World.ownsRow_nil _ _ _ _, ?_⟩
  · simp only [results, Tryd.results62]
    go_simp
    simp [pod0]
  · repeat (first | exact Below.refl _ _ | refine Below.setCell ?_ (by show _ ≤ _; simp only []; omega) _ | refine Below.alloc ?_ (by first | omega | (simp; done) | (simp; omega)) _)
set_option maxHeartbeats 1000000 in
set_option maxRecDepth 100000 in
theorem sget_any {m : Mem} {B : Nat} {X : Nat → Prop} {size : Int} {ps : List Pod} (id : Int) (w : World) (h : StoreAt m B X w size ps) (hz : (getP ps id).req.length * 8 ≤ 140737488351232) : Calls Tryd.prog 62 #[.pointer (some ⟨m.bs, 0, none⟩), .int .i64 id] w (RetOwn w (getP ps id) (hasP ps id)) := by
  have hc0 := h.c0
  have hbs := cell_lt hc0
  have h' := h.below ((Below.refl _ w).alloc (Nat.le_refl _) (.cells z9 65))
  have hg := tget_any id _ h'
  have HG := Lib.hid hg; clear hg h h'
  unfold RetGet at HG
  generalize getP ps id = p at *
  generalize hasP ps id = b at *
  have HZ := Lib.hid hz; clear hz
  go_enter Tryd.func62, Tryd.ntmps62
  go_wp2_with fail
  refine HG.out.mono ?_
  rintro e w1 ⟨a, cap, rfl, hi, hb⟩
  obtain ⟨hc, hf⟩ := bcell hb
  have hsz := hb.size
  have hb' : Below w.heap.size w w1 := Below.trans ((Below.refl _ w).alloc (Nat.le_refl _) _) (hb.mono (by simp))
  have q0 : ∀ f, w1.cell? ⟨w.heap.size, f, none⟩ = (w.alloc (.cells z9 65)).cell? ⟨w.heap.size, f, none⟩ := fun f => hc _ _ (by simp)
  have q1 : ∀ f, w1.frozen? ⟨w.heap.size, f, none⟩ = false := fun f => by rw [hf _ _ (by simp)]; go_simp
  have hsz' : w.heap.size < w1.heap.size := by simp at hsz; omega
  have hi1 := hi.ints
  have HC := Lib.hid (copied_any p (.slice a p.req.length cap) _ HZ.out (hi1.below ((Below.refl _ w1).alloc (Nat.le_refl _) (.cells #[.int .i64 p.id, .int .i64 p.prio, .bool p.pre, .int .i64 p.grace, .slice a p.req.length cap, .int .i64 p.arr, .int .i64 p.ph, .int .i64 p.node, .int .i64 p.dead] 65))))
  clear hi hi1 hc hf HZ
  obtain ⟨l, hl⟩ : ∃ l, l = p.req.length := ⟨_, rfl⟩
  rw [← hl] at HC ⊢
  have HL := Lib.hid hl; clear hl
  have HQ0 := Lib.hid q0; clear q0
  have HQ1 := Lib.hid q1; clear q1
  go_wp2_with fail
  refine HC.out.mono ?_
  rintro e w2 ⟨a', c', rfl, hown, hb2⟩
  obtain ⟨hc2, hf2⟩ := bcell hb2
  have hsz2 := hb2.size
  have r0 : w2.cell? ⟨w.heap.size, 0, none⟩ = some (.int .i64 0) := by rw [hc2 _ _ (by simp; omega)]; have := HQ0.out 0; go_simp
  have r1 : w2.cell? ⟨w.heap.size, 1, none⟩ = some (.int .i64 0) := by rw [hc2 _ _ (by simp; omega)]; have := HQ0.out 1; go_simp
  have r2 : w2.cell? ⟨w.heap.size, 2, none⟩ = some (.bool false) := by rw [hc2 _ _ (by simp; omega)]; have := HQ0.out 2; go_simp
  have r3 : w2.cell? ⟨w.heap.size, 3, none⟩ = some (.int .i64 0) := by rw [hc2 _ _ (by simp; omega)]; have := HQ0.out 3; go_simp
  have r4 : w2.cell? ⟨w.heap.size, 4, none⟩ = some (.slice none 0 0) := by rw [hc2 _ _ (by simp; omega)]; have := HQ0.out 4; go_simp
  have r5 : w2.cell? ⟨w.heap.size, 5, none⟩ = some (.int .i64 0) := by rw [hc2 _ _ (by simp; omega)]; have := HQ0.out 5; go_simp
  have r6 : w2.cell? ⟨w.heap.size, 6, none⟩ = some (.int .i64 0) := by rw [hc2 _ _ (by simp; omega)]; have := HQ0.out 6; go_simp
  have r7 : w2.cell? ⟨w.heap.size, 7, none⟩ = some (.int .i64 0) := by rw [hc2 _ _ (by simp; omega)]; have := HQ0.out 7; go_simp
  have r8 : w2.cell? ⟨w.heap.size, 8, none⟩ = some (.int .i64 0) := by rw [hc2 _ _ (by simp; omega)]; have := HQ0.out 8; go_simp
  have rf : ∀ f, w2.frozen? ⟨w.heap.size, f, none⟩ = false := fun f => by rw [hf2 _ _ (by simp; omega)]; have := HQ1.out f; go_simp
  have hb3 : Below w.heap.size w w2 := Below.trans (hb'.alloc hb'.size _) (hb2.mono (by simp; omega))
  have hown' : w2.ownsRow (w1.heap.size + 1) 2 1 (.slice a' l c') l (p.req.map (Value.int .i64)) := by rw [HL.out]; simpa using hown
  have hsz3 : w1.heap.size < w2.heap.size := by simp at hsz2; omega
  rw [← HL.out]
  clear hown hb2 hc2 hf2 hsz2 hb hsz
  have HO := Lib.hid hown'; clear hown'
  go_wp2
  refine bodyPost_ret (v := .tuple #[podV p (.slice a' l c'), .bool b]) ?_ rfl ⟨a', c', by rw [← HL.out], ?_, ?_⟩
  · simp only [results, Tryd.results62]
    go_simp
  · rw [← HL.out]
    refine ownsRow_low ?_ (show w.heap.size ≤ w1.heap.size + 1 by omega)
    repeat (first | (with_reducible exact HO.out) | refine ownsRow_setCell_below ?_ (by show _ < _; simp only []; omega) _)
  · repeat (first | (with_reducible exact hb3) | refine Below.setCell ?_ (by show _ ≤ _; simp only []; omega) _)
set_option maxHeartbeats 1000000 in
set_option maxRecDepth 100000 in
theorem slen_nil (w : World) : Calls Tryd.prog 64 #[.pointer none] w fun e w' => e = .returned (.int .i64 0) ∧ w = w' := by
  go_enter Tryd.func64, Tryd.ntmps64
  go_wp2
  go_ret
  trivial
set_option maxHeartbeats 1000000 in
set_option maxRecDepth 100000 in
theorem slen_any {m : Mem} {B : Nat} {X : Nat → Prop} {size : Int} {ps : List Pod} (w : World) (h : StoreAt m B X w size ps) : Calls Tryd.prog 64 #[.pointer (some ⟨m.bs, 0, none⟩)] w fun e w' => e = .returned (.int .i64 ps.length) ∧ w = w' := by
  obtain ⟨a, cap, hi, -⟩ := h.ids
  clear h
  generalize ps.length = l at *
  go_enter Tryd.func64, Tryd.ntmps64
  go_wp2
  go_ret
  exact ⟨rfl, rfl⟩
end Go.Proofs.YtcegipkhmibdeaaDoor
/- The first wrong amount of a vector: slices.IndexFunc at vec.Wrong$1, vec.Wrong, hammockref01.Wrong. -/
namespace Go.Proofs.YtcegipkhmibdeaaDoor
set_option linter.all false
open Go.RowKit

/-- An amount outside of its range. -/
def badN (x : Int) : Bool := decide (x < 0) || decide (1099511627776 < x)
/-- The first index, from `k` on, of an amount outside of its range, or -1. -/
def badAt : List Int → Int → Int
  | [], _ => -1
  | x :: xs, k => bif badN x then k else badAt xs (k + 1)
/-- The index that a vector is wrong at, or -1. -/
def wrongP (zs : List Int) (d : Int) : Int :=
  if 0 ≤ badAt zs 0 then badAt zs 0 else if (zs.length : Int) = d then -1 else max (min d zs.length) 0

theorem badAt_step {zs : List Int} {k : Nat} (h : k < zs.length) : badAt (zs.drop k) k = bif badN (zs.getD k 0) then (k : Int) else badAt (zs.drop (k + 1)) ((k + 1 : Nat) : Int) := by
  rw [List.drop_eq_getElem_cons h, badAt, List.getD_eq_getElem?_getD, List.getElem?_eq_getElem h]; rfl
theorem badAt_end {zs : List Int} {k : Nat} (h : zs.length ≤ k) : badAt (zs.drop k) k = -1 := by
  rw [List.drop_eq_nil_of_le h]; rfl
theorem badAt_ge : ∀ (zs : List Int) (k : Int), 0 ≤ k → badAt zs k = -1 ∨ 0 ≤ badAt zs k
  | [], _, _ => .inl rfl
  | x :: xs, k, h => by
    unfold badAt
    cases badN x
    · exact badAt_ge xs (k + 1) (by omega)
    · exact .inr h

set_option maxRecDepth 100000 in
theorem wrong1_any (x : Int) (w : World) : Calls Tryd.prog 126 #[.int .i64 x] w fun e w' => e = .returned (.bool (badN x)) ∧ w = w' := by
  unfold badN
  by_cases h1 : x < 0
  · rw [decide_eq_true h1]
    go_enter Tryd.func126, Tryd.ntmps126
    go_wp2
    go_ret
    exact ⟨rfl, rfl⟩
  · rw [decide_eq_false h1]
    by_cases h2 : 1099511627776 < x
    · rw [decide_eq_true h2]
      go_enter Tryd.func126, Tryd.ntmps126
      go_wp2
      go_ret
      exact ⟨rfl, rfl⟩
    · rw [decide_eq_false h2]
      go_enter Tryd.func126, Tryd.ntmps126
      go_wp2
      go_ret
      exact ⟨rfl, rfl⟩

set_option maxHeartbeats 1000000 in
set_option maxRecDepth 100000 in
theorem index_some (b off cap : Nat) (zs : List Int) (w : World) (hx : zs.length * 8 ≤ 140737488351232)
    (hc : ∀ j, j < zs.length → w.cell? ⟨b, off + j, none⟩ = some (.int .i64 (zs.getD j 0))) :
    Calls Tryd.prog 125 #[.slice (some ⟨b, off, none⟩) zs.length cap, .func (.func 126) #[] #[]] w fun e w' => e = .returned (.int .i64 (badAt zs 0)) ∧ Below w.heap.size w w' := by
  obtain ⟨l, hl⟩ : ∃ n, n = zs.length := ⟨_, rfl⟩
  rw [← hl] at hx hc ⊢
  have HL := Lib.hid hl; clear hl
  have HC := Lib.hid hc; clear hc
  go_enter Tryd.func125, Tryd.ntmps125
  go_wp2
  go_loopg [5, 8] l (fun gg _ i wr => ∃ k : Nat, k ≤ l ∧ l - k ≤ gg ∧ i = .int .i64 k ∧ Hid (badAt zs 0 = badAt (zs.drop k) k) ∧ ∃ m, wr = w.drewN m)
  case atStart => exact ⟨0, Nat.zero_le _, by omega, rfl, rfl, 0, rfl⟩
  case round =>
    obtain ⟨k, hk, hg, rfl, hrun, m, rfl⟩ := hrel
    by_cases hlt : k < l
    · obtain ⟨x, hxk⟩ : ∃ x, x = zs.getD k 0 := ⟨_, rfl⟩
      have h1 : w.cell? ⟨b, off + k, none⟩ = some (.int .i64 x) := by rw [hxk]; exact HC.out k hlt
      have hs := badAt_step (zs := zs) (k := k) (by rw [← HL.out]; exact hlt)
      rw [← hxk] at hs
      clear hxk
      have hcall := wrong1_any x
      have hki : (0 : Int) ≤ (k : Int) := by omega
      have hkl : (k : Int) < (l : Int) := by omega
      cases hb : badN x
      · rw [hb] at hcall hs
        have hfin : Hid (badAt zs 0 = badAt (zs.drop (k + 1)) ((k + 1 : Nat) : Int)) := by rw [hrun.out, hs]; rfl
        clear hs hrun hb
        have HCALL := Lib.hid hcall; clear hcall
        go_wp2_with fail
        refine (HCALL.out _).mono ?_
        rintro e w' ⟨rfl, rfl⟩
        go_wp2
        go_roundg (l - (k + 1))
        case measure => omega
        case rel => exact ⟨k + 1, by omega, by omega, by go_num, hfin, _, rfl⟩
      · rw [hb] at hcall hs
        have hfin : Hid (badAt zs 0 = k) := by rw [hrun.out, hs]; rfl
        clear hs hrun hb
        have HCALL := Lib.hid hcall; clear hcall
        go_wp2_with fail
        refine (HCALL.out _).mono ?_
        rintro e w' ⟨rfl, rfl⟩
        go_wp2
        go_ret
        exact ⟨by rw [hfin.out]; rfl, below_drewN (Below.refl _ _) _⟩
    · have hfin : Hid (badAt zs 0 = -1) := by rw [hrun.out, badAt_end (by rw [← HL.out]; omega)]; rfl
      clear hrun
      go_wp2
      go_ret
      exact ⟨by rw [hfin.out]; rfl, below_drewN (Below.refl _ _) _⟩


set_option maxRecDepth 100000 in
theorem index_none (a : Option Addr) (cap : Nat) (fv : Value) (w : World) :
    Calls Tryd.prog 125 #[.slice a 0 cap, fv] w fun e w' => e = .returned (.int .i64 (-1)) ∧ w = w' := by
  go_enter Tryd.func125, Tryd.ntmps125
  go_wp2
  refine wp_loop_rounds 1 ?_
  rw [rounds_succ]
  go_wp2
  go_ret
  exact ⟨rfl, rfl⟩
theorem index_any (v : Value) (zs : List Int) (w : World) (hx : zs.length * 8 ≤ 140737488351232) (h : IntsAt w v zs) :
    Calls Tryd.prog 125 #[v, .func (.func 126) #[] #[]] w fun e w' => e = .returned (.int .i64 (badAt zs 0)) ∧ Below w.heap.size w w' := by
  obtain ⟨a, c, rfl, h⟩ := h
  rcases h with rfl | ⟨b, o, rfl, lt, hc⟩
  · exact (index_none a c _ w).mono fun e w' ⟨he, hw⟩ => ⟨by rw [he]; rfl, hw ▸ Below.refl _ _⟩
  · exact index_some b o c zs w hx hc

set_option maxRecDepth 100000 in
theorem wrong_any (v : Value) (zs : List Int) (d : Int) (w : World) (hx : zs.length * 8 ≤ 140737488351232) (h : IntsAt w v zs) :
    Calls Tryd.prog 119 #[v, .int .i64 d] w fun e w' => e = .returned (.int .i64 (wrongP zs d)) ∧ Below w.heap.size w w' := by
  have hi := index_any v zs
  obtain ⟨a, c, rfl, -⟩ := id h
  have hg := badAt_ge zs 0 (Int.le_refl _)
  unfold wrongP
  generalize badAt zs 0 = i at *
  obtain ⟨l, hl⟩ : ∃ n, n = zs.length := ⟨_, rfl⟩
  rw [← hl]
  have HI := Lib.hid hi; clear hi
  rw [← hl] at h HI hx
  have HX := Lib.hid hx
  have HL := Lib.hid hl; clear hl
  have HH := Lib.hid h; clear h
  rcases hg with rfl | hg
  · rw [if_neg (by decide)]
    by_cases hd : (l : Int) = d
    · rw [if_pos hd]
      go_enter Tryd.func119, Tryd.ntmps119
      go_wp2_with fail
      refine (HI.out _ HX.out HH.out).mono ?_
      rintro e w1 ⟨rfl, hb⟩
      go_wp2
      go_ret
      exact ⟨rfl, hb⟩
    · rw [if_neg hd]
      go_enter Tryd.func119, Tryd.ntmps119
      go_wp2_with fail
      refine (HI.out _ HX.out HH.out).mono ?_
      rintro e w1 ⟨rfl, hb⟩
      go_wp2
      all_goals
        go_ret
        refine ⟨?_, hb⟩
        show Ending.returned (.int .i64 _) = Ending.returned (.int .i64 _)
        congr 2
        omega
  · rw [if_pos hg]
    go_enter Tryd.func119, Tryd.ntmps119
    go_wp2_with fail
    refine (HI.out _ HX.out HH.out).mono ?_
    rintro e w1 ⟨rfl, hb⟩
    go_wp2
    go_ret
    exact ⟨rfl, hb⟩
end Go.Proofs.YtcegipkhmibdeaaDoor
/- hammockref01.Wrong. -/
namespace Go.Proofs.YtcegipkhmibdeaaDoor
set_option linter.all false
open Go.RowKit

set_option maxHeartbeats 2000000 in
set_option maxRecDepth 100000 in
theorem wrong01_some (b off cap : Nat) (zs : List Int) (d : Int) (w : World) (hx : zs.length * 8 ≤ 140737488351232)
    (hc : ∀ j, j < zs.length → w.cell? ⟨b, off + j, none⟩ = some (.int .i64 (zs.getD j 0))) :
    Calls Tryd.prog 94 #[.slice (some ⟨b, off, none⟩) zs.length cap, .int .i64 d] w fun e w' => e = .returned (.int .i64 (wrongP zs d)) ∧ Below w.heap.size w w' := by
  have hW : wrongP zs d = if 0 ≤ badAt zs 0 then badAt zs 0 else if (zs.length : Int) = d then -1 else if d < 0 then 0 else if d < zs.length then d else zs.length := by
    unfold wrongP; repeat (first | rfl | omega | split)
  obtain ⟨l, hl⟩ : ∃ n, n = zs.length := ⟨_, rfl⟩
  rw [← hl] at hx hc hW ⊢
  have HW := Lib.hid hW; clear hW
  have HL := Lib.hid hl; clear hl
  have HC := Lib.hid hc; clear hc
  go_enter Tryd.func94, Tryd.ntmps94
  go_wp2
  go_loopg [5] l (fun gg i wr => ∃ k : Nat, k ≤ l ∧ l - k ≤ gg ∧ i = .int .i64 k ∧ Hid (badAt zs 0 = badAt (zs.drop k) k) ∧ ∃ m, wr = w.drewN m)
  case atStart => exact ⟨0, Nat.zero_le _, by omega, rfl, rfl, 0, rfl⟩
  case round =>
    obtain ⟨k, hk, hg, rfl, hrun, m, rfl⟩ := hrel
    by_cases hlt : k < l
    · obtain ⟨x, hxk⟩ : ∃ x, x = zs.getD k 0 := ⟨_, rfl⟩
      have h1 : w.cell? ⟨b, off + k, none⟩ = some (.int .i64 x) := by rw [hxk]; exact HC.out k hlt
      have hs := badAt_step (zs := zs) (k := k) (by rw [← HL.out]; exact hlt)
      rw [← hxk] at hs
      clear hxk
      have hki : (0 : Int) ≤ (k : Int) := by omega
      have hkl : (k : Int) < (l : Int) := by omega
      unfold badN at hs
      by_cases h0 : x < 0
      · rw [decide_eq_true h0] at hs
        have hfin : Hid (badAt zs 0 = k) := by rw [hrun.out, hs]; rfl
        have hW : wrongP zs d = k := by rw [HW.out, hfin.out, if_pos (by omega)]
        have HV := Lib.hid hW
        clear hs hrun hfin hW HW
        go_wp2
        go_ret
        exact ⟨by rw [HV.out]; rfl, below_drewN (Below.refl _ _) _⟩
      · rw [decide_eq_false h0] at hs
        by_cases h2 : 1099511627776 < x
        · rw [decide_eq_true h2] at hs
          have hfin : Hid (badAt zs 0 = k) := by rw [hrun.out, hs]; rfl
          have hW : wrongP zs d = k := by rw [HW.out, hfin.out, if_pos (by omega)]
          have HV := Lib.hid hW
          clear hs hrun hfin hW HW
          go_wp2
          go_ret
          exact ⟨by rw [HV.out]; rfl, below_drewN (Below.refl _ _) _⟩
        · rw [decide_eq_false h2] at hs
          have hfin : Hid (badAt zs 0 = badAt (zs.drop (k + 1)) ((k + 1 : Nat) : Int)) := by rw [hrun.out, hs]; rfl
          clear hs hrun
          go_wp2
          go_roundg (l - (k + 1))
          case measure => omega
          case rel => exact ⟨k + 1, by omega, by omega, by go_num, hfin, _, rfl⟩
    · have hfin : Hid (badAt zs 0 = -1) := by rw [hrun.out, badAt_end (by rw [← HL.out]; omega)]; rfl
      have hW : wrongP zs d = if (l : Int) = d then -1 else if d < 0 then 0 else if d < l then d else l := by rw [HW.out, hfin.out, if_neg (by decide)]
      clear hrun hfin HW
      by_cases hd : (l : Int) = d
      · rw [if_pos hd] at hW
        have HV := Lib.hid hW; clear hW
        go_wp2
        go_ret
        exact ⟨by rw [HV.out]; rfl, below_drewN (Below.refl _ _) _⟩
      rw [if_neg hd] at hW
      by_cases hn : d < 0
      · rw [if_pos hn] at hW
        have HV := Lib.hid hW; clear hW
        go_wp2
        go_ret
        exact ⟨by rw [HV.out]; rfl, below_drewN (Below.refl _ _) _⟩
      rw [if_neg hn] at hW
      by_cases hm : d < l
      · rw [if_pos hm] at hW
        have HV := Lib.hid hW; clear hW
        go_wp2
        go_ret
        exact ⟨by rw [HV.out]; rfl, below_drewN (Below.refl _ _) _⟩
      · rw [if_neg hm] at hW
        have HV := Lib.hid hW; clear hW
        go_wp2
        go_ret
        exact ⟨by rw [HV.out]; rfl, below_drewN (Below.refl _ _) _⟩

set_option maxRecDepth 100000 in
theorem wrong01_none (a : Option Addr) (cap : Nat) (d : Int) (w : World) :
    Calls Tryd.prog 94 #[.slice a 0 cap, .int .i64 d] w fun e w' => e = .returned (.int .i64 (if (0 : Int) = d then -1 else 0)) ∧ w = w' := by
  by_cases hd : (0 : Int) = d
  · subst hd
    go_enter Tryd.func94, Tryd.ntmps94
    go_wp2
    refine wp_loop_rounds 1 ?_
    rw [rounds_succ]
    go_wp2
    go_ret
    exact ⟨rfl, rfl⟩
  · rw [if_neg hd]
    go_enter Tryd.func94, Tryd.ntmps94
    go_wp2
    refine wp_loop_rounds 1 ?_
    rw [rounds_succ]
    by_cases hn : d < 0
    · go_wp2
      go_ret
      exact ⟨rfl, rfl⟩
    · go_wp2
      go_ret
      exact ⟨rfl, rfl⟩
theorem wrong01_any (v : Value) (zs : List Int) (d : Int) (w : World) (hx : zs.length * 8 ≤ 140737488351232) (h : IntsAt w v zs) :
    Calls Tryd.prog 94 #[v, .int .i64 d] w fun e w' => e = .returned (.int .i64 (wrongP zs d)) ∧ Below w.heap.size w w' := by
  obtain ⟨a, c, rfl, h⟩ := h
  rcases h with rfl | ⟨b, o, rfl, lt, hc⟩
  · refine (wrong01_none a c d w).mono fun e w' ⟨he, hw⟩ => ⟨?_, hw ▸ Below.refl _ _⟩
    rw [he]
    congr 2
    unfold wrongP
    simp only [badAt, List.length_nil]
    repeat (first | rfl | omega | split)
  · exact wrong01_some b o c zs d w hx hc
end Go.Proofs.YtcegipkhmibdeaaDoor
/- Errors as plain values; the small functions that make them. -/
namespace Go.Proofs.YtcegipkhmibdeaaDoor
set_option linter.all false
open Go.RowKit

/-- An error that this program can make: a code, a fault, another one, or one that is wrapped. -/
inductive EV where
  | code (c : Int)
  | fault (c at_ : Int)
  | other (a : Addr)
  | placed (k : Int) (e : EV)
def EV.val : EV → Value
  | .code c => .iface 94 (.int .i64 c)
  | .fault c a => .iface 106 (.agg #[.int .i64 c, .int .i64 a])
  | .other p => .iface 148 (.pointer (some p))
  | .placed k e => .iface 140 (.agg #[.int .i64 k, e.val])
def EV.depth : EV → Nat
  | .code _ => 0
  | .fault _ _ => 1
  | .other _ => 0
  | .placed _ e => e.depth + 1
/-- The code, the fault, the place that errors.As finds. -/
def EV.asC : EV → Option Int
  | .code c => some c
  | .fault c _ => some c
  | .other _ => none
  | .placed _ e => e.asC
def EV.asF : EV → Option (Int × Int)
  | .code _ => none
  | .fault c a => some (c, a)
  | .other _ => none
  | .placed _ e => e.asF
def EV.asP : EV → Option (Int × EV)
  | .placed k e => some (k, e)
  | _ => none
theorem EV.iface (e : EV) : ∃ t v, e.val = .iface t v := by cases e <;> exact ⟨_, _, rfl⟩
/-- An error or none. -/
def errV : Option EV → Value
  | none => .nilIface
  | some e => e.val
def idE (n at_ : Int) : Option EV := if n < 0 ∨ 1073741824 < n then some (.fault 2 at_) else none
def numberE (n least most : Int) : Option EV := if n < least ∨ most < n then some (.fault 4 0) else none
def amountsE (zs : List Int) (d : Int) : Option EV := if 0 ≤ wrongP zs d then some (.fault 3 (wrongP zs d)) else none
def firstE : List (Option EV) → Option EV
  | [] => none
  | none :: r => firstE r
  | some e :: _ => some e

set_option maxRecDepth 100000 in
theorem faultNew_any (c at_ : Int) (w : World) : Calls Tryd.prog 84 #[.int .i64 c, .int .i64 at_] w fun e w' => e = .returned (.iface 106 (.agg #[.int .i64 c, .int .i64 at_])) ∧ w = w' := by
  go_enter Tryd.func84, Tryd.ntmps84
  go_wp2
  go_ret
  exact ⟨rfl, rfl⟩
set_option maxRecDepth 100000 in
theorem faultIn_any (k : Int) (e : Option EV) (w : World) : Calls Tryd.prog 86 #[.int .i64 k, errV e] w fun x w' => x = .returned (errV (e.map (EV.placed k))) ∧ w = w' := by
  cases e with
  | none =>
    show Calls Tryd.prog 86 #[.int .i64 k, .nilIface] w _
    go_enter Tryd.func86, Tryd.ntmps86
    go_wp2
    go_ret
    exact ⟨rfl, rfl⟩
  | some e =>
    have hr : errV (Option.map (EV.placed k) (some e)) = .iface 140 (.agg #[.int .i64 k, e.val]) := rfl
    rw [hr]
    show Calls Tryd.prog 86 #[.int .i64 k, e.val] w _
    obtain ⟨t, v, he⟩ := e.iface
    rw [he]
    clear he hr
    go_enter Tryd.func86, Tryd.ntmps86
    go_wp2
    go_ret
    exact ⟨rfl, rfl⟩
set_option maxRecDepth 100000 in
theorem opId_any (n at_ : Int) (w : World) : Calls Tryd.prog 97 #[.int .i64 n, .int .i64 at_] w fun x w' => x = .returned (errV (idE n at_)) ∧ w = w' := by
  have hn := faultNew_any
  unfold idE
  by_cases h0 : n < 0
  · rw [if_pos (.inl h0)]
    go_enter Tryd.func97, Tryd.ntmps97
    go_wp2_with fail
    refine (hn _ _ _).mono ?_
    rintro e w1 ⟨rfl, rfl⟩
    go_wp2
    go_ret
    exact ⟨rfl, rfl⟩
  · by_cases h1 : 1073741824 < n
    · rw [if_pos (.inr h1)]
      go_enter Tryd.func97, Tryd.ntmps97
      go_wp2_with fail
      refine (hn _ _ _).mono ?_
      rintro e w1 ⟨rfl, rfl⟩
      go_wp2
      go_ret
      exact ⟨rfl, rfl⟩
    · rw [if_neg (by omega)]
      go_enter Tryd.func97, Tryd.ntmps97
      go_wp2
      go_ret
      exact ⟨rfl, rfl⟩
set_option maxRecDepth 100000 in
theorem opNumber_any (n least most : Int) (w : World) : Calls Tryd.prog 98 #[.int .i64 n, .int .i64 least, .int .i64 most] w fun x w' => x = .returned (errV (numberE n least most)) ∧ w = w' := by
  have hn := faultNew_any
  unfold numberE
  by_cases h0 : n < least
  · rw [if_pos (.inl h0)]
    go_enter Tryd.func98, Tryd.ntmps98
    go_wp2_with fail
    refine (hn _ _ _).mono ?_
    rintro e w1 ⟨rfl, rfl⟩
    go_wp2
    go_ret
    exact ⟨rfl, rfl⟩
  · by_cases h1 : most < n
    · rw [if_pos (.inr h1)]
      go_enter Tryd.func98, Tryd.ntmps98
      go_wp2_with fail
      refine (hn _ _ _).mono ?_
      rintro e w1 ⟨rfl, rfl⟩
      go_wp2
      go_ret
      exact ⟨rfl, rfl⟩
    · rw [if_neg (by omega)]
      go_enter Tryd.func98, Tryd.ntmps98
      go_wp2
      go_ret
      exact ⟨rfl, rfl⟩
set_option maxRecDepth 100000 in
theorem opAmounts_any (v : Value) (zs : List Int) (d : Int) (w : World) (hx : zs.length * 8 ≤ 140737488351232) (h : IntsAt w v zs) :
    Calls Tryd.prog 99 #[v, .int .i64 d] w fun x w' => x = .returned (errV (amountsE zs d)) ∧ Below w.heap.size w w' := by
  have hn := faultNew_any
  have hi := wrong_any v zs d
  obtain ⟨a, c, rfl, -⟩ := id h
  unfold amountsE
  generalize wrongP zs d = i at *
  have HI := Lib.hid hi; clear hi
  have HH := Lib.hid h; clear h
  have HX := Lib.hid hx; clear hx
  generalize zs.length = l at *
  by_cases h0 : 0 ≤ i
  · rw [if_pos h0]
    go_enter Tryd.func99, Tryd.ntmps99
    go_wp2_with fail
    refine (HI.out _ HX.out HH.out).mono ?_
    rintro e w1 ⟨rfl, hb⟩
    go_wp2_with fail
    refine (hn _ _ _).mono ?_
    rintro e w2 ⟨rfl, rfl⟩
    go_wp2
    go_ret
    exact ⟨rfl, hb⟩
  · rw [if_neg h0]
    go_enter Tryd.func99, Tryd.ntmps99
    go_wp2_with fail
    refine (HI.out _ HX.out HH.out).mono ?_
    rintro e w1 ⟨rfl, hb⟩
    go_wp2
    go_ret
    exact ⟨rfl, hb⟩
set_option maxRecDepth 100000 in
theorem outside_any (n least most : Int) (w : World) : Calls Tryd.prog 93 #[.int .i64 n, .int .i64 least, .int .i64 most] w fun x w' => x = .returned (.bool (decide (n < least ∨ most < n))) ∧ w = w' := by
  by_cases h0 : n < least
  · rw [decide_eq_true (.inl h0)]
    go_enter Tryd.func93, Tryd.ntmps93
    go_wp2
    go_ret
    exact ⟨rfl, rfl⟩
  · by_cases h1 : most < n
    · rw [decide_eq_true (.inr h1)]
      go_enter Tryd.func93, Tryd.ntmps93
      go_wp2
      go_ret
      exact ⟨rfl, rfl⟩
    · rw [decide_eq_false (by omega)]
      go_enter Tryd.func93, Tryd.ntmps93
      go_wp2
      go_ret
      exact ⟨rfl, rfl⟩
theorem firstE_step {es : List (Option EV)} {k : Nat} (h : k < es.length) : firstE (es.drop k) = match es.getD k none with | some e => some e | none => firstE (es.drop (k + 1)) := by
  rw [List.drop_eq_getElem_cons h, List.getD_eq_getElem?_getD, List.getElem?_eq_getElem h]
  show firstE (es[k] :: _) = match es[k] with | some e => some e | none => _
  cases es[k] <;> rfl
set_option maxHeartbeats 1000000 in
set_option maxRecDepth 100000 in
theorem opFirst_any (b cap : Nat) (es : List (Option EV)) (w : World) (hx : es.length ≤ 100)
    (hc : ∀ j, j < es.length → w.cell? ⟨b, j, none⟩ = some (errV (es.getD j none))) :
    Calls Tryd.prog 96 #[.slice (some ⟨b, 0, none⟩) es.length cap] w fun e w' => e = .returned (errV (firstE es)) ∧ Below w.heap.size w w' := by
  obtain ⟨l, hl⟩ : ∃ n, n = es.length := ⟨_, rfl⟩
  rw [← hl] at hx hc ⊢
  have HL := Lib.hid hl; clear hl
  have HC := Lib.hid hc; clear hc
  go_enter Tryd.func96, Tryd.ntmps96
  go_wp2
  go_loopg [4, 7] l (fun gg _ i wr => ∃ k : Nat, k ≤ l ∧ l - k ≤ gg ∧ i = .int .i64 k ∧ Hid (firstE es = firstE (es.drop k)) ∧ ∃ m, wr = w.drewN m)
  case atStart => exact ⟨0, Nat.zero_le _, by omega, rfl, rfl, 0, rfl⟩
  case round =>
    obtain ⟨k, hk, hg, rfl, hrun, m, rfl⟩ := hrel
    by_cases hlt : k < l
    · have h1 : w.cell? ⟨b, k, none⟩ = some (errV (es.getD k none)) := HC.out k hlt
      have hs := firstE_step (es := es) (k := k) (by rw [← HL.out]; exact hlt)
      have hki : (0 : Int) ≤ (k : Int) := by omega
      have hkl : (k : Int) < (l : Int) := by omega
      cases hx : es.getD k none with
      | some e =>
        rw [hx] at h1 hs
        have hfin : Hid (firstE es = some e) := by rw [hrun.out, hs]; rfl
        obtain ⟨t, v, he⟩ := e.iface
        have h1' : w.cell? ⟨b, k, none⟩ = some (.iface t v) := by rw [h1]; show some e.val = _; rw [he]
        have HE := Lib.hid he
        clear he hs hrun hx h1
        go_wp2
        go_ret
        exact ⟨by rw [hfin.out]; show _ = Ending.returned e.val; rw [HE.out]; rfl, below_drewN (Below.refl _ _) _⟩
      | none =>
        rw [hx] at h1 hs
        have hfin : Hid (firstE es = firstE (es.drop (k + 1))) := by rw [hrun.out, hs]; rfl
        have h1' : w.cell? ⟨b, k, none⟩ = some .nilIface := h1
        clear hs hrun hx h1
        go_wp2
        go_roundg (l - (k + 1))
        case measure => omega
        case rel => exact ⟨k + 1, by omega, by omega, by go_num, hfin, _, rfl⟩
    · have hfin : Hid (firstE es = none) := by rw [hrun.out, List.drop_eq_nil_of_le (by rw [← HL.out]; omega)]; rfl
      clear hrun
      go_wp2
      go_ret
      exact ⟨by rw [hfin.out]; rfl, below_drewN (Below.refl _ _) _⟩
end Go.Proofs.YtcegipkhmibdeaaDoor
/- errors.As and errors.as: the walk over a chain of errors. -/
namespace Go.Proofs.YtcegipkhmibdeaaDoor
set_option linter.all false
open Go.RowKit Go.Extern.Stop Go.Stop Go.Extern

theorem setC (tb nb : Nat) (c : Int) (old : Value) (W : World) (hb : W.cell? ⟨nb, 0, none⟩ = some (.int .i64 c)) (ht : W.cell? ⟨tb, 0, none⟩ = some old) (hf : W.frozen? ⟨tb, 0, none⟩ = false) :
    (ReflectliteValue.set #[.agg #[.pointer (some ⟨7, 94, none⟩), .pointer (some ⟨tb, 0, none⟩), .int .u64 386], .agg #[.pointer (some ⟨7, 94, none⟩), .pointer (some ⟨nb, 0, none⟩), .int .u64 130]]).run Tryd.prog W
      = .ok (.tuple #[]) (W.setCell ⟨tb, 0, none⟩ (.int .i64 c)) := by
  rw [rls]
  simp only [Sem.run_bind, partsCa, partsCv, Result.andThen]
  simp [ReflectliteValue.flagAddr, loadVar, isAgg, underlying, Tryd.underlying94, hb, Result.andThen, directC, storeVar, Value.cells, storeCells, Addr.add]
  rw [run_store Tryd.prog W ⟨tb, 0, none⟩ _ _ (by rfl)]
  simp [ht, hf]
theorem sizeF (w : World) : (sizeOf 106).run Tryd.prog w = .ok 2 w := by kernel_rfl
theorem sizeP (w : World) : (sizeOf 140).run Tryd.prog w = .ok 2 w := by kernel_rfl
theorem setF (tb nb : Nat) (c at_ : Int) (o0 o1 : Value) (W : World) (hb0 : W.cell? ⟨nb, 0, none⟩ = some (.int .i64 c)) (hb1 : W.cell? ⟨nb, 1, none⟩ = some (.int .i64 at_)) (ht0 : W.cell? ⟨tb, 0, none⟩ = some o0) (ht1 : W.cell? ⟨tb, 1, none⟩ = some o1)
    (hf0 : W.frozen? ⟨tb, 0, none⟩ = false) (hf1 : W.frozen? ⟨tb, 1, none⟩ = false) :
    (ReflectliteValue.set #[.agg #[.pointer (some ⟨7, 106, none⟩), .pointer (some ⟨tb, 0, none⟩), .int .u64 409], .agg #[.pointer (some ⟨7, 106, none⟩), .pointer (some ⟨nb, 0, none⟩), .int .u64 153]]).run Tryd.prog W
      = .ok (.tuple #[]) ((W.setCell ⟨tb, 0, none⟩ (.int .i64 c)).setCell ⟨tb, 1, none⟩ (.int .i64 at_)) := by
  have ht1' : (W.setCell ⟨tb, 0, none⟩ (.int .i64 c)).cell? ⟨tb, 1, none⟩ = some o1 := by go_simp
  rw [rls]
  simp only [Sem.run_bind, partsFa, partsFv, Result.andThen]
  simp [ReflectliteValue.flagAddr, loadVar, isAgg, underlying, Tryd.underlying106, hb0, hb1, Result.andThen, directF, storeVar, Value.cells, storeCells, Addr.add, sizeF, loadCells, loadCellsFrom]
  rw [run_store Tryd.prog W ⟨tb, 0, none⟩ _ _ (by rfl)]
  simp only [stored, ht0, hf0, Result.andThen, Bool.false_eq_true, if_false]
  rw [run_store Tryd.prog _ ⟨tb, 1, none⟩ _ _ (by first | exact he1 | rfl)]
  simp only [stored, ht1', World.frozen?_setCell, hf1, Bool.false_eq_true, if_false]
theorem setP (tb nb : Nat) (k : Int) (e : Value) (o0 o1 : Value) (W : World) (he : e = .nilIface ∨ ∃ t v, e = .iface t v) (hb0 : W.cell? ⟨nb, 0, none⟩ = some (.int .i64 k)) (hb1 : W.cell? ⟨nb, 1, none⟩ = some e) (ht0 : W.cell? ⟨tb, 0, none⟩ = some o0) (ht1 : W.cell? ⟨tb, 1, none⟩ = some o1)
    (hf0 : W.frozen? ⟨tb, 0, none⟩ = false) (hf1 : W.frozen? ⟨tb, 1, none⟩ = false) :
    (ReflectliteValue.set #[.agg #[.pointer (some ⟨7, 140, none⟩), .pointer (some ⟨tb, 0, none⟩), .int .u64 409], .agg #[.pointer (some ⟨7, 140, none⟩), .pointer (some ⟨nb, 0, none⟩), .int .u64 153]]).run Tryd.prog W
      = .ok (.tuple #[]) ((W.setCell ⟨tb, 0, none⟩ (.int .i64 k)).setCell ⟨tb, 1, none⟩ e) := by
  have ht1' : (W.setCell ⟨tb, 0, none⟩ (.int .i64 k)).cell? ⟨tb, 1, none⟩ = some o1 := by go_simp
  rw [rls]
  simp only [Sem.run_bind, partsPa, partsPv, Result.andThen]
  have he1 : e.oneCell' = true := by rcases he with rfl | ⟨t, v, rfl⟩ <;> rfl
  simp [ReflectliteValue.flagAddr, loadVar, isAgg, underlying, Tryd.underlying140, hb0, hb1, Result.andThen, directP, storeVar, Value.cells, storeCells, Addr.add, sizeP, loadCells, loadCellsFrom]
  rw [run_store Tryd.prog W ⟨tb, 0, none⟩ _ _ (by rfl)]
  simp only [stored, ht0, hf0, Result.andThen, Bool.false_eq_true, if_false]
  rw [run_store Tryd.prog _ ⟨tb, 1, none⟩ _ _ (by first | exact he1 | rfl)]
  simp only [stored, ht1', World.frozen?_setCell, hf1, Bool.false_eq_true, if_false]
theorem taCAs (v : Value) (xT : TypeId) (w : World) : (Instr.typeAssert (.iface 94 v) xT 180 true).run Tryd.prog w = .ok (.tuple #[.nilIface, .bool false]) w := run_typeAssert_lacksB Tryd.underlying180 (by kernel_rfl) (by kernel_rfl) v xT w
theorem taCUn (v : Value) (xT : TypeId) (w : World) : (Instr.typeAssert (.iface 94 v) xT 161 true).run Tryd.prog w = .ok (.tuple #[.nilIface, .bool false]) w := run_typeAssert_lacksB Tryd.underlying161 (by kernel_rfl) (by kernel_rfl) v xT w
theorem taCUs (v : Value) (xT : TypeId) (w : World) : (Instr.typeAssert (.iface 94 v) xT 176 true).run Tryd.prog w = .ok (.tuple #[.nilIface, .bool false]) w := run_typeAssert_lacksB Tryd.underlying176 (by kernel_rfl) (by kernel_rfl) v xT w
theorem taCIs (v : Value) (xT : TypeId) (w : World) : (Instr.typeAssert (.iface 94 v) xT 174 true).run Tryd.prog w = .ok (.tuple #[.nilIface, .bool false]) w := run_typeAssert_lacksB Tryd.underlying174 (by kernel_rfl) (by kernel_rfl) v xT w
theorem taFAs (v : Value) (xT : TypeId) (w : World) : (Instr.typeAssert (.iface 106 v) xT 180 true).run Tryd.prog w = .ok (.tuple #[.nilIface, .bool false]) w := run_typeAssert_lacksB Tryd.underlying180 (by kernel_rfl) (by kernel_rfl) v xT w
theorem taFUn (v : Value) (xT : TypeId) (w : World) : (Instr.typeAssert (.iface 106 v) xT 161 true).run Tryd.prog w = .ok (.tuple #[.iface 106 v, .bool true]) w := run_typeAssert_hasB Tryd.underlying161 (by kernel_rfl) v xT w
theorem taFUs (v : Value) (xT : TypeId) (w : World) : (Instr.typeAssert (.iface 106 v) xT 176 true).run Tryd.prog w = .ok (.tuple #[.nilIface, .bool false]) w := run_typeAssert_lacksB Tryd.underlying176 (by kernel_rfl) (by kernel_rfl) v xT w
theorem taFIs (v : Value) (xT : TypeId) (w : World) : (Instr.typeAssert (.iface 106 v) xT 174 true).run Tryd.prog w = .ok (.tuple #[.nilIface, .bool false]) w := run_typeAssert_lacksB Tryd.underlying174 (by kernel_rfl) (by kernel_rfl) v xT w
theorem taPAs (v : Value) (xT : TypeId) (w : World) : (Instr.typeAssert (.iface 140 v) xT 180 true).run Tryd.prog w = .ok (.tuple #[.nilIface, .bool false]) w := run_typeAssert_lacksB Tryd.underlying180 (by kernel_rfl) (by kernel_rfl) v xT w
theorem taPUn (v : Value) (xT : TypeId) (w : World) : (Instr.typeAssert (.iface 140 v) xT 161 true).run Tryd.prog w = .ok (.tuple #[.iface 140 v, .bool true]) w := run_typeAssert_hasB Tryd.underlying161 (by kernel_rfl) v xT w
theorem taPUs (v : Value) (xT : TypeId) (w : World) : (Instr.typeAssert (.iface 140 v) xT 176 true).run Tryd.prog w = .ok (.tuple #[.nilIface, .bool false]) w := run_typeAssert_lacksB Tryd.underlying176 (by kernel_rfl) (by kernel_rfl) v xT w
theorem taPIs (v : Value) (xT : TypeId) (w : World) : (Instr.typeAssert (.iface 140 v) xT 174 true).run Tryd.prog w = .ok (.tuple #[.nilIface, .bool false]) w := run_typeAssert_lacksB Tryd.underlying174 (by kernel_rfl) (by kernel_rfl) v xT w
theorem taOAs (v : Value) (xT : TypeId) (w : World) : (Instr.typeAssert (.iface 148 v) xT 180 true).run Tryd.prog w = .ok (.tuple #[.nilIface, .bool false]) w := run_typeAssert_lacksB Tryd.underlying180 (by kernel_rfl) (by kernel_rfl) v xT w
theorem taOUn (v : Value) (xT : TypeId) (w : World) : (Instr.typeAssert (.iface 148 v) xT 161 true).run Tryd.prog w = .ok (.tuple #[.nilIface, .bool false]) w := run_typeAssert_lacksB Tryd.underlying161 (by kernel_rfl) (by kernel_rfl) v xT w
theorem taOUs (v : Value) (xT : TypeId) (w : World) : (Instr.typeAssert (.iface 148 v) xT 176 true).run Tryd.prog w = .ok (.tuple #[.nilIface, .bool false]) w := run_typeAssert_lacksB Tryd.underlying176 (by kernel_rfl) (by kernel_rfl) v xT w
theorem taOIs (v : Value) (xT : TypeId) (w : World) : (Instr.typeAssert (.iface 148 v) xT 174 true).run Tryd.prog w = .ok (.tuple #[.nilIface, .bool false]) w := run_typeAssert_lacksB Tryd.underlying174 (by kernel_rfl) (by kernel_rfl) v xT w
theorem unF (c at_ : Value) (w : World) : (Go.method 329 106 (.agg #[c, at_]) "Unwrap").run Tryd.prog w = .ok (161, .agg #[c, at_]) w := by kernel_rfl
theorem unP (k e : Value) (w : World) : (Go.method 329 140 (.agg #[k, e]) "Unwrap").run Tryd.prog w = .ok (164, .agg #[k, e]) w := by kernel_rfl
theorem faultUnwrap_any (c at_ : Int) (w : World) : Calls Tryd.prog 161 #[.agg #[.int .i64 c, .int .i64 at_]] w fun e w' => e = .returned (.iface 94 (.int .i64 c)) ∧ Below w.heap.size w w' := by
  go_enter Tryd.func161, Tryd.ntmps161
  go_wp2
  go_ret
  exact ⟨rfl, (Below.refl _ _).alloc (Nat.le_refl _) _⟩
theorem placedUnwrap_any (k : Int) (t : TypeId) (v : Value) (w : World) : Calls Tryd.prog 164 #[.agg #[.int .i64 k, .iface t v]] w fun e w' => e = .returned (.iface t v) ∧ Below w.heap.size w w' := by
  go_enter Tryd.func164, Tryd.ntmps164
  go_wp2
  go_ret
  exact ⟨rfl, (Below.refl _ _).alloc (Nat.le_refl _) _⟩

end Go.Proofs.YtcegipkhmibdeaaDoor
/- errors.as at the target *api.Code. -/
namespace Go.Proofs.YtcegipkhmibdeaaDoor
set_option linter.all false
open Go.RowKit Go.Extern.Stop Go.Stop Go.Extern

/-- What errors.as does to the world: nothing that was there, but the target where it finds. -/
def PostC (w : World) (tb : Nat) (o0 : Value) (o : Option Int) (w' : World) : Prop :=
  Below tb w w' ∧ w'.cell? ⟨tb, 0, none⟩ = some (match o with | some c => .int .i64 c | none => o0)
set_option maxHeartbeats 4000000 in
set_option maxRecDepth 100000 in
theorem asC_any (e : EV) (tb vb : Nat) (o0 : Value) (w : World) (hv : w.cell? ⟨vb, 0, none⟩ = some (.pointer (some ⟨tb, 0, none⟩))) (ht0 : w.cell? ⟨tb, 0, none⟩ = some o0) (hf0 : w.frozen? ⟨tb, 0, none⟩ = false) :
    Calls Tryd.prog 117 #[e.val, .iface 135 (.pointer (some ⟨tb, 0, none⟩)), .agg #[.pointer (some ⟨7, 135, none⟩), .pointer (some ⟨vb, 0, none⟩), .int .u64 150], .iface 172 (.agg #[.pointer (some ⟨7, 94, none⟩)])] w fun r w' => r = .returned (.bool e.asC.isSome) ∧ PostC w tb o0 e.asC w' := by
  have hvl := World.block_lt_of_cell? w _ hv
  have htl := World.block_lt_of_cell? w _ ht0
  simp only at hvl htl
  obtain ⟨t0, v0, he0⟩ := e.iface
  rw [he0]
  have x112 := @run_callFunc_extern Tryd.prog 112 _ ReflectliteType.typeOf Tryd.func112 (by kernel_rfl) (by kernel_rfl) (by kernel_rfl) (by kernel_rfl)
  have x114 := @run_callFunc_extern Tryd.prog 114 _ (fun args => ReflectliteValue.unpack (args.getD 0 (.tuple #[]))) Tryd.func114 (by kernel_rfl) (by kernel_rfl) (by kernel_rfl) (by kernel_rfl)
  have xas := @run_callFunc_extern Tryd.prog 170 _ (ReflectliteType.relation "AssignableTo" ReflectliteType.assignableTo) Tryd.func170 (by kernel_rfl) (by kernel_rfl) (by kernel_rfl) (by kernel_rfl)
  have x123 := @run_callFunc_extern Tryd.prog 123 _ (ReflectliteValue.method (ReflectliteValue.valueError "reflectlite.Value.Elem" 0) ReflectliteValue.elem) Tryd.func123 (by kernel_rfl) (by kernel_rfl) (by kernel_rfl) (by kernel_rfl)
  have x124 := @run_callFunc_extern Tryd.prog 124 _ ReflectliteValue.set Tryd.func124 (by kernel_rfl) (by kernel_rfl) (by kernel_rfl) (by kernel_rfl)
  have mA := methodAssignableTo
  obtain ⟨w0, hw0⟩ : ∃ w0, w0 = w.alloc (.cells #[.pointer (some ⟨7, 135, none⟩), .pointer (some ⟨vb, 0, none⟩), .int .u64 150] 154) := ⟨_, rfl⟩
  have hB : Below w.heap.size w w0 := by rw [hw0]; exact (Below.refl _ w).alloc (Nat.le_refl _) _
  have hs : w0.heap.size = w.heap.size + 1 := by rw [hw0]; simp
  have b0 : w0.cell? ⟨w.heap.size, 0, none⟩ = some (.pointer (some ⟨7, 135, none⟩)) := by rw [hw0]; go_simp
  have b1 : w0.cell? ⟨w.heap.size, 1, none⟩ = some (.pointer (some ⟨vb, 0, none⟩)) := by rw [hw0]; go_simp
  have b2 : w0.cell? ⟨w.heap.size, 2, none⟩ = some (.int .u64 150) := by rw [hw0]; go_simp
  have v1 : w0.cell? ⟨vb, 0, none⟩ = some (.pointer (some ⟨tb, 0, none⟩)) := (hB.cell (p := ⟨vb, 0, none⟩) hvl).trans hv
  have t1 : w0.cell? ⟨tb, 0, none⟩ = some o0 := (hB.cell (p := ⟨tb, 0, none⟩) htl).trans ht0
  have f1 : w0.frozen? ⟨tb, 0, none⟩ = false := (hB.frozen (p := ⟨tb, 0, none⟩) htl).trans hf0
  clear hv ht0 hf0
  have HE := Lib.hid he0; clear he0
  go_enter Tryd.func117, Tryd.ntmps117
  go_wp2
  change Code.wp _ _ _ _ (w.alloc (.cells #[.pointer (some ⟨7, 135, none⟩), .pointer (some ⟨vb, 0, none⟩), .int .u64 150] 154))
  rw [← hw0]
  clear hw0
  go_loopg [0] e.depth (fun gg x wr => ∃ e' : EV, x = e'.val ∧ e'.depth ≤ gg ∧ Hid (e.asC = e'.asC) ∧ Aside (Below w0.heap.size w0 wr))
  case atStart => exact ⟨e, HE.out.symm, Nat.le_refl _, rfl, Below.refl _ _⟩
  case round =>
    obtain ⟨e', rfl, hd, hr, hb⟩ := hrel
    have hsz := hb.out.size
    have c0 : wr.cell? ⟨w.heap.size, 0, none⟩ = some (.pointer (some ⟨7, 135, none⟩)) := (hb.out.cell (p := ⟨w.heap.size, 0, none⟩) (by show w.heap.size < _; omega)).trans b0
    have c1 : wr.cell? ⟨w.heap.size, 1, none⟩ = some (.pointer (some ⟨vb, 0, none⟩)) := (hb.out.cell (p := ⟨w.heap.size, 1, none⟩) (by show w.heap.size < _; omega)).trans b1
    have c2 : wr.cell? ⟨w.heap.size, 2, none⟩ = some (.int .u64 150) := (hb.out.cell (p := ⟨w.heap.size, 2, none⟩) (by show w.heap.size < _; omega)).trans b2
    have c3 : wr.cell? ⟨vb, 0, none⟩ = some (.pointer (some ⟨tb, 0, none⟩)) := (hb.out.cell (p := ⟨vb, 0, none⟩) (by show vb < _; omega)).trans v1
    have c4 : wr.cell? ⟨tb, 0, none⟩ = some o0 := (hb.out.cell (p := ⟨tb, 0, none⟩) (by show tb < _; omega)).trans t1
    have c5 : wr.frozen? ⟨tb, 0, none⟩ = false := (hb.out.frozen (p := ⟨tb, 0, none⟩) (by show tb < _; omega)).trans f1
    clear b0 b1 b2 v1 t1 f1
    have l1 : w.heap.size < wr.heap.size := by omega
    have l2 : vb < wr.heap.size := by omega
    have l3 : tb < wr.heap.size := by omega
    have hbw : Below tb w wr := (hB.trans (hb.out.mono hB.size)).mono (Nat.le_of_lt htl)
    cases e' with
    | code c =>
      change Code.wp _ _ _ { tmps := _, defers := _ } _
      have hval : (EV.code c).val = .iface 94 (.int .i64 c) := rfl
      rw [hval]
      clear hval
      have tO := typeOfC (.int .i64 c)
      have aT := assignableCC
      have uX := unpackC c
      have eX := fun W => elemVC ⟨vb, 0, none⟩ ⟨tb, 0, none⟩ W
      have sX := fun nb W => setC tb nb c o0 W
      go_wp2
      go_ret
      refine ⟨by rw [hr.out]; rfl, ?_⟩
      rw [hr.out]
      refine ⟨?_, ?_⟩
      · repeat (first | exact hbw | (with_reducible refine Below.alloc ?_ (by simp; omega) _) | (with_reducible refine Below.setCell ?_ (by exact Nat.le_refl _) _) | with_reducible refine Below.drew ?_ | with_reducible refine below_drewN ?_ _)
      all_goals first | (go_simp; done) | (go_simp; rfl)
    | fault c a =>
      change Code.wp _ _ _ { tmps := _, defers := _ } _
      have hval : (EV.fault c a).val = .iface 106 (.agg #[.int .i64 c, .int .i64 a]) := rfl
      rw [hval]
      clear hval
      have tO := typeOfF (.agg #[.int .i64 c, .int .i64 a])
      have aT := assignableFC
      have q1 := taFAs (.agg #[.int .i64 c, .int .i64 a])
      have q2 := taFUn (.agg #[.int .i64 c, .int .i64 a])
      have uN := unF (.int .i64 c) (.int .i64 a)
      go_wp2_with fail
      refine (faultUnwrap_any c a _).mono ?_
      rintro r w1 ⟨rfl, hb1⟩
      go_wp2
      go_roundg (0)
      case measure => exact hd
      case rel => exact ⟨EV.code c, rfl, Nat.le_refl _, hr.out.trans rfl, hb.out.trans (hb1.mono hsz)⟩
    | other p =>
      change Code.wp _ _ _ { tmps := _, defers := _ } _
      have hval : (EV.other p).val = .iface 148 (.pointer (some p)) := rfl
      rw [hval]
      clear hval
      have tO := typeOfO (.pointer (some p))
      have aT := assignableOC
      have q1 := taOAs (.pointer (some p))
      have q2 := taOUn (.pointer (some p))
      have q3 := taOUs (.pointer (some p))
      go_wp2
      go_ret
      refine ⟨by rw [hr.out]; rfl, ?_⟩
      rw [hr.out]
      refine ⟨?_, ?_⟩
      · repeat (first | exact hbw | (with_reducible refine Below.alloc ?_ (by simp; omega) _) | (with_reducible refine Below.setCell ?_ (by exact Nat.le_refl _) _) | with_reducible refine Below.drew ?_ | with_reducible refine below_drewN ?_ _)
      all_goals first | (go_simp; done) | (go_simp; rfl)
    | placed k e1 =>
      change Code.wp _ _ _ { tmps := _, defers := _ } _
      have hval : (EV.placed k e1).val = .iface 140 (.agg #[.int .i64 k, e1.val]) := rfl
      rw [hval]
      clear hval
      obtain ⟨t1, v1, he1⟩ := e1.iface
      rw [he1]
      have HE1 := Lib.hid he1; clear he1
      have tO := typeOfP (.agg #[.int .i64 k, .iface t1 v1])
      have aT := assignablePC
      have q1 := taPAs (.agg #[.int .i64 k, .iface t1 v1])
      have q2 := taPUn (.agg #[.int .i64 k, .iface t1 v1])
      have uN := unP (.int .i64 k) (.iface t1 v1)
      go_wp2_with fail
      refine (placedUnwrap_any k t1 v1 _).mono ?_
      rintro r w1 ⟨rfl, hb1⟩
      go_wp2
      go_roundg (e1.depth)
      case measure => exact hd
      case rel => exact ⟨e1, HE1.out.symm, Nat.le_refl _, hr.out.trans rfl, hb.out.trans (hb1.mono hsz)⟩
end Go.Proofs.YtcegipkhmibdeaaDoor
/- errors.as at the target *api.Fault. -/
namespace Go.Proofs.YtcegipkhmibdeaaDoor
set_option linter.all false
open Go.RowKit Go.Extern.Stop Go.Stop Go.Extern

/-- What errors.as does to the world: nothing that was there, but the target where it finds. -/
def PostF (w : World) (tb : Nat) (o0 o1 : Value) (o : Option (Int × Int)) (w' : World) : Prop :=
  Below tb w w' ∧ w'.cell? ⟨tb, 0, none⟩ = some (match o with | some (c, _) => .int .i64 c | none => o0) ∧ w'.cell? ⟨tb, 1, none⟩ = some (match o with | some (_, a) => .int .i64 a | none => o1)
set_option maxHeartbeats 4000000 in
set_option maxRecDepth 100000 in
theorem asF_any (e : EV) (tb vb : Nat) (o0 o1 : Value) (w : World) (hv : w.cell? ⟨vb, 0, none⟩ = some (.pointer (some ⟨tb, 0, none⟩))) (ht0 : w.cell? ⟨tb, 0, none⟩ = some o0) (hf0 : w.frozen? ⟨tb, 0, none⟩ = false) (ht1 : w.cell? ⟨tb, 1, none⟩ = some o1) (hf1 : w.frozen? ⟨tb, 1, none⟩ = false) :
    Calls Tryd.prog 117 #[e.val, .iface 112 (.pointer (some ⟨tb, 0, none⟩)), .agg #[.pointer (some ⟨7, 112, none⟩), .pointer (some ⟨vb, 0, none⟩), .int .u64 150], .iface 172 (.agg #[.pointer (some ⟨7, 106, none⟩)])] w fun r w' => r = .returned (.bool e.asF.isSome) ∧ PostF w tb o0 o1 e.asF w' := by
  have hvl := World.block_lt_of_cell? w _ hv
  have htl := World.block_lt_of_cell? w _ ht0
  simp only at hvl htl
  obtain ⟨t0, v0, he0⟩ := e.iface
  rw [he0]
  have x112 := @run_callFunc_extern Tryd.prog 112 _ ReflectliteType.typeOf Tryd.func112 (by kernel_rfl) (by kernel_rfl) (by kernel_rfl) (by kernel_rfl)
  have x114 := @run_callFunc_extern Tryd.prog 114 _ (fun args => ReflectliteValue.unpack (args.getD 0 (.tuple #[]))) Tryd.func114 (by kernel_rfl) (by kernel_rfl) (by kernel_rfl) (by kernel_rfl)
  have xas := @run_callFunc_extern Tryd.prog 170 _ (ReflectliteType.relation "AssignableTo" ReflectliteType.assignableTo) Tryd.func170 (by kernel_rfl) (by kernel_rfl) (by kernel_rfl) (by kernel_rfl)
  have x123 := @run_callFunc_extern Tryd.prog 123 _ (ReflectliteValue.method (ReflectliteValue.valueError "reflectlite.Value.Elem" 0) ReflectliteValue.elem) Tryd.func123 (by kernel_rfl) (by kernel_rfl) (by kernel_rfl) (by kernel_rfl)
  have x124 := @run_callFunc_extern Tryd.prog 124 _ ReflectliteValue.set Tryd.func124 (by kernel_rfl) (by kernel_rfl) (by kernel_rfl) (by kernel_rfl)
  have mA := methodAssignableTo
  obtain ⟨w0, hw0⟩ : ∃ w0, w0 = w.alloc (.cells #[.pointer (some ⟨7, 112, none⟩), .pointer (some ⟨vb, 0, none⟩), .int .u64 150] 154) := ⟨_, rfl⟩
  have hB : Below w.heap.size w w0 := by rw [hw0]; exact (Below.refl _ w).alloc (Nat.le_refl _) _
  have hs : w0.heap.size = w.heap.size + 1 := by rw [hw0]; simp
  have b0 : w0.cell? ⟨w.heap.size, 0, none⟩ = some (.pointer (some ⟨7, 112, none⟩)) := by rw [hw0]; go_simp
  have b1 : w0.cell? ⟨w.heap.size, 1, none⟩ = some (.pointer (some ⟨vb, 0, none⟩)) := by rw [hw0]; go_simp
  have b2 : w0.cell? ⟨w.heap.size, 2, none⟩ = some (.int .u64 150) := by rw [hw0]; go_simp
  have v1 : w0.cell? ⟨vb, 0, none⟩ = some (.pointer (some ⟨tb, 0, none⟩)) := (hB.cell (p := ⟨vb, 0, none⟩) hvl).trans hv
  have t1 : w0.cell? ⟨tb, 0, none⟩ = some o0 := (hB.cell (p := ⟨tb, 0, none⟩) htl).trans ht0
  have f1 : w0.frozen? ⟨tb, 0, none⟩ = false := (hB.frozen (p := ⟨tb, 0, none⟩) htl).trans hf0
  have t2 : w0.cell? ⟨tb, 1, none⟩ = some o1 := (hB.cell (p := ⟨tb, 1, none⟩) htl).trans ht1
  have f2 : w0.frozen? ⟨tb, 1, none⟩ = false := (hB.frozen (p := ⟨tb, 1, none⟩) htl).trans hf1
  clear hv ht0 hf0 ht1 hf1
  have HE := Lib.hid he0; clear he0
  go_enter Tryd.func117, Tryd.ntmps117
  go_wp2
  change Code.wp _ _ _ _ (w.alloc (.cells #[.pointer (some ⟨7, 112, none⟩), .pointer (some ⟨vb, 0, none⟩), .int .u64 150] 154))
  rw [← hw0]
  clear hw0
  go_loopg [0] e.depth (fun gg x wr => ∃ e' : EV, x = e'.val ∧ e'.depth ≤ gg ∧ Hid (e.asF = e'.asF) ∧ Aside (Below w0.heap.size w0 wr))
  case atStart => exact ⟨e, HE.out.symm, Nat.le_refl _, rfl, Below.refl _ _⟩
  case round =>
    obtain ⟨e', rfl, hd, hr, hb⟩ := hrel
    have hsz := hb.out.size
    have c0 : wr.cell? ⟨w.heap.size, 0, none⟩ = some (.pointer (some ⟨7, 112, none⟩)) := (hb.out.cell (p := ⟨w.heap.size, 0, none⟩) (by show w.heap.size < _; omega)).trans b0
    have c1 : wr.cell? ⟨w.heap.size, 1, none⟩ = some (.pointer (some ⟨vb, 0, none⟩)) := (hb.out.cell (p := ⟨w.heap.size, 1, none⟩) (by show w.heap.size < _; omega)).trans b1
    have c2 : wr.cell? ⟨w.heap.size, 2, none⟩ = some (.int .u64 150) := (hb.out.cell (p := ⟨w.heap.size, 2, none⟩) (by show w.heap.size < _; omega)).trans b2
    have c3 : wr.cell? ⟨vb, 0, none⟩ = some (.pointer (some ⟨tb, 0, none⟩)) := (hb.out.cell (p := ⟨vb, 0, none⟩) (by show vb < _; omega)).trans v1
    have c4 : wr.cell? ⟨tb, 0, none⟩ = some o0 := (hb.out.cell (p := ⟨tb, 0, none⟩) (by show tb < _; omega)).trans t1
    have c5 : wr.frozen? ⟨tb, 0, none⟩ = false := (hb.out.frozen (p := ⟨tb, 0, none⟩) (by show tb < _; omega)).trans f1
    have c6 : wr.cell? ⟨tb, 1, none⟩ = some o1 := (hb.out.cell (p := ⟨tb, 1, none⟩) (by show tb < _; omega)).trans t2
    have c7 : wr.frozen? ⟨tb, 1, none⟩ = false := (hb.out.frozen (p := ⟨tb, 1, none⟩) (by show tb < _; omega)).trans f2
    clear t2 f2
    clear b0 b1 b2 v1 t1 f1
    have l1 : w.heap.size < wr.heap.size := by omega
    have l2 : vb < wr.heap.size := by omega
    have l3 : tb < wr.heap.size := by omega
    have hbw : Below tb w wr := (hB.trans (hb.out.mono hB.size)).mono (Nat.le_of_lt htl)
    cases e' with
    | code c =>
      change Code.wp _ _ _ { tmps := _, defers := _ } _
      have hval : (EV.code c).val = .iface 94 (.int .i64 c) := rfl
      rw [hval]
      clear hval
      have tO := typeOfC (.int .i64 c)
      have aT := assignableCF
      have q1 := taCAs (.int .i64 c)
      have q2 := taCUn (.int .i64 c)
      have q3 := taCUs (.int .i64 c)
      go_wp2
      go_ret
      refine ⟨by rw [hr.out]; rfl, ?_⟩
      rw [hr.out]
      refine ⟨?_, ?_, ?_⟩
      · repeat (first | exact hbw | (with_reducible refine Below.alloc ?_ (by simp; omega) _) | (with_reducible refine Below.setCell ?_ (by exact Nat.le_refl _) _) | with_reducible refine Below.drew ?_ | with_reducible refine below_drewN ?_ _)
      all_goals first | (go_simp; done) | (go_simp; rfl)
    | fault c a =>
      change Code.wp _ _ _ { tmps := _, defers := _ } _
      have hval : (EV.fault c a).val = .iface 106 (.agg #[.int .i64 c, .int .i64 a]) := rfl
      rw [hval]
      clear hval
      have tO := typeOfF (.agg #[.int .i64 c, .int .i64 a])
      have aT := assignableFF
      have uX := unpackF c a
      have eX := fun W => elemVF ⟨vb, 0, none⟩ ⟨tb, 0, none⟩ W
      have sX := fun nb W => setF tb nb c a o0 o1 W
      go_wp2
      go_ret
      refine ⟨by rw [hr.out]; rfl, ?_⟩
      rw [hr.out]
      refine ⟨?_, ?_, ?_⟩
      · repeat (first | exact hbw | (with_reducible refine Below.alloc ?_ (by simp; omega) _) | (with_reducible refine Below.setCell ?_ (by exact Nat.le_refl _) _) | with_reducible refine Below.drew ?_ | with_reducible refine below_drewN ?_ _)
      all_goals first | (go_simp; done) | (go_simp; rfl)
    | other p =>
      change Code.wp _ _ _ { tmps := _, defers := _ } _
      have hval : (EV.other p).val = .iface 148 (.pointer (some p)) := rfl
      rw [hval]
      clear hval
      have tO := typeOfO (.pointer (some p))
      have aT := assignableOF
      have q1 := taOAs (.pointer (some p))
      have q2 := taOUn (.pointer (some p))
      have q3 := taOUs (.pointer (some p))
      go_wp2
      go_ret
      refine ⟨by rw [hr.out]; rfl, ?_⟩
      rw [hr.out]
      refine ⟨?_, ?_, ?_⟩
      · repeat (first | exact hbw | (with_reducible refine Below.alloc ?_ (by simp; omega) _) | (with_reducible refine Below.setCell ?_ (by exact Nat.le_refl _) _) | with_reducible refine Below.drew ?_ | with_reducible refine below_drewN ?_ _)
      all_goals first | (go_simp; done) | (go_simp; rfl)
    | placed k e1 =>
      change Code.wp _ _ _ { tmps := _, defers := _ } _
      have hval : (EV.placed k e1).val = .iface 140 (.agg #[.int .i64 k, e1.val]) := rfl
      rw [hval]
      clear hval
      obtain ⟨t1, v1, he1⟩ := e1.iface
      rw [he1]
      have HE1 := Lib.hid he1; clear he1
      have tO := typeOfP (.agg #[.int .i64 k, .iface t1 v1])
      have aT := assignablePF
      have q1 := taPAs (.agg #[.int .i64 k, .iface t1 v1])
      have q2 := taPUn (.agg #[.int .i64 k, .iface t1 v1])
      have uN := unP (.int .i64 k) (.iface t1 v1)
      go_wp2_with fail
      refine (placedUnwrap_any k t1 v1 _).mono ?_
      rintro r w1 ⟨rfl, hb1⟩
      go_wp2
      go_roundg (e1.depth)
      case measure => exact hd
      case rel => exact ⟨e1, HE1.out.symm, Nat.le_refl _, hr.out.trans rfl, hb.out.trans (hb1.mono hsz)⟩
end Go.Proofs.YtcegipkhmibdeaaDoor
/- errors.as at the target *fault.placed. -/
namespace Go.Proofs.YtcegipkhmibdeaaDoor
set_option linter.all false
open Go.RowKit Go.Extern.Stop Go.Stop Go.Extern

/-- What errors.as does to the world: nothing that was there, but the target where it finds. -/
def PostP (w : World) (tb : Nat) (o0 o1 : Value) (o : Option (Int × EV)) (w' : World) : Prop :=
  Below tb w w' ∧ w'.cell? ⟨tb, 0, none⟩ = some (match o with | some (k, _) => .int .i64 k | none => o0) ∧ w'.cell? ⟨tb, 1, none⟩ = some (match o with | some (_, e) => e.val | none => o1)
set_option maxHeartbeats 4000000 in
set_option maxRecDepth 100000 in
theorem asP_any (e : EV) (tb vb : Nat) (o0 o1 : Value) (w : World) (hv : w.cell? ⟨vb, 0, none⟩ = some (.pointer (some ⟨tb, 0, none⟩))) (ht0 : w.cell? ⟨tb, 0, none⟩ = some o0) (hf0 : w.frozen? ⟨tb, 0, none⟩ = false) (ht1 : w.cell? ⟨tb, 1, none⟩ = some o1) (hf1 : w.frozen? ⟨tb, 1, none⟩ = false) :
    Calls Tryd.prog 117 #[e.val, .iface 141 (.pointer (some ⟨tb, 0, none⟩)), .agg #[.pointer (some ⟨7, 141, none⟩), .pointer (some ⟨vb, 0, none⟩), .int .u64 150], .iface 172 (.agg #[.pointer (some ⟨7, 140, none⟩)])] w fun r w' => r = .returned (.bool e.asP.isSome) ∧ PostP w tb o0 o1 e.asP w' := by
  have hvl := World.block_lt_of_cell? w _ hv
  have htl := World.block_lt_of_cell? w _ ht0
  simp only at hvl htl
  obtain ⟨t0, v0, he0⟩ := e.iface
  rw [he0]
  have x112 := @run_callFunc_extern Tryd.prog 112 _ ReflectliteType.typeOf Tryd.func112 (by kernel_rfl) (by kernel_rfl) (by kernel_rfl) (by kernel_rfl)
  have x114 := @run_callFunc_extern Tryd.prog 114 _ (fun args => ReflectliteValue.unpack (args.getD 0 (.tuple #[]))) Tryd.func114 (by kernel_rfl) (by kernel_rfl) (by kernel_rfl) (by kernel_rfl)
  have xas := @run_callFunc_extern Tryd.prog 170 _ (ReflectliteType.relation "AssignableTo" ReflectliteType.assignableTo) Tryd.func170 (by kernel_rfl) (by kernel_rfl) (by kernel_rfl) (by kernel_rfl)
  have x123 := @run_callFunc_extern Tryd.prog 123 _ (ReflectliteValue.method (ReflectliteValue.valueError "reflectlite.Value.Elem" 0) ReflectliteValue.elem) Tryd.func123 (by kernel_rfl) (by kernel_rfl) (by kernel_rfl) (by kernel_rfl)
  have x124 := @run_callFunc_extern Tryd.prog 124 _ ReflectliteValue.set Tryd.func124 (by kernel_rfl) (by kernel_rfl) (by kernel_rfl) (by kernel_rfl)
  have mA := methodAssignableTo
  obtain ⟨w0, hw0⟩ : ∃ w0, w0 = w.alloc (.cells #[.pointer (some ⟨7, 141, none⟩), .pointer (some ⟨vb, 0, none⟩), .int .u64 150] 154) := ⟨_, rfl⟩
  have hB : Below w.heap.size w w0 := by rw [hw0]; exact (Below.refl _ w).alloc (Nat.le_refl _) _
  have hs : w0.heap.size = w.heap.size + 1 := by rw [hw0]; simp
  have b0 : w0.cell? ⟨w.heap.size, 0, none⟩ = some (.pointer (some ⟨7, 141, none⟩)) := by rw [hw0]; go_simp
  have b1 : w0.cell? ⟨w.heap.size, 1, none⟩ = some (.pointer (some ⟨vb, 0, none⟩)) := by rw [hw0]; go_simp
  have b2 : w0.cell? ⟨w.heap.size, 2, none⟩ = some (.int .u64 150) := by rw [hw0]; go_simp
  have v1 : w0.cell? ⟨vb, 0, none⟩ = some (.pointer (some ⟨tb, 0, none⟩)) := (hB.cell (p := ⟨vb, 0, none⟩) hvl).trans hv
  have t1 : w0.cell? ⟨tb, 0, none⟩ = some o0 := (hB.cell (p := ⟨tb, 0, none⟩) htl).trans ht0
  have f1 : w0.frozen? ⟨tb, 0, none⟩ = false := (hB.frozen (p := ⟨tb, 0, none⟩) htl).trans hf0
  have t2 : w0.cell? ⟨tb, 1, none⟩ = some o1 := (hB.cell (p := ⟨tb, 1, none⟩) htl).trans ht1
  have f2 : w0.frozen? ⟨tb, 1, none⟩ = false := (hB.frozen (p := ⟨tb, 1, none⟩) htl).trans hf1
  clear hv ht0 hf0 ht1 hf1
  have HE := Lib.hid he0; clear he0
  go_enter Tryd.func117, Tryd.ntmps117
  go_wp2
  change Code.wp _ _ _ _ (w.alloc (.cells #[.pointer (some ⟨7, 141, none⟩), .pointer (some ⟨vb, 0, none⟩), .int .u64 150] 154))
  rw [← hw0]
  clear hw0
  go_loopg [0] e.depth (fun gg x wr => ∃ e' : EV, x = e'.val ∧ e'.depth ≤ gg ∧ Hid (e.asP = e'.asP) ∧ Aside (Below w0.heap.size w0 wr))
  case atStart => exact ⟨e, HE.out.symm, Nat.le_refl _, rfl, Below.refl _ _⟩
  case round =>
    obtain ⟨e', rfl, hd, hr, hb⟩ := hrel
    have hsz := hb.out.size
    have c0 : wr.cell? ⟨w.heap.size, 0, none⟩ = some (.pointer (some ⟨7, 141, none⟩)) := (hb.out.cell (p := ⟨w.heap.size, 0, none⟩) (by show w.heap.size < _; omega)).trans b0
    have c1 : wr.cell? ⟨w.heap.size, 1, none⟩ = some (.pointer (some ⟨vb, 0, none⟩)) := (hb.out.cell (p := ⟨w.heap.size, 1, none⟩) (by show w.heap.size < _; omega)).trans b1
    have c2 : wr.cell? ⟨w.heap.size, 2, none⟩ = some (.int .u64 150) := (hb.out.cell (p := ⟨w.heap.size, 2, none⟩) (by show w.heap.size < _; omega)).trans b2
    have c3 : wr.cell? ⟨vb, 0, none⟩ = some (.pointer (some ⟨tb, 0, none⟩)) := (hb.out.cell (p := ⟨vb, 0, none⟩) (by show vb < _; omega)).trans v1
    have c4 : wr.cell? ⟨tb, 0, none⟩ = some o0 := (hb.out.cell (p := ⟨tb, 0, none⟩) (by show tb < _; omega)).trans t1
    have c5 : wr.frozen? ⟨tb, 0, none⟩ = false := (hb.out.frozen (p := ⟨tb, 0, none⟩) (by show tb < _; omega)).trans f1
    have c6 : wr.cell? ⟨tb, 1, none⟩ = some o1 := (hb.out.cell (p := ⟨tb, 1, none⟩) (by show tb < _; omega)).trans t2
    have c7 : wr.frozen? ⟨tb, 1, none⟩ = false := (hb.out.frozen (p := ⟨tb, 1, none⟩) (by show tb < _; omega)).trans f2
    clear t2 f2
    clear b0 b1 b2 v1 t1 f1
    have l1 : w.heap.size < wr.heap.size := by omega
    have l2 : vb < wr.heap.size := by omega
    have l3 : tb < wr.heap.size := by omega
    have hbw : Below tb w wr := (hB.trans (hb.out.mono hB.size)).mono (Nat.le_of_lt htl)
    cases e' with
    | code c =>
      change Code.wp _ _ _ { tmps := _, defers := _ } _
      have hval : (EV.code c).val = .iface 94 (.int .i64 c) := rfl
      rw [hval]
      clear hval
      have tO := typeOfC (.int .i64 c)
      have aT := assignableCP
      have q1 := taCAs (.int .i64 c)
      have q2 := taCUn (.int .i64 c)
      have q3 := taCUs (.int .i64 c)
      go_wp2
      go_ret
      refine ⟨by rw [hr.out]; rfl, ?_⟩
      rw [hr.out]
      refine ⟨?_, ?_, ?_⟩
      · repeat (first | exact hbw | (with_reducible refine Below.alloc ?_ (by simp; omega) _) | (with_reducible refine Below.setCell ?_ (by exact Nat.le_refl _) _) | with_reducible refine Below.drew ?_ | with_reducible refine below_drewN ?_ _)
      all_goals first | (go_simp; done) | (go_simp; rfl)
    | fault c a =>
      change Code.wp _ _ _ { tmps := _, defers := _ } _
      have hval : (EV.fault c a).val = .iface 106 (.agg #[.int .i64 c, .int .i64 a]) := rfl
      rw [hval]
      clear hval
      have tO := typeOfF (.agg #[.int .i64 c, .int .i64 a])
      have aT := assignableFP
      have q1 := taFAs (.agg #[.int .i64 c, .int .i64 a])
      have q2 := taFUn (.agg #[.int .i64 c, .int .i64 a])
      have uN := unF (.int .i64 c) (.int .i64 a)
      go_wp2_with fail
      refine (faultUnwrap_any c a _).mono ?_
      rintro r w1 ⟨rfl, hb1⟩
      go_wp2
      go_roundg (0)
      case measure => exact hd
      case rel => exact ⟨EV.code c, rfl, Nat.le_refl _, hr.out.trans rfl, hb.out.trans (hb1.mono hsz)⟩
    | other p =>
      change Code.wp _ _ _ { tmps := _, defers := _ } _
      have hval : (EV.other p).val = .iface 148 (.pointer (some p)) := rfl
      rw [hval]
      clear hval
      have tO := typeOfO (.pointer (some p))
      have aT := assignableOP
      have q1 := taOAs (.pointer (some p))
      have q2 := taOUn (.pointer (some p))
      have q3 := taOUs (.pointer (some p))
      go_wp2
      go_ret
      refine ⟨by rw [hr.out]; rfl, ?_⟩
      rw [hr.out]
      refine ⟨?_, ?_, ?_⟩
      · repeat (first | exact hbw | (with_reducible refine Below.alloc ?_ (by simp; omega) _) | (with_reducible refine Below.setCell ?_ (by exact Nat.le_refl _) _) | with_reducible refine Below.drew ?_ | with_reducible refine below_drewN ?_ _)
      all_goals first | (go_simp; done) | (go_simp; rfl)
    | placed k e1 =>
      change Code.wp _ _ _ { tmps := _, defers := _ } _
      have hval : (EV.placed k e1).val = .iface 140 (.agg #[.int .i64 k, e1.val]) := rfl
      rw [hval]
      clear hval
      have tO := typeOfP (.agg #[.int .i64 k, e1.val])
      have aT := assignablePP
      have uX := unpackP k e1.val
      have eX := fun W => elemVP ⟨vb, 0, none⟩ ⟨tb, 0, none⟩ W
      have sX := fun nb W => setP tb nb k e1.val o0 o1 W (by obtain ⟨t, v, h⟩ := e1.iface; exact .inr ⟨t, v, h⟩)
      have hq1 : (match e1.val with | Value.agg cs => cs | v => #[v]) = #[e1.val] := by obtain ⟨t, v, h⟩ := e1.iface; rw [h]
      go_wp2
      go_ret
      refine ⟨by rw [hr.out]; rfl, ?_⟩
      rw [hr.out]
      refine ⟨?_, ?_, ?_⟩
      · repeat (first | exact hbw | (with_reducible refine Below.alloc ?_ (by simp; omega) _) | (with_reducible refine Below.setCell ?_ (by exact Nat.le_refl _) _) | with_reducible refine Below.drew ?_ | with_reducible refine below_drewN ?_ _)
      all_goals first | (go_simp; done) | (go_simp; rfl)
end Go.Proofs.YtcegipkhmibdeaaDoor
/- errors.As at the three targets. -/
namespace Go.Proofs.YtcegipkhmibdeaaDoor
set_option linter.all false
open Go.RowKit Go.Extern.Stop Go.Stop Go.Extern

set_option maxHeartbeats 4000000 in
set_option maxRecDepth 100000 in
theorem errorsAsC_any (e : EV) (tb : Nat) (o0 : Value) (w : World) (hE : ErrType w) (ht0 : w.cell? ⟨tb, 0, none⟩ = some o0) (hf0 : w.frozen? ⟨tb, 0, none⟩ = false) :
    Calls Tryd.prog 88 #[e.val, .iface 135 (.pointer (some ⟨tb, 0, none⟩))] w fun r w' => r = .returned (.bool e.asC.isSome) ∧ PostC w tb o0 e.asC w' := by
  have htl := World.block_lt_of_cell? w _ ht0
  simp only at htl
  have hel := hE.lt
  have hg : ((w.alloc (.cells #[.pointer (some ⟨tb, 0, none⟩)] 135)).alloc (.cells #[.pointer (some ⟨7, 135, none⟩), .pointer (some ⟨w.heap.size, 0, none⟩), .int .u64 150] 154)).cell? ⟨3, 0, none⟩ = some (.iface 172 (.agg #[.pointer (some ⟨7, 47, none⟩)])) := by
    rw [World.cell?_alloc_lt _ _ _ (by simp; omega), World.cell?_alloc_lt _ _ _ hel]; exact hE
  have x114 := @run_callFunc_extern Tryd.prog 114 _ (fun args => ReflectliteValue.unpack (args.getD 0 (.tuple #[]))) Tryd.func114 (by kernel_rfl) (by kernel_rfl) (by kernel_rfl) (by kernel_rfl)
  have x115 := @run_callFunc_extern Tryd.prog 115 _ (ReflectliteValue.methodAny (ReflectliteValue.valueError "reflectlite.Value.Type" 0) (fun t _ _ _ => ReflectliteType.toType t)) Tryd.func115 (by kernel_rfl) (by kernel_rfl) (by kernel_rfl) (by kernel_rfl)
  have x116 := @run_callFunc_extern Tryd.prog 116 _ (ReflectliteValue.method (ReflectliteValue.valueError "reflectlite.Value.IsNil" 0) ReflectliteValue.isNil) Tryd.func116 (by kernel_rfl) (by kernel_rfl) (by kernel_rfl) (by kernel_rfl)
  have x142 := @run_callFunc_extern Tryd.prog 142 _ (ReflectliteType.abiMethod fun t => (fun a : Nat => Value.int IntKind.u8 (a : Int)) <$> Rtype.kind t) Tryd.func142 (by kernel_rfl) (by kernel_rfl) (by kernel_rfl) (by kernel_rfl)
  have xel := @run_callFunc_extern Tryd.prog 172 _ (ReflectliteType.method ReflectliteType.elem) Tryd.func172 (by kernel_rfl) (by kernel_rfl) (by kernel_rfl) (by kernel_rfl)
  have xim := @run_callFunc_extern Tryd.prog 173 _ (ReflectliteType.relation "Implements" ReflectliteType.implements_) Tryd.func173 (by kernel_rfl) (by kernel_rfl) (by kernel_rfl) (by kernel_rfl)
  have f6 := valueOfC ⟨tb, 0, none⟩
  have f7 := fun a => typeC a
  have mK := methodKind
  have mE := methodElem
  have mI := methodImplements
  have k1 := kindPC
  have k2 := kindEC
  have e1 := elemC
  have i1 := implementsC
  have n1 := fun a W => isNilC a ⟨tb, 0, none⟩ W
  have HA := Lib.hid (asC_any e tb w.heap.size o0 ((w.alloc (.cells #[.pointer (some ⟨tb, 0, none⟩)] 135)).alloc (.cells #[.pointer (some ⟨7, 135, none⟩), .pointer (some ⟨w.heap.size, 0, none⟩), .int .u64 150] 154)) (by go_simp) (by go_simp) (by go_simp))
  clear ht0 hf0 
  obtain ⟨t0, v0, he0⟩ := e.iface
  rw [he0] at HA ⊢
  clear he0
  generalize e.asC = o at *
  go_enter Tryd.func88, Tryd.ntmps88
  go_wp2_with fail
  refine HA.out.mono ?_
  rintro r w1 ⟨rfl, hp⟩
  go_wp2
  go_ret
  exact ⟨rfl, (((Below.refl tb w).alloc (Nat.le_of_lt htl) _).alloc (by simp; omega) _).trans hp.1, hp.2⟩
set_option maxHeartbeats 4000000 in
set_option maxRecDepth 100000 in
theorem errorsAsF_any (e : EV) (tb : Nat) (o0 o1 : Value) (w : World) (hE : ErrType w) (ht0 : w.cell? ⟨tb, 0, none⟩ = some o0) (hf0 : w.frozen? ⟨tb, 0, none⟩ = false) (ht1 : w.cell? ⟨tb, 1, none⟩ = some o1) (hf1 : w.frozen? ⟨tb, 1, none⟩ = false) :
    Calls Tryd.prog 88 #[e.val, .iface 112 (.pointer (some ⟨tb, 0, none⟩))] w fun r w' => r = .returned (.bool e.asF.isSome) ∧ PostF w tb o0 o1 e.asF w' := by
  have htl := World.block_lt_of_cell? w _ ht0
  simp only at htl
  have hel := hE.lt
  have hg : ((w.alloc (.cells #[.pointer (some ⟨tb, 0, none⟩)] 112)).alloc (.cells #[.pointer (some ⟨7, 112, none⟩), .pointer (some ⟨w.heap.size, 0, none⟩), .int .u64 150] 154)).cell? ⟨3, 0, none⟩ = some (.iface 172 (.agg #[.pointer (some ⟨7, 47, none⟩)])) := by
    rw [World.cell?_alloc_lt _ _ _ (by simp; omega), World.cell?_alloc_lt _ _ _ hel]; exact hE
  have x114 := @run_callFunc_extern Tryd.prog 114 _ (fun args => ReflectliteValue.unpack (args.getD 0 (.tuple #[]))) Tryd.func114 (by kernel_rfl) (by kernel_rfl) (by kernel_rfl) (by kernel_rfl)
  have x115 := @run_callFunc_extern Tryd.prog 115 _ (ReflectliteValue.methodAny (ReflectliteValue.valueError "reflectlite.Value.Type" 0) (fun t _ _ _ => ReflectliteType.toType t)) Tryd.func115 (by kernel_rfl) (by kernel_rfl) (by kernel_rfl) (by kernel_rfl)
  have x116 := @run_callFunc_extern Tryd.prog 116 _ (ReflectliteValue.method (ReflectliteValue.valueError "reflectlite.Value.IsNil" 0) ReflectliteValue.isNil) Tryd.func116 (by kernel_rfl) (by kernel_rfl) (by kernel_rfl) (by kernel_rfl)
  have x142 := @run_callFunc_extern Tryd.prog 142 _ (ReflectliteType.abiMethod fun t => (fun a : Nat => Value.int IntKind.u8 (a : Int)) <$> Rtype.kind t) Tryd.func142 (by kernel_rfl) (by kernel_rfl) (by kernel_rfl) (by kernel_rfl)
  have xel := @run_callFunc_extern Tryd.prog 172 _ (ReflectliteType.method ReflectliteType.elem) Tryd.func172 (by kernel_rfl) (by kernel_rfl) (by kernel_rfl) (by kernel_rfl)
  have xim := @run_callFunc_extern Tryd.prog 173 _ (ReflectliteType.relation "Implements" ReflectliteType.implements_) Tryd.func173 (by kernel_rfl) (by kernel_rfl) (by kernel_rfl) (by kernel_rfl)
  have f6 := valueOfF ⟨tb, 0, none⟩
  have f7 := fun a => typeF a
  have mK := methodKind
  have mE := methodElem
  have mI := methodImplements
  have k1 := kindPF
  have k2 := kindEF
  have e1 := elemF
  have i1 := implementsF
  have n1 := fun a W => isNilF a ⟨tb, 0, none⟩ W
  have HA := Lib.hid (asF_any e tb w.heap.size o0 o1 ((w.alloc (.cells #[.pointer (some ⟨tb, 0, none⟩)] 112)).alloc (.cells #[.pointer (some ⟨7, 112, none⟩), .pointer (some ⟨w.heap.size, 0, none⟩), .int .u64 150] 154)) (by go_simp) (by go_simp) (by go_simp) (by go_simp) (by go_simp))
  clear ht0 hf0 ht1 hf1
  obtain ⟨t0, v0, he0⟩ := e.iface
  rw [he0] at HA ⊢
  clear he0
  generalize e.asF = o at *
  go_enter Tryd.func88, Tryd.ntmps88
  go_wp2_with fail
  refine HA.out.mono ?_
  rintro r w1 ⟨rfl, hp⟩
  go_wp2
  go_ret
  exact ⟨rfl, (((Below.refl tb w).alloc (Nat.le_of_lt htl) _).alloc (by simp; omega) _).trans hp.1, hp.2⟩
set_option maxHeartbeats 4000000 in
set_option maxRecDepth 100000 in
theorem errorsAsP_any (e : EV) (tb : Nat) (o0 o1 : Value) (w : World) (hE : ErrType w) (ht0 : w.cell? ⟨tb, 0, none⟩ = some o0) (hf0 : w.frozen? ⟨tb, 0, none⟩ = false) (ht1 : w.cell? ⟨tb, 1, none⟩ = some o1) (hf1 : w.frozen? ⟨tb, 1, none⟩ = false) :
    Calls Tryd.prog 88 #[e.val, .iface 141 (.pointer (some ⟨tb, 0, none⟩))] w fun r w' => r = .returned (.bool e.asP.isSome) ∧ PostP w tb o0 o1 e.asP w' := by
  have htl := World.block_lt_of_cell? w _ ht0
  simp only at htl
  have hel := hE.lt
  have hg : ((w.alloc (.cells #[.pointer (some ⟨tb, 0, none⟩)] 141)).alloc (.cells #[.pointer (some ⟨7, 141, none⟩), .pointer (some ⟨w.heap.size, 0, none⟩), .int .u64 150] 154)).cell? ⟨3, 0, none⟩ = some (.iface 172 (.agg #[.pointer (some ⟨7, 47, none⟩)])) := by
    rw [World.cell?_alloc_lt _ _ _ (by simp; omega), World.cell?_alloc_lt _ _ _ hel]; exact hE
  have x114 := @run_callFunc_extern Tryd.prog 114 _ (fun args => ReflectliteValue.unpack (args.getD 0 (.tuple #[]))) Tryd.func114 (by kernel_rfl) (by kernel_rfl) (by kernel_rfl) (by kernel_rfl)
  have x115 := @run_callFunc_extern Tryd.prog 115 _ (ReflectliteValue.methodAny (ReflectliteValue.valueError "reflectlite.Value.Type" 0) (fun t _ _ _ => ReflectliteType.toType t)) Tryd.func115 (by kernel_rfl) (by kernel_rfl) (by kernel_rfl) (by kernel_rfl)
  have x116 := @run_callFunc_extern Tryd.prog 116 _ (ReflectliteValue.method (ReflectliteValue.valueError "reflectlite.Value.IsNil" 0) ReflectliteValue.isNil) Tryd.func116 (by kernel_rfl) (by kernel_rfl) (by kernel_rfl) (by kernel_rfl)
  have x142 := @run_callFunc_extern Tryd.prog 142 _ (ReflectliteType.abiMethod fun t => (fun a : Nat => Value.int IntKind.u8 (a : Int)) <$> Rtype.kind t) Tryd.func142 (by kernel_rfl) (by kernel_rfl) (by kernel_rfl) (by kernel_rfl)
  have xel := @run_callFunc_extern Tryd.prog 172 _ (ReflectliteType.method ReflectliteType.elem) Tryd.func172 (by kernel_rfl) (by kernel_rfl) (by kernel_rfl) (by kernel_rfl)
  have xim := @run_callFunc_extern Tryd.prog 173 _ (ReflectliteType.relation "Implements" ReflectliteType.implements_) Tryd.func173 (by kernel_rfl) (by kernel_rfl) (by kernel_rfl) (by kernel_rfl)
  have f6 := valueOfP ⟨tb, 0, none⟩
  have f7 := fun a => typeP a
  have mK := methodKind
  have mE := methodElem
  have mI := methodImplements
  have k1 := kindPP
  have k2 := kindEP
  have e1 := elemP
  have i1 := implementsP
  have n1 := fun a W => isNilP a ⟨tb, 0, none⟩ W
  have HA := Lib.hid (asP_any e tb w.heap.size o0 o1 ((w.alloc (.cells #[.pointer (some ⟨tb, 0, none⟩)] 141)).alloc (.cells #[.pointer (some ⟨7, 141, none⟩), .pointer (some ⟨w.heap.size, 0, none⟩), .int .u64 150] 154)) (by go_simp) (by go_simp) (by go_simp) (by go_simp) (by go_simp))
  clear ht0 hf0 ht1 hf1
  obtain ⟨t0, v0, he0⟩ := e.iface
  rw [he0] at HA ⊢
  clear he0
  generalize e.asP = o at *
  go_enter Tryd.func88, Tryd.ntmps88
  go_wp2_with fail
  refine HA.out.mono ?_
  rintro r w1 ⟨rfl, hp⟩
  go_wp2
  go_ret
  exact ⟨rfl, (((Below.refl tb w).alloc (Nat.le_of_lt htl) _).alloc (by simp; omega) _).trans hp.1, hp.2⟩
end Go.Proofs.YtcegipkhmibdeaaDoor
/- fault.Code, fault.At, fault.Place. -/
namespace Go.Proofs.YtcegipkhmibdeaaDoor
set_option linter.all false
open Go.RowKit

set_option maxRecDepth 100000 in
theorem errorsAs_nil (tv : Value) (w : World) : Calls Tryd.prog 88 #[.nilIface, tv] w fun r w' => r = .returned (.bool false) ∧ w = w' := by
  go_enter Tryd.func88, Tryd.ntmps88
  go_wp2
  go_ret
  exact ⟨rfl, rfl⟩
set_option maxRecDepth 100000 in
theorem faultCode_any (e : Option EV) (w : World) (hE : ErrType w) : Calls Tryd.prog 75 #[errV e] w fun r w' => r = .returned (.tuple #[.int .i64 ((e.bind EV.asC).getD 0), .bool (e.bind EV.asC).isSome]) ∧ Below w.heap.size w w' := by
  have hE' := hE.below ((Below.refl _ w).alloc (Nat.le_refl _) (.cells #[.int .i64 0] 94))
  cases e with
  | none =>
    have HN := Lib.hid errorsAs_nil
    change Calls _ _ #[.nilIface] _ _
    go_enter Tryd.func75, Tryd.ntmps75
    go_wp2_with fail
    refine (HN.out _ _).mono ?_
    rintro r w1 ⟨rfl, rfl⟩
    go_wp2
    go_ret2
    exact ⟨rfl, (Below.refl _ w).alloc (Nat.le_refl _) _⟩
  | some e =>
    change Calls _ _ #[e.val] _ _
    have HA := Lib.hid (errorsAsC_any e w.heap.size (.int .i64 0) (w.alloc (.cells #[.int .i64 0] 94)) hE' (by go_simp) (by go_simp))
    have hval : ((e.asC).getD 0 : Int) = (((some e).bind EV.asC).getD 0) := rfl
    rw [← hval]
    clear hval
    change Calls _ _ _ _ fun r w' => r = .returned (.tuple #[_, .bool e.asC.isSome]) ∧ _
    generalize e.asC = o at *
    generalize e.val = ev at *
    cases o with
    | none =>
      go_enter Tryd.func75, Tryd.ntmps75
      go_wp2_with fail
      refine HA.out.mono ?_
      rintro r w1 ⟨rfl, hb, hc⟩
      simp only at hc
      go_wp2
      go_ret2
      exact ⟨rfl, ((Below.refl _ w).alloc (Nat.le_refl _) _).trans hb⟩
    | some o =>
      go_enter Tryd.func75, Tryd.ntmps75
      go_wp2_with fail
      refine HA.out.mono ?_
      rintro r w1 ⟨rfl, hb, hc⟩
      simp only at hc
      go_wp2
      go_ret2
      exact ⟨rfl, ((Below.refl _ w).alloc (Nat.le_refl _) _).trans hb⟩
set_option maxRecDepth 100000 in
theorem faultAt_any (e : Option EV) (w : World) (hE : ErrType w) : Calls Tryd.prog 76 #[errV e] w fun r w' => r = .returned (.tuple #[.int .i64 (((e.bind EV.asF).map Prod.snd).getD 0), .bool (e.bind EV.asF).isSome]) ∧ Below w.heap.size w w' := by
  have hE' := hE.below ((Below.refl _ w).alloc (Nat.le_refl _) (.cells #[.int .i64 0, .int .i64 0] 106))
  cases e with
  | none =>
    have HN := Lib.hid errorsAs_nil
    change Calls _ _ #[.nilIface] _ _
    go_enter Tryd.func76, Tryd.ntmps76
    go_wp2_with fail
    refine (HN.out _ _).mono ?_
    rintro r w1 ⟨rfl, rfl⟩
    go_wp2
    go_ret2
    exact ⟨rfl, (Below.refl _ w).alloc (Nat.le_refl _) _⟩
  | some e =>
    change Calls _ _ #[e.val] _ _
    have HA := Lib.hid (errorsAsF_any e w.heap.size (.int .i64 0) (.int .i64 0) (w.alloc (.cells #[.int .i64 0, .int .i64 0] 106)) hE' (by go_simp) (by go_simp) (by go_simp) (by go_simp))
    have hval : (((e.asF).map Prod.snd).getD 0 : Int) = ((((some e).bind EV.asF).map Prod.snd).getD 0) := rfl
    rw [← hval]
    clear hval
    change Calls _ _ _ _ fun r w' => r = .returned (.tuple #[_, .bool e.asF.isSome]) ∧ _
    generalize e.asF = o at *
    generalize e.val = ev at *
    cases o with
    | none =>
      go_enter Tryd.func76, Tryd.ntmps76
      go_wp2_with fail
      refine HA.out.mono ?_
      rintro r w1 ⟨rfl, hb, ⟨hc, hc2⟩⟩
      simp only at hc hc2
      go_wp2
      go_ret2
      exact ⟨rfl, ((Below.refl _ w).alloc (Nat.le_refl _) _).trans hb⟩
    | some o =>
      go_enter Tryd.func76, Tryd.ntmps76
      go_wp2_with fail
      refine HA.out.mono ?_
      rintro r w1 ⟨rfl, hb, ⟨hc, hc2⟩⟩
      simp only at hc hc2
      go_wp2
      go_ret2
      exact ⟨rfl, ((Below.refl _ w).alloc (Nat.le_refl _) _).trans hb⟩
set_option maxRecDepth 100000 in
theorem faultPlace_any (e : Option EV) (w : World) (hE : ErrType w) : Calls Tryd.prog 77 #[errV e] w fun r w' => r = .returned (.tuple #[.int .i64 (((e.bind EV.asP).map Prod.fst).getD 0), .bool (e.bind EV.asP).isSome]) ∧ Below w.heap.size w w' := by
  have hE' := hE.below ((Below.refl _ w).alloc (Nat.le_refl _) (.cells #[.int .i64 0, .nilIface] 140))
  cases e with
  | none =>
    have HN := Lib.hid errorsAs_nil
    change Calls _ _ #[.nilIface] _ _
    go_enter Tryd.func77, Tryd.ntmps77
    go_wp2_with fail
    refine (HN.out _ _).mono ?_
    rintro r w1 ⟨rfl, rfl⟩
    go_wp2
    go_ret2
    exact ⟨rfl, (Below.refl _ w).alloc (Nat.le_refl _) _⟩
  | some e =>
    change Calls _ _ #[e.val] _ _
    have HA := Lib.hid (errorsAsP_any e w.heap.size (.int .i64 0) (.nilIface) (w.alloc (.cells #[.int .i64 0, .nilIface] 140)) hE' (by go_simp) (by go_simp) (by go_simp) (by go_simp))
    have hval : (((e.asP).map Prod.fst).getD 0 : Int) = ((((some e).bind EV.asP).map Prod.fst).getD 0) := rfl
    rw [← hval]
    clear hval
    change Calls _ _ _ _ fun r w' => r = .returned (.tuple #[_, .bool e.asP.isSome]) ∧ _
    generalize e.asP = o at *
    generalize e.val = ev at *
    cases o with
    | none =>
      go_enter Tryd.func77, Tryd.ntmps77
      go_wp2_with fail
      refine HA.out.mono ?_
      rintro r w1 ⟨rfl, hb, ⟨hc, hc2⟩⟩
      simp only at hc hc2
      go_wp2
      go_ret2
      exact ⟨rfl, ((Below.refl _ w).alloc (Nat.le_refl _) _).trans hb⟩
    | some o =>
      go_enter Tryd.func77, Tryd.ntmps77
      go_wp2_with fail
      refine HA.out.mono ?_
      rintro r w1 ⟨rfl, hb, ⟨hc, hc2⟩⟩
      simp only at hc hc2
      go_wp2
      go_ret2
      exact ⟨rfl, ((Below.refl _ w).alloc (Nat.le_refl _) _).trans hb⟩
end Go.Proofs.YtcegipkhmibdeaaDoor
/- The table's Add and Set. -/
namespace Go.Proofs.YtcegipkhmibdeaaDoor
set_option linter.all false
open Go.RowKit

/-- From w to w' the blocks of w that have a property are kept. -/
structure Stays (X : Nat → Prop) (w w' : World) : Prop where
  os : w'.os = w.os
  tape : w'.tape = w.tape
  output : w'.output = w.output
  size : w.heap.size ≤ w'.heap.size
  block : ∀ k, k < w.heap.size → X k → w'.heap[k]? = w.heap[k]?
theorem Stays.of {X : Nat → Prop} {w w' : World} (h : Below w.heap.size w w') : Stays X w w' := ⟨h.os, h.tape, h.output, h.size, fun k hk _ => h.block k hk⟩
theorem Stays.trans {X : Nat → Prop} {a b c : World} (h : Stays X a b) (k : Stays X b c) : Stays X a c :=
  ⟨k.os.trans h.os, k.tape.trans h.tape, k.output.trans h.output, Nat.le_trans h.size k.size, fun i hi hx => (k.block i (Nat.lt_of_lt_of_le hi h.size) hx).trans (h.block i hi hx)⟩
theorem Stays.imp {X Y : Nat → Prop} {w w' : World} (h : Stays X w w') (hxy : ∀ b, b < w.heap.size → Y b → X b) : Stays Y w w' := ⟨h.os, h.tape, h.output, h.size, fun k hk hy => h.block k hk (hxy k hk hy)⟩
theorem Stays.below {X : Nat → Prop} {B : Nat} {w w' : World} (h : Stays X w w') (hB : B ≤ w.heap.size) (hx : ∀ b, b < B → X b) : Below B w w' := ⟨h.os, h.tape, h.output, h.size, fun k hk => h.block k (Nat.lt_of_lt_of_le hk hB) (hx k hk)⟩
theorem Stays.heap {X : Nat → Prop} (w : World) {r : Nat} {o : Obj} (hr : ¬ X r) : Stays X w { w with heap := w.heap.setIfInBounds r o } := by
  refine ⟨rfl, rfl, rfl, by simp, fun k hk hx => ?_⟩
  have : k ≠ r := fun e => hr (e ▸ hx)
  simp [Array.getElem?_setIfInBounds, this.symm]
theorem Stays.cell {X : Nat → Prop} {w w' : World} (h : Stays X w w') {b o : Nat} {v : Value} (hX : X b) (hc : w.cell? ⟨b, o, none⟩ = some v) : w'.cell? ⟨b, o, none⟩ = some v := by
  have hlt := cell_lt hc
  have hk := h.block b hlt hX
  simp only [World.cell?, hk] at hc ⊢
  exact hc
theorem Stays.frozen {X : Nat → Prop} {w w' : World} (h : Stays X w w') {b o : Nat} (hlt : b < w.heap.size) (hX : X b) : w'.frozen? ⟨b, o, none⟩ = w.frozen? ⟨b, o, none⟩ := by
  have hk := h.block b hlt hX
  simp only [World.frozen?, hk]
theorem IntsIn.stays {X Y : Nat → Prop} {w w' : World} {v : Value} {zs : List Int} (h : IntsIn Y w v zs) (hs : Stays X w w') (hxy : ∀ b, b < w.heap.size → Y b → X b) : IntsIn Y w' v zs := by
  obtain ⟨a, cap, rfl, h | ⟨b, off, rfl, hX, hlt, hc⟩⟩ := h
  · exact ⟨a, cap, rfl, .inl h⟩
  · exact ⟨_, cap, rfl, .inr ⟨b, off, rfl, hX, Nat.lt_of_lt_of_le hlt hs.size, fun j hj => hs.cell (hxy b hlt hX) (hc j hj)⟩⟩
theorem PodsX.stays {X Y : Nat → Prop} {w w' : World} {v : Value} {ps : List Pod} (h : PodsX Y w v ps) (hs : Stays X w w') (hxy : ∀ b, b < w.heap.size → Y b → X b) : PodsX Y w' v ps := by
  obtain ⟨a, cap, rfl, h | ⟨b, off, rfl, hbB, hlt, hc⟩⟩ := h
  · exact ⟨a, cap, rfl, .inl h⟩
  · refine ⟨_, cap, rfl, .inr ⟨b, off, rfl, hbB, Nat.lt_of_lt_of_le hlt hs.size, fun j hj => ?_⟩⟩
    obtain ⟨rv, h1, h2⟩ := hc j hj
    refine ⟨rv, ?_, h2.stays hs hxy⟩
    obtain ⟨c0, c1, c2, c3, c4, c5, c6, c7, c8⟩ := h1
    have hX := hxy b hlt hbB
    exact ⟨hs.cell hX c0, hs.cell hX c1, hs.cell hX c2, hs.cell hX c3, hs.cell hX c4, hs.cell hX c5, hs.cell hX c6, hs.cell hX c7, hs.cell hX c8⟩
set_option maxHeartbeats 1000000 in
set_option maxRecDepth 100000 in
theorem tadd_old {m : Mem} {B : Nat} {X : Nat → Prop} {size : Int} {ps : List Pod} (id : Int) (p : Pod) (rv : Value) (w : World) (h : StoreAt m B X w size ps) (hh : hasP ps id = true) : Calls Tryd.prog 104 #[.pointer (some ⟨m.bt, 0, none⟩), .int .i64 id, podV p rv] w fun e w' => e = .returned (EV.code 6).val ∧ Below w.heap.size w w' := by
  have HA := Lib.hid fun w' hb => thas_any id w' (h.below hb)
  rw [hh] at HA
  clear h hh
  go_enter Tryd.func104, Tryd.ntmps104
  go_wp2_with fail
  refine (HA.out _ ((Below.refl _ w).alloc (Nat.le_refl _) _)).mono ?_
  rintro e w1 ⟨rfl, hb⟩
  have hb1 : Below w.heap.size w w1 := Below.trans ((Below.refl _ w).alloc (Nat.le_refl _) _) (hb.mono (by simp))
  clear hb HA
  go_wp2
  go_ret
  exact ⟨rfl, hb1⟩
set_option maxHeartbeats 1000000 in
set_option maxRecDepth 100000 in
theorem tadd_full {m : Mem} {B : Nat} {X : Nat → Prop} {size : Int} {ps : List Pod} (id : Int) (p : Pod) (rv : Value) (w : World) (h : StoreAt m B X w size ps) (h0 : 0 ≤ size) (h1 : size ≤ 9223372036854775807) (hx : ps.length * 9 * 8 ≤ 140737488351232) (hh : hasP ps id = false) (hs : size = ps.length) : Calls Tryd.prog 104 #[.pointer (some ⟨m.bt, 0, none⟩), .int .i64 id, podV p rv] w fun e w' => e = .returned (EV.code 7).val ∧ Below w.heap.size w w' := by
  have HA := Lib.hid fun w' hb => thas_any id w' (h.below hb)
  have HR := Lib.hid fun w' hb => troom_any w' (h.below hb) h0 h1 hx
  rw [hh] at HA
  rw [show size - (ps.length : Int) = 0 by omega] at HR
  clear h hh hs h0 h1 hx
  go_enter Tryd.func104, Tryd.ntmps104
  go_wp2_with fail
  refine (HA.out _ ((Below.refl _ w).alloc (Nat.le_refl _) _)).mono ?_
  rintro e w1 ⟨rfl, hb⟩
  have hb1 : Below w.heap.size w w1 := Below.trans ((Below.refl _ w).alloc (Nat.le_refl _) _) (hb.mono (by simp))
  clear hb HA
  go_wp2_with fail
  refine (HR.out _ hb1).mono ?_
  rintro e w2 ⟨rfl, hb⟩
  have hb2 : Below w.heap.size w w2 := hb1.trans (hb.mono hb1.size)
  clear hb HR
  go_wp2
  go_ret
  exact ⟨rfl, hb2⟩
set_option maxHeartbeats 1000000 in
set_option maxRecDepth 100000 in
theorem tadd_new {m : Mem} {B : Nat} {X : Nat → Prop} {size : Int} {ps : List Pod} (p : Pod) (rv : Value) (w : World) (h : StoreAt m B X w size ps) (h0 : 0 ≤ size) (h1 : size ≤ 9223372036854775807) (hx : ps.length * 9 * 8 ≤ 140737488351232) (hh : findI ps 0 p.id = -1) (hs : ¬ size = ps.length) {rvs : List Value} (hm : MapAt w m.bm ps rvs) : Calls Tryd.prog 104 #[.pointer (some ⟨m.bt, 0, none⟩), .int .i64 p.id, podV p rv] w fun e w' => e = .returned .nilIface ∧ Stays (fun b => b ≠ m.bm) w w' ∧ MapAt w' m.bm (ps ++ [p]) (rvs ++ [rv]) := by
  have HA := Lib.hid fun w' hb => thas_any p.id w' (h.below hb)
  have HR := Lib.hid fun w' hb => troom_any w' (h.below hb) h0 h1 hx
  have ht1 := h.t1
  rw [show hasP ps p.id = false by unfold hasP; rw [hh]; rfl] at HA
  obtain ⟨d, hd⟩ : ∃ d, d = size - (ps.length : Int) := ⟨_, rfl⟩
  have hd0 : (d == 0) = false := by simp; omega
  rw [← hd] at HR
  clear h hs h0 h1 hx hd
  go_enter Tryd.func104, Tryd.ntmps104
  go_wp2_with fail
  refine (HA.out _ ((Below.refl _ w).alloc (Nat.le_refl _) _)).mono ?_
  rintro e w1 ⟨rfl, hb⟩
  have hb1 : Below w.heap.size w w1 := Below.trans ((Below.refl _ w).alloc (Nat.le_refl _) _) (hb.mono (by simp))
  obtain ⟨hc, hf⟩ := bcell hb
  have hsz := hb.size
  have q0 : ∀ f, w1.cell? ⟨w.heap.size, f, none⟩ = (w.alloc (.cells #[.int .i64 p.id, .int .i64 p.prio, .bool p.pre, .int .i64 p.grace, rv, .int .i64 p.arr, .int .i64 p.ph, .int .i64 p.node, .int .i64 p.dead] 65)).cell? ⟨w.heap.size, f, none⟩ := fun f => hc _ _ (by simp)
  have hsz' : w.heap.size < w1.heap.size := by simp at hsz; omega
  clear hb HA hc hf hsz
  have HQ0 := Lib.hid q0; clear q0
  go_wp2_with fail
  refine (HR.out _ hb1).mono ?_
  rintro e w2 ⟨rfl, hb⟩
  have hb2 : Below w.heap.size w w2 := hb1.trans (hb.mono hb1.size)
  clear HR
  obtain ⟨hc, hf⟩ := bcell hb
  have hsz2 := hb.size
  have r0 : w2.cell? ⟨w.heap.size, 0, none⟩ = some (.int .i64 p.id) := by rw [hc _ _ hsz']; have := HQ0.out 0; go_simp
  have r1 : w2.cell? ⟨w.heap.size, 1, none⟩ = some (.int .i64 p.prio) := by rw [hc _ _ hsz']; have := HQ0.out 1; go_simp
  have r2 : w2.cell? ⟨w.heap.size, 2, none⟩ = some (.bool p.pre) := by rw [hc _ _ hsz']; have := HQ0.out 2; go_simp
  have r3 : w2.cell? ⟨w.heap.size, 3, none⟩ = some (.int .i64 p.grace) := by rw [hc _ _ hsz']; have := HQ0.out 3; go_simp
  have r4 : w2.cell? ⟨w.heap.size, 4, none⟩ = some (rv) := by rw [hc _ _ hsz']; have := HQ0.out 4; go_simp
  have r5 : w2.cell? ⟨w.heap.size, 5, none⟩ = some (.int .i64 p.arr) := by rw [hc _ _ hsz']; have := HQ0.out 5; go_simp
  have r6 : w2.cell? ⟨w.heap.size, 6, none⟩ = some (.int .i64 p.ph) := by rw [hc _ _ hsz']; have := HQ0.out 6; go_simp
  have r7 : w2.cell? ⟨w.heap.size, 7, none⟩ = some (.int .i64 p.node) := by rw [hc _ _ hsz']; have := HQ0.out 7; go_simp
  have r8 : w2.cell? ⟨w.heap.size, 8, none⟩ = some (.int .i64 p.dead) := by rw [hc _ _ hsz']; have := HQ0.out 8; go_simp
  have s1 := keepl hb2 ht1
  have hm2 := (hm.below hb2 hm.lt).below ((Below.refl w2.heap.size w2).drew) (by have := hm.lt; have := hb2.size; omega)
  obtain ⟨o, hu, hmu⟩ := upd_new (rv := rv) hm2 (p := p) hh
  have hne : ∀ W : World, Stays (fun b => b ≠ m.bm) W { W with heap := W.heap.setIfInBounds m.bm o } := fun W => Stays.heap W (fun h => h rfl)
  obtain ⟨W3, hW3⟩ : ∃ W3, W3 = { w2.drew with heap := w2.drew.heap.setIfInBounds m.bm o } := ⟨_, rfl⟩
  rw [← hW3] at hu hmu
  have hst : Stays (fun b => b ≠ m.bm) w W3 := (Stays.of (hb2.trans (by simpa using ((Below.refl _ w2).drew).mono hb2.size))).trans (hW3 ▸ hne w2.drew)
  have HW := Lib.hid hW3; clear hW3
  have HP := Lib.hid hmu; clear hmu
  clear hc hf hb hb1 hm hm2 hh ht1 HQ0 hne
  go_wp2_with fail
  go_region
  go_wp2
  go_ret
  exact ⟨rfl, hst, HP.out⟩
set_option maxHeartbeats 1000000 in
set_option maxRecDepth 100000 in
theorem tset_any {m : Mem} {B : Nat} {X : Nat → Prop} {size : Int} {ps : List Pod} (p : Pod) (rv : Value) (w : World) (h : StoreAt m B X w size ps) {k : Nat} (hh : findI ps 0 p.id = (k : Int)) {rvs : List Value} (hm : MapAt w m.bm ps rvs) : Calls Tryd.prog 105 #[.pointer (some ⟨m.bt, 0, none⟩), .int .i64 p.id, podV p rv] w fun e w' => e = .returned .nilIface ∧ Stays (fun b => b ≠ m.bm) w w' ∧ MapAt w' m.bm (ps.set k p) (rvs.set k rv) := by
  have HA := Lib.hid fun w' hb => thas_any p.id w' (h.below hb)
  have ht1 := h.t1
  rw [show hasP ps p.id = true by unfold hasP; rw [hh]; simp] at HA
  clear h
  go_enter Tryd.func105, Tryd.ntmps105
  go_wp2_with fail
  refine (HA.out _ ((Below.refl _ w).alloc (Nat.le_refl _) _)).mono ?_
  rintro e w1 ⟨rfl, hb⟩
  have hb1 : Below w.heap.size w w1 := Below.trans ((Below.refl _ w).alloc (Nat.le_refl _) _) (hb.mono (by simp))
  obtain ⟨hc, hf⟩ := bcell hb
  have hsz := hb.size
  have q0 : ∀ f, w1.cell? ⟨w.heap.size, f, none⟩ = (w.alloc (.cells #[.int .i64 p.id, .int .i64 p.prio, .bool p.pre, .int .i64 p.grace, rv, .int .i64 p.arr, .int .i64 p.ph, .int .i64 p.node, .int .i64 p.dead] 65)).cell? ⟨w.heap.size, f, none⟩ := fun f => hc _ _ (by simp)
  have hsz' : w.heap.size < w1.heap.size := by simp at hsz; omega
  clear HA
  have HQ0 := Lib.hid q0; clear q0
  have r0 : w1.cell? ⟨w.heap.size, 0, none⟩ = some (.int .i64 p.id) := by have := HQ0.out 0; go_simp
  have r1 : w1.cell? ⟨w.heap.size, 1, none⟩ = some (.int .i64 p.prio) := by have := HQ0.out 1; go_simp
  have r2 : w1.cell? ⟨w.heap.size, 2, none⟩ = some (.bool p.pre) := by have := HQ0.out 2; go_simp
  have r3 : w1.cell? ⟨w.heap.size, 3, none⟩ = some (.int .i64 p.grace) := by have := HQ0.out 3; go_simp
  have r4 : w1.cell? ⟨w.heap.size, 4, none⟩ = some (rv) := by have := HQ0.out 4; go_simp
  have r5 : w1.cell? ⟨w.heap.size, 5, none⟩ = some (.int .i64 p.arr) := by have := HQ0.out 5; go_simp
  have r6 : w1.cell? ⟨w.heap.size, 6, none⟩ = some (.int .i64 p.ph) := by have := HQ0.out 6; go_simp
  have r7 : w1.cell? ⟨w.heap.size, 7, none⟩ = some (.int .i64 p.node) := by have := HQ0.out 7; go_simp
  have r8 : w1.cell? ⟨w.heap.size, 8, none⟩ = some (.int .i64 p.dead) := by have := HQ0.out 8; go_simp
  have s1 := keepl hb1 ht1
  have hm2 := (hm.below hb1 hm.lt).below ((Below.refl w1.heap.size w1).drew) (by have := hm.lt; have := hb1.size; omega)
  obtain ⟨o, hu, hmu⟩ := upd_set (rv := rv) hm2 (p := p) hh
  have hne : ∀ W : World, Stays (fun b => b ≠ m.bm) W { W with heap := W.heap.setIfInBounds m.bm o } := fun W => Stays.heap W (fun h => h rfl)
  obtain ⟨W3, hW3⟩ : ∃ W3, W3 = { w1.drew with heap := w1.drew.heap.setIfInBounds m.bm o } := ⟨_, rfl⟩
  rw [← hW3] at hu hmu
  have hst : Stays (fun b => b ≠ m.bm) w W3 := (Stays.of (hb1.trans (by simpa using ((Below.refl _ w1).drew).mono hb1.size))).trans (hW3 ▸ hne w1.drew)
  have HW := Lib.hid hW3; clear hW3
  have HP := Lib.hid hmu; clear hmu
  clear hc hf hb hm hm2 hh ht1 HQ0 hne
  go_wp2_with fail
  go_region
  go_wp2
  go_ret
  exact ⟨rfl, hst, HP.out⟩
end Go.Proofs.YtcegipkhmibdeaaDoor
/- append of one id; Store.Submit. -/
namespace Go.Proofs.YtcegipkhmibdeaaDoor
set_option linter.all false
open Go.RowKit

theorem infoId : (Tryd.prog.info? 3).map (fun i => (i.zero, i.size, i.bytes)) = some (some (.int .i64 0), 1, 8) := by kernel_rfl
/-- append of one id: the row lies where it lay, or in a new block. -/
theorem wp_append_id {w : World} {o : Oper} {a : Act} {K : Act → World → Prop} {Q : Exit → Act → World → Prop} (s x : Operand)
    (ho : o.op = .call { callee := .builtin .append, args := #[s, x], argTypes := #[27, 27] }) (base : Nat)
    (v : Value) (n : Nat) (xs : List Value) (hs : a.eval s = v) (hown : w.ownsRow base 3 1 v n xs) (g : Nat) (id : Int) (hx : a.eval x = .slice (some ⟨g, 0, none⟩) 1 1) (hc : w.cell? ⟨g, 0, none⟩ = some (.int .i64 id))
    (hb : (n + 1) * 8 ≤ 140737488351232) (hbase : base ≤ w.heap.size)
    (h : ∀ v' w', w'.ownsRow base 3 1 v' (n + 1) (xs ++ [.int .i64 id]) → w.grownBy w' v.ownBlock → (v'.ownBlock = v.ownBlock ∨ v'.ownBlock = some w.heap.size) → K (a.put o.dst v') w') : o.wp Tryd.prog a w K Q := by
  obtain ⟨i, hi, hz, hz1, hz2⟩ := info_parts infoId
  have hnews : ∀ j u, [Value.int .i64 id][j]? = some u → w.cell? ((⟨g, 0, none⟩ : Addr).add j) = some u := by
    intro j u hu
    cases j with
    | zero => rw [add_mk, Nat.zero_add, hc]; simpa using hu
    | succ j => simp at hu
  have h1 : ∀ u ∈ [Value.int .i64 id], u.oneCell' = true := by intro u hu; simp at hu; subst hu; rfl
  obtain ⟨v', w', hr, h2, h3, -⟩ := run_append_own (P := Tryd.prog) w base 27 o.type 3 i (.int .i64 0) 1 8 Tryd.underlying27 hi hz hz1 hz2 rfl (by decide) v n xs hown ⟨g, 0, none⟩ 1 1 [.int .i64 id] rfl hnews h1 (by unfold maxLen; omega) (by omega) hbase
  have hnew : v'.ownBlock = v.ownBlock ∨ v'.ownBlock = some w.heap.size := by
    rcases hown.2 with ⟨rfl, rfl⟩ | ⟨g', cap, cur, rfl, hbg, hg, hnc, hcm, hcs, htake⟩
    · have hr' := run_append_nil (P := Tryd.prog) w 27 o.type 3 i (.int .i64 0) Tryd.underlying27 hi hz ⟨g, 0, none⟩ 1 1 [.int .i64 id] (by rw [hz1]; rfl) hnews (by omega) (by omega) (by rw [hz2]; omega)
      rw [hr'] at hr
      injection hr with e1 e2
      exact .inr (by rw [← e1]; rfl)
    · by_cases hroom : n + 1 ≤ cap
      · have hr' := run_append_room (P := Tryd.prog) w 27 o.type 3 i Tryd.underlying27 hi g' n cap cur hg ⟨g, 0, none⟩ 1 1 [.int .i64 id] (by rw [hz1]; rfl) hnews h1 hroom (by rw [hz1, hcs]; simp; omega)
        rw [hr'] at hr
        injection hr with e1 e2
        exact .inl (by rw [← e1]; rfl)
      · have hr' := run_append_grow (P := Tryd.prog) w 27 o.type 3 i (.int .i64 0) Tryd.underlying27 hi hz ⟨g', 0, none⟩ n cap xs (by rw [hz1]; exact hown.1) (hown.cells (g := g') rfl) ⟨g, 0, none⟩ 1 1 [.int .i64 id] (by rw [hz1]; rfl) hnews (by omega) (by omega) (growslice_fits (by omega) (by rw [hz2]; omega))
        rw [hr'] at hr
        injection hr with e1 e2
        exact .inr (by rw [← e1]; rfl)
  unfold Oper.wp execOp
  simp only [ho, resolve, invoke, builtin, Sem.run_bind, Sem.run_pure, Result.andThen_ok, List.map_toArray, List.map_cons, List.map_nil, hs, hx, hr]
  exact h v' w' h2 h3 hnew
set_option maxHeartbeats 1000000 in
set_option maxRecDepth 100000 in
theorem ssub_nil (p : Pod) (rv : Value) (w : World) : Calls Tryd.prog 56 #[.pointer none, podV p rv] w fun e w' => e = .returned (.tuple #[podV pod0 (.slice none 0 0), (EV.fault 5 0).val]) ∧ Below w.heap.size w w' := by
  have HN := Lib.hid fun w => faultNew_any 5 0 w
  go_enter Tryd.func56, Tryd.ntmps56
  go_wp2_with fail
  refine (HN.out _).mono ?_
  rintro e w1 ⟨rfl, rfl⟩
  go_wp2
  refine bodyPost_ret (v := .tuple #[podV pod0 (.slice none 0 0), (EV.fault 5 0).val]) ?_ rfl ⟨rfl, ?_⟩
  · simp only [results, Tryd.results56]
    go_simp
    simp [pod0, EV.val]
  · repeat (first | exact Below.refl _ _ | refine Below.setCell ?_ (by show _ ≤ _; simp only []; omega) _ | refine Below.alloc ?_ (by first | omega | (simp; done) | (simp; omega)) _)
end Go.Proofs.YtcegipkhmibdeaaDoor
/- Store.Submit. -/
namespace Go.Proofs.YtcegipkhmibdeaaDoor
set_option linter.all false
open Go.RowKit

theorem ownsRow_drew {w : World} {base E size n : Nat} {v : Value} {xs : List Value} (h : w.ownsRow base E size v n xs) : w.drew.ownsRow base E size v n xs := h
set_option maxHeartbeats 4000000 in
set_option maxRecDepth 100000 in
theorem ssub_bad {m : Mem} {B : Nat} {X : Nat → Prop} {size : Int} {ps : List Pod} (p : Pod) (rv : Value) (w : World) (hz : p.req.length * 8 ≤ 140737488351232) (h : StoreAt m B X w size ps) (hi : IntsAt w rv p.req) (c : Int) (hE : ErrType w) (hA : ∀ W rv', StoreAt m B X W size ps → Calls Tryd.prog 104 #[.pointer (some ⟨m.bt, 0, none⟩), .int .i64 p.id, podV (newPod ps p) rv'] W fun e w' => e = .returned (EV.code c).val ∧ Below W.heap.size W w') :
    Calls Tryd.prog 56 #[.pointer (some ⟨m.bs, 0, none⟩), podV p rv] w fun e w' => e = .returned (.tuple #[podV pod0 (.slice none 0 0), (EV.fault c 0).val]) ∧ Below w.heap.size w w' := by
  have hbs := cell_lt h.c0
  have hsl : p.req.length * 8 ≤ 140737488351232 := hz
  have hB0 : Below w.heap.size w ((w.alloc (.cells #[.int .i64 p.id, .int .i64 p.prio, .bool p.pre, .int .i64 p.grace, rv, .int .i64 p.arr, .int .i64 p.ph, .int .i64 p.node, .int .i64 p.dead] 65)).alloc (.cells z9 65)) := ((Below.refl _ w).alloc (Nat.le_refl _) _).alloc (by simp) _
  have HC := Lib.hid (copied_any p rv _ hz (hi.below hB0))
  have HS := Lib.hid h
  have HZ := Lib.hid hz
  obtain ⟨l, hl⟩ : ∃ l, l = p.req.length := ⟨_, rfl⟩
  have HL := Lib.hid hl; clear hl
  obtain ⟨ia, ic, hids, -⟩ := h.ids
  have hc0 := h.c0
  have hf0 := h.f0
  obtain ⟨n, hn⟩ : ∃ n, n = ps.length := ⟨_, rfl⟩
  rw [← hn] at hids
  have HN := Lib.hid hn; clear hn
  clear h hi hz hsl
  have HB0 := Lib.hid hB0; clear hB0
  go_enter Tryd.func56, Tryd.ntmps56
  go_wp2_with fail
  refine HC.out.mono ?_
  rintro e w1 ⟨a1, c1, rfl, hown, hb⟩
  rw [← HL.out] at hown ⊢
  obtain ⟨hc, hf⟩ := bcell hb
  have hsz := hb.size
  have q0 : w1.cell? ⟨w.heap.size, 0, none⟩ = some (.int .i64 p.id) := by rw [hc _ _ (by simp; omega)]; go_simp
  have q1 : w1.cell? ⟨w.heap.size, 1, none⟩ = some (.int .i64 p.prio) := by rw [hc _ _ (by simp; omega)]; go_simp
  have q2 : w1.cell? ⟨w.heap.size, 2, none⟩ = some (.bool p.pre) := by rw [hc _ _ (by simp; omega)]; go_simp
  have q3 : w1.cell? ⟨w.heap.size, 3, none⟩ = some (.int .i64 p.grace) := by rw [hc _ _ (by simp; omega)]; go_simp
  have q4 : w1.cell? ⟨w.heap.size, 4, none⟩ = some (rv) := by rw [hc _ _ (by simp; omega)]; go_simp
  have q5 : w1.cell? ⟨w.heap.size, 5, none⟩ = some (.int .i64 p.arr) := by rw [hc _ _ (by simp; omega)]; go_simp
  have q6 : w1.cell? ⟨w.heap.size, 6, none⟩ = some (.int .i64 p.ph) := by rw [hc _ _ (by simp; omega)]; go_simp
  have q7 : w1.cell? ⟨w.heap.size, 7, none⟩ = some (.int .i64 p.node) := by rw [hc _ _ (by simp; omega)]; go_simp
  have q8 : w1.cell? ⟨w.heap.size, 8, none⟩ = some (.int .i64 p.dead) := by rw [hc _ _ (by simp; omega)]; go_simp
  have z0 : w1.cell? ⟨w.heap.size + 1, 0, none⟩ = some (.int .i64 0) := by rw [hc _ _ (by simp)]; go_simp
  have z1 : w1.cell? ⟨w.heap.size + 1, 1, none⟩ = some (.int .i64 0) := by rw [hc _ _ (by simp)]; go_simp
  have z2 : w1.cell? ⟨w.heap.size + 1, 2, none⟩ = some (.bool false) := by rw [hc _ _ (by simp)]; go_simp
  have z3 : w1.cell? ⟨w.heap.size + 1, 3, none⟩ = some (.int .i64 0) := by rw [hc _ _ (by simp)]; go_simp
  have z4 : w1.cell? ⟨w.heap.size + 1, 4, none⟩ = some (.slice none 0 0) := by rw [hc _ _ (by simp)]; go_simp
  have z5 : w1.cell? ⟨w.heap.size + 1, 5, none⟩ = some (.int .i64 0) := by rw [hc _ _ (by simp)]; go_simp
  have z6 : w1.cell? ⟨w.heap.size + 1, 6, none⟩ = some (.int .i64 0) := by rw [hc _ _ (by simp)]; go_simp
  have z7 : w1.cell? ⟨w.heap.size + 1, 7, none⟩ = some (.int .i64 0) := by rw [hc _ _ (by simp)]; go_simp
  have z8 : w1.cell? ⟨w.heap.size + 1, 8, none⟩ = some (.int .i64 0) := by rw [hc _ _ (by simp)]; go_simp
  have qf : ∀ f, w1.frozen? ⟨w.heap.size, f, none⟩ = false := fun f => by rw [hf _ _ (by simp; omega)]; go_simp
  have zf : ∀ f, w1.frozen? ⟨w.heap.size + 1, f, none⟩ = false := fun f => by rw [hf _ _ (by simp)]; go_simp
  have hB1 : Below w.heap.size w w1 := HB0.out.trans (hb.mono (by simp; omega))
  have hsz1 : w.heap.size + 1 < w1.heap.size := by simp at hsz; omega
  have hO1 : w1.ownsRow (w.heap.size + 1 + 1) 2 1 (.slice a1 l c1) l (p.req.map (Value.int .i64)) := by simpa using hown
  have i1 := keepl hB1 hids
  have i0 := keepl hB1 hc0
  have HI1 := Lib.hid hids
  have HI0 := Lib.hid hc0
  clear hc hf hb hsz HC hown hids hc0
  go_wp2_with fail
  refine wp_named fun W hW => ?_
  have hBW : Below w.heap.size w W := by rw [hW]; repeat (first | (with_reducible exact hB1) | refine Below.setCell ?_ (by show _ ≤ _; simp only []; omega) _)
  have hszW : w.heap.size + 1 < W.heap.size := by rw [hW]; simpa using hsz1
  have hOW : W.ownsRow (w.heap.size + 1 + 1) 2 1 (.slice a1 l c1) l (p.req.map (Value.int .i64)) := by rw [hW]; repeat (first | (with_reducible exact hO1) | refine ownsRow_setCell_below ?_ (by show _ < _; simp only []; omega) _)
  have Q0 : W.cell? ⟨w.heap.size, 0, none⟩ = some (.int .i64 p.id) := by rw [hW]; go_simp
  have Q1 : W.cell? ⟨w.heap.size, 1, none⟩ = some (.int .i64 p.prio) := by rw [hW]; go_simp
  have Q2 : W.cell? ⟨w.heap.size, 2, none⟩ = some (.bool p.pre) := by rw [hW]; go_simp
  have Q3 : W.cell? ⟨w.heap.size, 3, none⟩ = some (.int .i64 p.grace) := by rw [hW]; go_simp
  have Q4 : W.cell? ⟨w.heap.size, 4, none⟩ = some (.slice a1 l c1) := by rw [hW]; go_simp
  have Q5 : W.cell? ⟨w.heap.size, 5, none⟩ = some (.int .i64 p.arr) := by rw [hW]; go_simp
  have Q6 : W.cell? ⟨w.heap.size, 6, none⟩ = some (.int .i64 p.ph) := by rw [hW]; go_simp
  have Q7 : W.cell? ⟨w.heap.size, 7, none⟩ = some (.int .i64 p.node) := by rw [hW]; go_simp
  have Q8 : W.cell? ⟨w.heap.size, 8, none⟩ = some (.int .i64 p.dead) := by rw [hW]; go_simp
  have Z0 : W.cell? ⟨w.heap.size + 1, 0, none⟩ = some (.int .i64 0) := by rw [hW]; go_simp
  have Z1 : W.cell? ⟨w.heap.size + 1, 1, none⟩ = some (.int .i64 0) := by rw [hW]; go_simp
  have Z2 : W.cell? ⟨w.heap.size + 1, 2, none⟩ = some (.bool false) := by rw [hW]; go_simp
  have Z3 : W.cell? ⟨w.heap.size + 1, 3, none⟩ = some (.int .i64 0) := by rw [hW]; go_simp
  have Z4 : W.cell? ⟨w.heap.size + 1, 4, none⟩ = some (.slice none 0 0) := by rw [hW]; go_simp
  have Z5 : W.cell? ⟨w.heap.size + 1, 5, none⟩ = some (.int .i64 0) := by rw [hW]; go_simp
  have Z6 : W.cell? ⟨w.heap.size + 1, 6, none⟩ = some (.int .i64 0) := by rw [hW]; go_simp
  have Z7 : W.cell? ⟨w.heap.size + 1, 7, none⟩ = some (.int .i64 0) := by rw [hW]; go_simp
  have Z8 : W.cell? ⟨w.heap.size + 1, 8, none⟩ = some (.int .i64 0) := by rw [hW]; go_simp
  have Qf : ∀ f, W.frozen? ⟨w.heap.size, f, none⟩ = false := fun f => by rw [hW]; go_simp
  have Zf : ∀ f, W.frozen? ⟨w.heap.size + 1, f, none⟩ = false := fun f => by rw [hW]; go_simp
  have I1 : W.cell? ⟨m.bs, 1, none⟩ = some (.slice ia n ic) := by rw [hW]; go_simp
  have I0 : W.cell? ⟨m.bs, 0, none⟩ = some (.pointer (some ⟨m.bt, 0, none⟩)) := by rw [hW]; go_simp
  clear hW
  clear q0 q1 q2 q3 q4 q5 q6 q7 q8 z0 z1 z2 z3 z4 z5 z6 z7 z8 qf zf i0 i1 hO1 hB1 hsz1
  have hlW : w.heap.size < W.heap.size := by omega
  go_region
  go_wp2_with fail
  refine wp_named fun V hV => ?_
  have hBV : Below w.heap.size w V := by rw [hV]; repeat (first | (with_reducible exact hBW) | refine Below.drew ?_ | refine Below.alloc ?_ (by show _ ≤ _; simp; omega) _ | refine Below.setCell ?_ (by show _ ≤ _; simp only []; omega) _)
  have hszV : V.heap.size = W.heap.size + 1 := by rw [hV]; simp
  have hOV : V.ownsRow (w.heap.size + 1 + 1) 2 1 (.slice a1 l c1) l (p.req.map (Value.int .i64)) := by rw [hV]; repeat (first | (with_reducible exact hOW) | with_reducible refine World.ownsRow.alloc ?_ _ | with_reducible refine ownsRow_drew ?_ | refine ownsRow_setCell_below ?_ (by show _ < _; simp only []; omega) _)
  have V0 : V.cell? ⟨w.heap.size, 0, none⟩ = some (.int .i64 p.id) := by rw [hV]; go_simp
  have V1 : V.cell? ⟨w.heap.size, 1, none⟩ = some (.int .i64 p.prio) := by rw [hV]; go_simp
  have V2 : V.cell? ⟨w.heap.size, 2, none⟩ = some (.bool p.pre) := by rw [hV]; go_simp
  have V3 : V.cell? ⟨w.heap.size, 3, none⟩ = some (.int .i64 p.grace) := by rw [hV]; go_simp
  have V4 : V.cell? ⟨w.heap.size, 4, none⟩ = some (.slice a1 l c1) := by rw [hV]; go_simp
  have V5 : V.cell? ⟨w.heap.size, 5, none⟩ = some (.int .i64 (n : Int)) := by rw [hV]; go_simp
  have V6 : V.cell? ⟨w.heap.size, 6, none⟩ = some (.int .i64 1) := by rw [hV]; go_simp
  have V7 : V.cell? ⟨w.heap.size, 7, none⟩ = some (.int .i64 (-1)) := by rw [hV]; go_simp
  have V8 : V.cell? ⟨w.heap.size, 8, none⟩ = some (.int .i64 (-1)) := by rw [hV]; go_simp
  have Y0 : V.cell? ⟨w.heap.size + 1, 0, none⟩ = some (.int .i64 0) := by rw [hV]; go_simp
  have Y1 : V.cell? ⟨w.heap.size + 1, 1, none⟩ = some (.int .i64 0) := by rw [hV]; go_simp
  have Y2 : V.cell? ⟨w.heap.size + 1, 2, none⟩ = some (.bool false) := by rw [hV]; go_simp
  have Y3 : V.cell? ⟨w.heap.size + 1, 3, none⟩ = some (.int .i64 0) := by rw [hV]; go_simp
  have Y4 : V.cell? ⟨w.heap.size + 1, 4, none⟩ = some (.slice none 0 0) := by rw [hV]; go_simp
  have Y5 : V.cell? ⟨w.heap.size + 1, 5, none⟩ = some (.int .i64 0) := by rw [hV]; go_simp
  have Y6 : V.cell? ⟨w.heap.size + 1, 6, none⟩ = some (.int .i64 0) := by rw [hV]; go_simp
  have Y7 : V.cell? ⟨w.heap.size + 1, 7, none⟩ = some (.int .i64 0) := by rw [hV]; go_simp
  have Y8 : V.cell? ⟨w.heap.size + 1, 8, none⟩ = some (.int .i64 0) := by rw [hV]; go_simp
  have Vf : ∀ f, V.frozen? ⟨w.heap.size, f, none⟩ = false := fun f => by rw [hV]; go_simp
  have Yf : ∀ f, V.frozen? ⟨w.heap.size + 1, f, none⟩ = false := fun f => by rw [hV]; go_simp
  have J1 : V.cell? ⟨m.bs, 1, none⟩ = some (.slice ia n ic) := keepl hBV HI1.out
  have J0 : V.cell? ⟨m.bs, 0, none⟩ = some (.pointer (some ⟨m.bt, 0, none⟩)) := keepl hBV HI0.out
  have C0 : V.cell? ⟨W.heap.size, 0, none⟩ = some (.int .i64 0) := by rw [hV]; go_simp
  have Cf : V.frozen? ⟨W.heap.size, 0, none⟩ = false := by rw [hV]; go_simp
  clear hV
  clear Q0 Q1 Q2 Q3 Q4 Q5 Q6 Q7 Q8 Z0 Z1 Z2 Z3 Z4 Z5 Z6 Z7 Z8 Qf Zf I1 I0 hOW
  have hlV : w.heap.size < V.heap.size := by omega
  clear hBW
  have hbm : w.heap.size ≠ m.bm := by obtain ⟨rvs, hm, -⟩ := HS.out.map; have := hm.lt; omega
  have hsm : m.bs ≠ m.bm := HS.out.ne.2.2.1
  have HK : Hid (∀ w' : World, Stays (fun b => b ≠ m.bm) V w' → (w'.cell? ⟨w.heap.size, 0, none⟩ = some (.int .i64 p.id) ∧ w'.cell? ⟨w.heap.size, 1, none⟩ = some (.int .i64 p.prio) ∧ w'.cell? ⟨w.heap.size, 2, none⟩ = some (.bool p.pre) ∧ w'.cell? ⟨w.heap.size, 3, none⟩ = some (.int .i64 p.grace) ∧ w'.cell? ⟨w.heap.size, 4, none⟩ = some (.slice a1 l c1) ∧ w'.cell? ⟨w.heap.size, 5, none⟩ = some (.int .i64 (n : Int)) ∧ w'.cell? ⟨w.heap.size, 6, none⟩ = some (.int .i64 1) ∧ w'.cell? ⟨w.heap.size, 7, none⟩ = some (.int .i64 (-1)) ∧ w'.cell? ⟨w.heap.size, 8, none⟩ = some (.int .i64 (-1)) ∧ w'.cell? ⟨m.bs, 0, none⟩ = some (.pointer (some ⟨m.bt, 0, none⟩)))) := fun w' h => ⟨h.cell hbm V0, h.cell hbm V1, h.cell hbm V2, h.cell hbm V3, h.cell hbm V4, h.cell hbm V5, h.cell hbm V6, h.cell hbm V7, h.cell hbm V8, h.cell hsm J0⟩
  have hv0 : Stays (fun b => b ≠ m.bm) V V.drew := Stays.of (Below.refl _ _).drew
  have HA : Hid (Calls Tryd.prog 104 #[.pointer (some ⟨m.bt, 0, none⟩), .int .i64 p.id, .agg #[.int .i64 p.id, .int .i64 p.prio, .bool p.pre, .int .i64 p.grace, .slice a1 l c1, .int .i64 (n : Int), .int .i64 1, .int .i64 (-1), .int .i64 (-1)]] V.drew fun e w' => e = .returned (EV.code c).val ∧ Below V.drew.heap.size V.drew w') := Lib.hid (by
    have h := hA V.drew (.slice a1 l c1) (HS.out.below (hBV.trans (((Below.refl _ V).drew).mono hBV.size)))
    unfold podV newPod at h
    rw [← HN.out] at h
    exact h)
  clear hA
  go_region_held3 (fun w' => w'.cell? ⟨w.heap.size, 0, none⟩ = some (.int .i64 p.id) ∧ w'.cell? ⟨w.heap.size, 1, none⟩ = some (.int .i64 p.prio) ∧ w'.cell? ⟨w.heap.size, 2, none⟩ = some (.bool p.pre) ∧ w'.cell? ⟨w.heap.size, 3, none⟩ = some (.int .i64 p.grace) ∧ w'.cell? ⟨w.heap.size, 4, none⟩ = some (.slice a1 l c1) ∧ w'.cell? ⟨w.heap.size, 5, none⟩ = some (.int .i64 (n : Int)) ∧ w'.cell? ⟨w.heap.size, 6, none⟩ = some (.int .i64 1) ∧ w'.cell? ⟨w.heap.size, 7, none⟩ = some (.int .i64 (-1)) ∧ w'.cell? ⟨w.heap.size, 8, none⟩ = some (.int .i64 (-1)) ∧ w'.cell? ⟨m.bs, 0, none⟩ = some (.pointer (some ⟨m.bt, 0, none⟩)))
    (first
      | exact HK.out _ hg1
      | exact HK.out _ hv0
      | go_keep)
    (first
      | (go_at_call 104; ((with_reducible refine HA.out.mono ?_)); rintro e w3 ⟨rfl, hb3⟩; have hg1 : Stays (fun b => b ≠ m.bm) V w3 := hv0.trans (Stays.of hb3)))
  have hB3 : Below w.heap.size w w3 := hBV.trans ((((Below.refl _ V).drew).trans hb3).mono hBV.size)
  have hBV3 : Below V.heap.size V w3 := ((Below.refl _ V).drew).trans hb3
  have C3 := keepl hBV3 C0
  have Cf3 : w3.frozen? ⟨W.heap.size, 0, none⟩ = false := by rw [(bcell hBV3).2 _ _ (by omega)]; exact Cf
  have Y0 := keepl hBV3 Y0
  have Y1 := keepl hBV3 Y1
  have Y2 := keepl hBV3 Y2
  have Y3 := keepl hBV3 Y3
  have Y4 := keepl hBV3 Y4
  have Y5 := keepl hBV3 Y5
  have Y6 := keepl hBV3 Y6
  have Y7 := keepl hBV3 Y7
  have Y8 := keepl hBV3 Y8
  have Yf3 : ∀ f, w3.frozen? ⟨w.heap.size + 1, f, none⟩ = false := fun f => by rw [(bcell hBV3).2 _ _ (by omega)]; exact Yf f
  have HAs := Lib.hid (errorsAsC_any (EV.code c) W.heap.size (.int .i64 0) w3 (hE.below hB3) C3 Cf3)
  have HF := Lib.hid fun w => faultNew_any c 0 w
  clear V0 V1 V2 V3 V4 V5 V6 V7 V8 J0 J1 C0 Cf C3 Cf3 Vf Yf hg1 HA hb3 hv0 HK hBV3
  have hW1 : w.heap.size + 1 < W.heap.size := by omega
  go_wp2_with fail
  refine HAs.out.mono ?_
  rintro e w4 ⟨rfl, hb4, hc4⟩
  simp only [EV.asC] at hc4 ⊢
  have y0 : w4.cell? ⟨w.heap.size + 1, 0, none⟩ = some (.int .i64 0) := keepc hb4 hW1 Y0
  have y1 : w4.cell? ⟨w.heap.size + 1, 1, none⟩ = some (.int .i64 0) := keepc hb4 hW1 Y1
  have y2 : w4.cell? ⟨w.heap.size + 1, 2, none⟩ = some (.bool false) := keepc hb4 hW1 Y2
  have y3 : w4.cell? ⟨w.heap.size + 1, 3, none⟩ = some (.int .i64 0) := keepc hb4 hW1 Y3
  have y4 : w4.cell? ⟨w.heap.size + 1, 4, none⟩ = some (.slice none 0 0) := keepc hb4 hW1 Y4
  have y5 : w4.cell? ⟨w.heap.size + 1, 5, none⟩ = some (.int .i64 0) := keepc hb4 hW1 Y5
  have y6 : w4.cell? ⟨w.heap.size + 1, 6, none⟩ = some (.int .i64 0) := keepc hb4 hW1 Y6
  have y7 : w4.cell? ⟨w.heap.size + 1, 7, none⟩ = some (.int .i64 0) := keepc hb4 hW1 Y7
  have y8 : w4.cell? ⟨w.heap.size + 1, 8, none⟩ = some (.int .i64 0) := keepc hb4 hW1 Y8
  have yf : ∀ f, w4.frozen? ⟨w.heap.size + 1, f, none⟩ = false := fun f => (hb4.frozen (p := ⟨w.heap.size + 1, f, none⟩) hW1).trans (Yf3 f)
  have hB4 : Below w.heap.size w w4 := hB3.trans (hb4.mono (by omega))
  clear hb4 Y0 Y1 Y2 Y3 Y4 Y5 Y6 Y7 Y8 Yf3 HAs hB3
  go_wp2_with fail
  refine (HF.out _).mono ?_
  rintro e w5 ⟨rfl, rfl⟩
  go_wp2
  refine bodyPost_ret (v := .tuple #[podV pod0 (.slice none 0 0), (EV.fault c 0).val]) ?_ rfl ⟨rfl, ?_⟩
  · simp only [results, Tryd.results56]
    go_simp
    simp [pod0, EV.val]
  · repeat (first | (with_reducible exact hB4) | refine Below.setCell ?_ (by show _ ≤ _; simp only []; omega) _ | refine Below.drew ?_)

end Go.Proofs.YtcegipkhmibdeaaDoor
/- What a pod more in the table and an id more in the row make of a store: plain law. -/
namespace Go.Proofs.YtcegipkhmibdeaaDoor
set_option linter.all false
open Go.RowKit

theorem Stays.grown {X : Nat → Prop} {w w' : World} {row : Option Nat} (h : w.grownBy w' row) (hx : ∀ k, row = some k → ¬ X k) : Stays X w w' :=
  ⟨h.os, h.tape, h.output, h.size, fun k hk hX => h.block k hk fun e => hx k e.symm hX⟩
theorem Stays.setCell {X : Nat → Prop} {w : World} {b o : Nat} {v : Value} (h : ¬ X b) : Stays X w (w.setCell ⟨b, o, none⟩ v) :=
  ⟨rfl, rfl, rfl, by simp, fun k _ hX => Below.heap_setCell w _ v k fun e => h (by simpa using (show b = k from e.symm) ▸ hX)⟩
theorem MapAt.of_block {w w' : World} {bm : Nat} {ps : List Pod} {rvs : List Value} (h : MapAt w bm ps rvs) (hb : w'.heap[bm]? = w.heap[bm]?) : MapAt w' bm ps rvs := by
  obtain ⟨es, clock, h1, h2⟩ := h; exact ⟨es, clock, hb.trans h1, h2⟩
theorem ownsRow_of_block {w w' : World} {base E size n : Nat} {v : Value} {xs : List Value} (h : w.ownsRow base E size v n xs) (hk : ∀ k, v.ownBlock = some k → w'.heap[k]? = w.heap[k]?) : w'.ownsRow base E size v n xs := by
  refine ⟨h.1, ?_⟩
  rcases h.2 with h2 | ⟨g, cap, cur, rfl, hg, hh, r⟩
  · exact .inl h2
  · exact .inr ⟨g, cap, cur, rfl, hg, (hk g rfl).trans hh, r⟩
/-- The slice of the ids, and its block. -/
theorem StoreAt.idsBlock {m : Mem} {n : Nat} {ia : Option Addr} {ic : Nat} (h0 : n = 0 → ia = none) (h1 : 0 < n → ia = some ⟨m.gi, 0, none⟩) : ∀ k, (Value.slice ia n ic).ownBlock = some k → k = m.gi ∧ 0 < n := by
  intro k hk
  rcases Nat.eq_zero_or_pos n with h | h
  · rw [h0 h] at hk; simp [Value.ownBlock] at hk
  · rw [h1 h] at hk; simp [Value.ownBlock] at hk; exact ⟨hk.symm, h⟩
theorem StoreAt.push {m : Mem} {B : Nat} {X : Nat → Prop} {w V w3 wp wa : World} {size : Int} {ps : List Pod} {np : Pod} {rvs : List Value} {rv v' : Value} {N : Nat → Prop} (hN : ∀ b, N b → w.heap.size ≤ b) {ia : Option Addr} {ic : Nat} (h : StoreAt m B X w size ps)
    (hr : ∀ j, j < ps.length → IntsIn (fun b => Off m b ∧ X b) w (rvs.getD j undef) (podAt ps j).req) (hrl : rvs.length = ps.length)
    (hiv : w.cell? ⟨m.bs, 1, none⟩ = some (.slice ia ps.length ic)) (hi0 : ps.length = 0 → ia = none) (hi1 : 0 < ps.length → ia = some ⟨m.gi, 0, none⟩)
    (hwV : Below w.heap.size w V) (hV3 : Stays (fun b => b ≠ m.bm) V w3) (hm3 : MapAt w3 m.bm (ps ++ [np]) (rvs ++ [rv])) (h3p : Below w3.heap.size w3 wp) (hgr : wp.grownBy wa (Value.slice ia ps.length ic).ownBlock)
    (hown : wa.ownsRow B 3 1 v' (ps.length + 1) (ps.map (fun p => Value.int .i64 p.id) ++ [.int .i64 np.id])) (hnew : v'.ownBlock = (Value.slice ia ps.length ic).ownBlock ∨ v'.ownBlock = some wp.heap.size)
    (hri : IntsIn N w3 rv np.req) :
    ∃ g', StoreAt { m with gi := g' } B (fun b => (X b ∧ b < w.heap.size) ∨ N b) (wa.setCell ⟨m.bs, 1, none⟩ v') size (ps ++ [np]) ∧ ((g' = m.gi ∧ 0 < ps.length) ∨ g' = wp.heap.size) ∧ Stays (Off m) w (wa.setCell ⟨m.bs, 1, none⟩ v') := by
  have hblk := StoreAt.idsBlock (ic := ic) hi0 hi1
  have hbsl := cell_lt h.c0
  have hbtl := cell_lt h.t0
  have hwsz := hwV.size
  have hs3 := hV3.size
  have hsp := h3p.size
  have hsa := hgr.size
  obtain ⟨e1, e2, e3, e4, e5, e6⟩ := h.ne
  -- from w on, all but the map's block and the row's
  have hY : Stays (fun b => b ≠ m.bm ∧ (Value.slice ia ps.length ic).ownBlock ≠ some b) w wa :=
    (((Stays.of hwV).trans (hV3.imp fun b _ hb => hb.1)).trans (Stays.of h3p)).trans (Stays.grown hgr fun k hk hb => hb.2 hk)
  have hoff : ∀ b, Off m b → b ≠ m.bm ∧ (Value.slice ia ps.length ic).ownBlock ≠ some b := fun b hb => ⟨hb.2.1, fun e => hb.2.2 (hblk b e).1⟩
  have hS : Stays (Off m) w (wa.setCell ⟨m.bs, 1, none⟩ v') := (hY.imp fun b _ hb => hoff b hb).trans (Stays.setCell fun hb => hb.1 rfl)
  have hbsY : m.bs ≠ m.bm ∧ (Value.slice ia ps.length ic).ownBlock ≠ some m.bs := ⟨e3, fun e => e6 (hblk _ e).2 (hblk _ e).1.symm⟩
  have hbtO : Off m m.bt := ⟨e1, e2, e4⟩
  -- the row's block afterwards
  obtain ⟨g', cap', cur', hv', hBg, hcur, hrest⟩ : ∃ g cap cur, v' = .slice (some ⟨g, 0, none⟩) (ps.length + 1) cap ∧ B ≤ g ∧ wa.heap[g]? = some (.cells cur 3 (0, 0)) ∧ True := by
    rcases hown.2 with ⟨_, h0⟩ | ⟨g, cap, cur, hv, hB, hc, _⟩
    · omega
    · exact ⟨g, cap, cur, hv, hB, hc, trivial⟩
  subst hv'
  have hg : (g' = m.gi ∧ 0 < ps.length) ∨ g' = wp.heap.size := by
    rcases hnew with hn | hn
    · have := hblk g' (hn.symm.trans rfl); exact .inl this
    · injection (show some g' = some wp.heap.size from hn) with hn; exact .inr hn
  have hbml : m.bm < w.heap.size := by obtain ⟨rvs', hm, _⟩ := h.map; exact hm.lt
  have hgil : 0 < ps.length → m.gi < w.heap.size := fun h0 => by
    obtain ⟨a, cap, i1, i2, i3, i4⟩ := h.ids
    rw [i4 h0] at i2
    exact (World.ownsRow.lt i2 m.gi rfl).2
  have hgbs : g' ≠ m.bs := by rcases hg with ⟨rfl, h0⟩ | rfl; exact e6 h0; omega
  have hgbt : m.bt ≠ g' := by rcases hg with ⟨rfl, h0⟩ | rfl; exact e4; omega
  have hgbm : g' ≠ m.bm := by rcases hg with ⟨rfl, h0⟩ | rfl; exact e5; omega
  refine ⟨g', ⟨?_, hS.cell hbtO h.t0, hS.cell hbtO h.t1, ⟨_, cap', ?_, ?_, ?_, fun _ => rfl⟩, ⟨rvs ++ [rv], ?_, ?_⟩, ?_, h.bs, h.bm, hBg, ⟨e1, e2, e3, hgbt, hgbm, fun _ => hgbs⟩⟩, ?_, hS⟩
  · rw [show (wa.setCell ⟨m.bs, 1, none⟩ (.slice (some ⟨g', 0, none⟩) (ps.length + 1) cap')).cell? ⟨m.bs, 0, none⟩ = wa.cell? ⟨m.bs, 0, none⟩ from setCell_ne (.inr (by decide))]
    exact hY.cell hbsY h.c0
  · rw [List.length_append]
    exact World.cell?_setCell_same _ _ _ (hY.cell hbsY hiv)
  · rw [List.length_append, List.map_append]
    refine ownsRow_of_block hown fun k hk => Below.heap_setCell _ _ _ _ fun e => hgbs ?_
    injection (show some g' = some k from hk) with hk
    exact hk.trans e
  · intro h0; simp at h0
  · refine hm3.of_block ?_
    rw [Below.heap_setCell _ _ _ _ (fun e => e3 (show m.bm = m.bs from e).symm), hgr.block m.bm (by omega) (fun e => e5 (hblk _ e.symm).1.symm), h3p.block m.bm (by omega)]
  · intro j hj
    by_cases hjl : j < ps.length
    · have q1 : (rvs ++ [rv]).getD j undef = rvs.getD j undef := by
        rw [List.getD_eq_getElem?_getD, List.getD_eq_getElem?_getD, List.getElem?_append_left (by omega)]
      have q2 : podAt (ps ++ [np]) j = podAt ps j := by
        unfold podAt; rw [List.getD_eq_getElem?_getD, List.getD_eq_getElem?_getD, List.getElem?_append_left hjl]
      rw [q1, q2]
      refine (((hr j hjl).within.stays hS fun b _ hb => hb.1.1)).imp fun b _ hb => ⟨⟨hb.1.1.1, hb.1.1.2.1, ?_⟩, .inl ⟨hb.1.2, hb.2⟩⟩
      rcases hg with ⟨rfl, h0⟩ | rfl
      · exact hb.1.1.2.2
      · have := hb.2; show b ≠ wp.heap.size; omega
    · have hje : j = ps.length := by simp at hj; omega
      subst hje
      have q1 : (rvs ++ [rv]).getD ps.length undef = rv := by
        rw [List.getD_eq_getElem?_getD, List.getElem?_append_right (by omega), hrl]; simp
      have q2 : podAt (ps ++ [np]) ps.length = np := by
        unfold podAt; rw [List.getD_eq_getElem?_getD, List.getElem?_append_right (by omega)]; simp
      rw [q1, q2]
      have s1 : Stays (fun b => w.heap.size ≤ b) w3 (wa.setCell ⟨m.bs, 1, none⟩ (.slice (some ⟨g', 0, none⟩) (ps.length + 1) cap')) :=
        ((Stays.of h3p).trans (Stays.grown hgr fun k hk hb => by have := hblk k hk; have := hgil this.2; omega)).trans (Stays.setCell (by omega))
      refine (hri.within.stays s1 fun b _ hb => hN b hb.1).imp fun b _ hb => ⟨⟨?_, ?_, ?_⟩, .inr hb.1⟩
      · have := hN b hb.1; show b ≠ m.bs; omega
      · have := hN b hb.1; show b ≠ m.bm; omega
      · show b ≠ g'
        rcases hg with ⟨rfl, h0⟩ | rfl
        · have := hgil h0; have := hN b hb.1; omega
        · have := hb.2; omega
  · intro j
    rw [World.frozen?_setCell, hY.frozen hbsl hbsY]
    exact h.f0 j
  · exact hg
theorem StoreAt.within {m : Mem} {B : Nat} {X : Nat → Prop} {w : World} {size : Int} {ps : List Pod} (h : StoreAt m B X w size ps) : StoreAt m B (Lo X w.heap.size) w size ps := by
  obtain ⟨c0, t0, t1, ids, ⟨rvs, m1, m2⟩, f0, h1, h2, h3, h4⟩ := h
  exact ⟨c0, t0, t1, ids, ⟨rvs, m1, fun j hj => (m2 j hj).within.imp fun b _ hb => ⟨hb.1.1, hb.1.2, hb.2⟩⟩, f0, h1, h2, h3, h4⟩
theorem StoreAt.imp {m : Mem} {B : Nat} {X Y : Nat → Prop} {w : World} {size : Int} {ps : List Pod} (h : StoreAt m B X w size ps) (hxy : ∀ b, b < w.heap.size → X b → Y b) : StoreAt m B Y w size ps := by
  obtain ⟨c0, t0, t1, ids, ⟨rvs, m1, m2⟩, f0, h1, h2, h3, h4⟩ := h
  exact ⟨c0, t0, t1, ids, ⟨rvs, m1, fun j hj => (m2 j hj).imp fun b hl hb => ⟨hb.1, hxy b hl hb.2⟩⟩, f0, h1, h2, h3, h4⟩
/-- A store is kept where none of its blocks is turned. -/
theorem StoreAt.stays {m : Mem} {B : Nat} {X Y : Nat → Prop} {w w' : World} {size : Int} {ps : List Pod} (h : StoreAt m B X w size ps) (hs : Stays Y w w') (y1 : Y m.bs) (y2 : Y m.bt) (y3 : Y m.bm) (y4 : 0 < ps.length → Y m.gi) (y5 : ∀ b, b < w.heap.size → X b → Y b) : StoreAt m B X w' size ps := by
  have hbsl := cell_lt h.c0
  obtain ⟨c0, t0, t1, ⟨a, cap, i1, i2, i3, i4⟩, ⟨rvs, m1, m2⟩, f0, h1, h2, h3, h4⟩ := h
  refine ⟨hs.cell y1 c0, hs.cell y2 t0, hs.cell y2 t1, ⟨a, cap, hs.cell y1 i1, ?_, i3, i4⟩, ⟨rvs, m1.of_block (hs.block _ m1.lt y3), fun j hj => (m2 j hj).stays hs fun b hl hb => y5 b hl hb.2⟩, fun j => (hs.frozen hbsl y1).trans (f0 j), h1, h2, h3, h4⟩
  refine ownsRow_of_block i2 fun k hk => hs.block k (World.ownsRow.lt i2 k hk).2 ?_
  obtain ⟨rfl, h0⟩ := StoreAt.idsBlock (ic := cap) i3 i4 k hk
  exact y4 h0
end Go.Proofs.YtcegipkhmibdeaaDoor
