/- PodMatchesReference: for every input the law returns true and its arguments read behind the call as before: the walk, the row over whatever heap in which the listed variables hold their data, and the tied card. -/
import Derived.Test.YtcegipkhmibdeaaDoorPods4
import Derived.Test.YtcegipkhmibdeaaDoorPods1
import Derived.Test.YtcegipkhmibdeaaDoorFacts
import Derived.Test.YtcegipkhmibdeaaDoorCards
import Derived.Test.YtcegipkhmibdeaaDoorTie
import Derived.WalkKit
import Derived.ProofKit
import Derived.OpenShut
import Derived.ShutString
import Derived.Below
import Derived.SizedLaws
import Derived.SevenTiedAt
import Derived.LaidMore
import Derived.Stop.Joined
/- hammocklaw13.PodMatchesReference returns true. -/
namespace Go.Proofs.YtcegipkhmibdeaaDoor
set_option linter.all false
open Go.RowKit

theorem At13.keep {B bs bt bm g : Nat} {size : Int} {k : Nat} {ps : List Pod} {v : Value} {w wr wr' : World} (h : At13 B bs bt bm g size k ps v w wr) (hb : Below wr.heap.size wr wr') : At13 B bs bt bm g size k ps v w wr' :=
  ⟨h.st.below hb, h.good, (h.list.within.below hb (Nat.le_refl _)).imp fun b _ hb => hb.1, Nat.lt_of_lt_of_le h.lt hb.size, h.below.trans (hb.mono (by have h1 := h.st.bs; have h2 := cell_lt h.st.c0; omega))⟩
/-- What a look-up finds, at a pod of the list. -/
theorem getP_of {ps : List Pod} {id : Int} {i : Nat} (h : findI ps 0 id = (i : Int)) : getP ps id = podAt ps i ∧ hasP ps id = true := by
  refine ⟨?_, ?_⟩
  · unfold getP; rw [if_neg (by omega), h]; rfl
  · unfold hasP; rw [h]; simp
theorem getP_no {ps : List Pod} {id : Int} (h : findI ps 0 id = -1) : getP ps id = pod0 ∧ hasP ps id = false := by
  refine ⟨?_, ?_⟩
  · unfold getP; rw [if_pos (by omega)]
  · unfold hasP; rw [h]; rfl
set_option maxHeartbeats 16000000 in
set_option maxRecDepth 100000 in
theorem podMatches_walk (n : Int) (v : Value) (ops : List Op13) (w : World) (hE : ErrType w) (hn1 : n ≤ 9223372036854775807) (hn0 : -9223372036854775808 ≤ n) (hx : ops.length * 96 ≤ 140737488351232) (h : OpsAt w v ops) :
    Calls Tryd.prog 14 #[.int .i64 n, v] w fun e w' => e = .returned (.bool true) ∧ Below w.heap.size w w' := by
  obtain ⟨a, cap, rfl, hcase⟩ := h
  have hE0 := hE
  have hEB : 3 < w.heap.size := hE.lt
  have HOPS : Hid (∀ k, k < ops.length → ∃ b off, a = some ⟨b, off, none⟩ ∧ b < w.heap.size ∧ ∃ rv, OpCells w b (off + k * 12) (opAt ops k) rv ∧ IntsIn (fun b => b < w.heap.size) w rv (opAt ops k).pod.req) := fun k hk => by
    rcases hcase with rfl | ⟨b, off, rfl, hlt, hc⟩
    · simp at hk
    · obtain ⟨rv, h1, h2⟩ := hc k hk
      exact ⟨b, off, rfl, hlt, rv, h1, h2.any.within.imp fun b _ hb => hb.2⟩
  have HFEW : Hid (∀ W, Below w.heap.size w W → Calls Tryd.prog 55 #[.slice a ops.length cap] W fun e w' => e = .returned (.bool (few13P ops)) ∧ Below W.heap.size W w') := fun W hW => few13_any _ ops W hx (OpsAt.below ⟨a, cap, rfl, hcase⟩ hW)
  have HAW : Hid (∀ W, Below w.heap.size w W → Calls Tryd.prog 54 #[] W fun e w' => e = .returned (.bool true) ∧ Below W.heap.size W w') := fun W hW => awake13_any W (hE.below hW)
  have hnw := pnew_any n w hn1 hn0 w.heap.size (Nat.le_refl _)
  have hbs0 : (freshMem w.heap.size).gi = (freshMem w.heap.size).bs := rfl
  generalize freshMem w.heap.size = m0 at hnw hbs0
  obtain ⟨bs, bt, bm, gi⟩ := m0
  change gi = bs at hbs0
  subst hbs0
  have HNW := Lib.hid hnw; clear hnw
  have HE := Lib.hid hE0; clear hE0 hE
  obtain ⟨l, hl⟩ : ∃ l, l = ops.length := ⟨_, rfl⟩
  rw [← hl] at HFEW hx ⊢
  have HL := Lib.hid hl; clear hl
  clear hcase
  cases hf : few13P ops
  · rw [hf] at HFEW
    go_enter Tryd.func14, Tryd.ntmps14
    go_wp2_with fail
    refine HNW.out.mono ?_
    rintro e V ⟨rfl, hst, hB, hsz⟩
    have HB := Lib.hid hB
    clear hB hst hsz
    go_wp2_with fail
    refine (HAW.out _ HB.out).mono ?_
    rintro e V1 ⟨rfl, hb⟩
    have HB := Lib.hid (HB.out.trans (hb.mono HB.out.size)); clear hb
    go_wp2_with fail
    refine (HFEW.out _ HB.out).mono ?_
    rintro e V2 ⟨rfl, hb⟩
    have HB := Lib.hid (HB.out.trans (hb.mono HB.out.size)); clear hb
    go_wp2_with fail
    refine (HAW.out _ HB.out).mono ?_
    rintro e V3 ⟨rfl, hb⟩
    have HB := Lib.hid (HB.out.trans (hb.mono HB.out.size)); clear hb
    go_wp2
    go_ret
    exact ⟨rfl, HB.out⟩
  · have HREQ : Hid (∀ k, k < ops.length → (opAt ops k).pod.req.length ≤ 20) := fun k hk => few13_req hf hk
    have hl60 : l ≤ 60 := by rw [HL.out]; exact few13_len hf
    rw [hf] at HFEW
    clear hf
    go_enter Tryd.func14, Tryd.ntmps14
    go_wp2_with fail
    refine HNW.out.mono ?_
    rintro e V ⟨rfl, hst, hB, hsz⟩
    have HB := Lib.hid hB
    have HST := Lib.hid hst
    clear hB hst hsz HNW
    go_wp2_with fail
    refine (HAW.out _ HB.out).mono ?_
    rintro e V1 ⟨rfl, hb⟩
    have HST := Lib.hid (HST.out.below hb)
    have HB := Lib.hid (HB.out.trans (hb.mono HB.out.size)); clear hb
    go_wp2_with fail
    refine (HFEW.out _ HB.out).mono ?_
    rintro e V2 ⟨rfl, hb⟩
    have HST := Lib.hid (HST.out.below hb)
    have HB := Lib.hid (HB.out.trans (hb.mono HB.out.size)); clear hb
    have HA0 : Hid (At13 w.heap.size gi bt bm gi (max n 0) 0 [] (.slice none 0 0) w V2) := ⟨HST.out, Good.nil (by omega), PodsX.nil _ _, cell_lt HST.out.c0, HB.out⟩
    clear HAW HFEW HST HB
    go_wp2
    obtain ⟨mx, hmx⟩ : ∃ mx, mx = max n 0 := ⟨_, rfl⟩
    rw [← hmx] at HA0
    have HMX := Lib.hid hmx; clear hmx
    go_loopw [6, 7, 8] (fun v ok i wr => ∃ (k : Nat) (ps : List Pod) (g : Nat) (al : Option Addr) (lp cl : Nat), k ≤ l ∧ i = .int .i64 k ∧ ok = .bool true ∧ v = .slice al lp cl ∧ Hid (lp = ps.length) ∧ Hid (At13 w.heap.size gi bt bm g mx k ps (.slice al lp cl) w wr)) (fun _ _ i _ => l - (intOf i).toNat)
    case atStart => exact ⟨0, [], gi, none, 0, 0, Nat.zero_le _, rfl, rfl, rfl, rfl, HA0.out⟩
    case round =>
      obtain ⟨k, ps, g, al, lp, cl, hk, rfl, rfl, rfl, HLP, HA⟩ := hrel
      by_cases hlt : k < l
      · obtain ⟨b, off, rfl, hbl, rv, hcc, hri⟩ := HOPS.out k (by rw [← HL.out]; exact hlt)
        have hreq := HREQ.out k (by rw [← HL.out]; exact hlt)
        generalize opAt ops k = x at *
        have hcr := hcc.below HA.out.below hbl
        have HOC := Lib.hid hcc
        have hrr : IntsIn (fun b => b < w.heap.size) wr rv x.pod.req := (hri.within.below HA.out.below (Nat.le_refl _)).imp fun b _ hb => hb.1
        obtain ⟨ar, cr, rfl, -⟩ := id hrr
        clear hcc hri
        obtain ⟨q0, ⟨q1, q2, q3, q4, q5, q6, q7, q8, q9⟩, q10, q11⟩ := hcr
        have hki : (0 : Int) ≤ (k : Int) := by omega
        have hkl : (k : Int) < (l : Int) := by omega
        have HP := Lib.hid ((play_any (m := ⟨gi, bt, bm, g⟩) n x (.slice ar x.pod.req.length cr) (.slice al lp cl) wr HA.out.good (by omega) HMX.out hn1 hreq HA.out.st HA.out.lt HA.out.list (hrr.imp fun b _ hb => HA.out.st.off hb) (HE.out.below HA.out.below) hEB).mono fun e w' h => HA.out.play h HMX.out hreq)
        clear hrr hreq
        go_wp2_with fail
        refine HP.out.mono ?_
        rintro e w2 ⟨a2, c2, g2, rfl, hA2⟩
        obtain ⟨lp2, hlp2⟩ : ∃ lp2, lp2 = (playR n ps x).length := ⟨_, rfl⟩
        rw [← hlp2] at hA2 ⊢
        have HA2 := Lib.hid hA2
        have HLP2 := Lib.hid hlp2
        clear hA2 hlp2 HP
        obtain ⟨qs, hqs⟩ : ∃ qs, qs = playR n ps x := ⟨_, rfl⟩
        rw [← hqs] at HA2 HLP2
        clear hqs HA HLP q0 q1 q2 q3 q4 q5 q6 q7 q8 q9 q10 q11
        have HOK := Lib.hid (HA2.out.good.ok (by omega))
        have hl2 : lp2 ≤ 61 := by have := HA2.out.good.len; rw [HLP2.out]; omega
        have HAL := Lib.hid (sall_any (m := ⟨gi, bt, bm, g2⟩) w2 HA2.out.st HOK.out)
        unfold RetPods at HAL
        go_wp2_with fail
        refine HAL.out.mono ?_
        rintro e w3 ⟨v3, rfl, o3, b3⟩
        obtain ⟨a3, c3, rfl⟩ := o3.shape
        rw [← HLP2.out] at o3 ⊢
        have HA3 := Lib.hid (HA2.out.keep b3)
        have HSA : Hid (Calls Tryd.prog 63 #[.slice a3 lp2 c3, .slice a2 lp2 c2] w3 fun e w' => e = .returned (.bool true) ∧ Below w3.heap.size w3 w') := by
          have h := same06_any (.slice a3 lp2 c3) (.slice a2 lp2 c2) qs qs w3 HOK.out.small HOK.out.small o3.pods HA3.out.list.pods
          rw [decide_eq_true rfl] at h
          exact h
        clear o3 b3 HAL HA2
        go_wp2_with fail
        refine HSA.out.mono ?_
        rintro e w4 ⟨rfl, b4⟩
        have HA4 := Lib.hid (HA3.out.keep b4)
        clear b4 HSA HA3
        have HLN := Lib.hid (slen_any (m := ⟨gi, bt, bm, g2⟩) w4 HA4.out.st)
        rw [← HLP2.out] at HLN
        go_wp2_with fail
        refine HLN.out.mono ?_
        rintro e xx ⟨rfl, rfl⟩
        clear HLN
        obtain ⟨-, ⟨r1, -, -, -, -, -, -, -, -⟩, r10, -⟩ := HOC.out.below HA4.out.below hbl
        rw [Nat.add_zero] at r1
        rcases findI_bound qs 0 x.pod.id with hfi | hfi
        · have hgz : getP qs x.pod.id = ⟨0, 0, false, 0, [], 0, 0, 0, 0⟩ ∧ hasP qs x.pod.id = false := getP_no hfi
          have hgt := sget_any (m := ⟨gi, bt, bm, g2⟩) x.pod.id w4 HA4.out.st (by rw [hgz.1]; simp)
          rw [hgz.1, hgz.2] at hgt
          have HGT : Hid (Calls Tryd.prog 62 #[.pointer (some ⟨gi, 0, none⟩), .int .i64 x.pod.id] w4 fun e w' => ∃ a5 c5, e = .returned (.tuple #[.agg #[.int .i64 0, .int .i64 0, .bool false, .int .i64 0, .slice a5 0 c5, .int .i64 0, .int .i64 0, .int .i64 0, .int .i64 0], .bool false]) ∧ Below w4.heap.size w4 w') := hgt.mono fun e w' ⟨a5, c5, he, _, hb⟩ => ⟨a5, c5, he, hb⟩
          have HI := Lib.hid hfi
          clear hgt hgz hfi
          go_wp2_with fail
          refine HGT.out.mono ?_
          rintro e w5 ⟨a5, c5, rfl, b5⟩
          have HA5 := Lib.hid (HA4.out.keep b5)
          have r1 := keepl b5 r1
          have r10 := keepl b5 r10
          have hb5 : b < w5.heap.size := cell_lt r1
          clear b5 HGT HA4
          go_wp2_with fail
          refine calls_named fun W6 hW6 => ?_
          have b6 : Below w5.heap.size w5 W6 := by rw [hW6]; exact (Below.refl _ _).alloc (Nat.le_refl _) _
          have t0 : W6.cell? ⟨w5.heap.size, 0, none⟩ = some (.int .i64 0) := by rw [hW6]; go_simp
          have t1 : W6.cell? ⟨w5.heap.size, 1, none⟩ = some (.int .i64 0) := by rw [hW6]; go_simp
          have t2 : W6.cell? ⟨w5.heap.size, 2, none⟩ = some (.bool false) := by rw [hW6]; go_simp
          have t3 : W6.cell? ⟨w5.heap.size, 3, none⟩ = some (.int .i64 0) := by rw [hW6]; go_simp
          have t4 : W6.cell? ⟨w5.heap.size, 4, none⟩ = some (.slice a5 0 c5) := by rw [hW6]; go_simp
          have t5 : W6.cell? ⟨w5.heap.size, 5, none⟩ = some (.int .i64 0) := by rw [hW6]; go_simp
          have t6 : W6.cell? ⟨w5.heap.size, 6, none⟩ = some (.int .i64 0) := by rw [hW6]; go_simp
          have t7 : W6.cell? ⟨w5.heap.size, 7, none⟩ = some (.int .i64 0) := by rw [hW6]; go_simp
          have t8 : W6.cell? ⟨w5.heap.size, 8, none⟩ = some (.int .i64 0) := by rw [hW6]; go_simp
          have HA6 := Lib.hid (HA5.out.keep b6)
          have r10 := keepl b6 r10
          clear r1 b6 hW6 HA5 hb5
          have HFD : Hid (Calls Tryd.prog 66 #[.slice a2 lp2 c2, .int .i64 x.pod.id] W6 fun e w' => e = .returned (.int .i64 (-1)) ∧ W6 = w') := by
            have h := find_any (.slice a2 lp2 c2) qs x.pod.id W6 (by have := HOK.out.few; omega) HA6.out.list.pods
            rw [HI.out] at h
            exact h
          refine HFD.out.mono ?_
          rintro e xx ⟨rfl, rfl⟩
          have HSM : Hid (∀ W, Below W6.heap.size W6 W → Calls Tryd.prog 67 #[.agg #[.int .i64 0, .int .i64 0, .bool false, .int .i64 0, .slice a5 0 c5, .int .i64 0, .int .i64 0, .int .i64 0, .int .i64 0], .agg #[.int .i64 0, .int .i64 0, .bool false, .int .i64 0, .slice none 0 0, .int .i64 0, .int .i64 0, .int .i64 0, .int .i64 0]] W fun e w' => e = .returned (.bool true) ∧ Below W.heap.size W w') := fun W hW => by
            have h := samePod_any ⟨0, 0, false, 0, [], 0, 0, 0, 0⟩ ⟨0, 0, false, 0, [], 0, 0, 0, 0⟩ (.slice a5 0 c5) (.slice none 0 0) W (by simp) (by simp) ⟨a5, c5, rfl, .inl rfl⟩ ⟨none, 0, rfl, .inl rfl⟩
            rw [decide_eq_true rfl] at h
            exact h
          clear HFD
          have HK : Hid (∀ w', Below W6.heap.size W6 w' → (w'.cell? ⟨w5.heap.size, 0, none⟩ = some (.int .i64 0) ∧ w'.cell? ⟨w5.heap.size, 1, none⟩ = some (.int .i64 0) ∧ w'.cell? ⟨w5.heap.size, 2, none⟩ = some (.bool false) ∧ w'.cell? ⟨w5.heap.size, 3, none⟩ = some (.int .i64 0) ∧ w'.cell? ⟨w5.heap.size, 4, none⟩ = some (.slice a5 0 c5) ∧ w'.cell? ⟨w5.heap.size, 5, none⟩ = some (.int .i64 0) ∧ w'.cell? ⟨w5.heap.size, 6, none⟩ = some (.int .i64 0) ∧ w'.cell? ⟨w5.heap.size, 7, none⟩ = some (.int .i64 0) ∧ w'.cell? ⟨w5.heap.size, 8, none⟩ = some (.int .i64 0))) := fun w' h => ⟨keepl h t0, keepl h t1, keepl h t2, keepl h t3, keepl h t4, keepl h t5, keepl h t6, keepl h t7, keepl h t8⟩
          have hv0 : Below W6.heap.size W6 W6.drew := (Below.refl _ _).drew
          have HK0 := Lib.hid (HK.out _ hv0)
          go_wp2_with fail
          refine wp_region_noPanic ?_
          refine wp_region_held_drew (S := (fun w' => w'.cell? ⟨w5.heap.size, 0, none⟩ = some (.int .i64 0) ∧ w'.cell? ⟨w5.heap.size, 1, none⟩ = some (.int .i64 0) ∧ w'.cell? ⟨w5.heap.size, 2, none⟩ = some (.bool false) ∧ w'.cell? ⟨w5.heap.size, 3, none⟩ = some (.int .i64 0) ∧ w'.cell? ⟨w5.heap.size, 4, none⟩ = some (.slice a5 0 c5) ∧ w'.cell? ⟨w5.heap.size, 5, none⟩ = some (.int .i64 0) ∧ w'.cell? ⟨w5.heap.size, 6, none⟩ = some (.int .i64 0) ∧ w'.cell? ⟨w5.heap.size, 7, none⟩ = some (.int .i64 0) ∧ w'.cell? ⟨w5.heap.size, 8, none⟩ = some (.int .i64 0))) (by kernel_rfl) ?_ (fun hHeld => ?_)
          · exact HK0.out
          refine wpAnyH_take (i := 0) (v := ?_) rfl (by kernel_rfl) (by kernel_rfl) (by kernel_rfl) (fun _ _ _ h => h) (Or.inl ⟨by rfl, ?_⟩) (by assumption) ?_
          rotate_left
          · intro w hSw
            (try dsimp only at hSw)
            go_simp
            try with_reducible rfl
          try simp only [Act.put, List.setIfInBounds_toArray, List.set_cons_zero, List.set_cons_succ, List.getElem_toArray, List.getElem_cons_zero, List.getElem_cons_succ]
          refine wpAnyH_take (i := 1) (v := ?_) rfl (by kernel_rfl) (by kernel_rfl) (by kernel_rfl) (fun _ _ _ h => h) (Or.inl ⟨by rfl, ?_⟩) (by assumption) ?_
          rotate_left
          · intro w hSw
            (try dsimp only at hSw)
            go_simp
            try with_reducible rfl
          try simp only [Act.put, List.setIfInBounds_toArray, List.set_cons_zero, List.set_cons_succ, List.getElem_toArray, List.getElem_cons_zero, List.getElem_cons_succ]
          refine wpAnyH_take (i := 2) (v := ?_) rfl (by kernel_rfl) (by kernel_rfl) (by kernel_rfl) (fun _ _ _ h => h) (Or.inl ⟨by rfl, ?_⟩) (by assumption) ?_
          rotate_left
          · intro w hSw
            (try dsimp only at hSw)
            go_simp
            try with_reducible rfl
          try simp only [Act.put, List.setIfInBounds_toArray, List.set_cons_zero, List.set_cons_succ, List.getElem_toArray, List.getElem_cons_zero, List.getElem_cons_succ]
          refine wpAnyH_take (i := 3) (v := ?_) rfl (by kernel_rfl) (by kernel_rfl) (by kernel_rfl) (fun _ _ _ h => h) (Or.inl ⟨by rfl, ?_⟩) (by assumption) ?_
          rotate_left
          · intro w hSw
            (try dsimp only at hSw)
            go_simp
            try with_reducible rfl
          try simp only [Act.put, List.setIfInBounds_toArray, List.set_cons_zero, List.set_cons_succ, List.getElem_toArray, List.getElem_cons_zero, List.getElem_cons_succ]
          refine wpAnyH_take (i := 4) (v := ?_) rfl (by kernel_rfl) (by kernel_rfl) (by kernel_rfl) (fun _ _ _ h => h) (Or.inl ⟨by rfl, ?_⟩) (by assumption) ?_
          rotate_left
          · intro w hSw
            (try dsimp only at hSw)
            go_simp
            try with_reducible rfl
          try simp only [Act.put, List.setIfInBounds_toArray, List.set_cons_zero, List.set_cons_succ, List.getElem_toArray, List.getElem_cons_zero, List.getElem_cons_succ]
          refine wpAnyH_take (i := 5) (v := ?_) rfl (by kernel_rfl) (by kernel_rfl) (by kernel_rfl) (fun _ _ _ h => h) (Or.inl ⟨by rfl, ?_⟩) (by assumption) ?_
          rotate_left
          · intro w hSw
            (try dsimp only at hSw)
            go_simp
            try with_reducible rfl
          try simp only [Act.put, List.setIfInBounds_toArray, List.set_cons_zero, List.set_cons_succ, List.getElem_toArray, List.getElem_cons_zero, List.getElem_cons_succ]
          refine wpAnyH_take (i := 6) (v := ?_) rfl (by kernel_rfl) (by kernel_rfl) (by kernel_rfl) (fun _ _ _ h => h) (Or.inl ⟨by rfl, ?_⟩) (by assumption) ?_
          rotate_left
          · intro w hSw
            (try dsimp only at hSw)
            go_simp
            try with_reducible rfl
          try simp only [Act.put, List.setIfInBounds_toArray, List.set_cons_zero, List.set_cons_succ, List.getElem_toArray, List.getElem_cons_zero, List.getElem_cons_succ]
          refine wpAnyH_take (i := 7) (v := undef) rfl (by kernel_rfl) (by kernel_rfl) (by kernel_rfl) (fun _ _ _ h => h) (Or.inr ⟨by rfl, rfl⟩) (by assumption) ?_
          try simp only [Act.put, List.setIfInBounds_toArray, List.set_cons_zero, List.set_cons_succ, List.getElem_toArray, List.getElem_cons_zero, List.getElem_cons_succ]
          refine wpAnyH_take (i := 8) (v := undef) rfl (by kernel_rfl) (by kernel_rfl) (by kernel_rfl) (fun _ _ _ h => h) (Or.inr ⟨by rfl, rfl⟩) (by assumption) ?_
          try simp only [Act.put, List.setIfInBounds_toArray, List.set_cons_zero, List.set_cons_succ, List.getElem_toArray, List.getElem_cons_zero, List.getElem_cons_succ]
          refine wpAnyH_take (i := 9) (v := undef) rfl (by kernel_rfl) (by kernel_rfl) (by kernel_rfl) (fun _ _ _ h => h) (Or.inr ⟨by rfl, rfl⟩) (by assumption) ?_
          try simp only [Act.put, List.setIfInBounds_toArray, List.set_cons_zero, List.set_cons_succ, List.getElem_toArray, List.getElem_cons_zero, List.getElem_cons_succ]
          refine wpAnyH_take (i := 10) (v := undef) rfl (by kernel_rfl) (by kernel_rfl) (by kernel_rfl) (fun _ _ _ h => h) (Or.inr ⟨by rfl, rfl⟩) (by assumption) ?_
          try simp only [Act.put, List.setIfInBounds_toArray, List.set_cons_zero, List.set_cons_succ, List.getElem_toArray, List.getElem_cons_zero, List.getElem_cons_succ]
          refine wpAnyH_take (i := 11) (v := undef) rfl (by kernel_rfl) (by kernel_rfl) (by kernel_rfl) (fun _ _ _ h => h) (Or.inr ⟨by rfl, rfl⟩) (by assumption) ?_
          try simp only [Act.put, List.setIfInBounds_toArray, List.set_cons_zero, List.set_cons_succ, List.getElem_toArray, List.getElem_cons_zero, List.getElem_cons_succ]
          refine wpAnyH_ready (rs := [12]) (by kernel_rfl) (by simp) ?_
          refine AllReadyH.cons rfl (fun K hK => ?_) AllReadyH.nil
          go_simp
          refine hK.out _ _ hHeld (fun hHeld => ?_)
          clear hK K
          try simp only [Act.put, List.setIfInBounds_toArray, List.set_cons_zero, List.set_cons_succ, List.getElem_toArray, List.getElem_cons_zero, List.getElem_cons_succ]
          refine wpAnyH_take (i := 13) (v := undef) rfl (by kernel_rfl) (by kernel_rfl) (by kernel_rfl) (fun _ _ _ h => h) (Or.inr ⟨by rfl, rfl⟩) (by assumption) ?_
          try simp only [Act.put, List.setIfInBounds_toArray, List.set_cons_zero, List.set_cons_succ, List.getElem_toArray, List.getElem_cons_zero, List.getElem_cons_succ]
          refine wpAnyH_take (i := 14) (v := ?_) rfl (by kernel_rfl) (by kernel_rfl) (by kernel_rfl) (fun _ _ _ h => h) (Or.inl ⟨by rfl, ?_⟩) (by assumption) ?_
          rotate_left
          · intro w hSw
            (try dsimp only at hSw)
            go_simp
            try with_reducible rfl
          try simp only [Act.put, List.setIfInBounds_toArray, List.set_cons_zero, List.set_cons_succ, List.getElem_toArray, List.getElem_cons_zero, List.getElem_cons_succ]
          refine wpAnyH_take (i := 15) (v := ?_) rfl (by kernel_rfl) (by kernel_rfl) (by kernel_rfl) (fun _ _ _ h => h) (Or.inl ⟨by rfl, ?_⟩) (by assumption) ?_
          rotate_left
          · intro w hSw
            (try dsimp only at hSw)
            go_simp
            try with_reducible rfl
          try simp only [Act.put, List.setIfInBounds_toArray, List.set_cons_zero, List.set_cons_succ, List.getElem_toArray, List.getElem_cons_zero, List.getElem_cons_succ]
          refine wpAnyH_take (i := 16) (v := ?_) rfl (by kernel_rfl) (by kernel_rfl) (by kernel_rfl) (fun _ _ _ h => h) (Or.inl ⟨by rfl, ?_⟩) (by assumption) ?_
          rotate_left
          · intro w hSw
            (try dsimp only at hSw)
            go_simp
            try with_reducible rfl
          try simp only [Act.put, List.setIfInBounds_toArray, List.set_cons_zero, List.set_cons_succ, List.getElem_toArray, List.getElem_cons_zero, List.getElem_cons_succ]
          refine wpAnyH_take (i := 17) (v := ?_) rfl (by kernel_rfl) (by kernel_rfl) (by kernel_rfl) (fun _ _ _ h => h) (Or.inl ⟨by rfl, ?_⟩) (by assumption) ?_
          rotate_left
          · intro w hSw
            (try dsimp only at hSw)
            go_simp
            try with_reducible rfl
          try simp only [Act.put, List.setIfInBounds_toArray, List.set_cons_zero, List.set_cons_succ, List.getElem_toArray, List.getElem_cons_zero, List.getElem_cons_succ]
          refine wpAnyH_take (i := 18) (v := ?_) rfl (by kernel_rfl) (by kernel_rfl) (by kernel_rfl) (fun _ _ _ h => h) (Or.inl ⟨by rfl, ?_⟩) (by assumption) ?_
          rotate_left
          · intro w hSw
            (try dsimp only at hSw)
            go_simp
            try with_reducible rfl
          try simp only [Act.put, List.setIfInBounds_toArray, List.set_cons_zero, List.set_cons_succ, List.getElem_toArray, List.getElem_cons_zero, List.getElem_cons_succ]
          refine wpAnyH_take (i := 19) (v := ?_) rfl (by kernel_rfl) (by kernel_rfl) (by kernel_rfl) (fun _ _ _ h => h) (Or.inl ⟨by rfl, ?_⟩) (by assumption) ?_
          rotate_left
          · intro w hSw
            (try dsimp only at hSw)
            go_simp
            try with_reducible rfl
          try simp only [Act.put, List.setIfInBounds_toArray, List.set_cons_zero, List.set_cons_succ, List.getElem_toArray, List.getElem_cons_zero, List.getElem_cons_succ]
          refine wpAnyH_take (i := 20) (v := ?_) rfl (by kernel_rfl) (by kernel_rfl) (by kernel_rfl) (fun _ _ _ h => h) (Or.inl ⟨by rfl, ?_⟩) (by assumption) ?_
          rotate_left
          · intro w hSw
            (try dsimp only at hSw)
            go_simp
            try with_reducible rfl
          try simp only [Act.put, List.setIfInBounds_toArray, List.set_cons_zero, List.set_cons_succ, List.getElem_toArray, List.getElem_cons_zero, List.getElem_cons_succ]
          refine wpAnyH_take (i := 21) (v := ?_) rfl (by kernel_rfl) (by kernel_rfl) (by kernel_rfl) (fun _ _ _ h => h) (Or.inl ⟨by rfl, ?_⟩) (by assumption) ?_
          rotate_left
          · intro w hSw
            (try dsimp only at hSw)
            go_simp
            try with_reducible rfl
          try simp only [Act.put, List.setIfInBounds_toArray, List.set_cons_zero, List.set_cons_succ, List.getElem_toArray, List.getElem_cons_zero, List.getElem_cons_succ]
          refine wpAnyH_ready (rs := [22]) (by kernel_rfl) (by simp) ?_
          refine AllReadyH.cons rfl (fun K hK => ?_) AllReadyH.nil
          go_simp
          ((with_reducible refine (HSM.out _ hv0).mono ?_)); rintro e w7 ⟨rfl, b7⟩; have hb7 : Below W6.heap.size W6 w7 := hv0.trans b7
          go_wp2_with fail
          refine hK.out _ _ (HK.out _ hb7) (fun hHeld => ?_)
          clear hK K
          try simp only [Act.put, List.setIfInBounds_toArray, List.set_cons_zero, List.set_cons_succ, List.getElem_toArray, List.getElem_cons_zero, List.getElem_cons_succ]
          refine wpAnyH_take (i := 23) (v := ?_) rfl (by kernel_rfl) (by kernel_rfl) (by kernel_rfl) (fun _ _ _ h => h) (Or.inl ⟨by rfl, ?_⟩) (by assumption) ?_
          rotate_left
          · intro w hSw
            (try dsimp only at hSw)
            go_simp
            try with_reducible rfl
          try simp only [Act.put, List.setIfInBounds_toArray, List.set_cons_zero, List.set_cons_succ, List.getElem_toArray, List.getElem_cons_zero, List.getElem_cons_succ]
          refine wpAnyH_take (i := 24) (v := ?_) rfl (by kernel_rfl) (by kernel_rfl) (by kernel_rfl) (fun _ _ _ h => h) (Or.inl ⟨by rfl, ?_⟩) (by assumption) ?_
          rotate_left
          · intro w hSw
            (try dsimp only at hSw)
            go_simp
            try with_reducible rfl
          try simp only [Act.put, List.setIfInBounds_toArray, List.set_cons_zero, List.set_cons_succ, List.getElem_toArray, List.getElem_cons_zero, List.getElem_cons_succ]
          refine wpAnyH_take (i := 25) (v := ?_) rfl (by kernel_rfl) (by kernel_rfl) (by kernel_rfl) (fun _ _ _ h => h) (Or.inl ⟨by rfl, ?_⟩) (by assumption) ?_
          rotate_left
          · intro w hSw
            (try dsimp only at hSw)
            go_simp
            try with_reducible rfl
          try simp only [Act.put, List.setIfInBounds_toArray, List.set_cons_zero, List.set_cons_succ, List.getElem_toArray, List.getElem_cons_zero, List.getElem_cons_succ]
          refine wpAnyH_done (by kernel_rfl) ?_ _
          refine NoPanic.normal ?_
          all_goals
            have HA7 := Lib.hid (HA6.out.keep hb7)
            have r10 := keepl hb7 r10
            clear hb7 b7 HK HK0 HSM HA6 t0 t1 t2 t3 t4 t5 t6 t7 t8 hv0
            have HON : Hid (∀ W, Below w7.heap.size w7 W → Calls Tryd.prog 68 #[.pointer (some ⟨gi, 0, none⟩), .int .i64 x.node] W (RetPods W (qs.filter (onB x.node)))) := fun W hW => son_any (m := ⟨gi, bt, bm, g2⟩) x.node W (HA7.out.st.below hW) HOK.out
            have HRN : Hid (∀ W, Below w7.heap.size w7 W → Calls Tryd.prog 69 #[.slice a2 lp2 c2, .int .i64 x.node] W fun e w' => ∃ v, e = .returned v ∧ OwnPods (Lo (Off ⟨gi, bt, bm, g2⟩) W.heap.size) W.heap.size w' v (qs.filter (onB x.node)) ∧ Below W.heap.size W w') := fun W hW => refOn_any (.slice a2 lp2 c2) qs x.node (Off ⟨gi, bt, bm, g2⟩) W (by have := HOK.out.few; omega) (HA7.out.keep hW).list
            have HSQ : Hid (∀ W v1 v2, PodsAt W v1 (qs.filter (onB x.node)) → PodsAt W v2 (qs.filter (onB x.node)) → Calls Tryd.prog 63 #[v1, v2] W fun e w' => e = .returned (.bool true) ∧ Below W.heap.size W w') := fun W v1 v2 h1 h2 => by
              have h := same06_any v1 v2 _ _ W (smallPods_filter HOK.out.small _) (smallPods_filter HOK.out.small _) h1 h2
              rw [decide_eq_true rfl] at h
              exact h
            unfold RetPods at HON
            have hz7 : Below w7.heap.size w7 w7.drew := (Below.refl _ _).drew
            have HKN : Hid (∀ w' : World, Below w7.heap.size w7 w' → w'.cell? ⟨b, off + k * 12 + 10, none⟩ = some (.int .i64 x.node)) := fun w' h => keepl h r10
            have HKN0 := Lib.hid (HKN.out _ hz7)
            go_wp2_with fail
            first
              | (go_region_held3 (fun w' => w'.cell? ⟨b, off + k * 12 + 10, none⟩ = some (.int .i64 x.node))
                  (first
                    | (with_reducible exact HKN0.out)
                    | (with_reducible exact HKN1.out)
                    | (with_reducible exact HKN2.out)
                    | (with_reducible exact HKN3.out)
                    | go_keep)
                  (first
                    | (go_at_call 68; ((with_reducible refine (HON.out _ hz7).mono ?_)); rintro e w8 ⟨v8, rfl, o8, b8⟩; have hb8 : Below w7.heap.size w7 w8 := hz7.trans b8; have HKN1 := Lib.hid (HKN.out _ hb8))
                    | (go_at_call 69; ((with_reducible refine (HRN.out _ hb8).mono ?_)); rintro e w9 ⟨v9, rfl, o9, b9⟩; have hb9 : Below w7.heap.size w7 w9 := hb8.trans (b9.mono hb8.size); have HKN2 := Lib.hid (HKN.out _ hb9))
                    | (go_at_call 63; ((with_reducible refine (HSQ.out _ _ _ (o8.pods.below b9) o9.pods).mono ?_)); rintro e w10 ⟨rfl, b10⟩; have hb10 : Below w7.heap.size w7 w10 := hb9.trans (b10.mono hb9.size); have HKN3 := Lib.hid (HKN.out _ hb10))))
              | skip
            have HA8 := Lib.hid (HA7.out.keep hb10)
            clear hb10 b10 hb9 b9 hb8 b8 o8 o9 HKN HKN0 HKN1 HKN2 HKN3 HSQ HRN HON HA7 r10 hz7
            go_wp2
            go_roundw
            case rel => exact ⟨k + 1, qs, g2, _, lp2, c2, by omega, by go_num, rfl, rfl, HLP2.out, HA8.out⟩
            case measure => simp [intOf]; omega
        · obtain ⟨i, hi⟩ : ∃ i : Nat, findI qs 0 x.pod.id = (i : Int) := ⟨(findI qs 0 x.pod.id).toNat, by omega⟩
          have hil : i < qs.length := by omega
          obtain ⟨hg1, hg2⟩ := getP_of hi
          have hgt := sget_any (m := ⟨gi, bt, bm, g2⟩) x.pod.id w4 HA4.out.st (by rw [hg1]; exact HOK.out.small.2 i hil)
          rw [hg1, hg2] at hgt
          have HGT := Lib.hid hgt
          unfold RetOwn at HGT
          have HI := Lib.hid hi
          have HIL := Lib.hid hil
          clear hgt hg1 hg2 hi hil hfi
          obtain ⟨bq, oq, capq, rvq, hv, hbq, hcl, hint⟩ := HA4.out.list.get HIL.out
          rw [← HLP2.out] at hv
          injection hv with hv1 _ hv3
          subst hv1
          subst hv3
          obtain ⟨ar2, cr2, rfl, -⟩ := id hint
          obtain ⟨pq, hpq⟩ : ∃ pq, pq = podAt qs i := ⟨_, rfl⟩
          rw [← hpq] at hcl hint
          rw [← hpq] at HGT
          have HPQ := Lib.hid hpq; clear hpq
          obtain ⟨lq, hlq⟩ : ∃ lq, lq = pq.req.length := ⟨_, rfl⟩
          have HLQ := Lib.hid hlq
          rw [← hlq] at HGT hcl hint
          clear hlq
          have HCL := Lib.hid hcl
          have HINT := Lib.hid hint
          clear hcl hint
          go_wp2_with fail
          refine HGT.out.mono ?_
          rintro e w5 ⟨a5, c5, rfl, ho5, b5⟩
          have HA5 := Lib.hid (HA4.out.keep b5)
          have HI5 : Hid (IntsAt w5 (.slice a5 lq c5) pq.req) := (ownsRow_int ho5 HLQ.out).ints
          have r1 := keepl b5 r1
          have r10 := keepl b5 r10
          have HCL5 := Lib.hid (HCL.out.below b5 hbq)
          have HIN5 := Lib.hid (HINT.out.below b5)
          have hb5 : b < w5.heap.size := cell_lt r1
          have hbq5 : bq < w5.heap.size := Nat.lt_of_lt_of_le hbq b5.size
          clear b5 ho5 HGT HA4 HCL HINT hbq
          go_wp2_with fail
          refine calls_named fun W6 hW6 => ?_
          have b6 : Below w5.heap.size w5 W6 := by rw [hW6]; exact (Below.refl _ _).alloc (Nat.le_refl _) _
          have t0 : W6.cell? ⟨w5.heap.size, 0, none⟩ = some (.int .i64 pq.id) := by rw [hW6]; go_simp
          have t1 : W6.cell? ⟨w5.heap.size, 1, none⟩ = some (.int .i64 pq.prio) := by rw [hW6]; go_simp
          have t2 : W6.cell? ⟨w5.heap.size, 2, none⟩ = some (.bool pq.pre) := by rw [hW6]; go_simp
          have t3 : W6.cell? ⟨w5.heap.size, 3, none⟩ = some (.int .i64 pq.grace) := by rw [hW6]; go_simp
          have t4 : W6.cell? ⟨w5.heap.size, 4, none⟩ = some (.slice a5 lq c5) := by rw [hW6]; go_simp
          have t5 : W6.cell? ⟨w5.heap.size, 5, none⟩ = some (.int .i64 pq.arr) := by rw [hW6]; go_simp
          have t6 : W6.cell? ⟨w5.heap.size, 6, none⟩ = some (.int .i64 pq.ph) := by rw [hW6]; go_simp
          have t7 : W6.cell? ⟨w5.heap.size, 7, none⟩ = some (.int .i64 pq.node) := by rw [hW6]; go_simp
          have t8 : W6.cell? ⟨w5.heap.size, 8, none⟩ = some (.int .i64 pq.dead) := by rw [hW6]; go_simp
          obtain ⟨d0, d1, d2, d3, d4, d5, d6, d7, d8⟩ := HCL5.out.below b6 hbq5
          have HA6 := Lib.hid (HA5.out.keep b6)
          have HI6 := Lib.hid (HI5.out.below b6)
          have HIN6 := Lib.hid (HIN5.out.below b6)
          have r10 := keepl b6 r10
          clear r1 b6 hW6 HA5 HI5 HIN5 HCL5 hb5 hbq5
          have HFD : Hid (Calls Tryd.prog 66 #[.slice (some ⟨bq, oq, none⟩) lp2 c2, .int .i64 x.pod.id] W6 fun e w' => e = .returned (.int .i64 (i : Int)) ∧ W6 = w') := by
            have h := find_any (.slice (some ⟨bq, oq, none⟩) lp2 c2) qs x.pod.id W6 (by have := HOK.out.few; omega) HA6.out.list.pods
            rw [HI.out] at h
            exact h
          refine HFD.out.mono ?_
          rintro e xx ⟨rfl, rfl⟩
          have hi0 : (0 : Int) ≤ (i : Int) := by omega
          have hi1 : (i : Int) < (lp2 : Int) := by have := HIL.out; have := HLP2.out; omega
          have hige : decide ((i : Int) ≥ 0) = true := by simp
          have HSM : Hid (∀ W, Below W6.heap.size W6 W → Calls Tryd.prog 67 #[.agg #[.int .i64 pq.id, .int .i64 pq.prio, .bool pq.pre, .int .i64 pq.grace, .slice a5 lq c5, .int .i64 pq.arr, .int .i64 pq.ph, .int .i64 pq.node, .int .i64 pq.dead], .agg #[.int .i64 pq.id, .int .i64 pq.prio, .bool pq.pre, .int .i64 pq.grace, .slice ar2 lq cr2, .int .i64 pq.arr, .int .i64 pq.ph, .int .i64 pq.node, .int .i64 pq.dead]] W fun e w' => e = .returned (.bool true) ∧ Below W.heap.size W w') := fun W hW => by
            have h := samePod_any pq pq (.slice a5 lq c5) (.slice ar2 lq cr2) W (by rw [HPQ.out]; exact HOK.out.small.2 i HIL.out) (by rw [HPQ.out]; exact HOK.out.small.2 i HIL.out) (HI6.out.below hW) (HIN6.out.below hW)
            rw [decide_eq_true rfl] at h
            exact h
          clear HFD
          have HK : Hid (∀ w', Below W6.heap.size W6 w' → (w'.cell? ⟨w5.heap.size, 0, none⟩ = some (.int .i64 pq.id) ∧ w'.cell? ⟨w5.heap.size, 1, none⟩ = some (.int .i64 pq.prio) ∧ w'.cell? ⟨w5.heap.size, 2, none⟩ = some (.bool pq.pre) ∧ w'.cell? ⟨w5.heap.size, 3, none⟩ = some (.int .i64 pq.grace) ∧ w'.cell? ⟨w5.heap.size, 4, none⟩ = some (.slice a5 lq c5) ∧ w'.cell? ⟨w5.heap.size, 5, none⟩ = some (.int .i64 pq.arr) ∧ w'.cell? ⟨w5.heap.size, 6, none⟩ = some (.int .i64 pq.ph) ∧ w'.cell? ⟨w5.heap.size, 7, none⟩ = some (.int .i64 pq.node) ∧ w'.cell? ⟨w5.heap.size, 8, none⟩ = some (.int .i64 pq.dead) ∧ w'.cell? ⟨bq, oq + i * 9, none⟩ = some (.int .i64 pq.id) ∧ w'.cell? ⟨bq, oq + i * 9 + 1, none⟩ = some (.int .i64 pq.prio) ∧ w'.cell? ⟨bq, oq + i * 9 + 2, none⟩ = some (.bool pq.pre) ∧ w'.cell? ⟨bq, oq + i * 9 + 3, none⟩ = some (.int .i64 pq.grace) ∧ w'.cell? ⟨bq, oq + i * 9 + 4, none⟩ = some (.slice ar2 lq cr2) ∧ w'.cell? ⟨bq, oq + i * 9 + 5, none⟩ = some (.int .i64 pq.arr) ∧ w'.cell? ⟨bq, oq + i * 9 + 6, none⟩ = some (.int .i64 pq.ph) ∧ w'.cell? ⟨bq, oq + i * 9 + 7, none⟩ = some (.int .i64 pq.node) ∧ w'.cell? ⟨bq, oq + i * 9 + 8, none⟩ = some (.int .i64 pq.dead))) := fun w' h => ⟨keepl h t0, keepl h t1, keepl h t2, keepl h t3, keepl h t4, keepl h t5, keepl h t6, keepl h t7, keepl h t8, keepl h d0, keepl h d1, keepl h d2, keepl h d3, keepl h d4, keepl h d5, keepl h d6, keepl h d7, keepl h d8⟩
          have hv0 : Below W6.heap.size W6 W6.drew := (Below.refl _ _).drew
          have HK0 := Lib.hid (HK.out _ hv0)
          go_wp2_with fail
          refine wp_region_noPanic ?_
          refine wp_region_held_drew (S := (fun w' => w'.cell? ⟨w5.heap.size, 0, none⟩ = some (.int .i64 pq.id) ∧ w'.cell? ⟨w5.heap.size, 1, none⟩ = some (.int .i64 pq.prio) ∧ w'.cell? ⟨w5.heap.size, 2, none⟩ = some (.bool pq.pre) ∧ w'.cell? ⟨w5.heap.size, 3, none⟩ = some (.int .i64 pq.grace) ∧ w'.cell? ⟨w5.heap.size, 4, none⟩ = some (.slice a5 lq c5) ∧ w'.cell? ⟨w5.heap.size, 5, none⟩ = some (.int .i64 pq.arr) ∧ w'.cell? ⟨w5.heap.size, 6, none⟩ = some (.int .i64 pq.ph) ∧ w'.cell? ⟨w5.heap.size, 7, none⟩ = some (.int .i64 pq.node) ∧ w'.cell? ⟨w5.heap.size, 8, none⟩ = some (.int .i64 pq.dead) ∧ w'.cell? ⟨bq, oq + i * 9, none⟩ = some (.int .i64 pq.id) ∧ w'.cell? ⟨bq, oq + i * 9 + 1, none⟩ = some (.int .i64 pq.prio) ∧ w'.cell? ⟨bq, oq + i * 9 + 2, none⟩ = some (.bool pq.pre) ∧ w'.cell? ⟨bq, oq + i * 9 + 3, none⟩ = some (.int .i64 pq.grace) ∧ w'.cell? ⟨bq, oq + i * 9 + 4, none⟩ = some (.slice ar2 lq cr2) ∧ w'.cell? ⟨bq, oq + i * 9 + 5, none⟩ = some (.int .i64 pq.arr) ∧ w'.cell? ⟨bq, oq + i * 9 + 6, none⟩ = some (.int .i64 pq.ph) ∧ w'.cell? ⟨bq, oq + i * 9 + 7, none⟩ = some (.int .i64 pq.node) ∧ w'.cell? ⟨bq, oq + i * 9 + 8, none⟩ = some (.int .i64 pq.dead))) (by kernel_rfl) ?_ (fun hHeld => ?_)
          · exact HK0.out
          refine wpAnyH_take (i := 0) (v := ?_) rfl (by kernel_rfl) (by kernel_rfl) (by kernel_rfl) (fun _ _ _ h => h) (Or.inl ⟨by rfl, ?_⟩) (by assumption) ?_
          rotate_left
          · intro w hSw
            (try dsimp only at hSw)
            go_simp
            try with_reducible rfl
          try simp only [Act.put, List.setIfInBounds_toArray, List.set_cons_zero, List.set_cons_succ, List.getElem_toArray, List.getElem_cons_zero, List.getElem_cons_succ]
          refine wpAnyH_take (i := 1) (v := ?_) rfl (by kernel_rfl) (by kernel_rfl) (by kernel_rfl) (fun _ _ _ h => h) (Or.inl ⟨by rfl, ?_⟩) (by assumption) ?_
          rotate_left
          · intro w hSw
            (try dsimp only at hSw)
            go_simp
            try with_reducible rfl
          try simp only [Act.put, List.setIfInBounds_toArray, List.set_cons_zero, List.set_cons_succ, List.getElem_toArray, List.getElem_cons_zero, List.getElem_cons_succ]
          refine wpAnyH_take (i := 2) (v := ?_) rfl (by kernel_rfl) (by kernel_rfl) (by kernel_rfl) (fun _ _ _ h => h) (Or.inl ⟨by rfl, ?_⟩) (by assumption) ?_
          rotate_left
          · intro w hSw
            (try dsimp only at hSw)
            go_simp
            try with_reducible rfl
          try simp only [Act.put, List.setIfInBounds_toArray, List.set_cons_zero, List.set_cons_succ, List.getElem_toArray, List.getElem_cons_zero, List.getElem_cons_succ]
          refine wpAnyH_take (i := 3) (v := ?_) rfl (by kernel_rfl) (by kernel_rfl) (by kernel_rfl) (fun _ _ _ h => h) (Or.inl ⟨by rfl, ?_⟩) (by assumption) ?_
          rotate_left
          · intro w hSw
            (try dsimp only at hSw)
            go_simp
            try with_reducible rfl
          try simp only [Act.put, List.setIfInBounds_toArray, List.set_cons_zero, List.set_cons_succ, List.getElem_toArray, List.getElem_cons_zero, List.getElem_cons_succ]
          refine wpAnyH_take (i := 4) (v := ?_) rfl (by kernel_rfl) (by kernel_rfl) (by kernel_rfl) (fun _ _ _ h => h) (Or.inl ⟨by rfl, ?_⟩) (by assumption) ?_
          rotate_left
          · intro w hSw
            (try dsimp only at hSw)
            go_simp
            try with_reducible rfl
          try simp only [Act.put, List.setIfInBounds_toArray, List.set_cons_zero, List.set_cons_succ, List.getElem_toArray, List.getElem_cons_zero, List.getElem_cons_succ]
          refine wpAnyH_take (i := 5) (v := ?_) rfl (by kernel_rfl) (by kernel_rfl) (by kernel_rfl) (fun _ _ _ h => h) (Or.inl ⟨by rfl, ?_⟩) (by assumption) ?_
          rotate_left
          · intro w hSw
            (try dsimp only at hSw)
            go_simp
            try with_reducible rfl
          try simp only [Act.put, List.setIfInBounds_toArray, List.set_cons_zero, List.set_cons_succ, List.getElem_toArray, List.getElem_cons_zero, List.getElem_cons_succ]
          refine wpAnyH_take (i := 6) (v := ?_) rfl (by kernel_rfl) (by kernel_rfl) (by kernel_rfl) (fun _ _ _ h => h) (Or.inl ⟨by rfl, ?_⟩) (by assumption) ?_
          rotate_left
          · intro w hSw
            (try dsimp only at hSw)
            go_simp
            try with_reducible rfl
          try simp only [Act.put, List.setIfInBounds_toArray, List.set_cons_zero, List.set_cons_succ, List.getElem_toArray, List.getElem_cons_zero, List.getElem_cons_succ]
          refine wpAnyH_take (i := 7) (v := ?_) rfl (by kernel_rfl) (by kernel_rfl) (by kernel_rfl) (fun _ _ _ h => h) (Or.inl ⟨by rfl, ?_⟩) (by assumption) ?_
          rotate_left
          · intro w hSw
            (try dsimp only at hSw)
            go_simp
            try with_reducible rfl
          try simp only [Act.put, List.setIfInBounds_toArray, List.set_cons_zero, List.set_cons_succ, List.getElem_toArray, List.getElem_cons_zero, List.getElem_cons_succ]
          refine wpAnyH_take (i := 8) (v := ?_) rfl (by kernel_rfl) (by kernel_rfl) (by kernel_rfl) (fun _ _ _ h => h) (Or.inl ⟨by rfl, ?_⟩) (by assumption) ?_
          rotate_left
          · intro w hSw
            (try dsimp only at hSw)
            go_simp
            try with_reducible rfl
          try simp only [Act.put, List.setIfInBounds_toArray, List.set_cons_zero, List.set_cons_succ, List.getElem_toArray, List.getElem_cons_zero, List.getElem_cons_succ]
          refine wpAnyH_take (i := 9) (v := ?_) rfl (by kernel_rfl) (by kernel_rfl) (by kernel_rfl) (fun _ _ _ h => h) (Or.inl ⟨by rfl, ?_⟩) (by assumption) ?_
          rotate_left
          · intro w hSw
            (try dsimp only at hSw)
            go_simp
            try with_reducible rfl
          try simp only [Act.put, List.setIfInBounds_toArray, List.set_cons_zero, List.set_cons_succ, List.getElem_toArray, List.getElem_cons_zero, List.getElem_cons_succ]
          refine wpAnyH_take (i := 10) (v := ?_) rfl (by kernel_rfl) (by kernel_rfl) (by kernel_rfl) (fun _ _ _ h => h) (Or.inl ⟨by rfl, ?_⟩) (by assumption) ?_
          rotate_left
          · intro w hSw
            (try dsimp only at hSw)
            go_simp
            try with_reducible rfl
          try simp only [Act.put, List.setIfInBounds_toArray, List.set_cons_zero, List.set_cons_succ, List.getElem_toArray, List.getElem_cons_zero, List.getElem_cons_succ]
          refine wpAnyH_take (i := 11) (v := ?_) rfl (by kernel_rfl) (by kernel_rfl) (by kernel_rfl) (fun _ _ _ h => h) (Or.inl ⟨by rfl, ?_⟩) (by assumption) ?_
          rotate_left
          · intro w hSw
            (try dsimp only at hSw)
            go_simp
            try with_reducible rfl
          try simp only [Act.put, List.setIfInBounds_toArray, List.set_cons_zero, List.set_cons_succ, List.getElem_toArray, List.getElem_cons_zero, List.getElem_cons_succ]
          refine wpAnyH_ready (rs := [12]) (by kernel_rfl) (by simp) ?_
          refine AllReadyH.cons rfl (fun K hK => ?_) AllReadyH.nil
          go_simp
          ((with_reducible refine (HSM.out _ hv0).mono ?_)); rintro e w7 ⟨rfl, b7⟩; have hb7 : Below W6.heap.size W6 w7 := hv0.trans b7
          go_wp2_with fail
          refine hK.out _ _ (HK.out _ hb7) (fun hHeld => ?_)
          clear hK K
          try simp only [Act.put, List.setIfInBounds_toArray, List.set_cons_zero, List.set_cons_succ, List.getElem_toArray, List.getElem_cons_zero, List.getElem_cons_succ]
          refine wpAnyH_take (i := 13) (v := ?_) rfl (by kernel_rfl) (by kernel_rfl) (by kernel_rfl) (fun _ _ _ h => h) (Or.inl ⟨by rfl, ?_⟩) (by assumption) ?_
          rotate_left
          · intro w hSw
            (try dsimp only at hSw)
            go_simp
            try with_reducible rfl
          try simp only [Act.put, List.setIfInBounds_toArray, List.set_cons_zero, List.set_cons_succ, List.getElem_toArray, List.getElem_cons_zero, List.getElem_cons_succ]
          refine wpAnyH_take (i := 14) (v := ?_) rfl (by kernel_rfl) (by kernel_rfl) (by kernel_rfl) (fun _ _ _ h => h) (Or.inl ⟨by rfl, ?_⟩) (by assumption) ?_
          rotate_left
          · intro w hSw
            (try dsimp only at hSw)
            go_simp
            try with_reducible rfl
          try simp only [Act.put, List.setIfInBounds_toArray, List.set_cons_zero, List.set_cons_succ, List.getElem_toArray, List.getElem_cons_zero, List.getElem_cons_succ]
          refine wpAnyH_take (i := 15) (v := ?_) rfl (by kernel_rfl) (by kernel_rfl) (by kernel_rfl) (fun _ _ _ h => h) (Or.inl ⟨by rfl, ?_⟩) (by assumption) ?_
          rotate_left
          · intro w hSw
            (try dsimp only at hSw)
            go_simp
            try with_reducible rfl
          try simp only [Act.put, List.setIfInBounds_toArray, List.set_cons_zero, List.set_cons_succ, List.getElem_toArray, List.getElem_cons_zero, List.getElem_cons_succ]
          refine wpAnyH_take (i := 16) (v := ?_) rfl (by kernel_rfl) (by kernel_rfl) (by kernel_rfl) (fun _ _ _ h => h) (Or.inl ⟨by rfl, ?_⟩) (by assumption) ?_
          rotate_left
          · intro w hSw
            (try dsimp only at hSw)
            go_simp
            try with_reducible rfl
          try simp only [Act.put, List.setIfInBounds_toArray, List.set_cons_zero, List.set_cons_succ, List.getElem_toArray, List.getElem_cons_zero, List.getElem_cons_succ]
          refine wpAnyH_take (i := 17) (v := ?_) rfl (by kernel_rfl) (by kernel_rfl) (by kernel_rfl) (fun _ _ _ h => h) (Or.inl ⟨by rfl, ?_⟩) (by assumption) ?_
          rotate_left
          · intro w hSw
            (try dsimp only at hSw)
            go_simp
            try with_reducible rfl
          try simp only [Act.put, List.setIfInBounds_toArray, List.set_cons_zero, List.set_cons_succ, List.getElem_toArray, List.getElem_cons_zero, List.getElem_cons_succ]
          refine wpAnyH_take (i := 18) (v := ?_) rfl (by kernel_rfl) (by kernel_rfl) (by kernel_rfl) (fun _ _ _ h => h) (Or.inl ⟨by rfl, ?_⟩) (by assumption) ?_
          rotate_left
          · intro w hSw
            (try dsimp only at hSw)
            go_simp
            try with_reducible rfl
          try simp only [Act.put, List.setIfInBounds_toArray, List.set_cons_zero, List.set_cons_succ, List.getElem_toArray, List.getElem_cons_zero, List.getElem_cons_succ]
          refine wpAnyH_take (i := 19) (v := ?_) rfl (by kernel_rfl) (by kernel_rfl) (by kernel_rfl) (fun _ _ _ h => h) (Or.inl ⟨by rfl, ?_⟩) (by assumption) ?_
          rotate_left
          · intro w hSw
            (try dsimp only at hSw)
            go_simp
            try with_reducible rfl
          try simp only [Act.put, List.setIfInBounds_toArray, List.set_cons_zero, List.set_cons_succ, List.getElem_toArray, List.getElem_cons_zero, List.getElem_cons_succ]
          refine wpAnyH_take (i := 20) (v := undef) rfl (by kernel_rfl) (by kernel_rfl) (by kernel_rfl) (fun _ _ _ h => h) (Or.inr ⟨by rfl, rfl⟩) (by assumption) ?_
          try simp only [Act.put, List.setIfInBounds_toArray, List.set_cons_zero, List.set_cons_succ, List.getElem_toArray, List.getElem_cons_zero, List.getElem_cons_succ]
          refine wpAnyH_take (i := 21) (v := undef) rfl (by kernel_rfl) (by kernel_rfl) (by kernel_rfl) (fun _ _ _ h => h) (Or.inr ⟨by rfl, rfl⟩) (by assumption) ?_
          try simp only [Act.put, List.setIfInBounds_toArray, List.set_cons_zero, List.set_cons_succ, List.getElem_toArray, List.getElem_cons_zero, List.getElem_cons_succ]
          refine wpAnyH_ready (rs := [22]) (by kernel_rfl) (by simp) ?_
          refine AllReadyH.cons rfl (fun K hK => ?_) AllReadyH.nil
          go_simp
          refine hK.out _ _ hHeld (fun hHeld => ?_)
          clear hK K
          try simp only [Act.put, List.setIfInBounds_toArray, List.set_cons_zero, List.set_cons_succ, List.getElem_toArray, List.getElem_cons_zero, List.getElem_cons_succ]
          refine wpAnyH_take (i := 23) (v := undef) rfl (by kernel_rfl) (by kernel_rfl) (by kernel_rfl) (fun _ _ _ h => h) (Or.inr ⟨by rfl, rfl⟩) (by assumption) ?_
          try simp only [Act.put, List.setIfInBounds_toArray, List.set_cons_zero, List.set_cons_succ, List.getElem_toArray, List.getElem_cons_zero, List.getElem_cons_succ]
          refine wpAnyH_take (i := 24) (v := ?_) rfl (by kernel_rfl) (by kernel_rfl) (by kernel_rfl) (fun _ _ _ h => h) (Or.inl ⟨by rfl, ?_⟩) (by assumption) ?_
          rotate_left
          · intro w hSw
            (try dsimp only at hSw)
            go_simp
            try with_reducible rfl
          try simp only [Act.put, List.setIfInBounds_toArray, List.set_cons_zero, List.set_cons_succ, List.getElem_toArray, List.getElem_cons_zero, List.getElem_cons_succ]
          refine wpAnyH_take (i := 25) (v := ?_) rfl (by kernel_rfl) (by kernel_rfl) (by kernel_rfl) (fun _ _ _ h => h) (Or.inl ⟨by rfl, ?_⟩) (by assumption) ?_
          rotate_left
          · intro w hSw
            (try dsimp only at hSw)
            go_simp
            try with_reducible rfl
          try simp only [Act.put, List.setIfInBounds_toArray, List.set_cons_zero, List.set_cons_succ, List.getElem_toArray, List.getElem_cons_zero, List.getElem_cons_succ]
          refine wpAnyH_done (by kernel_rfl) ?_ _
          refine NoPanic.normal ?_
          all_goals
            have HA7 := Lib.hid (HA6.out.keep hb7)
            have r10 := keepl hb7 r10
            clear hb7 b7 HK HK0 HSM HI6 HIN6 HA6 t0 t1 t2 t3 t4 t5 t6 t7 t8 d0 d1 d2 d3 d4 d5 d6 d7 d8 hige hv0
            have HON : Hid (∀ W, Below w7.heap.size w7 W → Calls Tryd.prog 68 #[.pointer (some ⟨gi, 0, none⟩), .int .i64 x.node] W (RetPods W (qs.filter (onB x.node)))) := fun W hW => son_any (m := ⟨gi, bt, bm, g2⟩) x.node W (HA7.out.st.below hW) HOK.out
            have HRN : Hid (∀ W, Below w7.heap.size w7 W → Calls Tryd.prog 69 #[.slice (some ⟨bq, oq, none⟩) lp2 c2, .int .i64 x.node] W fun e w' => ∃ v, e = .returned v ∧ OwnPods (Lo (Off ⟨gi, bt, bm, g2⟩) W.heap.size) W.heap.size w' v (qs.filter (onB x.node)) ∧ Below W.heap.size W w') := fun W hW => refOn_any (.slice (some ⟨bq, oq, none⟩) lp2 c2) qs x.node (Off ⟨gi, bt, bm, g2⟩) W (by have := HOK.out.few; omega) (HA7.out.keep hW).list
            have HSQ : Hid (∀ W v1 v2, PodsAt W v1 (qs.filter (onB x.node)) → PodsAt W v2 (qs.filter (onB x.node)) → Calls Tryd.prog 63 #[v1, v2] W fun e w' => e = .returned (.bool true) ∧ Below W.heap.size W w') := fun W v1 v2 h1 h2 => by
              have h := same06_any v1 v2 _ _ W (smallPods_filter HOK.out.small _) (smallPods_filter HOK.out.small _) h1 h2
              rw [decide_eq_true rfl] at h
              exact h
            unfold RetPods at HON
            have hz7 : Below w7.heap.size w7 w7.drew := (Below.refl _ _).drew
            have HKN : Hid (∀ w' : World, Below w7.heap.size w7 w' → w'.cell? ⟨b, off + k * 12 + 10, none⟩ = some (.int .i64 x.node)) := fun w' h => keepl h r10
            have HKN0 := Lib.hid (HKN.out _ hz7)
            go_wp2_with fail
            first
              | (go_region_held3 (fun w' => w'.cell? ⟨b, off + k * 12 + 10, none⟩ = some (.int .i64 x.node))
                  (first
                    | (with_reducible exact HKN0.out)
                    | (with_reducible exact HKN1.out)
                    | (with_reducible exact HKN2.out)
                    | (with_reducible exact HKN3.out)
                    | go_keep)
                  (first
                    | (go_at_call 68; ((with_reducible refine (HON.out _ hz7).mono ?_)); rintro e w8 ⟨v8, rfl, o8, b8⟩; have hb8 : Below w7.heap.size w7 w8 := hz7.trans b8; have HKN1 := Lib.hid (HKN.out _ hb8))
                    | (go_at_call 69; ((with_reducible refine (HRN.out _ hb8).mono ?_)); rintro e w9 ⟨v9, rfl, o9, b9⟩; have hb9 : Below w7.heap.size w7 w9 := hb8.trans (b9.mono hb8.size); have HKN2 := Lib.hid (HKN.out _ hb9))
                    | (go_at_call 63; ((with_reducible refine (HSQ.out _ _ _ (o8.pods.below b9) o9.pods).mono ?_)); rintro e w10 ⟨rfl, b10⟩; have hb10 : Below w7.heap.size w7 w10 := hb9.trans (b10.mono hb9.size); have HKN3 := Lib.hid (HKN.out _ hb10))))
              | skip
            have HA8 := Lib.hid (HA7.out.keep hb10)
            clear hb10 b10 hb9 b9 hb8 b8 o8 o9 HKN HKN0 HKN1 HKN2 HKN3 HSQ HRN HON HA7 r10 hz7
            go_wp2
            go_roundw
            case rel => exact ⟨k + 1, qs, g2, _, lp2, c2, by omega, by go_num, rfl, rfl, HLP2.out, HA8.out⟩
            case measure => simp [intOf]; omega
      · have HB := Lib.hid HA.out.below
        clear HA
        go_wp2
        go_ret
        exact ⟨rfl, HB.out⟩
end Go.Proofs.YtcegipkhmibdeaaDoor
/- PodMatchesReference: for every input the law returns true and its arguments read behind the call as before: the row over whatever heap in which the listed variables hold their data, and the tied card. -/
namespace Go.Proofs.YtcegipkhmibdeaaDoor.podMatchesReference
set_option linter.all false
open Go.ChangeShapes Go.WideShapes Go.ChangeAt Go.WideMaps Go.WideElems Go.RowKit
open Go.ChangeMaps (open_string shut_string)
open Go.ChangeAt
set_option linter.unusedVariables false
theorem door_met (os : Os) (args : Array Value) : laidMetH Tryd.prog Rows.podMatchesReferenceRow.laid ((World.doorLaid Tryd.prog 46 os).forCall (fun _ _ => 0) ⟨#[], args, []⟩).memory :=
  laidMetH_of_parts3 (fuel := 8) (laidMet_of_run' 8 (by kernel_rfl) (by kernel_rfl)) (by kernel_rfl) (by kernel_rfl)
set_option maxRecDepth 100000 in
theorem lifted (os : Os) (started : os.Started) (H : Type) (enc : TypeId × Value → H) :
    ReturnsInHanded {} Tryd.checked os 14 .any (fun w args => (Rows.podMatchesReferenceSpec.pre enc Tryd.prog Tryd.f14 Rows.podMatchesReferenceRow.domain false w args ∧ laidMetH Tryd.prog Rows.podMatchesReferenceRow.laid w) ∧ sizedMet enc Tryd.prog Tryd.f14 (OpenSpec.ofChange Rows.podMatchesReferenceSpec) false w args)
      (Rows.podMatchesReferenceSpec.post enc Tryd.prog Tryd.f14 false true false false) := by
  refine returnsInHanded_of_change_and (C := Tryd.checked) (X := fun w _ => laidMetH Tryd.prog Rows.podMatchesReferenceRow.laid w) (fun _ _ _ hh h => h.of_heap hh) own started (by kernel_rfl) Tryd.func14
    (ChangeSpec.witness_shaped (enc := enc) (C := Tryd.checked) (os := os) (X := fun w _ => laidMetH Tryd.prog Rows.podMatchesReferenceRow.laid w) false (World.doorLaid Tryd.prog 46 os) #[.int .i64 0, .slice none 0 0] 8 rfl (World.shaped_of_RefB (by kernel_rfl) (by kernel_rfl)) (by kernel_rfl) (by kernel_rfl) (by kernel_rfl) (door_met os _)) ?_
  intro W base args ds gs before hval0 hW hcnd hsz0 hL _
  have hsz : (DataW.weightsEach Tryd.prog (Tryd.f14.params.toList ++ Rows.podMatchesReferenceSpec.plain.varTypes Tryd.prog) (ds ++ gs)).all (· ≤ reachBytes) = true := hsz0
  have hval : ∀ (j : Nat) t v, Tryd.f14.params[j]? = some t → args[j]? = some v → Value.okWide Tryd.prog W .any base t v := hval0
  have hW' := hW
  obtain ⟨p, q, hA0, hV, rfl, hfz, hnd⟩ := hW
  have hA : DataW.TrodAll enc Tryd.prog W 0 (fun _ => true) true Tryd.f14.params.toList args.toList ds p := hA0
  rw [Tryd.params14] at hA hval hsz
  obtain ⟨v0, vs0, d0, ds0, p0, q0, hargs, rfl, rfl, h0, r0⟩ := trodAll_cons hA
  obtain ⟨v1, vs1, d1, ds1, p1, q1, rfl, rfl, rfl, h1, r1⟩ := trodAll_cons r0
  obtain ⟨rfl, rfl, rfl⟩ := trodAll_nil r1
  obtain rfl : args = #[v0, v1] := by cases args; simp_all
  obtain ⟨rfl, rfl⟩ := trodVars_none hV
  obtain ⟨a0, rfl, rfl, rfl, w0⟩ := open_int Tryd.underlying3 (hval 0 3 v0 rfl rfl) h0
  obtain ⟨a1, len1, cap1, rfl⟩ := okWide_slice Tryd.underlying59 (hval 1 59 v1 rfl rfl)
  have k1 := h1
  have lt1 : ∀ x ∈ p1, x.block < W.heap.size := by obtain ⟨m, hm⟩ := k1; exact DataW.trod_lt m _ _ _ hm
  have y1 := sized_any hsz (j := 1) (t := 59) rfl rfl Tryd.underlying59 bytesOp13 h1
  obtain ⟨z1, l1, h1⟩ : ∃ xs, xs.length = len1 ∧ OpsAt W (.slice a1 len1 cap1) xs := by obtain ⟨m, hm⟩ := h1; exact ops13_of hm
  have hE : ErrType W := by
    have h0 : laidMet Tryd.prog [] W ∧ handlesMet Tryd.prog Rows.opPlainRow.laid W := hL
    exact errType_of_handles h0.2 (List.mem_singleton.2 rfl)
  clear hA0 hval0 hsz0 hsz
  refine (podMatches_walk a0 _ z1 W hE (by have := bounds_i64 w0; omega) (by have := bounds_i64 w0; omega) (by rw [l1]; omega) h1).mono fun e W' ⟨he, bel⟩ => ?_
  subst he
  exact ⟨_, rfl, _, _, _, [], _, [], hW', trodAll_mk1 (shut_bool Tryd.underlying4 _), (trodAll_cons_mk (shut_int Tryd.underlying3 w0) (trodAll_cons_mk (Below.trod laidOut (by kernel_rfl) (of_decide_eq_true (by kernel_rfl)) k1 bel lt1) trodAll_mk0)), rfl, bel.frame _, fun h => by cases h⟩
theorem named : Tryd.prog.funcNamed "hammock/hammocklaw13.PodMatchesReference" = some 14 := by kernel_rfl
set_option maxRecDepth 100000 in
set_option maxHeartbeats 40000000 in
theorem facts : joinedFacts Tryd.prog 14 Tryd.f14 Rows.podMatchesReferenceSpec Rows.podMatchesReferenceRow = true := by
  unfold joinedFacts
  rw [fLaidOut, fMapsRowed, fStops, fStopKnobs, fPlainKeys, fStopsHeard, fMay, fLifts, fMake]
  repeat' (with_reducible refine band ?_ ?_)
  all_goals (as_aux_lemma => kernel_rfl)
theorem instance_ : Tryd.f14.isInstance Tryd.prog Rows.podMatchesReferenceRow.origin Rows.podMatchesReferenceRow.targs := of_decide_eq_true (by kernel_rfl)
theorem wrapper_ : Tryd.f14.isWrapper Tryd.prog Rows.podMatchesReferenceRow.wrapper Rows.podMatchesReferenceRow.mainSum := by
  unfold Func.isWrapper; first | (rw [if_pos (by decide +kernel)]; kernel_rfl) | (rw [if_neg (by decide +kernel)]; exact ⟨rfl, rfl⟩)
theorem over : Rows.PodMatchesReferenceSaid :=
  OpenClaim.holds_of_wide 14 Tryd.f14 rfl rfl rfl rfl rfl rfl rfl ⟨rfl, rfl, rfl, rfl, rfl⟩ rfl rfl rfl rfl rfl named Tryd.func14 facts
    instance_ wrapper_ (fun os started H enc _ => lifted os started H enc)
theorem byText : Rows.podMatchesReferenceRow.wfByText (OpenSpec.ofChange Rows.podMatchesReferenceSpec) = true := by kernel_rfl
theorem looks_ : true = Tryd.prog.looks [] := by kernel_rfl
theorem goes_ : false = Rows.podMatchesReferenceRow.goesBy Tryd.prog := by kernel_rfl
theorem params_ : ([3, 59].all fun u => !Tryd.prog.wantsStandIn u) = true := by kernel_rfl
theorem proved : Rows.PodMatchesReferenceCardSaid :=
  Claim7.holds_tied_plain_at .later [] [.handle] true (true, "25fb52c7a62141da201c992de07690019f706bfb1a8ff032f6eb55d89aef45fd") true
    over (fun _ h => by cases h) byText (fun _ h => by cases h) podMatchesReference_row_tie rfl ⟨rfl, rfl⟩ fMain rfl
    (fun f fn hf hfn => by
      obtain rfl : f = 14 := (Option.some.inj (named.symm.trans hf)).symm
      obtain rfl : fn = Tryd.f14 := (Option.some.inj (Tryd.func14.symm.trans hfn)).symm
      exact ⟨looks_, fun j t ht => by
        rw [Tryd.params14] at ht
        have hm : t ∈ [3, 59] := by simpa using Array.mem_of_getElem? ht
        exact (show Tryd.prog.wantsStandIn t = false by simpa using List.all_eq_true.1 params_ t hm)⟩)
    goes_
#print axioms proved
end Go.Proofs.YtcegipkhmibdeaaDoor.podMatchesReference
namespace Go.Proofs.YtcegipkhmibdeaaDoor
/-- The card, under a short name. -/
theorem podMatchesReference_holds : Rows.PodMatchesReferenceCardSaid := podMatchesReference.proved
end Go.Proofs.YtcegipkhmibdeaaDoor
