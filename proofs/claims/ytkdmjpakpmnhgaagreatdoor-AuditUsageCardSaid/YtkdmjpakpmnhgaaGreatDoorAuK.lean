/- hammockref26.Few. -/
import Derived.Test.YtkdmjpakpmnhgaaGreatDoorAuI
import Derived.Test.YtkdmjpakpmnhgaaGreatDoorAuF
namespace Go.Proofs.YtkdmjpakpmnhgaaGreatDoor
set_option linter.all false
open Go.RowKit

/-- Is a view small, with amounts within their bounds? -/
def few26 (dims : Int) (ns : List NodeS) (ps : List PodS) (la lk : Nat) : Bool :=
  few06 ps && decide (ns.length ≤ 50) && decide (la ≤ 100) && decide (lk ≤ 100) && decide (dims ≤ 20) && (ns.all fun n => amsB n.cap) && ps.all fun p => amsB p.req
theorem few26_bad {dims : Int} {ns : List NodeS} {ps : List PodS} {la lk : Nat} (h : few06 ps = false ∨ 50 < ns.length ∨ 100 < la ∨ 100 < lk ∨ 20 < dims ∨ (∃ j, j < ns.length ∧ amsB (nAt ns j).cap = false) ∨ (∃ j, j < ps.length ∧ amsB (pAt ps j).req = false)) : few26 dims ns ps la lk = false := by
  cases hf : few26 dims ns ps la lk with
  | false => rfl
  | true =>
    exfalso
    unfold few26 at hf
    simp only [Bool.and_eq_true, decide_eq_true_eq, List.all_eq_true] at hf
    obtain ⟨⟨⟨⟨⟨⟨h1, h2⟩, h3⟩, h4⟩, h5⟩, h6⟩, h7⟩ := hf
    rcases h with h | h | h | h | h | ⟨j, hj, h⟩ | ⟨j, hj, h⟩
    · rw [h1] at h; cases h
    · omega
    · omega
    · omega
    · omega
    · rw [h6 _ (List.mem_of_getElem? (nAt_get hj))] at h; cases h
    · rw [h7 _ (List.mem_of_getElem? (pAt_get hj))] at h; cases h
theorem few26_ok {dims : Int} {ns : List NodeS} {ps : List PodS} {la lk : Nat} (h1 : few06 ps = true) (h2 : ns.length ≤ 50) (h3 : la ≤ 100) (h4 : lk ≤ 100) (h5 : dims ≤ 20) (h6 : ∀ j, j < ns.length → amsB (nAt ns j).cap = true) (h7 : ∀ j, j < ps.length → amsB (pAt ps j).req = true) : few26 dims ns ps la lk = true := by
  unfold few26
  simp only [Bool.and_eq_true, decide_eq_true_eq, List.all_eq_true]
  refine ⟨⟨⟨⟨⟨⟨h1, h2⟩, h3⟩, h4⟩, h5⟩, fun n hn => ?_⟩, fun p hp => ?_⟩
  · obtain ⟨j, hj, e⟩ := List.getElem_of_mem hn
    have : nAt ns j = n := by unfold nAt; rw [List.getD_eq_getElem?_getD, List.getElem?_eq_getElem hj]; exact e
    rw [← this]; exact h6 j hj
  · obtain ⟨j, hj, e⟩ := List.getElem_of_mem hp
    have : pAt ps j = p := by unfold pAt; rw [List.getD_eq_getElem?_getD, List.getElem?_eq_getElem hj]; exact e
    rw [← this]; exact h7 j hj
set_option maxHeartbeats 4000000 in
set_option maxRecDepth 100000 in
theorem few26_any (dims : Int) (vn vp : Value) (aa ak : Option Addr) (la lk ca ck : Nat) (ns : List NodeS) (ps : List PodS) (w : World) (hx : ps.length ≤ 9223372036854775807) (hcap : ∀ j, j < ns.length → (nAt ns j).cap.length ≤ 9223372036854775807) (hn : AtNodes w vn ns) (hp : AtPods w vp ps) :
    Calls Tryz.prog 5 #[viewV dims vn vp (.slice aa la ca) (.slice ak lk ck)] w fun e w' => e = .returned (.bool (few26 dims ns ps la lk)) ∧ Below w.heap.size w w' := by
  have HFe : Hid (∀ w', From w w' → Calls Tryz.prog 13 #[vp] w' fun e w'' => e = .returned (.bool (few06 ps)) ∧ w' = w'') := fun w' hf => few06_any vp ps w' hx (hp.below hf.out)
  obtain ⟨an, cn, rfl, hgn⟩ := hn.get
  obtain ⟨ap, cp, rfl, hgp⟩ := hp.get
  have HGN := Lib.hid hgn
  have HGP := Lib.hid hgp
  have HBAD := Lib.hid (few26_bad (dims := dims) (ns := ns) (ps := ps) (la := la) (lk := lk))
  have HOK := Lib.hid (few26_ok (dims := dims) (ns := ns) (ps := ps) (la := la) (lk := lk))
  have HCAP := Lib.hid hcap
  generalize few26 dims ns ps la lk = ans at *
  obtain ⟨nl, hnl⟩ : ∃ n, n = ns.length := ⟨_, rfl⟩
  obtain ⟨pl, hpl⟩ : ∃ n, n = ps.length := ⟨_, rfl⟩
  rw [← hnl] at HBAD HOK HCAP HGN ⊢
  rw [← hpl] at HBAD HOK HFe HGP hx ⊢
  obtain ⟨W0, hW0⟩ : ∃ W0, W0 = w.alloc (.cells #[.int .i64 dims, .slice an nl cn, .slice ap pl cp, .slice aa la ca, .slice ak lk ck] 26) := ⟨_, rfl⟩
  have FW0 : From w W0 := by rw [hW0]; exact (From.refl w).alloc _
  have b0 : W0.cell? ⟨w.heap.size, 0, none⟩ = some (.int .i64 dims) := by rw [hW0]; go_simp
  have b1 : W0.cell? ⟨w.heap.size, 1, none⟩ = some (.slice an nl cn) := by rw [hW0]; go_simp
  have b2 : W0.cell? ⟨w.heap.size, 2, none⟩ = some (.slice ap pl cp) := by rw [hW0]; go_simp
  have b3 : W0.cell? ⟨w.heap.size, 3, none⟩ = some (.slice aa la ca) := by rw [hW0]; go_simp
  have b4 : W0.cell? ⟨w.heap.size, 4, none⟩ = some (.slice ak lk ck) := by rw [hW0]; go_simp
  have HF0 := Lib.hid FW0
  have HPL := Lib.hid hpl
  clear hn hp hgn hgp hcap hnl hpl
  cases hf : few06 ps
  · rw [hf] at HFe
    have HA := Lib.hid (HBAD.out (.inl hf))
    clear hf HBAD HOK
    go_enter Tryz.func5, Tryz.ntmps5
    go_wp2_with fail
    rw [← hW0]
    clear hW0
    refine (HFe.out _ FW0).mono ?_
    rintro e w1 ⟨rfl, rfl⟩
    go_wp2
    go_ret
    exact ⟨by rw [HA.out]; rfl, HF0.out.out⟩
  rw [hf] at HFe

  by_cases hc : 50 < nl
  · have HA := Lib.hid (HBAD.out (.inr (.inl hc)))
    have hci : (50 : Int) < (nl : Int) := by omega
    clear hf HBAD HOK
    go_enter Tryz.func5, Tryz.ntmps5
    go_wp2_with fail
    rw [← hW0]
    clear hW0
    refine (HFe.out _ FW0).mono ?_
    rintro e w1 ⟨rfl, rfl⟩
    go_wp2
    go_ret
    exact ⟨by rw [HA.out]; rfl, HF0.out.out⟩
  have i1 : ¬ ((50 : Int) < (nl : Int)) := by omega
  have j1 : nl ≤ 50 := by omega
  clear hc

  by_cases hc : 100 < la
  · have HA := Lib.hid (HBAD.out (.inr (.inr (.inl hc))))
    have hci : (100 : Int) < (la : Int) := by omega
    clear hf HBAD HOK
    go_enter Tryz.func5, Tryz.ntmps5
    go_wp2_with fail
    rw [← hW0]
    clear hW0
    refine (HFe.out _ FW0).mono ?_
    rintro e w1 ⟨rfl, rfl⟩
    go_wp2
    go_ret
    exact ⟨by rw [HA.out]; rfl, HF0.out.out⟩
  have i2 : ¬ ((100 : Int) < (la : Int)) := by omega
  have j2 : la ≤ 100 := by omega
  clear hc

  by_cases hc : 100 < lk
  · have HA := Lib.hid (HBAD.out (.inr (.inr (.inr (.inl hc)))))
    have hci : (100 : Int) < (lk : Int) := by omega
    clear hf HBAD HOK
    go_enter Tryz.func5, Tryz.ntmps5
    go_wp2_with fail
    rw [← hW0]
    clear hW0
    refine (HFe.out _ FW0).mono ?_
    rintro e w1 ⟨rfl, rfl⟩
    go_wp2
    go_ret
    exact ⟨by rw [HA.out]; rfl, HF0.out.out⟩
  have i3 : ¬ ((100 : Int) < (lk : Int)) := by omega
  have j3 : lk ≤ 100 := by omega
  clear hc

  by_cases hc : 20 < dims
  · have HA := Lib.hid (HBAD.out (.inr (.inr (.inr (.inr (.inl hc))))))
    have hci : (20 : Int) < dims := by omega
    clear hf HBAD HOK
    go_enter Tryz.func5, Tryz.ntmps5
    go_wp2_with fail
    rw [← hW0]
    clear hW0
    refine (HFe.out _ FW0).mono ?_
    rintro e w1 ⟨rfl, rfl⟩
    go_wp2
    go_ret
    exact ⟨by rw [HA.out]; rfl, HF0.out.out⟩
  have i4 : ¬ ((20 : Int) < dims) := by omega
  have j4 : dims ≤ 20 := by omega
  clear hc
  go_enter Tryz.func5, Tryz.ntmps5
  go_wp2_with fail
  rw [← hW0]
  clear hW0
  refine (HFe.out _ FW0).mono ?_
  rintro e w1 ⟨rfl, rfl⟩
  have hfs := From.refl W0
  go_wp2
  go_loopw [3] (fun iv wr => ∃ k : Nat, k ≤ nl ∧ iv = .int .i64 k ∧ Hid (∀ j, j < k → amsB (nAt ns j).cap = true) ∧ From W0 wr) (fun iv _ => nl - (intOf iv).toNat)
  case atStart => exact ⟨0, Nat.zero_le _, rfl, fun j hj => absurd hj (Nat.not_lt_zero _), hfs⟩
  case round =>
    obtain ⟨k, hk, rfl, HA, hfw⟩ := hrel
    have hki : (0 : Int) ≤ (k : Int) := by omega
    have e1 := hfw.cell b1
    have e2 := hfw.cell b2
    by_cases hlt : k < nl
    · obtain ⟨b, off, ra, rc, rfl, hbx, -, hcx, hri⟩ := HGN.out k hlt
      have pc := (HF0.out.trans hfw).cell hcx
      have hkl : (k : Int) < (nl : Int) := by omega
      have HWr : Hid (∀ n, Calls Tryz.prog 14 #[.slice ra (nAt ns k).cap.length rc, .int .i64 (nAt ns k).cap.length] (wr.drewN n) fun e w' => e = .returned (.int .i64 (wrongI (nAt ns k).cap)) ∧ w' = wr.drewN n) := fun n => (wrong01_val _ (nAt ns k).cap _ (HCAP.out k hlt) (hri.from_ ((HF0.out.trans hfw).trans ((From.refl _).drewN n)))).mono fun e w' h => ⟨h.1, h.2.symm⟩
      have HN : Hid (amsB (nAt ns k).cap = true → ∀ j, j < k + 1 → amsB (nAt ns j).cap = true) := fun h j hj => by
        rcases Nat.lt_or_ge j k with h1 | h1
        · exact HA.out j h1
        · rw [show j = k by omega]; exact h
      cases hq : amsB (nAt ns k).cap with
      | true =>
        have HN2 := Lib.hid (HN.out hq)
        rw [wrongI_none hq] at HWr
        clear HN hq hri hcx
        generalize (nAt ns k).cap.length = m at *
        go_wp2
        go_quiet ((go_at_call 14; exact Calls.quiet_of_same (HWr.out _)))
        go_wp2
        go_roundw
        case rel => exact ⟨k + 1, by omega, by go_num, HN2.out, hfw.drewN _⟩
        case measure => first | (simp [intOf]; omega) | omega
      | false =>
        have HA2 := Lib.hid (HBAD.out (.inr (.inr (.inr (.inr (.inr (.inl ⟨k, hlt, hq⟩)))))))
        have hwp := wrongI_pos hq
        clear HN hq hri hcx
        generalize wrongI (nAt ns k).cap = r at *
        generalize (nAt ns k).cap.length = m at *
        go_wp2
        go_quiet ((go_at_call 14; exact Calls.quiet_of_same (HWr.out _)))
        go_wp2
        go_ret
        exact ⟨by rw [HA2.out]; rfl, (HF0.out.trans (hfw.drewN _)).out⟩
    · have hkl : ¬ ((k : Int) < (nl : Int)) := by omega
      have HN1 : Hid (∀ j, j < nl → amsB (nAt ns j).cap = true) := fun j hj => HA.out j (by omega)
      clear hkl
      have hfs := hfw
      go_wp2
      go_loopw [4] (fun iv wr => ∃ k : Nat, k ≤ pl ∧ iv = .int .i64 k ∧ Hid (∀ j, j < k → amsB (pAt ps j).req = true) ∧ From W0 wr) (fun iv _ => pl - (intOf iv).toNat)
      case atStart => exact ⟨0, Nat.zero_le _, rfl, fun j hj => absurd hj (Nat.not_lt_zero _), hfs⟩
      case round =>
        obtain ⟨k, hk, rfl, HA, hfw⟩ := hrel
        have hki : (0 : Int) ≤ (k : Int) := by omega
        have e1 := hfw.cell b1
        have e2 := hfw.cell b2
        by_cases hlt : k < pl
        · obtain ⟨b, off, ra, rc, rfl, hbx, hcs, hri⟩ := HGP.out k hlt
          have hcx := hcs.c4
          clear hcs
          have pc := (HF0.out.trans hfw).cell hcx
          have hkl : (k : Int) < (pl : Int) := by omega
          have HWr : Hid (∀ n, Calls Tryz.prog 14 #[.slice ra (pAt ps k).req.length rc, .int .i64 (pAt ps k).req.length] (wr.drewN n) fun e w' => e = .returned (.int .i64 (wrongI (pAt ps k).req)) ∧ w' = wr.drewN n) := fun n => (wrong01_val _ (pAt ps k).req _ (by have h1 := ((few06_iff.1 hf).1 k (by rw [← HPL.out]; exact hlt)).2.2; omega) (hri.from_ ((HF0.out.trans hfw).trans ((From.refl _).drewN n)))).mono fun e w' h => ⟨h.1, h.2.symm⟩
          have HN : Hid (amsB (pAt ps k).req = true → ∀ j, j < k + 1 → amsB (pAt ps j).req = true) := fun h j hj => by
            rcases Nat.lt_or_ge j k with h1 | h1
            · exact HA.out j h1
            · rw [show j = k by omega]; exact h
          cases hq : amsB (pAt ps k).req with
          | true =>
            have HN2 := Lib.hid (HN.out hq)
            rw [wrongI_none hq] at HWr
            clear HN hq hri hcx
            generalize (pAt ps k).req.length = m at *
            go_wp2
            go_quiet ((go_at_call 14; exact Calls.quiet_of_same (HWr.out _)))
            go_wp2
            go_roundw
            case rel => exact ⟨k + 1, by omega, by go_num, HN2.out, hfw.drewN _⟩
            case measure => first | (simp [intOf]; omega) | omega
          | false =>
            have HA2 := Lib.hid (HBAD.out (.inr (.inr (.inr (.inr (.inr (.inr ⟨k, hlt, hq⟩)))))))
            have hwp := wrongI_pos hq
            clear HN hq hri hcx
            generalize wrongI (pAt ps k).req = r at *
            generalize (pAt ps k).req.length = m at *
            go_wp2
            go_quiet ((go_at_call 14; exact Calls.quiet_of_same (HWr.out _)))
            go_wp2
            go_ret
            exact ⟨by rw [HA2.out]; rfl, (HF0.out.trans (hfw.drewN _)).out⟩
        · have hkl : ¬ ((k : Int) < (pl : Int)) := by omega
          have HP1 : Hid (∀ j, j < pl → amsB (pAt ps j).req = true) := fun j hj => HA.out j (by omega)
          have HA3 := Lib.hid (HOK.out hf j1 j2 j3 j4 HN1.out HP1.out)
          go_wp2
          go_ret
          exact ⟨by rw [HA3.out]; rfl, (HF0.out.trans hfw).out⟩
end Go.Proofs.YtkdmjpakpmnhgaaGreatDoor
