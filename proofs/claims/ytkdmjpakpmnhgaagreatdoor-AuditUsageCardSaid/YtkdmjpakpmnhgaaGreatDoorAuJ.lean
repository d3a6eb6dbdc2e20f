/- hammockref01.Add of vectors whose elements are neither negative nor great. -/
import Derived.Test.YtkdmjpakpmnhgaaGreatDoorAuD
import Derived.Test.YtkdmjpakpmnhgaaGreatDoorAuG
import Derived.Deep.RegionWith
import Derived.Deep.QuietTactic
namespace Go.Proofs.YtkdmjpakpmnhgaaGreatDoor
set_option linter.all false
open Go.RowKit

def kI64 : Kin Int where
  t := 29
  e := 2
  size := 1
  bytes := 8
  zero := .int .i64 0
  enc := fun x => [.int .i64 x]
  ht := Tryz.underlying29
  hi := by kernel_rfl
  hz := rfl
  pos := by decide
  len := fun _ => rfl
  one := fun _ u h => by rw [List.mem_singleton.1 h]; rfl
theorem kI64_row (zs : List Int) : kI64.row zs = zs.map (Value.int .i64) := by
  induction zs with
  | nil => rfl
  | cons x r ih => simp only [Kin.row, ih, List.map_cons]; rfl
theorem IntsNew.own {base : Nat} {w : World} {v : Value} {zs : List Int} (h : kI64.Own base w v zs) : IntsNew base w v zs := by
  refine new_of_row (E := 2) ?_
  rw [← kI64_row]; exact h
theorem cellsI64_of {w : World} {g : Nat} {x : Int} (h0 : w.cell? ⟨g, 0, none⟩ = some (.int .i64 x)) : ∀ j u, (kI64.enc x)[j]? = some u → w.cell? ⟨g, j, none⟩ = some u
  | 0, _, h => by cases h; exact h0
  | _ + 1, _, h => by cases h
/-- The sums so far. -/
def vsumTo (k : Nat) (vs : List (List Int)) : List Int := (List.range k).map (colsum vs)
theorem vsumTo_step (k : Nat) (vs : List (List Int)) : vsumTo (k + 1) vs = vsumTo k vs ++ [colsum vs k] := by unfold vsumTo; rw [List.range_succ, List.map_append]; rfl
theorem vsumTo_len (k : Nat) (vs : List (List Int)) : (vsumTo k vs).length = k := by unfold vsumTo; simp
set_option maxHeartbeats 8000000 in
set_option maxRecDepth 100000 in
theorem radd_any (v : Value) (vs : List (List Int)) (d : Nat) (w : World) (h : AtVecs w v vs) (h0 : 0 < vs.length) (hn : vs.length ≤ 500) (hd : d ≤ 1000) (hl : ∀ j, j < vs.length → (vAt vs j).length = d) (hm : Mild vs) :
    Calls Tryz.prog 8 #[v] w fun e w' => ∃ a cp, e = .returned (.tuple #[.slice a d cp, .bool true]) ∧ IntsNew w.heap.size w' (.slice a d cp) (vsum d vs) ∧ Below w.heap.size w w' := by
  obtain ⟨a, cap, rfl, hget⟩ := h.get
  obtain ⟨b, off, aa0, cc0, rfl, hb, hc0, -⟩ := hget 0 h0
  have HC : Hid (∀ j, j < vs.length → ∃ aa cc, w.cell? ⟨b, off + j, none⟩ = some (.slice aa d cc) ∧ IntsAt w (.slice aa d cc) (vAt vs j)) := fun j hj => by
    obtain ⟨b', off', aa, cc, e, _, hc, hi⟩ := hget j hj
    cases e
    rw [hl j hj] at hc hi
    exact ⟨aa, cc, hc, hi⟩
  have HLEN := Lib.hid hl
  have HM := Lib.hid hm
  have HCL := Lib.hid fun i => colsum_le hm i
  rw [hl 0 h0, Nat.add_zero] at hc0
  obtain ⟨q, hq⟩ : ∃ q, q = vs.length := ⟨_, rfl⟩
  rw [← hq] at h0 hn HC ⊢
  have HQ := Lib.hid hq
  have hq2 : ((q : Int) == 0) = false := by rw [beq_eq_false_iff_ne]; omega
  clear h hget hl hm hq
  go_enter Tryz.func8, Tryz.ntmps8
  go_wp2
  go_loopw [4] (fun iv wr => ∃ k : Nat, k ≤ q ∧ iv = .int .i64 k ∧ From w wr) (fun iv _ => q - (intOf iv).toNat)
  case atStart => exact ⟨0, Nat.zero_le _, rfl, From.refl _⟩
  case round =>
    obtain ⟨k, hk, rfl, hfw⟩ := hrel
    have hki : (0 : Int) ≤ (k : Int) := by omega
    have g0 := hfw.cell hc0
    by_cases hlt : k < q
    · obtain ⟨aa, cc, pc, -⟩ := HC.out k hlt
      have pk := hfw.cell pc
      have hkl : (k : Int) < (q : Int) := by omega
      clear pc
      go_wp2
      go_quiet (fail)
      go_wp2
      go_roundw
      case rel => exact ⟨k + 1, by omega, by go_num, hfw.drewN _⟩
      case measure => first | (simp [intOf]; omega) | omega
    · have hkl : ¬ ((k : Int) < (q : Int)) := by omega
      obtain ⟨W1, hW1⟩ : ∃ W1 : World, W1 = wr := ⟨_, rfl⟩
      subst hW1
      have F1 := Lib.hid hfw
      clear hk hlt
      have hw1 := F1.out.out.size
      have HOf := Lib.hid (of_any 0 · (by omega) (by omega))
      go_wp2
      go_loopw [5, 6] (fun ov kv wr => ∃ k : Nat, k ≤ d ∧ kv = .int .i64 k ∧ kI64.Own W1.heap.size wr ov (vsumTo k vs) ∧ From W1 wr) (fun _ kv _ => d - (intOf kv).toNat)
      case atStart => exact ⟨0, Nat.zero_le _, rfl, Kin.Own.nil _ _ _, From.refl _⟩
      case round =>
        obtain ⟨k, hk, rfl, hown, hfr⟩ := hrel
        obtain ⟨ao, co, rfl⟩ := hown.shape
        have HOWN := Lib.hid hown
        have hki : (0 : Int) ≤ (k : Int) := by omega
        have hvl := vsumTo_len k vs
        have hst := vsumTo_step k vs
        have HST := Lib.hid hst
        have hsz := hfr.out.size
        have g1 := hfr.cell g0
        have HFr := Lib.hid (F1.out.trans hfr)
        clear hown hst
        by_cases hlt : k < d
        · have hkl : (k : Int) < (d : Int) := by omega
          generalize vsumTo k vs = ys at *
          go_wp2_with fail
          refine (HOf.out _).mono ?_
          rintro e V ⟨rfl, hb0⟩
          have FV : From wr V := ⟨hb0⟩
          have HFV := Lib.hid (HFr.out.trans FV)
          have HOV := Lib.hid (HOWN.out.below hb0)
          have hsv := hb0.size
          clear hb0
          rw [show numOf 0 = numV 0 0 from rfl]
          go_wp2
          refine wp_named fun X hX => ?_
          have n0 : X.cell? ⟨V.heap.size, 0, none⟩ = some (.int .i64 0) := by rw [hX]; go_simp
          have n1 : X.cell? ⟨V.heap.size, 1, none⟩ = some (.int .i64 0) := by rw [hX]; go_simp
          have nf0 : X.frozen? ⟨V.heap.size, 0, none⟩ = false := by rw [hX]; go_simp
          have nf1 : X.frozen? ⟨V.heap.size, 1, none⟩ = false := by rw [hX]; go_simp
          have FX : From V X := by rw [hX]; exact (From.refl V).alloc _
          have hXs : V.heap.size < X.heap.size := by rw [hX]; simp
          have HFX : Hid (From w X) := HFV.out.trans FX
          clear hX
          go_loopw [8] (fun iv wr => ∃ i : Nat, i ≤ q ∧ iv = .int .i64 i ∧ Hid (wr.cell? ⟨V.heap.size, 0, none⟩ = some (.int .i64 (colsum (vs.take i) k / 4294967296)) ∧ wr.cell? ⟨V.heap.size, 1, none⟩ = some (.int .i64 (colsum (vs.take i) k % 4294967296)) ∧ wr.frozen? ⟨V.heap.size, 0, none⟩ = false ∧ wr.frozen? ⟨V.heap.size, 1, none⟩ = false) ∧ V.heap.size < wr.heap.size ∧ From V wr) (fun iv _ => q - (intOf iv).toNat)
          case atStart => exact ⟨0, Nat.zero_le _, rfl, ⟨n0, n1, nf0, nf1⟩, hXs, FX⟩
          case round =>
            obtain ⟨i, hi, rfl, HNum, hVs, hfv⟩ := hrel
            clear n0 n1 nf0 nf1
            obtain ⟨n0, n1, nf0, nf1⟩ := HNum.out
            have hii : (0 : Int) ≤ (i : Int) := by omega
            have hcl := HCL.out k i (by rw [← HQ.out]; exact hi)
            have hS0 : 0 ≤ colsum (vs.take i) k := hcl.1
            have hS1 : colsum (vs.take i) k ≤ 140737488355328000 := by omega
            clear hcl
            have HFv := Lib.hid (HFV.out.trans hfv)
            by_cases hlti : i < q
            · obtain ⟨aa, cc, pc, hri⟩ := HC.out i hlti
              have hil : (i : Int) < (q : Int) := by omega
              obtain ⟨a', cp', e, h0 | ⟨b2, off2, h1, hb2, hcs⟩⟩ := hri
              · have := HLEN.out i (by rw [← HQ.out]; exact hlti)
                rw [h0] at this; simp at this; omega
              rw [Value.slice.injEq] at e
              obtain ⟨rfl, -, rfl⟩ := e
              subst h1
              have px := hcs k (by rw [HLEN.out i (by rw [← HQ.out]; exact hlti)]; exact hlt)
              have hx := HM.out i k
              have hcst := colsum_step (vs := vs) (k := i) (by rw [← HQ.out]; exact hlti) k
              have HCST := Lib.hid hcst
              clear hcs hcst
              generalize (vAt vs i).getD k 0 = x at *
              generalize colsum (vs.take i) k = S at *
              have HK : Hid (∀ w', From wr w' → (w'.cell? ⟨V.heap.size, 0, none⟩ = some (.int .i64 (S / 4294967296)) ∧ w'.cell? ⟨V.heap.size, 1, none⟩ = some (.int .i64 (S % 4294967296)) ∧ w'.frozen? ⟨V.heap.size, 0, none⟩ = false ∧ w'.frozen? ⟨V.heap.size, 1, none⟩ = false ∧ w'.cell? ⟨b, off + i, none⟩ = some (.slice (some ⟨b2, off2, none⟩) d cc) ∧ w'.cell? ⟨b2, off2 + k, none⟩ = some (.int .i64 x))) := fun w' hf =>
                ⟨hf.cell n0, hf.cell n1, (hf.out.frozen (p := ⟨V.heap.size, 0, none⟩) hVs).trans nf0, (hf.out.frozen (p := ⟨V.heap.size, 1, none⟩) hVs).trans nf1, (HFv.out.trans hf).cell pc, (HFv.out.trans hf).cell px⟩
              have HOx := Lib.hid fun w' => of_any x w' hx.1 (by omega)
              have HPl := Lib.hid fun w' => plus_any S x w' hx.1 (by omega) hS0 (by omega)
              have hv0 : From wr wr := From.refl wr
              have hv1 : From wr wr.drew := hv0.drew
              obtain ⟨m0, m1, m2, m3, m4, m5⟩ := HK.out _ hv1
              clear pc px n0 n1 nf0 nf1
              go_wp2
              go_region_with (first
                | (go_at_call 19; refine (HOx.out _).mono ?_; rintro e v1 ⟨rfl, hb1⟩; have hv2 : From wr v1 := hv1.step hb1; obtain ⟨k0, k1, k2, k3, k4, k5⟩ := HK.out _ hv2; clear hb1)
                | (go_at_call 20; refine (HPl.out _).mono ?_; rintro e v2 ⟨rfl, hb2⟩; have hv3 : From wr v2 := hv2.step hb2; obtain ⟨j0, j1, j2, j3, j4, j5⟩ := HK.out _ hv3; clear hb2))
              all_goals
                have HV3 := Lib.hid (hfv.trans hv3)
                have hs3 := hv3.out.size
                go_wp2
                go_roundw
                case rel => exact ⟨i + 1, by omega, by go_num, by rw [HCST.out]; exact ⟨by go_simp, by go_simp, by rw [World.frozen?_setCell, World.frozen?_setCell]; exact j2, by rw [World.frozen?_setCell, World.frozen?_setCell]; exact j3⟩, by simp; omega, ⟨below_set (below_set HV3.out.out (Nat.le_refl _) _) (Nat.le_refl _) _⟩⟩
                case measure => first | (simp [intOf]; omega) | omega
            · have hil : ¬ ((i : Int) < (q : Int)) := by omega
              have hT : vs.take i = vs := List.take_of_length_le (by rw [← HQ.out]; omega)
              rw [hT] at n0 n1 hS0 hS1
              have HNv := Lib.hid fun w' => nvalue_any (colsum vs k) w' hS0 (by omega)
              have hyl : ys.length ≤ d := by rw [hvl]; omega
              generalize colsum vs k = S at *
              clear hT
              go_wp2_with fail
              refine (HNv.out _).mono ?_
              rintro e V2 ⟨rfl, hbv⟩
              have FV2 : From V V2 := hfv.step hbv
              have hsv2 := FV2.out.size
              have hOW : kI64.Own W1.heap.size (V2.alloc (.cells #[.int .i64 S] 2)) (.slice ao ys.length co) ys := (HOV.out.below FV2.out).alloc _
              rw [hvl] at hOW
              have HOW := Lib.hid hOW
              have hfk : From W1 V2 := (hfr.trans FV).trans FV2
              clear hOW hbv
              rw [hvl] at hyl
              go_wp2_with (at_builtin; go_must (refine Kin.append1 kI64 rfl _ _ rfl W1.heap.size _ ys rfl HOW.out V2.heap.size S rfl (cellsI64_of (by go_simp)) (by rw [hvl]; unfold maxLen; omega) (by rw [hvl]; show _ * 8 ≤ _; omega) (by first | (simp; done) | (simp; omega)) ?_; intro v' w3 hown' hbel hgrow; obtain ⟨a2, c2, rfl⟩ := hown'.shape; have HO2 := Lib.hid hown'; have F3 : From W1 w3 := ⟨(hfk.alloc _).out.trans hbel⟩; clear hown' hbel hgrow))
              go_roundw
              case rel => exact ⟨k + 1, by omega, by go_num, by rw [HST.out]; have h := HO2.out; rw [List.length_append, hvl] at h; exact h, F3⟩
              case measure => first | (simp [intOf]; omega) | omega
        · have hkl : ¬ ((k : Int) < (d : Int)) := by omega
          obtain rfl : k = d := by omega
          have HI := Lib.hid (IntsNew.own HOWN.out)
          rw [hvl] at HI ⊢
          clear HOWN HST hvl
          go_wp2
          go_ret2
          exact ⟨ao, co, rfl, HI.out.low hw1, HFr.out.out⟩
end Go.Proofs.YtkdmjpakpmnhgaaGreatDoor
