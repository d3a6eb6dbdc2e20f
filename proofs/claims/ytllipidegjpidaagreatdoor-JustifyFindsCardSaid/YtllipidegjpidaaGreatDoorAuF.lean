/- audit.Usage. -/
import Derived.Test.YtllipidegjpidaaGreatDoorAuE
namespace Go.Proofs.YtllipidegjpidaaGreatDoor
set_option linter.all false
open Go.RowKit

/-- Does a pod count for a node's usage? -/
def countsB (node dims : Int) (p : PodS) : Bool := p.node == node && holdsB p.phase && (p.req.length : Int) == dims
/-- The vectors that a usage adds. -/
def uvecs (node dims : Int) (ps : List PodS) : List (List Int) := zeros dims.toNat :: (ps.filter (countsB node dims)).map (·.req)
/-- The usage of a node. -/
def usage (node dims : Int) (ps : List PodS) : List Int := vsum dims.toNat (uvecs node dims ps)
/-- Requests that are neither negative nor great. -/
def MildPods (ps : List PodS) : Prop := ∀ p ∈ ps, ∀ i, 0 ≤ p.req.getD i 0 ∧ p.req.getD i 0 ≤ 281474976710656
theorem uvecs_len (node dims : Int) (ps : List PodS) : (uvecs node dims ps).length ≤ ps.length + 1 := by
  unfold uvecs
  simp only [List.length_cons, List.length_map]
  have := List.length_filter_le (countsB node dims) ps
  omega
theorem uvecs_step {ps : List PodS} {k : Nat} (h : k < ps.length) (node dims : Int) : uvecs node dims (ps.take (k + 1)) = uvecs node dims (ps.take k) ++ (if countsB node dims (pAt ps k) then [(pAt ps k).req] else []) := by
  unfold uvecs
  rw [List.take_succ, pAt_get h]
  simp only [Option.toList_some, List.filter_append, List.map_append, List.cons_append]
  congr 2
  by_cases hc : countsB node dims (pAt ps k) = true
  · rw [if_pos hc]; simp [hc]
  · rw [if_neg hc]; simp [hc]
theorem vAt_mem {vs : List (List Int)} {P : List Int → Prop} (h : ∀ v ∈ vs, P v) (h0 : P []) (j : Nat) : P (vAt vs j) := by
  rcases Nat.lt_or_ge j vs.length with hj | hj
  · exact h _ (List.mem_of_getElem? (vAt_get hj))
  · unfold vAt
    rw [List.getD_eq_getElem?_getD, List.getElem?_eq_none hj]
    exact h0
theorem uvecs_mem {node dims : Int} {ps : List PodS} {v : List Int} (h : v ∈ uvecs node dims ps) : v = zeros dims.toNat ∨ ∃ p ∈ ps, countsB node dims p = true ∧ v = p.req := by
  unfold uvecs at h
  rcases List.mem_cons.1 h with h | h
  · exact .inl h
  · obtain ⟨p, hp, rfl⟩ := List.mem_map.1 h
    obtain ⟨h1, h2⟩ := List.mem_filter.1 hp
    exact .inr ⟨p, h1, h2, rfl⟩
theorem uvecs_mild {node dims : Int} {ps : List PodS} (h : MildPods ps) : Mild (uvecs node dims ps) := fun j => by
  refine vAt_mem (P := fun v => ∀ i, 0 ≤ v.getD i 0 ∧ v.getD i 0 ≤ 281474976710656) (fun v hv i => ?_) (fun i => by simp) j
  rcases uvecs_mem hv with rfl | ⟨p, hp, -, rfl⟩
  · rw [zeros_get]; omega
  · exact h p hp i
theorem uvecs_dims {node dims : Int} {ps : List PodS} : ∀ j, j < (uvecs node dims ps).length → (vAt (uvecs node dims ps) j).length = dims.toNat := fun j hj => by
  rcases uvecs_mem (List.mem_of_getElem? (vAt_get hj)) with h | ⟨p, -, hc, h⟩
  · rw [h, zeros_len]
  · rw [h]
    unfold countsB at hc
    simp only [Bool.and_eq_true, beq_iff_eq] at hc
    omega
/-- Own rows of vectors, whose vectors lie in blocks of an earlier world. -/
def VecsIn (W : World) (xs : List VecR) (vs : List (List Int)) : Prop := xs.length = vs.length ∧ ∀ (j : Nat) x z, xs[j]? = some x → vs[j]? = some z → VecIs W x z
theorem VecsIn.at_ {W w : World} {base : Nat} {v : Value} {xs : List VecR} {vs : List (List Int)} (h : VecsIn W xs vs) (ho : kVec.Own base w v xs) (hf : From W w) : AtVecs w v vs :=
  ⟨xs, ho.at_, h.1, fun j x z hx hz => (h.2 j x z hx hz).below hf.out⟩
theorem VecsIn.push {W : World} {xs : List VecR} {vs : List (List Int)} {x : VecR} {z : List Int} (h : VecsIn W xs vs) (hx : VecIs W x z) : VecsIn W (xs ++ [x]) (vs ++ [z]) := by
  refine ⟨by simp [h.1], fun j y u hy hu => ?_⟩
  rcases Nat.lt_or_ge j xs.length with hj | hj
  · rw [List.getElem?_append_left hj] at hy
    rw [List.getElem?_append_left (by have := h.1; omega)] at hu
    exact h.2 j y u hy hu
  · rw [List.getElem?_append_right hj] at hy
    rw [List.getElem?_append_right (by have := h.1; omega), ← h.1] at hu
    match hq : j - xs.length, hy, hu with
    | 0, hy, hu => cases hy; cases hu; exact hx
theorem cellsVec_of {w : World} {g : Nat} {x : VecR} (h0 : w.cell? ⟨g, 0, none⟩ = some (.slice x.a x.l x.cp)) : ∀ j u, (kVec.enc x)[j]? = some u → w.cell? ⟨g, j, none⟩ = some u
  | 0, _, h => by cases h; exact h0
  | _ + 1, _, h => by cases h
theorem own_vec (X : World) (x : VecR) {B : Nat} (h : B ≤ X.heap.size) : kVec.Own B (X.alloc (.cells #[.slice x.a x.l x.cp] 35)) (.slice (some ⟨X.heap.size, 0, none⟩) 1 1) [x] :=
  ⟨rfl, .inr ⟨X.heap.size, 1, #[.slice x.a x.l x.cp], rfl, h, heap_alloc_new X _, Nat.le_refl _, by decide, rfl, rfl⟩⟩
/-- A view's value. -/
abbrev viewV (dims : Int) (vn vp va vk : Value) : Value := .agg #[.int .i64 dims, vn, vp, va, vk]
set_option maxHeartbeats 4000000 in
set_option maxRecDepth 100000 in
theorem usage_any (dims node : Int) (an aa ak : Option Addr) (ln la lk cn ca ck : Nat) (vp : Value) (ps : List PodS) (w : World) (hd : dims ≤ 1000) (hn : ps.length ≤ 500) (hm : MildPods ps) (h : AtPods w vp ps) :
    Calls Tryz.prog 112 #[viewV dims (.slice an ln cn) vp (.slice aa la ca) (.slice ak lk ck), .int .i64 node] w fun e w' => ∃ a cp, e = .returned (.slice a dims.toNat cp) ∧ IntsNew w.heap.size w' (.slice a dims.toNat cp) (usage node dims ps) ∧ Below w.heap.size w w' := by
  obtain ⟨a, cap, rfl, hget⟩ := h.get
  have HG := Lib.hid hget
  have HZ := Lib.hid fun w' => zero_any dims w' hd
  have HA : Hid (∀ v w', AtVecs w' v (uvecs node dims ps) → Calls Tryz.prog 143 #[v] w' fun e w'' => ∃ a cp, e = .returned (.tuple #[.slice a dims.toNat cp, .bool true]) ∧ IntsNew w'.heap.size w'' (.slice a dims.toNat cp) (usage node dims ps) ∧ Below w'.heap.size w' w'') := fun v w' hv => vadd_any v (uvecs node dims ps) dims.toNat w' hv (by unfold uvecs; simp) (by have := uvecs_len node dims ps; omega) (by omega) uvecs_dims (uvecs_mild hm)
  have HH := Lib.hid holds_any
  obtain ⟨q, hq⟩ : ∃ q, q = ps.length := ⟨_, rfl⟩
  rw [← hq] at hn HG ⊢
  have HQ := Lib.hid hq
  have hul := fun k => uvecs_len node dims (ps.take k)
  obtain ⟨W0, hW0⟩ : ∃ W0, W0 = w.alloc (.cells #[.int .i64 dims, .slice an ln cn, .slice a q cap, .slice aa la ca, .slice ak lk ck] 43) := ⟨_, rfl⟩
  have F0 : From w W0 := by rw [hW0]; exact (From.refl w).alloc _
  have b0 : W0.cell? ⟨w.heap.size, 0, none⟩ = some (.int .i64 dims) := by rw [hW0]; go_simp
  have b2 : W0.cell? ⟨w.heap.size, 2, none⟩ = some (.slice a q cap) := by rw [hW0]; go_simp
  have HF0 := Lib.hid F0
  have HUL := Lib.hid hul
  clear h hget hm hq F0 hul
  go_enter Tryz.func112, Tryz.ntmps112
  go_wp2_with fail
  rw [← hW0]
  clear hW0
  refine (HZ.out _).mono ?_
  rintro e W1 ⟨az, cz, rfl, hzi, hb⟩
  have F1 : From W0 W1 := ⟨hb⟩
  have d0 := F1.cell b0
  have d2 := F1.cell b2
  have HO1 := Lib.hid (own_vec W1 ⟨az, dims.toNat, cz⟩ (Nat.le_refl W1.heap.size))
  have HV1 : Hid (VecsIn W1 [⟨az, dims.toNat, cz⟩] (uvecs node dims (ps.take 0))) := by
    refine ⟨by simp [uvecs], fun j x z hx hz => ?_⟩
    match j, hx, hz with
    | 0, hx, hz =>
      cases hx
      have : z = zeros dims.toNat := by rw [List.take_zero] at hz; exact (Option.some.inj hz).symm
      subst this
      refine ⟨(zeros_len _).symm, ?_⟩
      have h := hzi.at_
      rw [zeros_len]
      exact h
  have HFW1 := Lib.hid (HF0.out.trans F1)
  have hwl : w.heap.size < W1.heap.size := cell_lt d0
  have hwl2 : ¬ w.heap.size = W1.heap.size := by omega
  have hwl3 : ¬ W1.heap.size = w.heap.size := by omega
  clear hzi hb b0 b2
  go_wp2
  go_loopw [5, 17] (fun lv iv wr => ∃ (k : Nat) (xs : List VecR), k ≤ q ∧ iv = .int .i64 k ∧ kVec.Own W1.heap.size wr lv xs ∧ Hid (VecsIn W1 xs (uvecs node dims (ps.take k))) ∧ From W1 wr) (fun _ iv _ => q - (intOf iv).toNat)
  case atStart => exact ⟨0, [⟨az, dims.toNat, cz⟩], Nat.zero_le _, rfl, HO1.out, HV1.out, (From.refl _).alloc _⟩
  case round =>
    obtain ⟨k, xs, hk, rfl, hown, HV, hfw⟩ := hrel
    obtain ⟨ao, co, rfl⟩ := hown.shape
    have HOWN := Lib.hid hown
    clear hown
    have hki : (0 : Int) ≤ (k : Int) := by omega
    have hsz := hfw.out.size
    have hxl : xs.length ≤ 501 := by
      have h1 := HV.out.1
      have h2 := HUL.out k
      have h3 : (ps.take k).length ≤ ps.length := by simp; omega
      rw [← HQ.out] at h3
      omega
    by_cases hlt : k < q
    · obtain ⟨b, off, ra, rc, rfl, hbw, hcs, hri⟩ := HG.out k hlt
      have hkl : (k : Int) < (q : Int) := by omega
      have hst := uvecs_step (ps := ps) (k := k) (by rw [← HQ.out]; exact hlt) node dims
      obtain ⟨p, hp⟩ : ∃ p, p = pAt ps k := ⟨_, rfl⟩
      rw [← hp] at hcs hri hst
      clear hp
      obtain ⟨p0, p1, p2, p3, p4, p5, p6, p7, p8⟩ := hcs.from_ (HFW1.out.trans hfw)
      have e0 := hfw.cell d0
      have HVN : Hid (VecIs W1 ⟨ra, p.req.length, rc⟩ p.req) := ⟨rfl, hri.from_ HFW1.out⟩
      have HSK : Hid (countsB node dims p = false → VecsIn W1 xs (uvecs node dims (ps.take (k + 1)))) := fun hc => by rw [hst, if_neg (by rw [hc]; decide), List.append_nil]; exact HV.out
      have HPU : Hid (countsB node dims p = true → VecsIn W1 (xs ++ [⟨ra, p.req.length, rc⟩]) (uvecs node dims (ps.take (k + 1)))) := fun hc => by rw [hst, if_pos hc]; exact HV.out.push HVN.out
      have hcb : countsB node dims p = ((p.node == node && holdsB p.phase) && (p.req.length : Int) == dims) := rfl
      rw [hcb] at HSK HPU
      clear hcs hri hst hcb HVN
      generalize p.req.length = m at *
      generalize p.id = pid at *
      generalize p.prio = ppr at *
      generalize p.pre = ppe at *
      generalize p.grace = pgr at *
      generalize p.arr = par at *
      generalize p.phase = pph at *
      generalize p.node = pno at *
      generalize p.dead = pde at *
      cases hq1 : pno == node
      · rw [hq1] at HSK
        have HN := Lib.hid (HSK.out rfl)
        clear HSK HPU
        go_wp2
        go_roundw
        case rel => exact ⟨k + 1, xs, by omega, by go_num, HOWN.out.alloc _, HN.out, hfw.alloc _⟩
        case measure => first | (simp [intOf]; omega) | omega
      · rw [hq1] at HSK HPU
        have HHp := Lib.hid fun w' => HH.out pph w'
        cases hq2 : holdsB pph
        · rw [hq2] at HSK HHp
          have HN := Lib.hid (HSK.out rfl)
          clear HSK HPU
          go_wp2_with fail
          refine (HHp.out _).mono ?_
          rintro e w2 ⟨rfl, rfl⟩
          go_wp2
          go_roundw
          case rel => exact ⟨k + 1, xs, by omega, by go_num, HOWN.out.alloc _, HN.out, hfw.alloc _⟩
          case measure => first | (simp [intOf]; omega) | omega
        · rw [hq2] at HSK HPU HHp
          cases hq3 : (m : Int) == dims
          · rw [hq3] at HSK
            have HN := Lib.hid (HSK.out rfl)
            clear HSK HPU
            have e1 := ((From.refl wr).alloc (.cells #[.int .i64 pid, .int .i64 ppr, .bool ppe, .int .i64 pgr, .slice ra m rc, .int .i64 par, .int .i64 pph, .int .i64 pno, .int .i64 pde] 40)).cell e0
            go_wp2_with fail
            refine (HHp.out _).mono ?_
            rintro e w2 ⟨rfl, rfl⟩
            go_wp2
            go_roundw
            case rel => exact ⟨k + 1, xs, by omega, by go_num, HOWN.out.alloc _, HN.out, hfw.alloc _⟩
            case measure => first | (simp [intOf]; omega) | omega
          · rw [hq3] at HPU
            have HN := Lib.hid (HPU.out rfl)
            clear HSK HPU
            obtain ⟨w9, hw9⟩ : ∃ w9, w9 = wr.alloc (.cells #[.int .i64 pid, .int .i64 ppr, .bool ppe, .int .i64 pgr, .slice ra m rc, .int .i64 par, .int .i64 pph, .int .i64 pno, .int .i64 pde] 40) := ⟨_, rfl⟩
            have F9 : From wr w9 := by rw [hw9]; exact (From.refl wr).alloc _
            have e1 := F9.cell e0
            have f4 : w9.cell? ⟨wr.heap.size, 4, none⟩ = some (.slice ra m rc) := by rw [hw9]; go_simp
            have hs9 := F9.out.size
            have hOW : kVec.Own W1.heap.size (w9.alloc (.cells #[.slice ra m rc] 35)) (.slice ao xs.length co) xs := (HOWN.out.below F9.out).alloc _
            have HOW := Lib.hid hOW
            clear hOW
            go_wp2_with fail
            rw [← hw9]
            clear hw9
            refine (HHp.out _).mono ?_
            rintro e w2 ⟨rfl, rfl⟩
            go_wp2_with (at_builtin; go_must (refine Kin.append1 kVec rfl _ _ rfl W1.heap.size _ xs rfl HOW.out w9.heap.size ⟨ra, m, rc⟩ rfl (cellsVec_of (by go_simp)) (by unfold maxLen; omega) (by show _ * 24 ≤ _; omega) (by first | (simp; done) | (simp; omega)) ?_; intro v' w3 hown' hbel hgrow; have F3 : From W1 w3 := ⟨((hfw.trans F9).alloc _).out.trans hbel⟩; obtain ⟨a2, c2, rfl⟩ := hown'.shape; have HO2 := Lib.hid hown'; clear hown' hbel hgrow))
            go_roundw
            case rel => exact ⟨k + 1, xs ++ [(⟨ra, m, rc⟩ : VecR)], by omega, by go_num, by have h := HO2.out; rw [List.length_append] at h; exact h, HN.out, F3⟩
            case measure => first | (simp [intOf]; omega) | omega
    · have hkl : ¬ ((k : Int) < (q : Int)) := by omega
      have hT : ps.take k = ps := List.take_of_length_le (by rw [← HQ.out]; omega)
      rw [hT] at HV
      have HAT := Lib.hid (HV.out.at_ HOWN.out hfw)
      clear HV hxl hT
      generalize xs.length = n at *
      go_wp2_with fail
      refine (HA.out _ _ HAT.out).mono ?_
      rintro e w5 ⟨a5, c5, rfl, hi5, hb⟩
      have HI5 := Lib.hid hi5
      have F5 : From w w5 := (HFW1.out.trans hfw).step hb
      have hlow : w.heap.size ≤ wr.heap.size := (HFW1.out.trans hfw).out.size
      clear hb hi5
      go_wp2
      go_ret
      exact ⟨_, _, rfl, HI5.out.low hlow, F5.out⟩
end Go.Proofs.YtllipidegjpidaaGreatDoor
