/- PodArrivals: for every input the law returns true and its arguments read behind the call as before: the walk, the row over whatever heap in which the listed variables hold their data, and the tied card. -/
import Derived.Test.YtcegipkhmibdeaaDoorPods4
import Derived.IntWalk
import Derived.Test.YtcegipkhmibdeaaDoorPods1
import Derived.Test.YtcegipkhmibdeaaDoorFacts
import Derived.Test.YtcegipkhmibdeaaDoorCards
import Derived.Test.YtcegipkhmibdeaaDoorTie
import Derived.WalkKit
import Derived.ProofKit
import Derived.OpenShut
import Derived.ShutString
import Derived.Below
import Derived.SizedLaws
import Derived.SevenTiedAt
import Derived.LaidMore
import Derived.Stop.Joined
/- hammocklaw13.PodArrivals returns true. -/
namespace Go.Proofs.YtcegipkhmibdeaaDoor
set_option linter.all false
open Go.RowKit

theorem arr_pairwise {ps : List Pod} (h : ∀ j, j < ps.length → (podAt ps j).arr = (j : Int)) : ps.Pairwise fun a b => a.arr < b.arr := by
  rw [List.pairwise_iff_getElem]
  intro i j hi hj hij
  have h1 := h i hi
  have h2 := h j hj
  rw [podAt_get hi] at h1
  rw [podAt_get hj] at h2
  omega
theorem arr_next {L : List Pod} (h : L.Pairwise fun a b => a.arr < b.arr) {i : Nat} (hi : i + 1 < L.length) : (podAt L i).arr < (podAt L (i + 1)).arr := by
  rw [List.pairwise_iff_getElem] at h
  rw [podAt_get (by omega), podAt_get hi]
  exact h i (i + 1) (by omega) hi (by omega)
/-- Two lists in order, one behind the other: the order is broken at the seam alone. -/
theorem arr_joined {A B : List Pod} (hA : A.Pairwise fun a b => a.arr < b.arr) (hB : B.Pairwise fun a b => a.arr < b.arr) {i : Nat} (hi : i + 1 < (A ++ B).length) (hle : (podAt (A ++ B) (i + 1)).arr ≤ (podAt (A ++ B) i).arr) : i + 1 = A.length := by
  rcases Nat.lt_trichotomy (i + 1) A.length with h | h | h
  · rw [podAt_append_old h, podAt_append_old (show i < A.length by omega)] at hle
    have := arr_next hA h
    omega
  · exact h
  · exfalso
    have e : ∀ j, A.length ≤ j → podAt (A ++ B) j = podAt B (j - A.length) := fun j hj => by
      unfold podAt; rw [List.getD_eq_getElem?_getD, List.getD_eq_getElem?_getD, List.getElem?_append_right hj]
    rw [e (i + 1) (by omega), e i (by omega), show i + 1 - A.length = (i - A.length) + 1 by omega] at hle
    have := arr_next hB (i := i - A.length) (by simp at hi; omega)
    omega
theorem podRow_append : ∀ (A B : List Pod) (ra rb : List Value), ra.length = A.length → podRow (A ++ B) (ra ++ rb) = podRow A ra ++ podRow B rb
  | [], B, [], rb, _ => by simp [podRow]
  | [], _, _ :: _, _, h => by simp at h
  | _ :: _, _, [], _, h => by simp at h
  | q :: A, B, r :: ra, rb, h => by
    have := podRow_append A B ra rb (by simpa using h)
    simp only [List.cons_append, podRow, this, List.append_assoc]
/-- A row of pods whose arrivals can be read. -/
structure ArrRow (w : World) (a : Option Addr) (L : List Pod) : Prop where
  at_ : ∀ i, i < L.length → ∃ g, a = some ⟨g, 0, none⟩ ∧ g < w.heap.size ∧ w.cell? ⟨g, i * 9 + 5, none⟩ = some (.int .i64 (podAt L i).arr)
theorem arrRow_of {w : World} {base n cap : Nat} {a : Option Addr} {L : List Pod} {rvs : List Value} (h : w.ownsRow base 65 9 (.slice a n cap) n (podRow L rvs)) (hl : rvs.length = L.length) (hn : n = L.length) : ArrRow w a L := by
  refine ⟨fun i hi => ?_⟩
  rcases h.2 with ⟨_, h0⟩ | ⟨g, cap', cur, hv, hb, hg, hn', hc, hs, ht⟩
  · omega
  · injection hv with hv _ _
    subst hv
    refine ⟨g, rfl, (Array.getElem?_eq_some_iff.1 hg).1, ?_⟩
    have h1 := h.cells (g := g) rfl (i * 9 + 5) (.int .i64 (podAt L i).arr) (by rw [podRow_get L rvs i 5 hl hi (by omega)]; rfl)
    rw [add_mk, Nat.zero_add] at h1
    exact h1
theorem ArrRow.below {w w' : World} {a : Option Addr} {L : List Pod} (h : ArrRow w a L) (hb : Below w.heap.size w w') : ArrRow w' a L :=
  ⟨fun i hi => by obtain ⟨g, e, h1, h2⟩ := h.at_ i hi; exact ⟨g, e, Nat.lt_of_lt_of_le h1 hb.size, keepl hb h2⟩⟩
/-- append of a list of pods onto a row of the call's own. -/
theorem wpList_append_pods {w : World} {ops : Array Oper} {rest : List Oper} {o : Oper} {a : Act} {Q : Exit → Act → World → Prop} (hgd : o.guard = none) (s x : Operand)
    (ho : o.op = .call { callee := .builtin .append, args := #[s, x], argTypes := #[72, 72] }) (base b2 : Nat) {X X2 : Nat → Prop} (v v2 : Value) (A B : List Pod) (hs : a.eval s = v) (hx : a.eval x = v2) (hA : OwnPods X base w v A) (hB : OwnPods X2 b2 w v2 B)
    (hb : (A.length + B.length) * 88 ≤ 140737488351232) (hbase : base ≤ w.heap.size)
    (h : ∀ a' c' w', ArrRow w' a' (A ++ B) → Below base w w' → wpList Tryd.prog ops Q rest (a.put o.dst (.slice a' (A.length + B.length) c')) w') : wpList Tryd.prog ops Q (o :: rest) a w := by
  obtain ⟨i0, hi, hz0, hz1, hz2⟩ := info_parts infoPod
  obtain ⟨ra, hla, hra, _⟩ := hA
  obtain ⟨rb, hlb, hrb, hib⟩ := hB
  have hrowge : ∀ k, v.ownBlock = some k → base ≤ k := fun k hk => (World.ownsRow.lt hra k hk).1
  rcases hrb.2 with ⟨rfl, h0⟩ | ⟨g, cap, cur, rfl, _, hg, _⟩
  · have hB0 : B = [] := List.eq_nil_of_length_eq_zero h0
    subst hB0
    obtain ⟨av, cv, rfl⟩ := ownsRow_shape hra
    have hrun := run_append_none (P := Tryd.prog) (w := w) (base := base) (t := 72) (ty := o.type) (c := 0) Tryd.underlying72 hi (.slice av A.length cv) A.length (podRow A ra) hra
    refine wpList_plain hgd fun K hK => ?_
    unfold Oper.wp
    simp [execOp, ho, resolve, invoke, builtin, hs, hx, hrun, Result.andThen]
    refine hK _ _ ?_
    have := h av cv w (by rw [List.append_nil]; exact arrRow_of hra hla rfl) (Below.refl _ _)
    simpa using this
  · refine wpList_append_own_at w hgd s x 72 ho base 65 i0 _ 9 88 Tryd.underlying72 hi hz0 hz1 hz2 rfl (by decide) v A.length (podRow A ra) hs hra ⟨g, 0, none⟩ B.length cap (podRow B rb) hx (podRow_length B rb hlb)
      (fun j u hu => hrb.cells (g := g) rfl j u hu) (podRow_one B rb hlb fun j hj => by obtain ⟨_, _, e, _⟩ := hib j hj; rw [e]; rfl) (by unfold maxLen; omega) (by omega) hbase (fun v' w' h1 h2 _ _ => ?_)
    obtain ⟨a', c', rfl⟩ := ownsRow_shape h1
    refine h a' c' w' (arrRow_of (rvs := ra ++ rb) (by rw [podRow_append A B ra rb hla]; exact h1) (by simp [hla, hlb]) (by simp)) ((Below.refl _ _).grown h2 hbase hrowge)
set_option maxHeartbeats 8000000 in
set_option maxRecDepth 100000 in
theorem podArrivals_walk (v : Value) (ops : List Op13) (node : Int) (w : World) (hE : ErrType w) (hx : ops.length * 96 ≤ 140737488351232) (h : OpsAt w v ops) :
    Calls Tryd.prog 16 #[v, .int .i64 node] w fun e w' => e = .returned (.bool true) ∧ Below w.heap.size w w' := by
  obtain ⟨a, cap, rfl, hcase⟩ := h
  have hE0 := hE
  have hEB : 3 < w.heap.size := hE.lt
  have HOPS : Hid (∀ k, k < ops.length → ∃ b off, a = some ⟨b, off, none⟩ ∧ b < w.heap.size ∧ ∃ rv, OpCells w b (off + k * 12) (opAt ops k) rv ∧ IntsIn (fun b => b < w.heap.size) w rv (opAt ops k).pod.req) := fun k hk => by
    rcases hcase with rfl | ⟨b, off, rfl, hlt, hc⟩
    · simp at hk
    · obtain ⟨rv, h1, h2⟩ := hc k hk
      exact ⟨b, off, rfl, hlt, rv, h1, h2.any.within.imp fun b _ hb => hb.2⟩
  have HFEW : Hid (∀ W, Below w.heap.size w W → Calls Tryd.prog 55 #[.slice a ops.length cap] W fun e w' => e = .returned (.bool (few13P ops)) ∧ Below W.heap.size W w') := fun W hW => few13_any _ ops W hx (OpsAt.below ⟨a, cap, rfl, hcase⟩ hW)
  have HAW : Hid (∀ W, Below w.heap.size w W → Calls Tryd.prog 54 #[] W fun e w' => e = .returned (.bool true) ∧ Below W.heap.size W w') := fun W hW => awake13_any W (hE.below hW)
  have hnw := pnew_any 100 w (by omega) (by omega) w.heap.size (Nat.le_refl _)
  have hbs0 : (freshMem w.heap.size).gi = (freshMem w.heap.size).bs := rfl
  generalize freshMem w.heap.size = m0 at hnw hbs0
  obtain ⟨bs, bt, bm, gi⟩ := m0
  change gi = bs at hbs0
  subst hbs0
  have HNW := Lib.hid hnw; clear hnw
  have HE := Lib.hid hE0; clear hE0 hE
  obtain ⟨l, hl⟩ : ∃ l, l = ops.length := ⟨_, rfl⟩
  rw [← hl] at HFEW hx ⊢
  have HL := Lib.hid hl; clear hl
  clear hcase
  cases hf : few13P ops
  · rw [hf] at HFEW
    go_enter Tryd.func16, Tryd.ntmps16
    go_wp2_with fail
    refine HNW.out.mono ?_
    rintro e V ⟨rfl, hst, hB, hsz⟩
    have HB := Lib.hid hB
    clear hB hst hsz
    go_wp2_with fail
    refine (HAW.out _ HB.out).mono ?_
    rintro e V1 ⟨rfl, hb⟩
    have HB := Lib.hid (HB.out.trans (hb.mono HB.out.size)); clear hb
    go_wp2_with fail
    refine (HFEW.out _ HB.out).mono ?_
    rintro e V2 ⟨rfl, hb⟩
    have HB := Lib.hid (HB.out.trans (hb.mono HB.out.size)); clear hb
    go_wp2_with fail
    refine (HAW.out _ HB.out).mono ?_
    rintro e V3 ⟨rfl, hb⟩
    have HB := Lib.hid (HB.out.trans (hb.mono HB.out.size)); clear hb
    go_wp2
    go_ret
    exact ⟨rfl, HB.out⟩
  · have HREQ : Hid (∀ k, k < ops.length → (opAt ops k).pod.req.length ≤ 20) := fun k hk => few13_req hf hk
    have hl60 : l ≤ 60 := by rw [HL.out]; exact few13_len hf
    rw [hf] at HFEW
    clear hf
    go_enter Tryd.func16, Tryd.ntmps16
    go_wp2_with fail
    refine HNW.out.mono ?_
    rintro e V ⟨rfl, hst, hB, hsz⟩
    have HB := Lib.hid hB
    have HST := Lib.hid hst
    clear hB hst hsz HNW
    go_wp2_with fail
    refine (HAW.out _ HB.out).mono ?_
    rintro e V1 ⟨rfl, hb⟩
    have HST := Lib.hid (HST.out.below hb)
    have HB := Lib.hid (HB.out.trans (hb.mono HB.out.size)); clear hb
    go_wp2_with fail
    refine (HFEW.out _ HB.out).mono ?_
    rintro e V2 ⟨rfl, hb⟩
    have HST := Lib.hid (HST.out.below hb)
    have HB := Lib.hid (HB.out.trans (hb.mono HB.out.size)); clear hb
    have HA0 : Hid (At13 w.heap.size gi bt bm gi (max 100 0) 0 [] (.slice none 0 0) w V2) := ⟨HST.out, Good.nil (by omega), PodsX.nil _ _, cell_lt HST.out.c0, HB.out⟩
    clear HAW HFEW HST HB
    go_wp2
    go_loopw [6, 7] (fun v i wr => ∃ (k : Nat) (ps : List Pod) (g : Nat) (al : Option Addr) (lp cl : Nat), k ≤ l ∧ i = .int .i64 k ∧ v = .slice al lp cl ∧ Hid (lp = ps.length) ∧ Hid (At13 w.heap.size gi bt bm g (max 100 0) k ps (.slice al lp cl) w wr)) (fun _ i _ => l - (intOf i).toNat)
    case atStart => exact ⟨0, [], gi, none, 0, 0, Nat.zero_le _, rfl, rfl, rfl, HA0.out⟩
    case round =>
      obtain ⟨k, ps, g, al, lp, cl, hk, rfl, rfl, HLP, HA⟩ := hrel
      by_cases hlt : k < l
      · obtain ⟨b, off, rfl, hbl, rv, hcc, hri⟩ := HOPS.out k (by rw [← HL.out]; exact hlt)
        have hreq := HREQ.out k (by rw [← HL.out]; exact hlt)
        generalize opAt ops k = x at *
        have hcr := hcc.below HA.out.below hbl
        have HOC := Lib.hid hcc
        have hrr : IntsIn (fun b => b < w.heap.size) wr rv x.pod.req := (hri.within.below HA.out.below (Nat.le_refl _)).imp fun b _ hb => hb.1
        obtain ⟨ar, cr, rfl, -⟩ := id hrr
        clear hcc hri
        obtain ⟨q0, ⟨q1, q2, q3, q4, q5, q6, q7, q8, q9⟩, q10, q11⟩ := hcr
        have hki : (0 : Int) ≤ (k : Int) := by omega
        have hkl : (k : Int) < (l : Int) := by omega
        have HP := Lib.hid ((play_any (m := ⟨gi, bt, bm, g⟩) 100 x (.slice ar x.pod.req.length cr) (.slice al lp cl) wr HA.out.good (by omega) rfl (by omega) hreq HA.out.st HA.out.lt HA.out.list (hrr.imp fun b _ hb => HA.out.st.off hb) (HE.out.below HA.out.below) hEB).mono fun e w' h => HA.out.play h rfl hreq)
        clear hrr hreq
        go_wp2_with fail
        refine HP.out.mono ?_
        rintro e w2 ⟨a2, c2, g2, rfl, hA2⟩
        obtain ⟨lp2, hlp2⟩ : ∃ lp2, lp2 = (playR 100 ps x).length := ⟨_, rfl⟩
        rw [← hlp2] at hA2 ⊢
        have HA2 := Lib.hid hA2
        have HLP2 := Lib.hid hlp2
        clear hA2 hlp2 HP
        go_wp2
        go_roundw
        case rel => exact ⟨k + 1, _, g2, a2, lp2, c2, by omega, by go_num, rfl, HLP2.out, HA2.out⟩
        case measure => simp [intOf]; omega
      · obtain ⟨X, rfl⟩ : ∃ X, X = wr := ⟨_, rfl⟩
        have hkl : k = l := by omega
        subst hkl
        have HOK := Lib.hid (HA.out.good.ok (by omega))
        have hlp60 : lp ≤ 60 := by rw [HLP.out]; have := HA.out.good.len; omega
        have HAL := Lib.hid (sall_any (m := ⟨gi, bt, bm, g⟩) X HA.out.st HOK.out)
        unfold RetPods at HAL
        go_wp2_with fail
        refine HAL.out.mono ?_
        rintro e w3 ⟨v3, rfl, o3, b3⟩
        obtain ⟨a3, c3, rfl⟩ := o3.shape
        have HAR : Hid (ArrRow w3 a3 ps) := by obtain ⟨rvs, h1, h2, _⟩ := o3; exact arrRow_of h2 h1 rfl
        rw [← HLP.out] at o3 ⊢
        have HST3 := Lib.hid (HA.out.st.below b3)
        have HB3 := Lib.hid (HA.out.below.trans (b3.mono HA.out.below.size))
        have HGD := Lib.hid HA.out.good
        clear o3 b3 HAL HA
        go_wp2
        go_loop [9] (fun i => ∃ j : Nat, j ≤ lp ∧ i = .int .i64 j) (fun i => lp - (intOf i).toNat)
        case atStart => exact ⟨0, by omega, rfl⟩
        case round =>
          obtain ⟨j, hj, rfl⟩ := hrel
          by_cases hjl : j < lp
          · obtain ⟨ga, hga, hgl, hcell⟩ := HAR.out.at_ j (by rw [← HLP.out]; exact hjl)
            rw [HGD.out.arr j (by rw [← HLP.out]; exact hjl)] at hcell
            subst hga
            have hj0 : (0 : Int) ≤ (j : Int) := by omega
            have hj1 : (j : Int) < (lp : Int) := by omega
            go_wp2
            go_round
            case rel => exact ⟨j + 1, by omega, by go_num⟩
            case measure => simp [intOf]; omega
          · have hjj : j = lp := by omega
            subst hjj
            have HON := Lib.hid (son_any (m := ⟨gi, bt, bm, g⟩) node w3 HST3.out HOK.out)
            unfold RetPods at HON
            obtain ⟨A, hA⟩ : ∃ A, A = ps.filter (onB node) := ⟨_, rfl⟩
            obtain ⟨B2, hB2⟩ : ∃ B2, B2 = ps.filter (withB 1) := ⟨_, rfl⟩
            have hlA : A.length ≤ j := by rw [hA, HLP.out]; exact List.length_filter_le _ _
            have hlB : B2.length ≤ j := by rw [hB2, HLP.out]; exact List.length_filter_le _ _
            have HJOIN : Hid (∀ i, i + 1 < (A ++ B2).length → (podAt (A ++ B2) (i + 1)).arr ≤ (podAt (A ++ B2) i).arr → i + 1 = A.length) := fun i h1 h2 =>
              arr_joined (by rw [hA]; exact (arr_pairwise HGD.out.arr).filter _) (by rw [hB2]; exact (arr_pairwise HGD.out.arr).filter _) h1 h2
            rw [← hA] at HON
            have HWI : Hid (∀ W, Below w3.heap.size w3 W → Calls Tryd.prog 70 #[.pointer (some ⟨gi, 0, none⟩), .int .i64 1] W fun e w' => ∃ v, e = .returned v ∧ OwnPods (Free W.heap.size v) W.heap.size w' v B2 ∧ Below W.heap.size W w') := fun W hW => by rw [hB2]; exact swith_any (m := ⟨gi, bt, bm, g⟩) 1 W (HST3.out.below hW) HOK.out
            have HON2 : Hid (∀ W, Below w3.heap.size w3 W → Calls Tryd.prog 68 #[.pointer (some ⟨gi, 0, none⟩), .int .i64 node] W fun e w' => ∃ a c, e = .returned (.slice a A.length c) ∧ Below W.heap.size W w') := fun W hW => (son_any (m := ⟨gi, bt, bm, g⟩) node W (HST3.out.below hW) HOK.out).mono fun e w' h => by
              obtain ⟨v, rfl, h1, h2⟩ := h
              obtain ⟨a, c, rfl⟩ := h1.shape
              exact ⟨a, c, by rw [hA], h2⟩
            clear hA hB2 HLP HL
            go_wp2_with fail
            refine HON.out.mono ?_
            rintro e w4 ⟨v4, rfl, o4, b4⟩
            obtain ⟨a4, c4, rfl⟩ := o4.shape
            have B4 := Lib.hid b4
            have O4 := Lib.hid o4
            clear o4 b4 HON
            go_wp2_with fail
            refine (HWI.out _ B4.out).mono ?_
            rintro e w5 ⟨v5, rfl, o5, b5⟩
            obtain ⟨a5, c5, rfl⟩ := o5.shape
            have O4b : Hid (OwnPods (Free w3.heap.size (.slice a4 A.length c4)) w3.heap.size w5 (.slice a4 A.length c4) A) := O4.out.stays (Y := fun _ => True) (Stays.of b5) (fun _ _ => trivial) (fun _ _ => trivial)
            have B5 := Lib.hid (B4.out.trans (b5.mono B4.out.size))
            have O5 := Lib.hid o5
            clear o5 b5 O4 HWI
            obtain ⟨nA, hnA⟩ : ∃ nA, nA = A.length := ⟨_, rfl⟩
            obtain ⟨nB, hnB⟩ : ∃ nB, nB = B2.length := ⟨_, rfl⟩
            have HNA := Lib.hid hnA
            have HNB := Lib.hid hnB
            rw [← hnA] at O4b HON2 hlA ⊢
            rw [← hnB] at O5 hlB ⊢
            clear hnA hnB
            have hz5 := B5.out.size
            obtain ⟨nn, hnn0⟩ : ∃ nn, nn = A.length + B2.length := ⟨_, rfl⟩
            have HNN0 := Lib.hid hnn0; clear hnn0
            go_wp2_with (at_builtin; refine wpList_append_pods rfl (.tmp 62) (.tmp 64) rfl w3.heap.size w4.heap.size (.slice a4 nA c4) (.slice a5 nB c5) A B2 rfl rfl O4b.out O5.out (by rw [← HNA.out, ← HNB.out]; omega) hz5 ?_; intro a6 c6 w6 hAR6 hb6; rw [← HNN0.out]; have HAR6 := Lib.hid hAR6; have HB6 := Lib.hid hb6; clear hAR6 hb6)
            have B6 : Hid (Below w3.heap.size w3 w6) := B5.out.trans HB6.out
            have hnn : nn = nA + nB := by rw [HNN0.out, HNA.out, HNB.out]
            have hn120 : nn ≤ 120 := by omega
            have HNN := Lib.hid hnn
            have HJ2 : Hid (∀ i, i + 1 < nn → (podAt (A ++ B2) (i + 1)).arr ≤ (podAt (A ++ B2) i).arr → i + 1 = nA) := fun i h1 h2 => by
              rw [HNA.out]; exact HJOIN.out i (by rw [List.length_append, ← HNA.out, ← HNB.out, ← hnn]; exact h1) h2
            have HAR7 : Hid (∀ i, i < nn → ∃ g, a6 = some ⟨g, 0, none⟩ ∧ g < w6.heap.size ∧ w6.cell? ⟨g, i * 9 + 5, none⟩ = some (.int .i64 (podAt (A ++ B2) i).arr)) := fun i hi => HAR6.out.at_ i (by rw [List.length_append, ← HNA.out, ← HNB.out, ← hnn]; exact hi)
            clear hnn HAR6 HJOIN HB6 O4b O5 HNA HNB HAR hlA hlB
            go_loopw [11] (fun i wr => ∃ j2 : Nat, 1 ≤ j2 ∧ j2 ≤ nn + 1 ∧ i = .int .i64 j2 ∧ Aside (Below w6.heap.size w6 wr)) (fun i _ => nn + 1 - (intOf i).toNat)
            case atStart => exact ⟨1, by omega, by omega, rfl, Below.refl _ _⟩
            case round =>
              obtain ⟨j2, hj1, hj2, rfl, hbw⟩ := hrel
              by_cases hlt2 : j2 < nn
              · obtain ⟨g6, hg6, hgl6, hcx⟩ := HAR7.out j2 hlt2
                obtain ⟨g7, hg7, -, hcy⟩ := HAR7.out (j2 - 1) (by omega)
                have hg67 : g7 = g6 := by rw [hg6] at hg7; injection hg7 with h; injection h with h; exact h.symm
                subst hg67
                subst hg6
                have hseam := HJ2.out (j2 - 1) (by omega)
                rw [show j2 - 1 + 1 = j2 by omega] at hseam
                generalize (podAt (A ++ B2) j2).arr = x1 at *
                generalize (podAt (A ++ B2) (j2 - 1)).arr = y1 at *
                have hcx := keepl hbw.out hcx
                have hcy := keepl hbw.out hcy
                have hz6 := hbw.out.size
                have hgw : g7 < wr.heap.size := by omega
                have e1 : IntKind.i64.wrap ((j2 : Int) - 1) = (j2 : Int) - 1 := IntWalk.i64_in _ (by omega)
                have e2 : (0 : Int) ≤ (j2 : Int) - 1 := by omega
                have e3 : (j2 : Int) - 1 < (nn : Int) := by omega
                have e4 : ((j2 : Int) - 1).toNat = j2 - 1 := by omega
                have e5 : (0 : Int) ≤ (j2 : Int) := by omega
                have e7 : (1 : Int) ≤ (j2 : Int) := by omega
                have e6 : (j2 : Int) < (nn : Int) := by omega
                have hB3w : Below w3.heap.size w3 wr := B6.out.trans (hbw.out.mono B6.out.size)
                have HBW := Lib.hid hbw
                have HB3W := Lib.hid hB3w
                have HK : Hid (∀ w' : World, Below wr.heap.size wr w' → (w'.cell? ⟨g7, j2 * 9 + 5, none⟩ = some (.int .i64 x1) ∧ w'.cell? ⟨g7, (j2 - 1) * 9 + 5, none⟩ = some (.int .i64 y1))) := fun w' h => ⟨keepl h hcx, keepl h hcy⟩
                have hv0 : Below wr.heap.size wr wr.drew := (Below.refl _ _).drew
                have HK0 := Lib.hid (HK.out _ hv0)
                have HV0 := Lib.hid hv0
                clear hbw hB3w hz6
                by_cases hle : x1 ≤ y1
                · have hjA : j2 = nA := hseam hle
                  have hdt : decide (x1 ≤ y1) = true := by simp [hle]
                  have hne : ((j2 : Int) != (nA : Int)) = false := by rw [hjA]; simp
                  have HJA := Lib.hid hjA
                  clear hseam hle hjA hcx hcy hv0
                  go_wp2_with fail
                  have HV3 := Lib.hid (HB3W.out.trans (HV0.out.mono HB3W.out.size))
                  go_region_held3 (fun w' => w'.cell? ⟨g7, j2 * 9 + 5, none⟩ = some (.int .i64 x1) ∧ w'.cell? ⟨g7, (j2 - 1) * 9 + 5, none⟩ = some (.int .i64 y1))
                    (first
                      | (with_reducible exact HK0.out)
                      | (with_reducible exact HK1.out)
                      | go_keep)
                    (first
                      | (go_at_call 68; ((with_reducible refine (HON2.out _ HV3.out).mono ?_)); rintro e w7 ⟨a7, c7, rfl, b7⟩; have hb7 : Below wr.heap.size wr w7 := HV0.out.trans b7; have HK1 := Lib.hid (HK.out _ hb7)))
                  all_goals
                    have HB7 := Lib.hid hb7
                    clear hb7 b7 HK HK0 HK1 HV3
                    go_wp2
                    go_roundw
                    case rel => exact ⟨j2 + 1, by omega, by omega, by go_num, HBW.out.out.trans (HB7.out.mono HBW.out.out.size)⟩
                    case measure => simp [intOf]; omega
                · have hdt : decide (x1 ≤ y1) = false := by simp; omega
                  clear hseam hle hcx hcy hv0
                  go_wp2_with fail
                  refine wp_region_noPanic ?_
                  refine wp_region_held_drew (S := (fun w' => w'.cell? ⟨g7, j2 * 9 + 5, none⟩ = some (.int .i64 x1) ∧ w'.cell? ⟨g7, (j2 - 1) * 9 + 5, none⟩ = some (.int .i64 y1))) (by kernel_rfl) ?_ (fun hHeld => ?_)
                  · exact HK0.out
                  refine wpAnyH_take (i := 0) (v := ?_) rfl (by kernel_rfl) (by kernel_rfl) (by kernel_rfl) (fun _ _ _ h => h) (Or.inl ⟨by rfl, ?_⟩) (by assumption) ?_
                  rotate_left
                  · intro w hSw
                    (try dsimp only at hSw)
                    go_simp
                    try with_reducible rfl
                  try simp only [Act.put, List.setIfInBounds_toArray, List.set_cons_zero, List.set_cons_succ, List.getElem_toArray, List.getElem_cons_zero, List.getElem_cons_succ]
                  refine wpAnyH_take (i := 1) (v := ?_) rfl (by kernel_rfl) (by kernel_rfl) (by kernel_rfl) (fun _ _ _ h => h) (Or.inl ⟨by rfl, ?_⟩) (by assumption) ?_
                  rotate_left
                  · intro w hSw
                    (try dsimp only at hSw)
                    go_simp
                    try with_reducible rfl
                  try simp only [Act.put, List.setIfInBounds_toArray, List.set_cons_zero, List.set_cons_succ, List.getElem_toArray, List.getElem_cons_zero, List.getElem_cons_succ]
                  refine wpAnyH_take (i := 2) (v := ?_) rfl (by kernel_rfl) (by kernel_rfl) (by kernel_rfl) (fun _ _ _ h => h) (Or.inl ⟨by rfl, ?_⟩) (by assumption) ?_
                  rotate_left
                  · intro w hSw
                    (try dsimp only at hSw)
                    go_simp
                    try with_reducible rfl
                  try simp only [Act.put, List.setIfInBounds_toArray, List.set_cons_zero, List.set_cons_succ, List.getElem_toArray, List.getElem_cons_zero, List.getElem_cons_succ]
                  refine wpAnyH_take (i := 3) (v := ?_) rfl (by kernel_rfl) (by kernel_rfl) (by kernel_rfl) (fun _ _ _ h => h) (Or.inl ⟨by rfl, ?_⟩) (by assumption) ?_
                  rotate_left
                  · intro w hSw
                    (try dsimp only at hSw)
                    go_simp
                    try with_reducible rfl
                  try simp only [Act.put, List.setIfInBounds_toArray, List.set_cons_zero, List.set_cons_succ, List.getElem_toArray, List.getElem_cons_zero, List.getElem_cons_succ]
                  refine wpAnyH_take (i := 4) (v := ?_) rfl (by kernel_rfl) (by kernel_rfl) (by kernel_rfl) (fun _ _ _ h => h) (Or.inl ⟨by rfl, ?_⟩) (by assumption) ?_
                  rotate_left
                  · intro w hSw
                    (try dsimp only at hSw)
                    go_simp
                    try with_reducible rfl
                  try simp only [Act.put, List.setIfInBounds_toArray, List.set_cons_zero, List.set_cons_succ, List.getElem_toArray, List.getElem_cons_zero, List.getElem_cons_succ]
                  refine wpAnyH_take (i := 5) (v := ?_) rfl (by kernel_rfl) (by kernel_rfl) (by kernel_rfl) (fun _ _ _ h => h) (Or.inl ⟨by rfl, ?_⟩) (by assumption) ?_
                  rotate_left
                  · intro w hSw
                    (try dsimp only at hSw)
                    go_simp
                    try with_reducible rfl
                  try simp only [Act.put, List.setIfInBounds_toArray, List.set_cons_zero, List.set_cons_succ, List.getElem_toArray, List.getElem_cons_zero, List.getElem_cons_succ]
                  refine wpAnyH_take (i := 6) (v := ?_) rfl (by kernel_rfl) (by kernel_rfl) (by kernel_rfl) (fun _ _ _ h => h) (Or.inl ⟨by rfl, ?_⟩) (by assumption) ?_
                  rotate_left
                  · intro w hSw
                    (try dsimp only at hSw)
                    go_simp
                    try with_reducible rfl
                  try simp only [Act.put, List.setIfInBounds_toArray, List.set_cons_zero, List.set_cons_succ, List.getElem_toArray, List.getElem_cons_zero, List.getElem_cons_succ]
                  refine wpAnyH_take (i := 7) (v := ?_) rfl (by kernel_rfl) (by kernel_rfl) (by kernel_rfl) (fun _ _ _ h => h) (Or.inl ⟨by rfl, ?_⟩) (by assumption) ?_
                  rotate_left
                  · intro w hSw
                    (try dsimp only at hSw)
                    go_simp
                    try with_reducible rfl
                  try simp only [Act.put, List.setIfInBounds_toArray, List.set_cons_zero, List.set_cons_succ, List.getElem_toArray, List.getElem_cons_zero, List.getElem_cons_succ]
                  refine wpAnyH_take (i := 8) (v := ?_) rfl (by kernel_rfl) (by kernel_rfl) (by kernel_rfl) (fun _ _ _ h => h) (Or.inl ⟨by rfl, ?_⟩) (by assumption) ?_
                  rotate_left
                  · intro w hSw
                    (try dsimp only at hSw)
                    go_simp
                    try with_reducible rfl
                  try simp only [Act.put, List.setIfInBounds_toArray, List.set_cons_zero, List.set_cons_succ, List.getElem_toArray, List.getElem_cons_zero, List.getElem_cons_succ]
                  refine wpAnyH_take (i := 9) (v := ?_) rfl (by kernel_rfl) (by kernel_rfl) (by kernel_rfl) (fun _ _ _ h => h) (Or.inl ⟨by rfl, ?_⟩) (by assumption) ?_
                  rotate_left
                  · intro w hSw
                    (try dsimp only at hSw)
                    go_simp
                    try with_reducible rfl
                  try simp only [Act.put, List.setIfInBounds_toArray, List.set_cons_zero, List.set_cons_succ, List.getElem_toArray, List.getElem_cons_zero, List.getElem_cons_succ]
                  refine wpAnyH_take (i := 10) (v := ?_) rfl (by kernel_rfl) (by kernel_rfl) (by kernel_rfl) (fun _ _ _ h => h) (Or.inl ⟨by rfl, ?_⟩) (by assumption) ?_
                  rotate_left
                  · intro w hSw
                    (try dsimp only at hSw)
                    go_simp
                    try with_reducible rfl
                  try simp only [Act.put, List.setIfInBounds_toArray, List.set_cons_zero, List.set_cons_succ, List.getElem_toArray, List.getElem_cons_zero, List.getElem_cons_succ]
                  refine wpAnyH_take (i := 11) (v := ?_) rfl (by kernel_rfl) (by kernel_rfl) (by kernel_rfl) (fun _ _ _ h => h) (Or.inl ⟨by rfl, ?_⟩) (by assumption) ?_
                  rotate_left
                  · intro w hSw
                    (try dsimp only at hSw)
                    go_simp
                    try with_reducible rfl
                  try simp only [Act.put, List.setIfInBounds_toArray, List.set_cons_zero, List.set_cons_succ, List.getElem_toArray, List.getElem_cons_zero, List.getElem_cons_succ]
                  refine wpAnyH_take (i := 12) (v := ?_) rfl (by kernel_rfl) (by kernel_rfl) (by kernel_rfl) (fun _ _ _ h => h) (Or.inl ⟨by rfl, ?_⟩) (by assumption) ?_
                  rotate_left
                  · intro w hSw
                    (try dsimp only at hSw)
                    go_simp
                    try with_reducible rfl
                  try simp only [Act.put, List.setIfInBounds_toArray, List.set_cons_zero, List.set_cons_succ, List.getElem_toArray, List.getElem_cons_zero, List.getElem_cons_succ]
                  refine wpAnyH_take (i := 13) (v := undef) rfl (by kernel_rfl) (by kernel_rfl) (by kernel_rfl) (fun _ _ _ h => h) (Or.inr ⟨by rfl, rfl⟩) (by assumption) ?_
                  try simp only [Act.put, List.setIfInBounds_toArray, List.set_cons_zero, List.set_cons_succ, List.getElem_toArray, List.getElem_cons_zero, List.getElem_cons_succ]
                  refine wpAnyH_take (i := 14) (v := undef) rfl (by kernel_rfl) (by kernel_rfl) (by kernel_rfl) (fun _ _ _ h => h) (Or.inr ⟨by rfl, rfl⟩) (by assumption) ?_
                  try simp only [Act.put, List.setIfInBounds_toArray, List.set_cons_zero, List.set_cons_succ, List.getElem_toArray, List.getElem_cons_zero, List.getElem_cons_succ]
                  refine wpAnyH_take (i := 15) (v := undef) rfl (by kernel_rfl) (by kernel_rfl) (by kernel_rfl) (fun _ _ _ h => h) (Or.inr ⟨by rfl, rfl⟩) (by assumption) ?_
                  try simp only [Act.put, List.setIfInBounds_toArray, List.set_cons_zero, List.set_cons_succ, List.getElem_toArray, List.getElem_cons_zero, List.getElem_cons_succ]
                  refine wpAnyH_ready (rs := [16]) (by kernel_rfl) (by simp) ?_
                  refine AllReadyH.cons rfl (fun K hK => ?_) AllReadyH.nil
                  go_simp
                  refine hK.out _ _ hHeld (fun hHeld => ?_)
                  clear hK K
                  try simp only [Act.put, List.setIfInBounds_toArray, List.set_cons_zero, List.set_cons_succ, List.getElem_toArray, List.getElem_cons_zero, List.getElem_cons_succ]
                  refine wpAnyH_ready (rs := [17]) (by kernel_rfl) (by simp) ?_
                  refine AllReadyH.cons rfl (fun K hK => ?_) AllReadyH.nil
                  go_simp
                  refine hK.out _ _ hHeld (fun hHeld => ?_)
                  clear hK K
                  try simp only [Act.put, List.setIfInBounds_toArray, List.set_cons_zero, List.set_cons_succ, List.getElem_toArray, List.getElem_cons_zero, List.getElem_cons_succ]
                  refine wpAnyH_take (i := 18) (v := undef) rfl (by kernel_rfl) (by kernel_rfl) (by kernel_rfl) (fun _ _ _ h => h) (Or.inr ⟨by rfl, rfl⟩) (by assumption) ?_
                  try simp only [Act.put, List.setIfInBounds_toArray, List.set_cons_zero, List.set_cons_succ, List.getElem_toArray, List.getElem_cons_zero, List.getElem_cons_succ]
                  refine wpAnyH_take (i := 19) (v := ?_) rfl (by kernel_rfl) (by kernel_rfl) (by kernel_rfl) (fun _ _ _ h => h) (Or.inl ⟨by rfl, ?_⟩) (by assumption) ?_
                  rotate_left
                  · intro w hSw
                    (try dsimp only at hSw)
                    go_simp
                    try with_reducible rfl
                  try simp only [Act.put, List.setIfInBounds_toArray, List.set_cons_zero, List.set_cons_succ, List.getElem_toArray, List.getElem_cons_zero, List.getElem_cons_succ]
                  refine wpAnyH_done (by kernel_rfl) ?_ _
                  refine NoPanic.normal ?_
                  have HB7 := HV0
                  clear HK HK0 HV0
                  go_wp2
                  go_roundw
                  case rel => exact ⟨j2 + 1, by omega, by omega, by go_num, HBW.out.out.trans (HB7.out.mono HBW.out.out.size)⟩
                  case measure => simp [intOf]; omega
              · have HB := Lib.hid (HB3.out.trans ((B6.out.trans (hbw.out.mono B6.out.size)).mono HB3.out.size))
                clear hbw
                go_wp2
                go_ret
                exact ⟨rfl, HB.out⟩
end Go.Proofs.YtcegipkhmibdeaaDoor
/- PodArrivals: for every input the law returns true and its arguments read behind the call as before: the row over whatever heap in which the listed variables hold their data, and the tied card. -/
namespace Go.Proofs.YtcegipkhmibdeaaDoor.podArrivals
set_option linter.all false
open Go.ChangeShapes Go.WideShapes Go.ChangeAt Go.WideMaps Go.WideElems Go.RowKit
open Go.ChangeMaps (open_string shut_string)
open Go.ChangeAt
set_option linter.unusedVariables false
theorem door_met (os : Os) (args : Array Value) : laidMetH Tryd.prog Rows.podArrivalsRow.laid ((World.doorLaid Tryd.prog 46 os).forCall (fun _ _ => 0) ⟨#[], args, []⟩).memory :=
  laidMetH_of_parts3 (fuel := 8) (laidMet_of_run' 8 (by kernel_rfl) (by kernel_rfl)) (by kernel_rfl) (by kernel_rfl)
set_option maxRecDepth 100000 in
theorem lifted (os : Os) (started : os.Started) (H : Type) (enc : TypeId × Value → H) :
    ReturnsInHanded {} Tryd.checked os 16 .any (fun w args => (Rows.podArrivalsSpec.pre enc Tryd.prog Tryd.f16 Rows.podArrivalsRow.domain false w args ∧ laidMetH Tryd.prog Rows.podArrivalsRow.laid w) ∧ sizedMet enc Tryd.prog Tryd.f16 (OpenSpec.ofChange Rows.podArrivalsSpec) false w args)
      (Rows.podArrivalsSpec.post enc Tryd.prog Tryd.f16 false true false false) := by
  refine returnsInHanded_of_change_and (C := Tryd.checked) (X := fun w _ => laidMetH Tryd.prog Rows.podArrivalsRow.laid w) (fun _ _ _ hh h => h.of_heap hh) own started (by kernel_rfl) Tryd.func16
    (ChangeSpec.witness_shaped (enc := enc) (C := Tryd.checked) (os := os) (X := fun w _ => laidMetH Tryd.prog Rows.podArrivalsRow.laid w) false (World.doorLaid Tryd.prog 46 os) #[.slice none 0 0, .int .i64 0] 8 rfl (World.shaped_of_RefB (by kernel_rfl) (by kernel_rfl)) (by kernel_rfl) (by kernel_rfl) (by kernel_rfl) (door_met os _)) ?_
  intro W base args ds gs before hval0 hW hcnd hsz0 hL _
  have hsz : (DataW.weightsEach Tryd.prog (Tryd.f16.params.toList ++ Rows.podArrivalsSpec.plain.varTypes Tryd.prog) (ds ++ gs)).all (· ≤ reachBytes) = true := hsz0
  have hval : ∀ (j : Nat) t v, Tryd.f16.params[j]? = some t → args[j]? = some v → Value.okWide Tryd.prog W .any base t v := hval0
  have hW' := hW
  obtain ⟨p, q, hA0, hV, rfl, hfz, hnd⟩ := hW
  have hA : DataW.TrodAll enc Tryd.prog W 0 (fun _ => true) true Tryd.f16.params.toList args.toList ds p := hA0
  rw [Tryd.params16] at hA hval hsz
  obtain ⟨v0, vs0, d0, ds0, p0, q0, hargs, rfl, rfl, h0, r0⟩ := trodAll_cons hA
  obtain ⟨v1, vs1, d1, ds1, p1, q1, rfl, rfl, rfl, h1, r1⟩ := trodAll_cons r0
  obtain ⟨rfl, rfl, rfl⟩ := trodAll_nil r1
  obtain rfl : args = #[v0, v1] := by cases args; simp_all
  obtain ⟨rfl, rfl⟩ := trodVars_none hV
  obtain ⟨a0, len0, cap0, rfl⟩ := okWide_slice Tryd.underlying59 (hval 0 59 v0 rfl rfl)
  have k0 := h0
  have lt0 : ∀ x ∈ p0, x.block < W.heap.size := by obtain ⟨m, hm⟩ := k0; exact DataW.trod_lt m _ _ _ hm
  have y0 := sized_any hsz (j := 0) (t := 59) rfl rfl Tryd.underlying59 bytesOp13 h0
  obtain ⟨z0, l0, h0⟩ : ∃ xs, xs.length = len0 ∧ OpsAt W (.slice a0 len0 cap0) xs := by obtain ⟨m, hm⟩ := h0; exact ops13_of hm
  obtain ⟨a1, rfl, rfl, rfl, w1⟩ := open_int Tryd.underlying3 (hval 1 3 v1 rfl rfl) h1
  have hE : ErrType W := by
    have h0 : laidMet Tryd.prog [] W ∧ handlesMet Tryd.prog Rows.opPlainRow.laid W := hL
    exact errType_of_handles h0.2 (List.mem_singleton.2 rfl)
  clear hA0 hval0 hsz0 hsz
  refine (podArrivals_walk _ z0 a1 W hE (by rw [l0]; omega) h0).mono fun e W' ⟨he, bel⟩ => ?_
  subst he
  exact ⟨_, rfl, _, _, _, [], _, [], hW', trodAll_mk1 (shut_bool Tryd.underlying4 _), (trodAll_cons_mk (Below.trod laidOut (by kernel_rfl) (of_decide_eq_true (by kernel_rfl)) k0 bel lt0) (trodAll_cons_mk (shut_int Tryd.underlying3 w1) trodAll_mk0)), rfl, bel.frame _, fun h => by cases h⟩
theorem named : Tryd.prog.funcNamed "hammock/hammocklaw13.PodArrivals" = some 16 := by kernel_rfl
set_option maxRecDepth 100000 in
set_option maxHeartbeats 40000000 in
theorem facts : joinedFacts Tryd.prog 16 Tryd.f16 Rows.podArrivalsSpec Rows.podArrivalsRow = true := by
  unfold joinedFacts
  rw [fLaidOut, fMapsRowed, fStops, fStopKnobs, fPlainKeys, fStopsHeard, fMay, fLifts, fMake]
  repeat' (with_reducible refine band ?_ ?_)
  all_goals (as_aux_lemma => kernel_rfl)
theorem instance_ : Tryd.f16.isInstance Tryd.prog Rows.podArrivalsRow.origin Rows.podArrivalsRow.targs := of_decide_eq_true (by kernel_rfl)
theorem wrapper_ : Tryd.f16.isWrapper Tryd.prog Rows.podArrivalsRow.wrapper Rows.podArrivalsRow.mainSum := by
  unfold Func.isWrapper; first | (rw [if_pos (by decide +kernel)]; kernel_rfl) | (rw [if_neg (by decide +kernel)]; exact ⟨rfl, rfl⟩)
theorem over : Rows.PodArrivalsSaid :=
  OpenClaim.holds_of_wide 16 Tryd.f16 rfl rfl rfl rfl rfl rfl rfl ⟨rfl, rfl, rfl, rfl, rfl⟩ rfl rfl rfl rfl rfl named Tryd.func16 facts
    instance_ wrapper_ (fun os started H enc _ => lifted os started H enc)
theorem byText : Rows.podArrivalsRow.wfByText (OpenSpec.ofChange Rows.podArrivalsSpec) = true := by kernel_rfl
theorem looks_ : true = Tryd.prog.looks [] := by kernel_rfl
theorem goes_ : false = Rows.podArrivalsRow.goesBy Tryd.prog := by kernel_rfl
theorem params_ : ([59, 3].all fun u => !Tryd.prog.wantsStandIn u) = true := by kernel_rfl
theorem proved : Rows.PodArrivalsCardSaid :=
  Claim7.holds_tied_plain_at .later [] [.handle] true (true, "25fb52c7a62141da201c992de07690019f706bfb1a8ff032f6eb55d89aef45fd") true
    over (fun _ h => by cases h) byText (fun _ h => by cases h) podArrivals_row_tie rfl ⟨rfl, rfl⟩ fMain rfl
    (fun f fn hf hfn => by
      obtain rfl : f = 16 := (Option.some.inj (named.symm.trans hf)).symm
      obtain rfl : fn = Tryd.f16 := (Option.some.inj (Tryd.func16.symm.trans hfn)).symm
      exact ⟨looks_, fun j t ht => by
        rw [Tryd.params16] at ht
        have hm : t ∈ [59, 3] := by simpa using Array.mem_of_getElem? ht
        exact (show Tryd.prog.wantsStandIn t = false by simpa using List.all_eq_true.1 params_ t hm)⟩)
    goes_
#print axioms proved
end Go.Proofs.YtcegipkhmibdeaaDoor.podArrivals
namespace Go.Proofs.YtcegipkhmibdeaaDoor
/-- The card, under a short name. -/
theorem podArrivals_holds : Rows.PodArrivalsCardSaid := podArrivals.proved
end Go.Proofs.YtcegipkhmibdeaaDoor
