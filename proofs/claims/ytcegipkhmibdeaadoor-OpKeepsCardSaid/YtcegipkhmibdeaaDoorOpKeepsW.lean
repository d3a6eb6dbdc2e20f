/- hammocklaw03.OpKeeps: the walk. -/
import Derived.Test.YtcegipkhmibdeaaDoorOpMakesW
import Derived.Test.YtcegipkhmibdeaaDoorRowAt
namespace Go.Proofs.YtcegipkhmibdeaaDoor
set_option linter.all false
open Go.RowKit

/-- Numbers that lie below a mark. -/
def IntsLow (B : Nat) (w : World) (v : Value) (zs : List Int) : Prop := ∃ a cap, v = .slice a zs.length cap ∧ (zs = [] ∨ ∃ b off, a = some ⟨b, off, none⟩ ∧ b < B ∧ ∀ j, j < zs.length → w.cell? ⟨b, off + j, none⟩ = some (.int .i64 (zs.getD j 0)))
theorem IntsAt.low {w : World} {v : Value} {zs : List Int} (h : IntsAt w v zs) : IntsLow w.heap.size w v zs := h
theorem IntsLow.ints {B : Nat} {w : World} {v : Value} {zs : List Int} (h : IntsLow B w v zs) (hB : B ≤ w.heap.size) : IntsAt w v zs := by
  obtain ⟨a, cap, rfl, h | ⟨b, off, rfl, hlt, hc⟩⟩ := h
  · exact ⟨a, cap, rfl, .inl h⟩
  · exact ⟨_, cap, rfl, .inr ⟨b, off, rfl, by omega, hc⟩⟩
theorem IntsLow.below {B m : Nat} {w w' : World} {v : Value} {zs : List Int} (h : IntsLow B w v zs) (hb : Below m w w') (hm : B ≤ m) : IntsLow B w' v zs := by
  obtain ⟨a, cap, rfl, h | ⟨b, off, rfl, hlt, hc⟩⟩ := h
  · exact ⟨a, cap, rfl, .inl h⟩
  · exact ⟨_, cap, rfl, .inr ⟨b, off, rfl, hlt, fun j hj => by rw [hb.cell (p := ⟨b, off + j, none⟩) (by show b < m; omega)]; exact hc j hj⟩⟩
theorem IntsLow.only {w w' : World} {B g n : Nat} {v : Value} {zs : List Int} (h : IntsLow B w v zs) (ho : Only g n w w') (hg : 0 < n → B ≤ g) : IntsLow B w' v zs := IntsAt.only h ho hg
set_option maxRecDepth 100000 in
theorem opKeeps_1 (k i c n : Int) (f : Bool) (a : Option Addr) (l cp : Nat) (zs : List Int) (av : Option Addr) (lv cv : Nat) (vs : List Int) (w : World) (hE : ErrType w) (h : IntsAt w (.slice a l cp) zs) (h' : IntsAt w (.slice av lv cv) vs) (hl : (100 : Int) < (l : Int)) :
    Calls Tryd.prog 10 #[opV k i c n f (.slice a l cp), .slice av lv cv] w fun r w' => r = .returned (.bool true) ∧ Below w.heap.size w w' := by
  have hE0 : ErrType (w.alloc (.cells #[.int .i64 k, .int .i64 i, .int .i64 c, .int .i64 n, .bool f, .slice a l cp] 41)) := hE.below ((Below.refl _ w).alloc (Nat.le_refl _) _)
  go_enter Tryd.func10, Tryd.ntmps10
  go_wp2_with fail
  refine (awake03_any (w.alloc (.cells #[.int .i64 k, .int .i64 i, .int .i64 c, .int .i64 n, .bool f, .slice a l cp] 41)) hE0).mono ?_
  rintro e w1 ⟨rfl, B1⟩
  have p0 : w1.cell? ⟨w.heap.size, 0, none⟩ = some (.int .i64 k) := keepc B1 (by simp) (by go_simp)
  have p1 : w1.cell? ⟨w.heap.size, 1, none⟩ = some (.int .i64 i) := keepc B1 (by simp) (by go_simp)
  have p2 : w1.cell? ⟨w.heap.size, 2, none⟩ = some (.int .i64 c) := keepc B1 (by simp) (by go_simp)
  have p3 : w1.cell? ⟨w.heap.size, 3, none⟩ = some (.int .i64 n) := keepc B1 (by simp) (by go_simp)
  have p4 : w1.cell? ⟨w.heap.size, 4, none⟩ = some (.bool f) := keepc B1 (by simp) (by go_simp)
  have p5 : w1.cell? ⟨w.heap.size, 5, none⟩ = some (.slice a l cp) := keepc B1 (by simp) (by go_simp)
  have hB1 : Below w.heap.size w w1 := ((Below.refl _ w).alloc (Nat.le_refl _) _).trans (B1.mono (by simp))
  have hs1 : w.heap.size < w1.heap.size := cell_lt p0
  have hE1 := hE.below hB1
  clear B1 hE0
  go_wp2_with fail
  refine (awake03_any _ hE1).mono ?_
  rintro e w2 ⟨rfl, B2⟩
  go_wp2
  go_ret
  exact ⟨rfl, hB1.trans (B2.mono hB1.size)⟩
set_option maxRecDepth 100000 in
theorem opKeeps_2 (k i c n : Int) (f : Bool) (a : Option Addr) (l cp : Nat) (zs : List Int) (av : Option Addr) (lv cv : Nat) (vs : List Int) (w : World) (hE : ErrType w) (h : IntsAt w (.slice a l cp) zs) (h' : IntsAt w (.slice av lv cv) vs) (hl0 : ¬ (100 : Int) < (l : Int)) (hl : (100 : Int) < (lv : Int)) :
    Calls Tryd.prog 10 #[opV k i c n f (.slice a l cp), .slice av lv cv] w fun r w' => r = .returned (.bool true) ∧ Below w.heap.size w w' := by
  have hE0 : ErrType (w.alloc (.cells #[.int .i64 k, .int .i64 i, .int .i64 c, .int .i64 n, .bool f, .slice a l cp] 41)) := hE.below ((Below.refl _ w).alloc (Nat.le_refl _) _)
  go_enter Tryd.func10, Tryd.ntmps10
  go_wp2_with fail
  refine (awake03_any (w.alloc (.cells #[.int .i64 k, .int .i64 i, .int .i64 c, .int .i64 n, .bool f, .slice a l cp] 41)) hE0).mono ?_
  rintro e w1 ⟨rfl, B1⟩
  have p0 : w1.cell? ⟨w.heap.size, 0, none⟩ = some (.int .i64 k) := keepc B1 (by simp) (by go_simp)
  have p1 : w1.cell? ⟨w.heap.size, 1, none⟩ = some (.int .i64 i) := keepc B1 (by simp) (by go_simp)
  have p2 : w1.cell? ⟨w.heap.size, 2, none⟩ = some (.int .i64 c) := keepc B1 (by simp) (by go_simp)
  have p3 : w1.cell? ⟨w.heap.size, 3, none⟩ = some (.int .i64 n) := keepc B1 (by simp) (by go_simp)
  have p4 : w1.cell? ⟨w.heap.size, 4, none⟩ = some (.bool f) := keepc B1 (by simp) (by go_simp)
  have p5 : w1.cell? ⟨w.heap.size, 5, none⟩ = some (.slice a l cp) := keepc B1 (by simp) (by go_simp)
  have hB1 : Below w.heap.size w w1 := ((Below.refl _ w).alloc (Nat.le_refl _) _).trans (B1.mono (by simp))
  have hs1 : w.heap.size < w1.heap.size := cell_lt p0
  have hE1 := hE.below hB1
  clear B1 hE0
  go_wp2_with fail
  refine (awake03_any _ hE1).mono ?_
  rintro e w2 ⟨rfl, B2⟩
  go_wp2
  go_ret
  exact ⟨rfl, hB1.trans (B2.mono hB1.size)⟩
set_option maxHeartbeats 4000000 in
set_option maxRecDepth 100000 in
theorem opKeeps_3 (k i c n : Int) (f : Bool) (a : Option Addr) (l cp : Nat) (zs : List Int) (av : Option Addr) (lv cv : Nat) (vs : List Int) (w : World) (hE : ErrType w) (h : IntsAt w (.slice a l cp) zs) (h' : IntsAt w (.slice av lv cv) vs) (hz : zs.length = l) (hv : vs.length = lv) (hl : ¬ (100 : Int) < (l : Int)) (hl' : ¬ (100 : Int) < (lv : Int)) :
    Calls Tryd.prog 10 #[opV k i c n f (.slice a l cp), .slice av lv cv] w fun r w' => r = .returned (.bool true) ∧ Below w.heap.size w w' := by
  subst hz
  subst hv
  have hx : zs.length * 8 ≤ 140737488351232 := by omega
  have hy : vs.length * 8 ≤ 140737488351232 := by omega
  have hx' : (pZ k zs).length * 8 ≤ 140737488351232 := by unfold pZ; split <;> first | omega | simp
  have HC := Lib.hid (fun ao co => opClone_any k i c n f (.slice ao zs.length co) zs)
  have HP := Lib.hid (fun ao co => plain_any k i c n f (.slice ao zs.length co) zs)
  generalize pI k i = i1 at *
  generalize pC k c = cc1 at *
  generalize pN k n = n1 at *
  generalize pF k f = f1 at *
  generalize pZ k zs = z1 at *
  have HN := Lib.hid (fun ao co => make_node 7 (.slice ao vs.length co) vs)
  have HQ := Lib.hid (fun ao co => make_pod 1 2 3 (.slice ao vs.length co) vs)
  have S1 := fun v1 v2 w => same01_any v1 v2 zs zs w hx hx
  have S2 := fun v1 v2 w => same01_any v1 v2 vs vs w hy hy
  simp only [beq_self_eq_true] at S1 S2
  have HS1 := Lib.hid S1; clear S1
  have HS2 := Lib.hid S2; clear S2
  have hE0 : ErrType (w.alloc (.cells #[.int .i64 k, .int .i64 i, .int .i64 c, .int .i64 n, .bool f, .slice a zs.length cp] 41)) := hE.below ((Below.refl _ w).alloc (Nat.le_refl _) _)
  go_enter Tryd.func10, Tryd.ntmps10
  go_wp2_with fail
  refine (awake03_any (w.alloc (.cells #[.int .i64 k, .int .i64 i, .int .i64 c, .int .i64 n, .bool f, .slice a zs.length cp] 41)) hE0).mono ?_
  rintro e w1 ⟨rfl, B1⟩
  have p0 : w1.cell? ⟨w.heap.size, 0, none⟩ = some (.int .i64 k) := keepc B1 (by simp) (by go_simp)
  have p1 : w1.cell? ⟨w.heap.size, 1, none⟩ = some (.int .i64 i) := keepc B1 (by simp) (by go_simp)
  have p2 : w1.cell? ⟨w.heap.size, 2, none⟩ = some (.int .i64 c) := keepc B1 (by simp) (by go_simp)
  have p3 : w1.cell? ⟨w.heap.size, 3, none⟩ = some (.int .i64 n) := keepc B1 (by simp) (by go_simp)
  have p4 : w1.cell? ⟨w.heap.size, 4, none⟩ = some (.bool f) := keepc B1 (by simp) (by go_simp)
  have p5 : w1.cell? ⟨w.heap.size, 5, none⟩ = some (.slice a zs.length cp) := keepc B1 (by simp) (by go_simp)
  have hB1 : Below w.heap.size w w1 := ((Below.refl _ w).alloc (Nat.le_refl _) _).trans (B1.mono (by simp))
  have hs1 : w.heap.size < w1.heap.size := cell_lt p0
  have hE1 := hE.below hB1
  clear B1 hE0
  have hL := h.low.below hB1 (Nat.le_refl _)
  have hL' := h'.low.below hB1 (Nat.le_refl _)
  obtain ⟨i0, hi, hz0, hz1, hz2⟩ := info_parts info64
  go_wp2_with (at_builtin; go_must (refine wpList_append_ints rfl _ _ rfl w1.heap.size _ 0 [] rfl (World.ownsRow_made w1 #[] 0 (Nat.le_refl _) (by decide) rfl) _ zs rfl ((hL.ints (by omega)).below ((Below.refl _ w1).alloc (Nat.le_refl _) _)) (by omega) (by simp) ?_; intro vo w2 hown hgrow; obtain ⟨ao, co, go, rfl, hgo, ro⟩ := row_at (zs := zs) (show w2.ownsRow w1.heap.size _ 1 _ (0 + zs.length) (zs.map _) from hown) (Nat.zero_add _); have b2 : Below w1.heap.size w1 w2 := ((Below.refl _ w1).alloc (Nat.le_refl _) _).grown hgrow (by simp) (fun k e => by cases e; exact Nat.le_refl _); have q0 := keepl b2 p0; have q1 := keepl b2 p1; have q2 := keepl b2 p2; have q3 := keepl b2 p3; have q4 := keepl b2 p4; have q5 := keepl b2 p5; have hs2 : w1.heap.size < w2.heap.size := Nat.lt_of_lt_of_le (by simp) hgrow.size; clear p0 p1 p2 p3 p4 hown hgrow))
  refine calls_named fun W3 hW3 => ?_
  have x0 : W3.cell? ⟨w2.heap.size, 0, none⟩ = some (.int .i64 k) := by rw [hW3]; go_simp
  have x1 : W3.cell? ⟨w2.heap.size, 1, none⟩ = some (.int .i64 i) := by rw [hW3]; go_simp
  have x2 : W3.cell? ⟨w2.heap.size, 2, none⟩ = some (.int .i64 c) := by rw [hW3]; go_simp
  have x3 : W3.cell? ⟨w2.heap.size, 3, none⟩ = some (.int .i64 n) := by rw [hW3]; go_simp
  have x4 : W3.cell? ⟨w2.heap.size, 4, none⟩ = some (.bool f) := by rw [hW3]; go_simp
  have x5 : W3.cell? ⟨w2.heap.size, 5, none⟩ = some (.slice ao zs.length co) := by rw [hW3]; go_simp
  have b3 : Below w2.heap.size w2 W3 := by rw [hW3]; repeat (first | exact Below.refl _ _ | refine Below.setCell ?_ (Nat.le_refl _) _ | refine Below.alloc ?_ (Nat.le_refl _) _)
  have hs3 : W3.heap.size = w2.heap.size + 1 := by rw [hW3]; simp
  have HW3 := Lib.hid hW3; clear hW3
  have ro3 := ro.below b3 (Nat.le_refl _)
  have hgo2 : 0 < zs.length → go < w2.heap.size := ro.lt
  refine (HC.out _ _ _ hx (ro3.ints co)).mono ?_
  rintro e w4 ⟨ac, cc, rfl, hown, b4⟩
  obtain ⟨ac', cc', gc, hac, hgc, rc⟩ := row_at hown rfl
  cases hac
  clear hown
  have hgc2 : 0 < zs.length → gc < w4.heap.size := rc.lt
  have y0 := keepl b4 x0
  have y1 := keepl b4 x1
  have y2 := keepl b4 x2
  have y3 := keepl b4 x3
  have y4 := keepl b4 x4
  have y5 := keepl b4 x5
  have ro4 := ro3.below b4 (Nat.le_refl _)
  have hs4 := b4.size
  clear x0 x1 x2 x3 x4 x5 q0 q1 q2 q3 q4 q5 HC
  have hxs : w2.heap.size < w4.heap.size := by omega
  go_wp2_with fail
  refine calls_named fun W5 hW5 => ?_
  have b5 : Below w4.heap.size w4 W5 := by rw [hW5]; exact (Below.refl _ _).alloc (Nat.le_refl _) _
  have hs5 : W5.heap.size = w4.heap.size + 1 := by rw [hW5]; simp
  have k7 : W5.cell? ⟨w4.heap.size, 5, none⟩ = some (.slice ac zs.length cc) := by rw [hW5]; go_simp
  have HW5 := Lib.hid hW5; clear hW5
  have ro5 := ro4.below b5 (Nat.le_refl _)
  have rc5 := rc.below b5 (Nat.le_refl _)
  refine (HP.out _ _ _ hx (ro5.ints co)).mono ?_
  rintro e w6 ⟨ap, cp', rfl, hown, b6⟩
  obtain ⟨ap', cp'', gp, hap, hgp, rp⟩ := row_at hown rfl
  cases hap
  clear hown HP
  have hgp2 : 0 < z1.length → gp < w6.heap.size := rp.lt
  have ro6 := ro5.below b6 (Nat.le_refl _)
  have rc6 := rc5.below b6 (Nat.le_refl _)
  have k7' := keepl b6 k7
  have hs6 := b6.size
  clear k7 ro ro3 ro4 ro5 rc rc5 y0 y1 y2 y3 y4 y5
  have b16 : Below w1.heap.size w1 w6 := ((((b2.trans (b3.mono b2.size)).trans (b4.mono (by omega))).trans (b5.mono (by omega))).trans (b6.mono (by omega)))
  have hL6 := hL'.below b16 (by omega)
  have k8 : (w6.alloc (.cells #[.int .i64 k, .int .i64 i1, .int .i64 cc1, .int .i64 n1, .bool f1, .slice ap z1.length cp'] 41)).cell? ⟨w6.heap.size, 5, none⟩ = some (.slice ap z1.length cp') := by go_simp
  have hIv : IntsAt ((w6.alloc (.cells #[.int .i64 k, .int .i64 i1, .int .i64 cc1, .int .i64 n1, .bool f1, .slice ap z1.length cp'] 41)).alloc (.cells #[] 2)) (.slice av vs.length cv) vs := (hL6.below (m := w6.heap.size) (((Below.refl _ w6).alloc (Nat.le_refl _) _).alloc (by simp) _) (by omega)).ints (by first | (simp; done) | (simp; omega))
  have hmade : ((w6.alloc (.cells #[.int .i64 k, .int .i64 i1, .int .i64 cc1, .int .i64 n1, .bool f1, .slice ap z1.length cp'] 41)).alloc (.cells #[] 2)).ownsRow (w6.heap.size + 1) 2 1 (.slice (some ⟨w6.heap.size + 1, 0, none⟩) 0 0) 0 [] := by
    have := World.ownsRow_made (w6.alloc (.cells #[.int .i64 k, .int .i64 i1, .int .i64 cc1, .int .i64 n1, .bool f1, .slice ap z1.length cp'] 41)) (base := w6.heap.size + 1) (e := 2) (size := 1) #[] 0 (by simp) (by decide) rfl
    simpa using this
  have hbase : w6.heap.size + 1 ≤ ((w6.alloc (.cells #[.int .i64 k, .int .i64 i1, .int .i64 cc1, .int .i64 n1, .bool f1, .slice ap z1.length cp'] 41)).alloc (.cells #[] 2)).heap.size := by simp
  go_wp2_with (at_builtin; go_must (refine wpList_append_ints rfl _ _ rfl (w6.heap.size + 1) _ 0 [] rfl hmade _ vs rfl hIv (by omega) hbase ?_; intro vw w8 hown hgrow; obtain ⟨aw, cw, gw, rfl, hgw, rw8⟩ := row_at (zs := vs) (show w8.ownsRow (w6.heap.size + 1) _ 1 _ (0 + vs.length) (vs.map _) from hown) (Nat.zero_add _); have b8' : Below (w6.heap.size + 1) (w6.alloc (.cells #[.int .i64 k, .int .i64 i1, .int .i64 cc1, .int .i64 n1, .bool f1, .slice ap z1.length cp'] 41)) w8 := ((Below.refl _ _).alloc (by simp) _).grown hgrow (by simp) (fun k e => by cases e; simp); have k8' := keepc b8' (Nat.lt_succ_self _) k8; have b8 : Below w6.heap.size w6 w8 := ((Below.refl _ _).alloc (Nat.le_refl _) _).trans (b8'.mono (Nat.le_succ _)); have k7 := keepl b8 k7'; have hs8 : w6.heap.size + 1 ≤ w8.heap.size := Nat.le_trans (by simp) b8'.size; clear hown hgrow b8' k8 k7' hIv hmade hbase))
  have ro8 := ro6.below b8 (Nat.le_refl _)
  have rc8 := rc6.below b8 (Nat.le_refl _)
  have rp8 := rp.below b8 (Nat.le_refl _)
  have hgw2 : 0 < vs.length → gw < w8.heap.size := rw8.lt
  clear ro6 rc6 rp
  refine (HN.out _ _ _ hy (rw8.ints cw)).mono ?_
  rintro e w9 ⟨an, cn, rfl, hown, b9⟩
  obtain ⟨an', cn', gn, han, hgn, rn⟩ := row_at hown rfl
  cases han
  clear hown HN
  have hs9 := b9.size
  have hgn2 : 0 < vs.length → gn < w9.heap.size := rn.lt
  go_wp2_with fail
  refine calls_named fun W10 hW10 => ?_
  have b10 : Below w9.heap.size w9 W10 := by rw [hW10]; exact (Below.refl _ _).alloc (Nat.le_refl _) _
  have hs10 : W10.heap.size = w9.heap.size + 1 := by rw [hW10]; simp
  have k10 : W10.cell? ⟨w9.heap.size, 5, none⟩ = some (.slice an vs.length cn) := by rw [hW10]; go_simp
  have HW10 := Lib.hid hW10; clear hW10
  have rw10 := (rw8.below b9 (Nat.le_refl _)).below b10 (Nat.le_refl _)
  refine (HQ.out _ _ _ hy (rw10.ints cw)).mono ?_
  rintro e w11 ⟨aq, cq, rfl, hown, b11⟩
  obtain ⟨aq', cq', gq, haq, hgq, rq⟩ := row_at hown rfl
  cases haq
  clear hown HQ
  have hs11 := b11.size
  have hgq2 : 0 < vs.length → gq < w11.heap.size := rq.lt
  have c8 : Below w8.heap.size w8 w11 := (b9.trans (b10.mono (by omega))).trans (b11.mono (by omega))
  have k7b := keepl c8 k7
  have k8b := keepl c8 k8'
  have k10b := keepl b11 k10
  clear k7 k8' k10
  go_wp2
  refine wp_named fun W hW => ?_
  have b12 : Below w11.heap.size w11 W := by rw [hW]; exact (Below.refl _ _).alloc (Nat.le_refl _) _
  have k11 : W.cell? ⟨w11.heap.size, 5, none⟩ = some (.slice aq vs.length cq) := by rw [hW]; go_simp
  have HW := Lib.hid hW; clear hW
  have c12 : Below w8.heap.size w8 W := c8.trans (b12.mono (by omega))
  have k7 := keepl b12 k7b
  have k8 := keepl b12 k8b
  have k10 := keepl b12 k10b
  have ro := ro8.below c12 (Nat.le_refl _)
  have rc := rc8.below c12 (Nat.le_refl _)
  have rp := rp8.below c12 (Nat.le_refl _)
  have rw_ := rw8.below c12 (Nat.le_refl _)
  have rn_ := (rn.below (b10.trans (b11.mono (by omega))) (Nat.le_refl _)).below b12 (by omega)
  have rq_ := rq.below b12 (Nat.le_refl _)
  have c1 : Below w1.heap.size w1 W := (b16.trans (b8.mono (by omega))).trans (c12.mono (by omega))
  have p := keepl c1 p5
  have hLo := hL.below c1 (by omega)
  have hLv := hL'.below c1 (by omega)
  have hB : Below w.heap.size w W := hB1.trans (c1.mono (by omega))
  clear k7b k8b k10b ro8 rc8 rp8 rw8 rw10 rn rq c1 c8 c12 b2 b3 b4 b5 b6 b8 b9 b10 b11 b12 b16 hL hL' hL6 hB1 p5 HW HW3 HW5 HW10 hE1 h h'
  go_loopw [12] (fun iv wr => ∃ kk : Nat, kk ≤ vs.length ∧ iv = .int .i64 kk ∧ Only gw vs.length W wr ∧ Below w.heap.size w wr ∧ ∃ ys : List Int, ys.length = vs.length ∧ RowAt wr gw aw ys) (fun iv _ => vs.length - (intOf iv).toNat)
  case atStart => exact ⟨0, Nat.zero_le _, rfl, Only.refl _ _ _, hB, vs, rfl, rw_⟩
  case round =>
    obtain ⟨kk, hkk, rfl, hon, hBx, ys, hys, hry⟩ := hrel
    by_cases hlt : kk < vs.length
    · obtain rfl := hry.addr (by omega)
      obtain ⟨x, hx_⟩ : ∃ x, x = ys.getD kk 0 := ⟨_, rfl⟩
      have hc := hry.cells kk (by omega)
      rw [← hx_] at hc
      have hf := hry.free (by omega) kk (by omega)
      clear hx_
      have hki : (0 : Int) ≤ (kk : Int) := by omega
      have hkl : (kk : Int) < (vs.length : Int) := by omega
      have HY := Lib.hid hys; clear hys
      go_wp2
      go_roundw
      case rel => exact ⟨kk + 1, by omega, by go_num, hon.set (by omega), hBx.setCell (p := ⟨gw, kk, none⟩) (by show w.heap.size ≤ gw; have := hgw (by omega); omega) _, _, by rw [List.length_set]; exact HY.out, hry.set (by rw [HY.out]; exact hlt) _⟩
      case measure => simp [intOf]; omega
    · have ro1 := ro.only hon (fun h0 h1 => by have := hgo2 h0; have := hgw h1; omega)
      have rc1 := rc.only hon (fun h0 h1 => by have := hgc2 h0; have := hgw h1; omega)
      have rp1 := rp.only hon (fun h0 h1 => by have := hgp2 h0; have := hgw h1; omega)
      have rn1 := rn_.only hon (fun h0 h1 => by have := hgn h0; have := hgw2 h1; omega)
      have rq1 := rq_.only hon (fun h0 h1 => by have := hgq h0; have := hgw2 h1; omega)
      have p1 := (hon.cell _ _ (fun h0 => by have := hgw h0; omega)).trans p
      have k71 := (hon.cell _ _ (fun h0 => by have := hgw h0; omega)).trans k7
      have k81 := (hon.cell _ _ (fun h0 => by have := hgw h0; omega)).trans k8
      have k101 := (hon.cell _ _ (fun h0 => by have := hgw2 h0; omega)).trans k10
      have k111 := (hon.cell _ _ (fun h0 => by have := hgw2 h0; omega)).trans k11
      have hLo1 := hLo.only hon (fun h0 => by have := hgw h0; omega)
      have hLv1 := hLv.only hon (fun h0 => by have := hgw h0; omega)
      have hs1' := hon.size
      obtain ⟨X0, rfl⟩ : ∃ X, X = wr := ⟨_, rfl⟩
      clear hry hys ro rc rp rn_ rq_ rw_ p k7 k8 k10 k11 hLo hLv hB hon
      go_wp2
      go_loopw [13] (fun iv wr2 => ∃ kk : Nat, kk ≤ zs.length ∧ iv = .int .i64 kk ∧ Only gc zs.length X0 wr2 ∧ Below w.heap.size w wr2 ∧ ∃ ys : List Int, ys.length = zs.length ∧ RowAt wr2 gc ac ys) (fun iv _ => zs.length - (intOf iv).toNat)
      case atStart => exact ⟨0, Nat.zero_le _, rfl, Only.refl _ _ _, hBx, zs, rfl, rc1⟩
      case round =>
        obtain ⟨kk, hkk, rfl, hon, hBx2, ys, hys, hry⟩ := hrel
        have k72 := (hon.cell _ _ (fun h0 => by have := hgc2 h0; omega)).trans k71
        by_cases hlt : kk < zs.length
        · obtain rfl := hry.addr (by omega)
          obtain ⟨x, hx_⟩ : ∃ x, x = ys.getD kk 0 := ⟨_, rfl⟩
          have hc := hry.cells kk (by omega)
          rw [← hx_] at hc
          have hf := hry.free (by omega) kk (by omega)
          clear hx_
          have hki : (0 : Int) ≤ (kk : Int) := by omega
          have hkl : (kk : Int) < (zs.length : Int) := by omega
          have HY := Lib.hid hys; clear hys
          go_wp2
          go_roundw
          case rel => exact ⟨kk + 1, by omega, by go_num, hon.set (by omega), hBx2.setCell (p := ⟨gc, kk, none⟩) (by show w.heap.size ≤ gc; have := hgc (by omega); omega) _, _, by rw [List.length_set]; exact HY.out, hry.set (by rw [HY.out]; exact hlt) _⟩
          case measure => simp [intOf]; omega
        · have ro2 := ro1.only hon (fun h0 h1 => by have := hgo2 h0; have := hgc h1; omega)
          have rp2 := rp1.only hon (fun h0 h1 => by have := hgp h0; have := hgc2 h1; omega)
          have rn2 := rn1.only hon (fun h0 h1 => by have := hgn h0; have := hgc2 h1; omega)
          have rq2 := rq1.only hon (fun h0 h1 => by have := hgq h0; have := hgc2 h1; omega)
          have p2 := (hon.cell _ _ (fun h0 => by have := hgc h0; omega)).trans p1
          have k82 := (hon.cell _ _ (fun h0 => by have := hgc2 h0; omega)).trans k81
          have k102 := (hon.cell _ _ (fun h0 => by have := hgc2 h0; omega)).trans k101
          have k112 := (hon.cell _ _ (fun h0 => by have := hgc2 h0; omega)).trans k111
          have hLo2 := hLo1.only hon (fun h0 => by have := hgc h0; omega)
          have hLv2 := hLv1.only hon (fun h0 => by have := hgc h0; omega)
          have hs2' := hon.size
          obtain ⟨X1, rfl⟩ : ∃ X, X = wr := ⟨_, rfl⟩
          clear hry hys ro1 rc1 rp1 rn1 rq1 p1 k71 k81 k101 k111 hLo1 hLv1 hBx hon
          go_wp2
          go_loopw [14] (fun iv wr3 => ∃ kk : Nat, kk ≤ z1.length ∧ iv = .int .i64 kk ∧ Only gp z1.length X1 wr3 ∧ Below w.heap.size w wr3 ∧ ∃ ys : List Int, ys.length = z1.length ∧ RowAt wr3 gp ap ys) (fun iv _ => z1.length - (intOf iv).toNat)
          case atStart => exact ⟨0, Nat.zero_le _, rfl, Only.refl _ _ _, hBx2, z1, rfl, rp2⟩
          case round =>
            obtain ⟨kk, hkk, rfl, hon, hBx3, ys, hys, hry⟩ := hrel
            have k83 := (hon.cell _ _ (fun h0 => by have := hgp2 h0; omega)).trans k82
            by_cases hlt : kk < z1.length
            · obtain rfl := hry.addr (by omega)
              obtain ⟨x, hx_⟩ : ∃ x, x = ys.getD kk 0 := ⟨_, rfl⟩
              have hc := hry.cells kk (by omega)
              rw [← hx_] at hc
              have hf := hry.free (by omega) kk (by omega)
              clear hx_
              have hki : (0 : Int) ≤ (kk : Int) := by omega
              have hkl : (kk : Int) < (z1.length : Int) := by omega
              have HY := Lib.hid hys; clear hys
              go_wp2
              go_roundw
              case rel => exact ⟨kk + 1, by omega, by go_num, hon.set (by omega), hBx3.setCell (p := ⟨gp, kk, none⟩) (by show w.heap.size ≤ gp; have := hgp (by omega); omega) _, _, by rw [List.length_set]; exact HY.out, hry.set (by rw [HY.out]; exact hlt) _⟩
              case measure => simp [intOf]; omega
            · have ro3 := ro2.only hon (fun h0 h1 => by have := hgo2 h0; have := hgp h1; omega)
              have rn3 := rn2.only hon (fun h0 h1 => by have := hgn h0; have := hgp2 h1; omega)
              have rq3 := rq2.only hon (fun h0 h1 => by have := hgq h0; have := hgp2 h1; omega)
              have p3 := (hon.cell _ _ (fun h0 => by have := hgp h0; omega)).trans p2
              have k103 := (hon.cell _ _ (fun h0 => by have := hgp2 h0; omega)).trans k102
              have k113 := (hon.cell _ _ (fun h0 => by have := hgp2 h0; omega)).trans k112
              have hLo3 := hLo2.only hon (fun h0 => by have := hgp h0; omega)
              have hLv3 := hLv2.only hon (fun h0 => by have := hgp h0; omega)
              have hs3' := hon.size
              have hlo3 := hLo3.ints (Nat.le_of_lt (cell_lt p3))
              have hlv3 := hLv3.ints (Nat.le_of_lt (cell_lt p3))
              clear hry hys ro2 rp2 rn2 rq2 p2 k72 k82 k102 k112 hLo2 hLv2 hBx2 hon hLo3 hLv3
              go_wp2_with fail
              refine (HS1.out _ _ _ (ro3.ints co) hlo3).mono ?_
              rintro e x1 ⟨rfl, hb1⟩
              have k104 := keepl hb1 k103
              have k114 := keepl hb1 k113
              have rn4 := rn3.below hb1 (Nat.le_refl _)
              have rq4 := rq3.below hb1 (Nat.le_refl _)
              have hlv4 := hlv3.below hb1
              clear k103 k113 rn3 rq3 p3 k83
              go_wp2_with fail
              refine (HS2.out _ _ _ (rn4.ints cn) hlv4).mono ?_
              rintro e x2 ⟨rfl, hb2⟩
              have k115 := keepl hb2 k114
              have rq5 := rq4.below hb2 (Nat.le_refl _)
              have hlv5 := hlv4.below hb2
              clear k104 k114 rn4 rq4
              go_wp2_with fail
              refine (HS2.out _ _ _ (rq5.ints cq) hlv5).mono ?_
              rintro e x3 ⟨rfl, hb3⟩
              have hB1 := hBx3.trans (hb1.mono hBx3.size)
              have hB2 := hB1.trans (hb2.mono hB1.size)
              go_wp2
              go_ret
              exact ⟨rfl, hB2.trans (hb3.mono hB2.size)⟩
theorem opKeeps_walk (k i c n : Int) (f : Bool) (a : Option Addr) (l cp : Nat) (zs : List Int) (av : Option Addr) (lv cv : Nat) (vs : List Int) (w : World) (hE : ErrType w) (h : IntsAt w (.slice a l cp) zs) (h' : IntsAt w (.slice av lv cv) vs) (hz : zs.length = l) (hv : vs.length = lv) :
    Calls Tryd.prog 10 #[opV k i c n f (.slice a l cp), .slice av lv cv] w fun r w' => r = .returned (.bool true) ∧ Below w.heap.size w w' := by
  by_cases h1 : (100 : Int) < (l : Int)
  · exact opKeeps_1 k i c n f a l cp zs av lv cv vs w hE h h' h1
  by_cases h2 : (100 : Int) < (lv : Int)
  · exact opKeeps_2 k i c n f a l cp zs av lv cv vs w hE h h' h1 h2
  exact opKeeps_3 k i c n f a l cp zs av lv cv vs w hE h h' hz hv h1 h2
end Go.Proofs.YtcegipkhmibdeaaDoor
