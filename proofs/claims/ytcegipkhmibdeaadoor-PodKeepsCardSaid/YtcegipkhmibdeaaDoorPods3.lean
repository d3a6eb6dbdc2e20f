/- What the Pod laws share, part 3: PodR, PodS, PodT, PodU, PodV, PodW, PodX, PodY, PodZ, PoeA, PoeB. -/
import Derived.Test.YtcegipkhmibdeaaDoorPods2
import Derived.RangeFuncNested
import Derived.RangeFuncLeaves
import Derived.BigQuiet
import Derived.LoopIn
import Derived.LoopNIn
import Derived.OwnWalkIn
import Derived.TacticsInMore
import Derived.Maps.OwnIn
import Derived.Shelf.Abstract
/- Store.Submit, where the table takes the pod. -/
namespace Go.Proofs.YtcegipkhmibdeaaDoor
set_option linter.all false
open Go.RowKit

theorem ownsRow_int {w : World} {base : Nat} {a : Option Addr} {l cap : Nat} {zs : List Int} (h : w.ownsRow base 2 1 (.slice a l cap) l (zs.map (Value.int .i64))) (hl : l = zs.length) : IntsIn (fun b => base ≤ b) w (.slice a l cap) zs := by
  subst hl
  refine ⟨a, cap, rfl, ?_⟩
  rcases h.2 with ⟨_, h0⟩ | ⟨g, cap', cur, hv, hB, hc, hn, hm, hs, ht⟩
  · exact .inl (List.eq_nil_of_length_eq_zero h0)
  · injection hv with hv _ hcc
    subst hv
    refine .inr ⟨g, 0, rfl, hB, (Array.getElem?_eq_some_iff.1 hc).1, fun j hj => ?_⟩
    have := h.cells (g := g) rfl j (.int .i64 (zs.getD j 0)) (by rw [List.getElem?_map, List.getElem?_eq_getElem hj, List.getD_eq_getElem?_getD, List.getElem?_eq_getElem hj]; rfl)
    rw [add_mk] at this
    exact this
/-- What Submit leaves where the table takes the pod: the store, and a pod of one's own in blocks that it does not know. -/
def SubOk (m : Mem) (B : Nat) (X : Nat → Prop) (size : Int) (ps : List Pod) (p : Pod) (w : World) (e : Ending) (w' : World) : Prop :=
  ∃ g' a cap c, e = .returned (.tuple #[podV p (.slice a p.req.length cap), .nilIface]) ∧ StoreAt { m with gi := g' } B (fun b => ((X b ∧ b < w.heap.size) ∨ w.heap.size ≤ b) ∧ b < c) w' size (ps ++ [p]) ∧ (g' = m.gi ∨ w.heap.size ≤ g') ∧ g' < c ∧ w.heap.size ≤ c ∧ Stays (Off m) w w' ∧ w'.ownsRow c 2 1 (.slice a p.req.length cap) p.req.length (p.req.map (Value.int .i64))

set_option maxHeartbeats 4000000 in
set_option maxRecDepth 100000 in
theorem ssub_new {m : Mem} {B : Nat} {X : Nat → Prop} {size : Int} {ps : List Pod} (p : Pod) (rv : Value) (w : World) (hz : p.req.length * 8 ≤ 140737488351232) (h : StoreAt m B X w size ps) (hi : IntsAt w rv p.req) (h0 : 0 ≤ size) (h1 : size ≤ 9223372036854775807) (hx : (ps.length + 1) * 9 * 8 ≤ 140737488351232) (hh : findI ps 0 p.id = -1) (hs : ¬ size = ps.length) :
    Calls Tryd.prog 56 #[.pointer (some ⟨m.bs, 0, none⟩), podV p rv] w (SubOk m B X size ps (newPod ps p) w) := by
  obtain ⟨rvs, hm, hri⟩ := h.map
  have hx' := hx
  replace hx : ps.length * 9 * 8 ≤ 140737488351232 := by omega
  have hbs := cell_lt h.c0
  have hsl : p.req.length * 8 ≤ 140737488351232 := hz
  have hB0 : Below w.heap.size w ((w.alloc (.cells #[.int .i64 p.id, .int .i64 p.prio, .bool p.pre, .int .i64 p.grace, rv, .int .i64 p.arr, .int .i64 p.ph, .int .i64 p.node, .int .i64 p.dead] 65)).alloc (.cells z9 65)) := ((Below.refl _ w).alloc (Nat.le_refl _) _).alloc (by simp) _
  have HC := Lib.hid (copied_any p rv _ hz (hi.below hB0))
  have HS := Lib.hid h
  have HZ := Lib.hid hz
  obtain ⟨l, hl⟩ : ∃ l, l = p.req.length := ⟨_, rfl⟩
  have HL := Lib.hid hl; clear hl
  obtain ⟨ia, ic, hids, hrow, hi0, hi1⟩ := h.ids
  have hc0 := h.c0
  have hf0 := h.f0
  obtain ⟨n, hn⟩ : ∃ n, n = ps.length := ⟨_, rfl⟩
  rw [← hn] at hids
  have HN := Lib.hid hn; clear hn
  clear h hi hz hsl
  have HB0 := Lib.hid hB0; clear hB0
  go_enter Tryd.func56, Tryd.ntmps56
  go_wp2_with fail
  refine HC.out.mono ?_
  rintro e w1 ⟨a1, c1, rfl, hown, hb⟩
  rw [← HL.out] at hown ⊢
  obtain ⟨hc, hf⟩ := bcell hb
  have hsz := hb.size
  have q0 : w1.cell? ⟨w.heap.size, 0, none⟩ = some (.int .i64 p.id) := by rw [hc _ _ (by simp; omega)]; go_simp
  have q1 : w1.cell? ⟨w.heap.size, 1, none⟩ = some (.int .i64 p.prio) := by rw [hc _ _ (by simp; omega)]; go_simp
  have q2 : w1.cell? ⟨w.heap.size, 2, none⟩ = some (.bool p.pre) := by rw [hc _ _ (by simp; omega)]; go_simp
  have q3 : w1.cell? ⟨w.heap.size, 3, none⟩ = some (.int .i64 p.grace) := by rw [hc _ _ (by simp; omega)]; go_simp
  have q4 : w1.cell? ⟨w.heap.size, 4, none⟩ = some (rv) := by rw [hc _ _ (by simp; omega)]; go_simp
  have q5 : w1.cell? ⟨w.heap.size, 5, none⟩ = some (.int .i64 p.arr) := by rw [hc _ _ (by simp; omega)]; go_simp
  have q6 : w1.cell? ⟨w.heap.size, 6, none⟩ = some (.int .i64 p.ph) := by rw [hc _ _ (by simp; omega)]; go_simp
  have q7 : w1.cell? ⟨w.heap.size, 7, none⟩ = some (.int .i64 p.node) := by rw [hc _ _ (by simp; omega)]; go_simp
  have q8 : w1.cell? ⟨w.heap.size, 8, none⟩ = some (.int .i64 p.dead) := by rw [hc _ _ (by simp; omega)]; go_simp
  have z0 : w1.cell? ⟨w.heap.size + 1, 0, none⟩ = some (.int .i64 0) := by rw [hc _ _ (by simp)]; go_simp
  have z1 : w1.cell? ⟨w.heap.size + 1, 1, none⟩ = some (.int .i64 0) := by rw [hc _ _ (by simp)]; go_simp
  have z2 : w1.cell? ⟨w.heap.size + 1, 2, none⟩ = some (.bool false) := by rw [hc _ _ (by simp)]; go_simp
  have z3 : w1.cell? ⟨w.heap.size + 1, 3, none⟩ = some (.int .i64 0) := by rw [hc _ _ (by simp)]; go_simp
  have z4 : w1.cell? ⟨w.heap.size + 1, 4, none⟩ = some (.slice none 0 0) := by rw [hc _ _ (by simp)]; go_simp
  have z5 : w1.cell? ⟨w.heap.size + 1, 5, none⟩ = some (.int .i64 0) := by rw [hc _ _ (by simp)]; go_simp
  have z6 : w1.cell? ⟨w.heap.size + 1, 6, none⟩ = some (.int .i64 0) := by rw [hc _ _ (by simp)]; go_simp
  have z7 : w1.cell? ⟨w.heap.size + 1, 7, none⟩ = some (.int .i64 0) := by rw [hc _ _ (by simp)]; go_simp
  have z8 : w1.cell? ⟨w.heap.size + 1, 8, none⟩ = some (.int .i64 0) := by rw [hc _ _ (by simp)]; go_simp
  have qf : ∀ f, w1.frozen? ⟨w.heap.size, f, none⟩ = false := fun f => by rw [hf _ _ (by simp; omega)]; go_simp
  have zf : ∀ f, w1.frozen? ⟨w.heap.size + 1, f, none⟩ = false := fun f => by rw [hf _ _ (by simp)]; go_simp
  have hB1 : Below w.heap.size w w1 := HB0.out.trans (hb.mono (by simp; omega))
  have hsz1 : w.heap.size + 1 < w1.heap.size := by simp at hsz; omega
  have hO1 : w1.ownsRow (w.heap.size + 1 + 1) 2 1 (.slice a1 l c1) l (p.req.map (Value.int .i64)) := by simpa using hown
  have i1 := keepl hB1 hids
  have i0 := keepl hB1 hc0
  have HI1 := Lib.hid hids
  have HI0 := Lib.hid hc0
  clear hc hf hb hsz HC hown hids hc0
  go_wp2_with fail
  refine wp_named fun W hW => ?_
  have hBW : Below w.heap.size w W := by rw [hW]; repeat (first | (with_reducible exact hB1) | refine Below.setCell ?_ (by show _ ≤ _; simp only []; omega) _)
  have hszW : w.heap.size + 1 < W.heap.size := by rw [hW]; simpa using hsz1
  have hOW : W.ownsRow (w.heap.size + 1 + 1) 2 1 (.slice a1 l c1) l (p.req.map (Value.int .i64)) := by rw [hW]; repeat (first | (with_reducible exact hO1) | refine ownsRow_setCell_below ?_ (by show _ < _; simp only []; omega) _)
  have Q0 : W.cell? ⟨w.heap.size, 0, none⟩ = some (.int .i64 p.id) := by rw [hW]; go_simp
  have Q1 : W.cell? ⟨w.heap.size, 1, none⟩ = some (.int .i64 p.prio) := by rw [hW]; go_simp
  have Q2 : W.cell? ⟨w.heap.size, 2, none⟩ = some (.bool p.pre) := by rw [hW]; go_simp
  have Q3 : W.cell? ⟨w.heap.size, 3, none⟩ = some (.int .i64 p.grace) := by rw [hW]; go_simp
  have Q4 : W.cell? ⟨w.heap.size, 4, none⟩ = some (.slice a1 l c1) := by rw [hW]; go_simp
  have Q5 : W.cell? ⟨w.heap.size, 5, none⟩ = some (.int .i64 p.arr) := by rw [hW]; go_simp
  have Q6 : W.cell? ⟨w.heap.size, 6, none⟩ = some (.int .i64 p.ph) := by rw [hW]; go_simp
  have Q7 : W.cell? ⟨w.heap.size, 7, none⟩ = some (.int .i64 p.node) := by rw [hW]; go_simp
  have Q8 : W.cell? ⟨w.heap.size, 8, none⟩ = some (.int .i64 p.dead) := by rw [hW]; go_simp
  have Z0 : W.cell? ⟨w.heap.size + 1, 0, none⟩ = some (.int .i64 0) := by rw [hW]; go_simp
  have Z1 : W.cell? ⟨w.heap.size + 1, 1, none⟩ = some (.int .i64 0) := by rw [hW]; go_simp
  have Z2 : W.cell? ⟨w.heap.size + 1, 2, none⟩ = some (.bool false) := by rw [hW]; go_simp
  have Z3 : W.cell? ⟨w.heap.size + 1, 3, none⟩ = some (.int .i64 0) := by rw [hW]; go_simp
  have Z4 : W.cell? ⟨w.heap.size + 1, 4, none⟩ = some (.slice none 0 0) := by rw [hW]; go_simp
  have Z5 : W.cell? ⟨w.heap.size + 1, 5, none⟩ = some (.int .i64 0) := by rw [hW]; go_simp
  have Z6 : W.cell? ⟨w.heap.size + 1, 6, none⟩ = some (.int .i64 0) := by rw [hW]; go_simp
  have Z7 : W.cell? ⟨w.heap.size + 1, 7, none⟩ = some (.int .i64 0) := by rw [hW]; go_simp
  have Z8 : W.cell? ⟨w.heap.size + 1, 8, none⟩ = some (.int .i64 0) := by rw [hW]; go_simp
  have Qf : ∀ f, W.frozen? ⟨w.heap.size, f, none⟩ = false := fun f => by rw [hW]; go_simp
  have Zf : ∀ f, W.frozen? ⟨w.heap.size + 1, f, none⟩ = false := fun f => by rw [hW]; go_simp
  have I1 : W.cell? ⟨m.bs, 1, none⟩ = some (.slice ia n ic) := by rw [hW]; go_simp
  have I0 : W.cell? ⟨m.bs, 0, none⟩ = some (.pointer (some ⟨m.bt, 0, none⟩)) := by rw [hW]; go_simp
  clear hW
  clear q0 q1 q2 q3 q4 q5 q6 q7 q8 z0 z1 z2 z3 z4 z5 z6 z7 z8 qf zf i0 i1 hO1 hB1 hsz1
  have hlW : w.heap.size < W.heap.size := by omega
  go_region
  go_wp2_with fail
  refine wp_named fun V hV => ?_
  have hBV : Below w.heap.size w V := by rw [hV]; repeat (first | (with_reducible exact hBW) | refine Below.drew ?_ | refine Below.alloc ?_ (by show _ ≤ _; simp; omega) _ | refine Below.setCell ?_ (by show _ ≤ _; simp only []; omega) _)
  have hszV : V.heap.size = W.heap.size + 1 := by rw [hV]; simp
  have hOV : V.ownsRow (w.heap.size + 1 + 1) 2 1 (.slice a1 l c1) l (p.req.map (Value.int .i64)) := by rw [hV]; repeat (first | (with_reducible exact hOW) | with_reducible refine World.ownsRow.alloc ?_ _ | with_reducible refine ownsRow_drew ?_ | refine ownsRow_setCell_below ?_ (by show _ < _; simp only []; omega) _)
  have V0 : V.cell? ⟨w.heap.size, 0, none⟩ = some (.int .i64 p.id) := by rw [hV]; go_simp
  have V1 : V.cell? ⟨w.heap.size, 1, none⟩ = some (.int .i64 p.prio) := by rw [hV]; go_simp
  have V2 : V.cell? ⟨w.heap.size, 2, none⟩ = some (.bool p.pre) := by rw [hV]; go_simp
  have V3 : V.cell? ⟨w.heap.size, 3, none⟩ = some (.int .i64 p.grace) := by rw [hV]; go_simp
  have V4 : V.cell? ⟨w.heap.size, 4, none⟩ = some (.slice a1 l c1) := by rw [hV]; go_simp
  have V5 : V.cell? ⟨w.heap.size, 5, none⟩ = some (.int .i64 (n : Int)) := by rw [hV]; go_simp
  have V6 : V.cell? ⟨w.heap.size, 6, none⟩ = some (.int .i64 1) := by rw [hV]; go_simp
  have V7 : V.cell? ⟨w.heap.size, 7, none⟩ = some (.int .i64 (-1)) := by rw [hV]; go_simp
  have V8 : V.cell? ⟨w.heap.size, 8, none⟩ = some (.int .i64 (-1)) := by rw [hV]; go_simp
  have Y0 : V.cell? ⟨w.heap.size + 1, 0, none⟩ = some (.int .i64 0) := by rw [hV]; go_simp
  have Y1 : V.cell? ⟨w.heap.size + 1, 1, none⟩ = some (.int .i64 0) := by rw [hV]; go_simp
  have Y2 : V.cell? ⟨w.heap.size + 1, 2, none⟩ = some (.bool false) := by rw [hV]; go_simp
  have Y3 : V.cell? ⟨w.heap.size + 1, 3, none⟩ = some (.int .i64 0) := by rw [hV]; go_simp
  have Y4 : V.cell? ⟨w.heap.size + 1, 4, none⟩ = some (.slice none 0 0) := by rw [hV]; go_simp
  have Y5 : V.cell? ⟨w.heap.size + 1, 5, none⟩ = some (.int .i64 0) := by rw [hV]; go_simp
  have Y6 : V.cell? ⟨w.heap.size + 1, 6, none⟩ = some (.int .i64 0) := by rw [hV]; go_simp
  have Y7 : V.cell? ⟨w.heap.size + 1, 7, none⟩ = some (.int .i64 0) := by rw [hV]; go_simp
  have Y8 : V.cell? ⟨w.heap.size + 1, 8, none⟩ = some (.int .i64 0) := by rw [hV]; go_simp
  have Vf : ∀ f, V.frozen? ⟨w.heap.size, f, none⟩ = false := fun f => by rw [hV]; go_simp
  have Yf : ∀ f, V.frozen? ⟨w.heap.size + 1, f, none⟩ = false := fun f => by rw [hV]; go_simp
  have J1 : V.cell? ⟨m.bs, 1, none⟩ = some (.slice ia n ic) := keepl hBV HI1.out
  have J0 : V.cell? ⟨m.bs, 0, none⟩ = some (.pointer (some ⟨m.bt, 0, none⟩)) := keepl hBV HI0.out
  have C0 : V.cell? ⟨W.heap.size, 0, none⟩ = some (.int .i64 0) := by rw [hV]; go_simp
  have Cf : V.frozen? ⟨W.heap.size, 0, none⟩ = false := by rw [hV]; go_simp
  clear hV
  clear Q0 Q1 Q2 Q3 Q4 Q5 Q6 Q7 Q8 Z0 Z1 Z2 Z3 Z4 Z5 Z6 Z7 Z8 Qf Zf I1 I0 hOW
  have hlV : w.heap.size < V.heap.size := by omega
  clear hBW
  have hbm : w.heap.size ≠ m.bm := by obtain ⟨rvs, hm, -⟩ := HS.out.map; have := hm.lt; omega
  have hsm : m.bs ≠ m.bm := HS.out.ne.2.2.1
  have HK : Hid (∀ w' : World, Stays (fun b => b ≠ m.bm) V w' → (w'.cell? ⟨w.heap.size, 0, none⟩ = some (.int .i64 p.id) ∧ w'.cell? ⟨w.heap.size, 1, none⟩ = some (.int .i64 p.prio) ∧ w'.cell? ⟨w.heap.size, 2, none⟩ = some (.bool p.pre) ∧ w'.cell? ⟨w.heap.size, 3, none⟩ = some (.int .i64 p.grace) ∧ w'.cell? ⟨w.heap.size, 4, none⟩ = some (.slice a1 l c1) ∧ w'.cell? ⟨w.heap.size, 5, none⟩ = some (.int .i64 (n : Int)) ∧ w'.cell? ⟨w.heap.size, 6, none⟩ = some (.int .i64 1) ∧ w'.cell? ⟨w.heap.size, 7, none⟩ = some (.int .i64 (-1)) ∧ w'.cell? ⟨w.heap.size, 8, none⟩ = some (.int .i64 (-1)) ∧ w'.cell? ⟨m.bs, 0, none⟩ = some (.pointer (some ⟨m.bt, 0, none⟩)))) := fun w' h => ⟨h.cell hbm V0, h.cell hbm V1, h.cell hbm V2, h.cell hbm V3, h.cell hbm V4, h.cell hbm V5, h.cell hbm V6, h.cell hbm V7, h.cell hbm V8, h.cell hsm J0⟩
  have hv0 : Stays (fun b => b ≠ m.bm) V V.drew := Stays.of (Below.refl _ _).drew
  have hbml := hm.lt
  have hb2 : hasP ps p.id = false := by unfold hasP; rw [hh]; rfl
  have HA : Hid (Calls Tryd.prog 104 #[.pointer (some ⟨m.bt, 0, none⟩), .int .i64 p.id, .agg #[.int .i64 p.id, .int .i64 p.prio, .bool p.pre, .int .i64 p.grace, .slice a1 l c1, .int .i64 (n : Int), .int .i64 1, .int .i64 (-1), .int .i64 (-1)]] V.drew fun e w' => e = .returned .nilIface ∧ Stays (fun b => b ≠ m.bm) V.drew w' ∧ MapAt w' m.bm (ps ++ [newPod ps p]) (rvs ++ [.slice a1 l c1])) := Lib.hid (by
    have hVd : Below w.heap.size w V.drew := hBV.trans (((Below.refl _ V).drew).mono hBV.size)
    have h : Calls Tryd.prog 104 #[.pointer (some ⟨m.bt, 0, none⟩), .int .i64 p.id, .agg #[.int .i64 p.id, .int .i64 p.prio, .bool p.pre, .int .i64 p.grace, .slice a1 l c1, .int .i64 (ps.length : Int), .int .i64 1, .int .i64 (-1), .int .i64 (-1)]] V.drew fun e w' => e = .returned .nilIface ∧ Stays (fun b => b ≠ m.bm) V.drew w' ∧ MapAt w' m.bm (ps ++ [newPod ps p]) (rvs ++ [.slice a1 l c1]) := tadd_new (newPod ps p) (.slice a1 l c1) V.drew (HS.out.below hVd) h0 h1 hx hh hs (hm.below hVd hm.lt)
    rw [HN.out]
    exact h)
  clear hb2
  go_region_held3 (fun w' => w'.cell? ⟨w.heap.size, 0, none⟩ = some (.int .i64 p.id) ∧ w'.cell? ⟨w.heap.size, 1, none⟩ = some (.int .i64 p.prio) ∧ w'.cell? ⟨w.heap.size, 2, none⟩ = some (.bool p.pre) ∧ w'.cell? ⟨w.heap.size, 3, none⟩ = some (.int .i64 p.grace) ∧ w'.cell? ⟨w.heap.size, 4, none⟩ = some (.slice a1 l c1) ∧ w'.cell? ⟨w.heap.size, 5, none⟩ = some (.int .i64 (n : Int)) ∧ w'.cell? ⟨w.heap.size, 6, none⟩ = some (.int .i64 1) ∧ w'.cell? ⟨w.heap.size, 7, none⟩ = some (.int .i64 (-1)) ∧ w'.cell? ⟨w.heap.size, 8, none⟩ = some (.int .i64 (-1)) ∧ w'.cell? ⟨m.bs, 0, none⟩ = some (.pointer (some ⟨m.bt, 0, none⟩)))
    (first
      | exact HK.out _ hg1
      | exact HK.out _ hv0
      | go_keep)
    (first
      | (go_at_call 104; ((with_reducible refine HA.out.mono ?_)); rintro e w3 ⟨rfl, hb3, hm3⟩; have hg1 : Stays (fun b => b ≠ m.bm) V w3 := hv0.trans hb3))
  have V0 := hg1.cell hbm V0
  have V1 := hg1.cell hbm V1
  have V2 := hg1.cell hbm V2
  have V3 := hg1.cell hbm V3
  have V4 := hg1.cell hbm V4
  have V5 := hg1.cell hbm V5
  have V6 := hg1.cell hbm V6
  have V7 := hg1.cell hbm V7
  have V8 := hg1.cell hbm V8
  have Y0 := hg1.cell (show w.heap.size + 1 ≠ m.bm by omega) Y0
  have Y1 := hg1.cell (show w.heap.size + 1 ≠ m.bm by omega) Y1
  have Y2 := hg1.cell (show w.heap.size + 1 ≠ m.bm by omega) Y2
  have Y3 := hg1.cell (show w.heap.size + 1 ≠ m.bm by omega) Y3
  have Y4 := hg1.cell (show w.heap.size + 1 ≠ m.bm by omega) Y4
  have Y5 := hg1.cell (show w.heap.size + 1 ≠ m.bm by omega) Y5
  have Y6 := hg1.cell (show w.heap.size + 1 ≠ m.bm by omega) Y6
  have Y7 := hg1.cell (show w.heap.size + 1 ≠ m.bm by omega) Y7
  have Y8 := hg1.cell (show w.heap.size + 1 ≠ m.bm by omega) Y8
  have Yf3 : ∀ f, w3.frozen? ⟨w.heap.size + 1, f, none⟩ = false := fun f => (hg1.frozen (by omega) (show w.heap.size + 1 ≠ m.bm by omega)).trans (Yf f)
  have Vf3 : ∀ f, w3.frozen? ⟨w.heap.size, f, none⟩ = false := fun f => (hg1.frozen (by omega) hbm).trans (Vf f)
  have J1 := hg1.cell hsm J1
  have J0 := hg1.cell hsm J0
  have Jf : ∀ f, w3.frozen? ⟨m.bs, f, none⟩ = false := fun f => (hg1.frozen (by omega) hsm).trans ((hBV.frozen (p := ⟨m.bs, f, none⟩) hbs).trans (hf0 f))
  have HNil := Lib.hid errorsAs_nil
  have hsz3 := hg1.size
  have HM3 := Lib.hid hm3
  have HG1 := Lib.hid hg1
  have HBV := Lib.hid hBV
  have HOV := Lib.hid hOV
  clear HA hb3 hm3 hg1 hv0 HK hBV hOV C0 Cf Yf Vf hf0 HB0 HI0
  go_wp2_with fail
  refine (HNil.out _ _).mono ?_
  rintro e w4 ⟨rfl, rfl⟩
  have hown3 : w3.ownsRow B 3 1 (.slice ia ps.length ic) ps.length (ps.map fun p => .int .i64 p.id) := by
    refine ownsRow_of_block hrow fun k hk => ?_
    have hkk := (World.ownsRow.lt hrow k hk).2
    have hk2 := StoreAt.idsBlock (ic := ic) hi0 hi1 k hk
    have h5 := HS.out.ne.2.2.2.2.1
    exact (HG1.out.block k (by omega) (by rw [hk2.1]; exact h5)).trans (HBV.out.block k hkk)
  have hne3 : (Value.slice ia ps.length ic).ownBlock ≠ some m.bs := fun e => by
    have hk2 := StoreAt.idsBlock (ic := ic) hi0 hi1 _ e
    exact HS.out.ne.2.2.2.2.2 hk2.2 hk2.1.symm
  have hne0 : (Value.slice ia ps.length ic).ownBlock ≠ some w.heap.size := fun e => by
    have hkk := (World.ownsRow.lt hrow _ e).2
    omega
  rw [← HN.out] at hown3 hne3 hne0 hx'
  have HO3 : Hid (∀ Wx, Below w3.heap.size w3 Wx → Wx.ownsRow B 3 1 (.slice ia n ic) n (ps.map fun p => .int .i64 p.id)) := fun Wx hWx => ownsRow_below hown3 hWx
  have HST : Hid (∀ Wx wa, Below w3.heap.size w3 Wx → Wx.grownBy wa (Value.slice ia n ic).ownBlock → wa.cell? ⟨m.bs, 1, none⟩ = some (.slice ia n ic) ∧ wa.frozen? ⟨m.bs, 1, none⟩ = false ∧ wa.cell? ⟨w.heap.size, 0, none⟩ = some (.int .i64 p.id)) := fun Wx wa h1 h2 => by
    have hs := Stays.grown (X := fun b => (Value.slice ia n ic).ownBlock ≠ some b) h2 (fun k hk hx => hx hk)
    have hl := h1.size
    refine ⟨hs.cell hne3 (keepl h1 J1), (hs.frozen (by omega) hne3).trans ((h1.frozen (p := ⟨m.bs, 1, none⟩) (by show m.bs < _; omega)).trans (Jf 1)), hs.cell hne0 (keepl h1 V0)⟩
  have hB3 : B ≤ w3.heap.size := by have := HS.out.bs; omega
  have HGI : Hid (∀ k, (Value.slice ia n ic).ownBlock = some k → k < w.heap.size) := fun k hk => (World.ownsRow.lt hrow k (by rw [HN.out] at hk; exact hk)).2
  clear hown3 hne3 hne0 hrow
  go_wp2_with fail
  have hsne : m.bs ≠ w.heap.size := by omega
  have hbs3 : m.bs < w3.heap.size := by omega
  have hn03 : w.heap.size < w3.heap.size := by omega
  have e1 : Below w3.heap.size w3 ((w3.alloc (.cells #[.int .i64 p.id] 3)).drew) := by repeat (first | exact Below.refl _ _ | refine Below.drew ?_ | refine Below.alloc ?_ (Nat.le_refl _) _)
  refine wp_region_noPanic ?_
  refine wp_region_held_drew (S := (fun w' => w'.cell? ⟨w.heap.size, 0, none⟩ = some (.int .i64 p.id))) (by kernel_rfl) ?_ (fun hHeld => ?_)
  · exact V0
  refine wpAnyH_take (i := 0) (v := ?_) rfl (by kernel_rfl) (by kernel_rfl) (by kernel_rfl) (fun _ _ _ h => h) (Or.inl ⟨by rfl, ?_⟩) (by assumption) ?_
  rotate_left
  · intro w hSw
    (try dsimp only at hSw)
    go_simp
    try with_reducible rfl
  try simp only [Act.put, List.setIfInBounds_toArray, List.set_cons_zero, List.set_cons_succ, List.getElem_toArray, List.getElem_cons_zero, List.getElem_cons_succ]
  refine wpAnyH_take (i := 1) (v := ?_) rfl (by kernel_rfl) (by kernel_rfl) (by kernel_rfl) (fun _ _ _ h => h) (Or.inl ⟨by rfl, ?_⟩) (by assumption) ?_
  rotate_left
  · intro w hSw
    (try dsimp only at hSw)
    go_simp
    try with_reducible rfl
  try simp only [Act.put, List.setIfInBounds_toArray, List.set_cons_zero, List.set_cons_succ, List.getElem_toArray, List.getElem_cons_zero, List.getElem_cons_succ]
  refine wpAnyH_take (i := 2) (v := ?_) rfl (by kernel_rfl) (by kernel_rfl) (by kernel_rfl) (fun _ _ _ h => h) (Or.inl ⟨by rfl, ?_⟩) (by assumption) ?_
  rotate_left
  · intro w hSw
    (try dsimp only at hSw)
    go_simp
    try with_reducible rfl
  try simp only [Act.put, List.setIfInBounds_toArray, List.set_cons_zero, List.set_cons_succ, List.getElem_toArray, List.getElem_cons_zero, List.getElem_cons_succ]
  refine wpAnyH_take (i := 3) (v := ?_) rfl (by kernel_rfl) (by kernel_rfl) (by kernel_rfl) (fun _ _ _ h => h) (Or.inl ⟨by rfl, ?_⟩) (by assumption) ?_
  rotate_left
  · intro w hSw
    (try dsimp only at hSw)
    go_simp
    try with_reducible rfl
  try simp only [Act.put, List.setIfInBounds_toArray, List.set_cons_zero, List.set_cons_succ, List.getElem_toArray, List.getElem_cons_zero, List.getElem_cons_succ]
  refine wpAnyH_take (i := 5) (v := ?_) rfl (by kernel_rfl) (by kernel_rfl) (by kernel_rfl) (fun _ _ _ h => h) (Or.inl ⟨by rfl, ?_⟩) (by assumption) ?_
  rotate_left
  · intro w hSw
    (try dsimp only at hSw)
    go_simp
    try with_reducible rfl
  try simp only [Act.put, List.setIfInBounds_toArray, List.set_cons_zero, List.set_cons_succ, List.getElem_toArray, List.getElem_cons_zero, List.getElem_cons_succ]
  refine wpAnyH_take (i := 6) (v := ?_) rfl (by kernel_rfl) (by kernel_rfl) (by kernel_rfl) (fun _ _ _ h => h) (Or.inl ⟨by rfl, ?_⟩) (by assumption) ?_
  rotate_left
  · intro w hSw
    (try dsimp only at hSw)
    go_simp
    try with_reducible rfl
  try simp only [Act.put, List.setIfInBounds_toArray, List.set_cons_zero, List.set_cons_succ, List.getElem_toArray, List.getElem_cons_zero, List.getElem_cons_succ]
  refine wpAnyH_ready (rs := [4, 7]) (by kernel_rfl) (by simp) ?_
  refine AllReadyH.cons rfl (fun K hK => ?_) (AllReadyH.cons rfl (fun K hK => ?_) AllReadyH.nil)
  go_simp
  refine hK.out _ _ (by first | exact V0 | (show World.cell? _ _ = _; go_simp)) (fun hHeld => ?_)
  clear hK K
  try simp only [Act.put, List.setIfInBounds_toArray, List.set_cons_zero, List.set_cons_succ, List.getElem_toArray, List.getElem_cons_zero, List.getElem_cons_succ]
  refine wpAnyH_ready (rs := [7]) (by kernel_rfl) (by simp) ?_
  refine AllReadyH.cons rfl (fun K hK => ?_) AllReadyH.nil
  go_simp
  refine hK.out _ _ (by first | exact V0 | (show World.cell? _ _ = _; go_simp)) (fun hHeld => ?_)
  clear hK K
  try simp only [Act.put, List.setIfInBounds_toArray, List.set_cons_zero, List.set_cons_succ, List.getElem_toArray, List.getElem_cons_zero, List.getElem_cons_succ]
  refine wpAnyH_ready (rs := [8]) (by kernel_rfl) (by simp) ?_
  refine AllReadyH.cons rfl (fun K hK => ?_) AllReadyH.nil
  rw [if_pos (by rfl)]
  (refine wp_append_id (.tmp 41) (.tmp 44) rfl B (.slice ia n ic) n (ps.map fun p => .int .i64 p.id) rfl (HO3.out _ e1) w3.heap.size p.id rfl (by go_simp) (by omega) (Nat.le_trans hB3 e1.size) ?_); intro v2 wa hown2 hgr hnew; obtain ⟨a2, c2, rfl⟩ := ownsRow_shape hown2; obtain ⟨hk1, hk2, hk3⟩ := HST.out _ wa e1 hgr; have HO2 := Lib.hid hown2; have HGR := Lib.hid hgr; have HNW := Lib.hid hnew; clear hown2 hgr hnew
  refine hK.out _ _ (hk3) (fun hHeld => ?_)
  clear hK K
  try simp only [Act.put, List.setIfInBounds_toArray, List.set_cons_zero, List.set_cons_succ, List.getElem_toArray, List.getElem_cons_zero, List.getElem_cons_succ]
  refine wpAnyH_take (i := 9) (v := ?_) rfl (by kernel_rfl) (by kernel_rfl) (by kernel_rfl) (fun _ _ _ h => h) (Or.inl ⟨by rfl, ?_⟩) (by assumption) ?_
  rotate_left
  · intro w hSw
    (try dsimp only at hSw)
    go_simp
    try with_reducible rfl
  try simp only [Act.put, List.setIfInBounds_toArray, List.set_cons_zero, List.set_cons_succ, List.getElem_toArray, List.getElem_cons_zero, List.getElem_cons_succ]
  refine wpAnyH_take (i := 10) (v := ?_) rfl (by kernel_rfl) (by kernel_rfl) (by kernel_rfl) (fun _ _ _ h => h) (Or.inl ⟨by rfl, ?_⟩) (by assumption) ?_
  rotate_left
  · intro w hSw
    (try dsimp only at hSw)
    go_simp
    try with_reducible rfl
  try simp only [Act.put, List.setIfInBounds_toArray, List.set_cons_zero, List.set_cons_succ, List.getElem_toArray, List.getElem_cons_zero, List.getElem_cons_succ]
  refine wpAnyH_ready (rs := [11]) (by kernel_rfl) (by simp) ?_
  refine AllReadyH.cons rfl (fun K hK => ?_) AllReadyH.nil
  go_simp
  refine hK.out _ _ ((setCell_ne (.inl hsne)).trans hk3) (fun hHeld => ?_)
  clear hK K
  try simp only [Act.put, List.setIfInBounds_toArray, List.set_cons_zero, List.set_cons_succ, List.getElem_toArray, List.getElem_cons_zero, List.getElem_cons_succ]
  refine wpAnyH_done (by kernel_rfl) ?_ _
  refine NoPanic.normal ?_
  rotate_left
  go_simp
  refine hK.out _ _ (by first | exact V0 | (show World.cell? _ _ = _; go_simp)) (fun hHeld => ?_)
  clear hK K
  try simp only [Act.put, List.setIfInBounds_toArray, List.set_cons_zero, List.set_cons_succ, List.getElem_toArray, List.getElem_cons_zero, List.getElem_cons_succ]
  refine wpAnyH_ready (rs := [4]) (by kernel_rfl) (by simp) ?_
  refine AllReadyH.cons rfl (fun K hK => ?_) AllReadyH.nil
  go_simp
  refine hK.out _ _ (by first | exact V0 | (show World.cell? _ _ = _; go_simp)) (fun hHeld => ?_)
  clear hK K
  try simp only [Act.put, List.setIfInBounds_toArray, List.set_cons_zero, List.set_cons_succ, List.getElem_toArray, List.getElem_cons_zero, List.getElem_cons_succ]
  refine wpAnyH_ready (rs := [8]) (by kernel_rfl) (by simp) ?_
  refine AllReadyH.cons rfl (fun K hK => ?_) AllReadyH.nil
  rw [if_pos (by rfl)]
  (refine wp_append_id (.tmp 41) (.tmp 44) rfl B (.slice ia n ic) n (ps.map fun p => .int .i64 p.id) rfl (HO3.out _ e1) w3.heap.size p.id rfl (by go_simp) (by omega) (Nat.le_trans hB3 e1.size) ?_); intro v2 wa hown2 hgr hnew; obtain ⟨a2, c2, rfl⟩ := ownsRow_shape hown2; obtain ⟨hk1, hk2, hk3⟩ := HST.out _ wa e1 hgr; have HO2 := Lib.hid hown2; have HGR := Lib.hid hgr; have HNW := Lib.hid hnew; clear hown2 hgr hnew
  refine hK.out _ _ (hk3) (fun hHeld => ?_)
  clear hK K
  try simp only [Act.put, List.setIfInBounds_toArray, List.set_cons_zero, List.set_cons_succ, List.getElem_toArray, List.getElem_cons_zero, List.getElem_cons_succ]
  refine wpAnyH_take (i := 9) (v := ?_) rfl (by kernel_rfl) (by kernel_rfl) (by kernel_rfl) (fun _ _ _ h => h) (Or.inl ⟨by rfl, ?_⟩) (by assumption) ?_
  rotate_left
  · intro w hSw
    (try dsimp only at hSw)
    go_simp
    try with_reducible rfl
  try simp only [Act.put, List.setIfInBounds_toArray, List.set_cons_zero, List.set_cons_succ, List.getElem_toArray, List.getElem_cons_zero, List.getElem_cons_succ]
  refine wpAnyH_take (i := 10) (v := ?_) rfl (by kernel_rfl) (by kernel_rfl) (by kernel_rfl) (fun _ _ _ h => h) (Or.inl ⟨by rfl, ?_⟩) (by assumption) ?_
  rotate_left
  · intro w hSw
    (try dsimp only at hSw)
    go_simp
    try with_reducible rfl
  try simp only [Act.put, List.setIfInBounds_toArray, List.set_cons_zero, List.set_cons_succ, List.getElem_toArray, List.getElem_cons_zero, List.getElem_cons_succ]
  refine wpAnyH_ready (rs := [11]) (by kernel_rfl) (by simp) ?_
  refine AllReadyH.cons rfl (fun K hK => ?_) AllReadyH.nil
  go_simp
  refine hK.out _ _ ((setCell_ne (.inl hsne)).trans hk3) (fun hHeld => ?_)
  clear hK K
  try simp only [Act.put, List.setIfInBounds_toArray, List.set_cons_zero, List.set_cons_succ, List.getElem_toArray, List.getElem_cons_zero, List.getElem_cons_succ]
  refine wpAnyH_done (by kernel_rfl) ?_ _
  refine NoPanic.normal ?_
  all_goals
    obtain ⟨F, hF⟩ : ∃ F, F = wa.setCell ⟨m.bs, 1, none⟩ (.slice a2 (n + 1) c2) := ⟨_, rfl⟩
    have hids := HI1.out
    have hgr := HGR.out
    have hown2 := HO2.out
    have hnew := HNW.out
    rw [HN.out] at hids hgr hown2 hnew
    have hri3 : IntsIn (fun b => w.heap.size + 1 + 1 ≤ b) w3 (.slice a1 l c1) (newPod ps p).req := (ownsRow_int HOV.out HL.out).stays HG1.out fun b _ hb => by have : w.heap.size + 1 + 1 ≤ b := hb; show b ≠ m.bm; omega
    obtain ⟨g', hst, hg', hsty⟩ := StoreAt.push (N := fun b => w.heap.size + 1 + 1 ≤ b) (fun b hb => by have : w.heap.size + 1 + 1 ≤ b := hb; omega) HS.out hri hm.choose_spec.choose_spec.2.2 hids hi0 hi1 HBV.out HG1.out HM3.out e1 hgr hown2 hnew hri3
    rw [← HN.out, ← hF] at hst hsty
    rw [← hF]
    have hs2 : Stays (fun b => w.heap.size ≤ b) w3 F := by
      rw [hF]
      exact ((Stays.of e1).trans (Stays.grown HGR.out fun k hk hb => by have hl : w.heap.size ≤ k := hb; have := HGI.out k hk; omega)).trans (Stays.setCell (by omega))
    have V0 := hs2.cell (Nat.le_refl _) V0
    have V1 := hs2.cell (Nat.le_refl _) V1
    have V2 := hs2.cell (Nat.le_refl _) V2
    have V3 := hs2.cell (Nat.le_refl _) V3
    have V4 := hs2.cell (Nat.le_refl _) V4
    have V5 := hs2.cell (Nat.le_refl _) V5
    have V6 := hs2.cell (Nat.le_refl _) V6
    have V7 := hs2.cell (Nat.le_refl _) V7
    have V8 := hs2.cell (Nat.le_refl _) V8
    have Y0 := hs2.cell (Nat.le_succ _) Y0
    have Y1 := hs2.cell (Nat.le_succ _) Y1
    have Y2 := hs2.cell (Nat.le_succ _) Y2
    have Y3 := hs2.cell (Nat.le_succ _) Y3
    have Y4 := hs2.cell (Nat.le_succ _) Y4
    have Y5 := hs2.cell (Nat.le_succ _) Y5
    have Y6 := hs2.cell (Nat.le_succ _) Y6
    have Y7 := hs2.cell (Nat.le_succ _) Y7
    have Y8 := hs2.cell (Nat.le_succ _) Y8
    have Yf4 : ∀ f, F.frozen? ⟨w.heap.size + 1, f, none⟩ = false := fun f => (hs2.frozen (by omega) (Nat.le_succ _)).trans (Yf3 f)
    have hszF := hs2.size
    have hriF : IntsIn (fun b => w.heap.size + 1 + 1 ≤ b) F (.slice a1 l c1) (newPod ps p).req := hri3.stays hs2 fun b _ hb => by have : w.heap.size + 1 + 1 ≤ b := hb; omega
    have HC2 : Hid (Calls Tryd.prog 103 #[.agg #[.int .i64 p.id, .int .i64 p.prio, .bool p.pre, .int .i64 p.grace, .slice a1 l c1, .int .i64 (n : Int), .int .i64 1, .int .i64 (-1), .int .i64 (-1)]] F (RetPod F (newPod ps p))) := Lib.hid (by
      have h : Calls Tryd.prog 103 #[.agg #[.int .i64 p.id, .int .i64 p.prio, .bool p.pre, .int .i64 p.grace, .slice a1 l c1, .int .i64 (ps.length : Int), .int .i64 1, .int .i64 (-1), .int .i64 (-1)]] F (RetPod F (newPod ps p)) := copied_any (newPod ps p) (.slice a1 l c1) F HZ.out hriF.ints
      rw [HN.out]
      exact h)
    clear hriF hri3 hs2 hids hgr hown2 hnew HO2 HGR HNW hk1 hk2 hk3 e1 hF Yf3 HO3 HST J1 J0 Jf HNil HM3 HG1 HBV HOV
    go_wp2_with fail
    refine HC2.out.mono ?_
    rintro e w5 ⟨a5, c5, rfl, hown5, hb5⟩
    have hl5 := hb5.size
    have Y0 := keepl hb5 Y0
    have Y1 := keepl hb5 Y1
    have Y2 := keepl hb5 Y2
    have Y3 := keepl hb5 Y3
    have Y4 := keepl hb5 Y4
    have Y5 := keepl hb5 Y5
    have Y6 := keepl hb5 Y6
    have Y7 := keepl hb5 Y7
    have Y8 := keepl hb5 Y8
    have Yf5 : ∀ f, w5.frozen? ⟨w.heap.size + 1, f, none⟩ = false := fun f => (hb5.frozen (p := ⟨w.heap.size + 1, f, none⟩) (by show w.heap.size + 1 < _; omega)).trans (Yf4 f)
    go_wp2
    refine bodyPost_ret (v := .tuple #[podV (newPod ps p) (.slice a5 (newPod ps p).req.length c5), .nilIface]) ?_ rfl ?_
    · simp only [results, Tryd.results56]
      go_simp
    obtain ⟨ja, jc, j1, j2, j3, j4⟩ := hst.ids
    have hgF : g' < F.heap.size := (World.ownsRow.lt j2 g' (by rw [j4 (by simp)]; rfl)).2
    have hgn : g' ≠ w.heap.size + 1 := by
      rcases hg' with ⟨rfl, h0⟩ | rfl
      · have := HGI.out m.gi (by rw [HN.out, hi1 h0]; rfl); omega
      · simp; omega
    have hgm : g' = m.gi ∨ w.heap.size ≤ g' := by
      rcases hg' with ⟨rfl, h0⟩ | rfl
      · exact .inl rfl
      · right; simp; omega
    have hbtl := cell_lt HS.out.t0
    obtain ⟨G, hG⟩ : ∃ G, G = F := ⟨_, rfl⟩
    refine ⟨g', a5, c5, F.heap.size, rfl, ?_, hgm, hgF, by omega, ?_, ?_⟩
    · refine (hst.within.imp (Y := fun b => ((X b ∧ b < w.heap.size) ∨ w.heap.size + 1 + 1 ≤ b) ∧ b < F.heap.size) fun b _ hb => hb).stays (Y := fun b => b ≠ w.heap.size + 1) ?_ (by show m.bs ≠ _; omega) (by show m.bt ≠ _; omega) (by show m.bm ≠ _; omega) (fun _ => hgn) (fun b _ hb => by rcases hb.1 with hx | hx <;> (show b ≠ _; omega)) |>.imp fun b _ hb => ⟨hb.1.imp id fun h => by omega, hb.2⟩
      repeat (first | (with_reducible exact Stays.of hb5) | refine Stays.trans ?_ (Stays.setCell (by simp)))
    · refine Stays.imp (X := fun b => Off m b ∧ b < w.heap.size) ?_ fun b hb h => ⟨h, hb⟩
      repeat (first | (with_reducible exact (hsty.imp fun b _ h => h.1).trans (Stays.of hb5)) | refine Stays.trans ?_ (Stays.setCell (by simp)))
    · repeat (first | (with_reducible exact hown5) | refine ownsRow_setCell_below ?_ (by show _ < _; simp only []; omega) _)

end Go.Proofs.YtcegipkhmibdeaaDoor
/- What a turned pod makes of a store: plain law. -/
namespace Go.Proofs.YtcegipkhmibdeaaDoor
set_option linter.all false
open Go.RowKit

theorem ids_set : ∀ (ps : List Pod) (k : Nat) (np : Pod), k < ps.length → np.id = (podAt ps k).id → (ps.set k np).map (fun p => Value.int .i64 p.id) = ps.map fun p => Value.int .i64 p.id
  | [], k, np, hk, _ => by simp at hk
  | q :: ps, 0, np, _, h => by simp [show np.id = q.id from h]
  | q :: ps, k + 1, np, hk, h => by
    simp only [List.set_cons_succ, List.map_cons]
    rw [ids_set ps k np (by simpa using hk) h]
theorem getD_set {l : List Value} {k j : Nat} {v : Value} (hk : k < l.length) : (l.set k v).getD j undef = if j = k then v else l.getD j undef := by
  rw [List.getD_eq_getElem?_getD, List.getD_eq_getElem?_getD, List.getElem?_set]
  by_cases h : j = k
  · subst h; simp [hk]
  · rw [if_neg (fun e => h e.symm), if_neg h]
theorem StoreAt.turn {m : Mem} {B : Nat} {X N : Nat → Prop} {w V w3 : World} {size : Int} {ps : List Pod} {np : Pod} {rvs : List Value} {rv : Value} {k : Nat} (hN : ∀ b, N b → w.heap.size ≤ b) (h : StoreAt m B X w size ps)
    (hr : ∀ j, j < ps.length → IntsIn (fun b => Off m b ∧ X b) w (rvs.getD j undef) (podAt ps j).req) (hrl : rvs.length = ps.length) (hk : k < ps.length) (hid : np.id = (podAt ps k).id)
    (hwV : Below w.heap.size w V) (hV3 : Stays (fun b => b ≠ m.bm) V w3) (hm3 : MapAt w3 m.bm (ps.set k np) (rvs.set k rv)) (hri : IntsIn N w3 rv np.req) :
    StoreAt m B (fun b => (X b ∧ b < w.heap.size) ∨ N b) w3 size (ps.set k np) ∧ Stays (Off m) w w3 := by
  have hS : Stays (fun b => b ≠ m.bm) w w3 := (Stays.of hwV).trans hV3
  have hO : Stays (Off m) w w3 := hS.imp fun b _ hb => hb.2.1
  have hbsl := cell_lt h.c0
  have hbml : m.bm < w.heap.size := by obtain ⟨rvs', hm, _⟩ := h.map; exact hm.lt
  obtain ⟨e1, e2, e3, e4, e5, e6⟩ := h.ne
  obtain ⟨a, cap, i1, i2, i3, i4⟩ := h.ids
  have hgil : 0 < ps.length → m.gi < w.heap.size := fun h0 => by
    rw [i4 h0] at i2
    exact (World.ownsRow.lt i2 m.gi rfl).2
  refine ⟨⟨hS.cell e3 h.c0, hS.cell e2 h.t0, hS.cell e2 h.t1, ⟨a, cap, ?_, ?_, ?_, ?_⟩, ⟨_, hm3, ?_⟩, fun j => (hS.frozen hbsl e3).trans (h.f0 j), h.bs, h.bm, h.gi, e1, e2, e3, e4, e5, ?_⟩, hO⟩
  · rw [List.length_set]; exact hS.cell e3 i1
  · rw [List.length_set, ids_set ps k np hk hid]
    refine ownsRow_of_block i2 fun j hj => hS.block j (World.ownsRow.lt i2 j hj).2 ?_
    obtain ⟨rfl, h0⟩ := StoreAt.idsBlock (ic := cap) i3 i4 j hj
    exact e5
  · rw [List.length_set]; exact i3
  · rw [List.length_set]; exact i4
  · intro j hj
    rw [List.length_set] at hj
    rw [getD_set (by omega), podAt_set hk]
    by_cases hjk : j = k
    · rw [if_pos hjk, if_pos hjk]
      refine hri.imp fun b _ hb => ⟨⟨?_, ?_, ?_⟩, .inr hb⟩
      · have := hN b hb; show b ≠ m.bs; omega
      · have := hN b hb; show b ≠ m.bm; omega
      · have := hN b hb; have := hgil (by omega); show b ≠ m.gi; omega
    · rw [if_neg hjk, if_neg hjk]
      exact ((hr j hj).within.stays hO fun b _ hb => hb.1.1).imp fun b _ hb => ⟨hb.1.1, .inl ⟨hb.1.2, hb.2⟩⟩
  · rw [List.length_set]; exact e6
end Go.Proofs.YtcegipkhmibdeaaDoor
/- Store.Apply: where there is no such pod. -/
namespace Go.Proofs.YtcegipkhmibdeaaDoor
set_option linter.all false
open Go.RowKit

set_option maxHeartbeats 1000000 in
set_option maxRecDepth 100000 in
theorem sapp_none {m : Mem} {B : Nat} {X : Nat → Prop} {size : Int} {ps : List Pod} (id ev node dead : Int) (w : World) (h : StoreAt m B X w size ps) (hh : hasP ps id = false) :
    Calls Tryd.prog 57 #[.pointer (some ⟨m.bs, 0, none⟩), .int .i64 id, .int .i64 ev, .int .i64 node, .int .i64 dead] w fun e w' => e = .returned (.tuple #[podV pod0 (.slice none 0 0), (EV.fault 5 0).val]) ∧ Below w.heap.size w w' := by
  have hp0 : getP ps id = pod0 := by unfold getP; rw [if_pos]; unfold hasP at hh; simpa using hh
  have h' := h.below ((Below.refl _ w).alloc (Nat.le_refl _) (.cells z9 65))
  have hg := sget_any id _ h' (by rw [hp0]; simp [pod0])
  rw [hh, hp0] at hg
  have HG := Lib.hid hg; clear hg h h' hh hp0
  have HF := Lib.hid fun w => faultNew_any 5 0 w
  go_enter Tryd.func57, Tryd.ntmps57
  go_wp2_with fail
  refine HG.out.mono ?_
  rintro e w1 ⟨a, cap, rfl, hown, hb⟩
  obtain ⟨hc, hf⟩ := bcell hb
  have hsz := hb.size
  have hb' : Below w.heap.size w w1 := Below.trans ((Below.refl _ w).alloc (Nat.le_refl _) _) (hb.mono (by simp))
  have hsz' : w.heap.size < w1.heap.size := by simp at hsz; omega
  have q0 : ∀ f, w1.cell? ⟨w.heap.size, f, none⟩ = (w.alloc (.cells z9 65)).cell? ⟨w.heap.size, f, none⟩ := fun f => hc _ _ (by simp)
  have q1 : ∀ f, w1.frozen? ⟨w.heap.size, f, none⟩ = false := fun f => by rw [hf _ _ (by simp)]; go_simp
  have r0 : w1.cell? ⟨w.heap.size, 0, none⟩ = some (.int .i64 0) := by rw [q0]; go_simp
  have r1 : w1.cell? ⟨w.heap.size, 1, none⟩ = some (.int .i64 0) := by rw [q0]; go_simp
  have r2 : w1.cell? ⟨w.heap.size, 2, none⟩ = some (.bool false) := by rw [q0]; go_simp
  have r3 : w1.cell? ⟨w.heap.size, 3, none⟩ = some (.int .i64 0) := by rw [q0]; go_simp
  have r4 : w1.cell? ⟨w.heap.size, 4, none⟩ = some (.slice none 0 0) := by rw [q0]; go_simp
  have r5 : w1.cell? ⟨w.heap.size, 5, none⟩ = some (.int .i64 0) := by rw [q0]; go_simp
  have r6 : w1.cell? ⟨w.heap.size, 6, none⟩ = some (.int .i64 0) := by rw [q0]; go_simp
  have r7 : w1.cell? ⟨w.heap.size, 7, none⟩ = some (.int .i64 0) := by rw [q0]; go_simp
  have r8 : w1.cell? ⟨w.heap.size, 8, none⟩ = some (.int .i64 0) := by rw [q0]; go_simp
  clear q0 hc hf hb hsz hown
  go_wp2_with fail
  refine (HF.out _).mono ?_
  rintro e w2 ⟨rfl, rfl⟩
  go_wp2
  refine bodyPost_ret (v := .tuple #[podV pod0 (.slice none 0 0), (EV.fault 5 0).val]) ?_ rfl ⟨rfl, ?_⟩
  · simp only [results, Tryd.results57]
    go_simp
    simp [pod0, EV.val]
  · repeat (first | (with_reducible exact hb') | with_reducible refine Below.setCell ?_ (by show _ ≤ _; simp only []; omega) _ | with_reducible refine Below.alloc ?_ (by simp only [World.size_setCell]; exact hb'.size) _)
end Go.Proofs.YtcegipkhmibdeaaDoor
/- Store.Apply: where the phase refuses the event. -/
namespace Go.Proofs.YtcegipkhmibdeaaDoor
set_option linter.all false
open Go.RowKit

set_option maxHeartbeats 4000000 in
set_option maxRecDepth 100000 in
theorem sapp_bad {m : Mem} {B : Nat} {X : Nat → Prop} {size : Int} {ps : List Pod} (id ev node dead : Int) (w : World) (h : StoreAt m B X w size ps) (hz : (getP ps id).req.length * 8 ≤ 140737488351232) (hh : hasP ps id = true) (hn : nx (getP ps id).ph ev = 0) :
    Calls Tryd.prog 57 #[.pointer (some ⟨m.bs, 0, none⟩), .int .i64 id, .int .i64 ev, .int .i64 node, .int .i64 dead] w fun e w' => e = .returned (.tuple #[podV pod0 (.slice none 0 0), (EV.fault 8 0).val]) ∧ Below w.heap.size w w' := by
  have h' := h.below ((Below.refl _ w).alloc (Nat.le_refl _) (.cells z9 65))
  have hg := sget_any id _ h' hz
  rw [hh] at hg
  have HS := Lib.hid h
  have HG := Lib.hid hg
  have HZ := Lib.hid hz
  clear hg h h' hz
  generalize hp : getP ps id = p at *
  have HP := Lib.hid hp; clear hp
  obtain ⟨l, hl⟩ : ∃ l, l = p.req.length := ⟨_, rfl⟩
  have HL := Lib.hid hl; clear hl
  have HNx := Lib.hid fun w => next_any p.ph ev w
  go_enter Tryd.func57, Tryd.ntmps57
  go_wp2_with fail
  refine HG.out.mono ?_
  rintro e w1 ⟨a, cap, rfl, hown, hb⟩
  rw [← HL.out] at hown ⊢
  obtain ⟨hc, hf⟩ := bcell hb
  have hsz := hb.size
  have hb' : Below w.heap.size w w1 := Below.trans ((Below.refl _ w).alloc (Nat.le_refl _) _) (hb.mono (by simp))
  have hsz' : w.heap.size < w1.heap.size := by simp at hsz; omega
  have q0 : ∀ f, w1.cell? ⟨w.heap.size, f, none⟩ = (w.alloc (.cells z9 65)).cell? ⟨w.heap.size, f, none⟩ := fun f => hc _ _ (by simp)
  have q1 : ∀ f, w1.frozen? ⟨w.heap.size, f, none⟩ = false := fun f => by rw [hf _ _ (by simp)]; go_simp
  have r0 : w1.cell? ⟨w.heap.size, 0, none⟩ = some (.int .i64 0) := by rw [q0]; go_simp
  have r1 : w1.cell? ⟨w.heap.size, 1, none⟩ = some (.int .i64 0) := by rw [q0]; go_simp
  have r2 : w1.cell? ⟨w.heap.size, 2, none⟩ = some (.bool false) := by rw [q0]; go_simp
  have r3 : w1.cell? ⟨w.heap.size, 3, none⟩ = some (.int .i64 0) := by rw [q0]; go_simp
  have r4 : w1.cell? ⟨w.heap.size, 4, none⟩ = some (.slice none 0 0) := by rw [q0]; go_simp
  have r5 : w1.cell? ⟨w.heap.size, 5, none⟩ = some (.int .i64 0) := by rw [q0]; go_simp
  have r6 : w1.cell? ⟨w.heap.size, 6, none⟩ = some (.int .i64 0) := by rw [q0]; go_simp
  have r7 : w1.cell? ⟨w.heap.size, 7, none⟩ = some (.int .i64 0) := by rw [q0]; go_simp
  have r8 : w1.cell? ⟨w.heap.size, 8, none⟩ = some (.int .i64 0) := by rw [q0]; go_simp
  have hO : w1.ownsRow (w.heap.size + 1) 2 1 (.slice a l cap) l (p.req.map (Value.int .i64)) := by simpa using hown
  clear q0 hc hf hb hsz hown HG
  rw [hn] at HNx
  clear HS HZ HL HP hO hh hn
  have HF := Lib.hid fun w => faultNew_any 8 0 w
  go_wp2_with fail
  refine (HNx.out _).mono ?_
  rintro e w2 ⟨rfl, hb2⟩
  have hb2' := Below.trans (hb'.alloc hb'.size _) (hb2.mono (by simp; omega))
  have q2 : ∀ f, w2.frozen? ⟨w.heap.size, f, none⟩ = false := fun f => (hb2.frozen (p := ⟨w.heap.size, f, none⟩) (by simp; omega)).trans (by have := q1 f; go_simp)
  have s0 : w2.cell? ⟨w.heap.size, 0, none⟩ = some (.int .i64 0) := keepc hb2 (by simp; omega) (by go_simp)
  have s1 : w2.cell? ⟨w.heap.size, 1, none⟩ = some (.int .i64 0) := keepc hb2 (by simp; omega) (by go_simp)
  have s2 : w2.cell? ⟨w.heap.size, 2, none⟩ = some (.bool false) := keepc hb2 (by simp; omega) (by go_simp)
  have s3 : w2.cell? ⟨w.heap.size, 3, none⟩ = some (.int .i64 0) := keepc hb2 (by simp; omega) (by go_simp)
  have s4 : w2.cell? ⟨w.heap.size, 4, none⟩ = some (.slice none 0 0) := keepc hb2 (by simp; omega) (by go_simp)
  have s5 : w2.cell? ⟨w.heap.size, 5, none⟩ = some (.int .i64 0) := keepc hb2 (by simp; omega) (by go_simp)
  have s6 : w2.cell? ⟨w.heap.size, 6, none⟩ = some (.int .i64 0) := keepc hb2 (by simp; omega) (by go_simp)
  have s7 : w2.cell? ⟨w.heap.size, 7, none⟩ = some (.int .i64 0) := keepc hb2 (by simp; omega) (by go_simp)
  have s8 : w2.cell? ⟨w.heap.size, 8, none⟩ = some (.int .i64 0) := keepc hb2 (by simp; omega) (by go_simp)
  clear hb2 hb' q1 r0 r1 r2 r3 r4 r5 r6 r7 r8
  go_wp2_with fail
  refine (HF.out _).mono ?_
  rintro e w3 ⟨rfl, rfl⟩
  go_wp2
  refine bodyPost_ret (v := .tuple #[podV pod0 (.slice none 0 0), (EV.fault 8 0).val]) ?_ rfl ⟨rfl, ?_⟩
  · simp only [results, Tryd.results57]
    go_simp
    simp [pod0, EV.val]
  · repeat (first | (with_reducible exact hb2') | with_reducible refine Below.setCell ?_ (by show _ ≤ _; simp only []; omega) _)

end Go.Proofs.YtcegipkhmibdeaaDoor
/- Store.Apply: where the phase takes the event. -/
namespace Go.Proofs.YtcegipkhmibdeaaDoor
set_option linter.all false
open Go.RowKit

/-- What Apply leaves: the pod turned, and a pod of one's own in blocks that the store does not know. -/
def AppOk (m : Mem) (B : Nat) (X : Nat → Prop) (size : Int) (ps : List Pod) (k : Nat) (np : Pod) (w : World) (e : Ending) (w' : World) : Prop :=
  ∃ a cap c, e = .returned (.tuple #[podV np (.slice a np.req.length cap), .nilIface]) ∧ StoreAt m B (fun b => ((X b ∧ b < w.heap.size) ∨ w.heap.size ≤ b) ∧ b < c) w' size (ps.set k np) ∧ w.heap.size ≤ c ∧ Stays (Off m) w w' ∧ w'.ownsRow c 2 1 (.slice a np.req.length cap) np.req.length (np.req.map (Value.int .i64))
/-- The pod that Apply makes of a pod. -/
def tp (p : Pod) (x node dead : Int) : Pod := { p with ph := x, node := node, dead := dead }
theorem Stays.set9 {X : Nat → Prop} {W w : World} {b : Nat} (v0 v1 v2 v3 v4 v5 v6 v7 v8 : Value) (h : Stays X W w) (hb : ¬ X b) :
    Stays X W (((((((((w.setCell ⟨b, 0, none⟩ v0).setCell ⟨b, 1, none⟩ v1).setCell ⟨b, 2, none⟩ v2).setCell ⟨b, 3, none⟩ v3).setCell ⟨b, 4, none⟩ v4).setCell ⟨b, 5, none⟩ v5).setCell ⟨b, 6, none⟩ v6).setCell ⟨b, 7, none⟩ v7).setCell ⟨b, 8, none⟩ v8) :=
  ((((((((h.trans (Stays.setCell hb)).trans (Stays.setCell hb)).trans (Stays.setCell hb)).trans (Stays.setCell hb)).trans (Stays.setCell hb)).trans (Stays.setCell hb)).trans (Stays.setCell hb)).trans (Stays.setCell hb)).trans (Stays.setCell hb)

set_option maxHeartbeats 4000000 in
set_option maxRecDepth 100000 in
theorem sapp_1 {m : Mem} {B : Nat} {X : Nat → Prop} {size : Int} {ps : List Pod} (id node dead : Int) (w : World) (h : StoreAt m B X w size ps) (hz : (getP ps id).req.length * 8 ≤ 140737488351232) (hh : hasP ps id = true) (hn : ¬ nx (getP ps id).ph 1 = 0) {k : Nat} (hk : findI ps 0 id = (k : Int)) :
    Calls Tryd.prog 57 #[.pointer (some ⟨m.bs, 0, none⟩), .int .i64 id, .int .i64 1, .int .i64 node, .int .i64 dead] w (AppOk m B X size ps k (tp (getP ps id) (nx (getP ps id).ph 1) node (-1)) w) := by
  have h' := h.below ((Below.refl _ w).alloc (Nat.le_refl _) (.cells z9 65))
  have hg := sget_any id _ h' hz
  rw [hh] at hg
  have HS := Lib.hid h
  have HG := Lib.hid hg
  have HZ := Lib.hid hz
  clear hg h h' hz
  have hpk : getP ps id = podAt ps k := by unfold getP; rw [if_neg (by omega), hk]; rfl
  obtain ⟨-, hkl, hidk, -⟩ := findI_some hk
  rw [Nat.sub_zero] at hkl hidk
  rw [← hpk] at hidk
  generalize hp : getP ps id = p at *
  have HKL := Lib.hid hkl; clear hkl
  have HIDK := Lib.hid hidk; clear hidk
  have HPK := Lib.hid hpk; clear hpk
  have HFK := Lib.hid hk; clear hk
  have HP := Lib.hid hp; clear hp
  obtain ⟨l, hl⟩ : ∃ l, l = p.req.length := ⟨_, rfl⟩
  have HL := Lib.hid hl; clear hl
  have HNx := Lib.hid fun w => next_any p.ph 1 w
  have HHH := Lib.hid hh; clear hh
  go_enter Tryd.func57, Tryd.ntmps57
  go_wp2_with fail
  refine HG.out.mono ?_
  rintro e w1 ⟨a, cap, rfl, hown, hb⟩
  rw [← HL.out] at hown ⊢
  obtain ⟨hc, hf⟩ := bcell hb
  have hsz := hb.size
  have hb' : Below w.heap.size w w1 := Below.trans ((Below.refl _ w).alloc (Nat.le_refl _) _) (hb.mono (by simp))
  have hsz' : w.heap.size < w1.heap.size := by simp at hsz; omega
  have q0 : ∀ f, w1.cell? ⟨w.heap.size, f, none⟩ = (w.alloc (.cells z9 65)).cell? ⟨w.heap.size, f, none⟩ := fun f => hc _ _ (by simp)
  have q1 : ∀ f, w1.frozen? ⟨w.heap.size, f, none⟩ = false := fun f => by rw [hf _ _ (by simp)]; go_simp
  have r0 : w1.cell? ⟨w.heap.size, 0, none⟩ = some (.int .i64 0) := by rw [q0]; go_simp
  have r1 : w1.cell? ⟨w.heap.size, 1, none⟩ = some (.int .i64 0) := by rw [q0]; go_simp
  have r2 : w1.cell? ⟨w.heap.size, 2, none⟩ = some (.bool false) := by rw [q0]; go_simp
  have r3 : w1.cell? ⟨w.heap.size, 3, none⟩ = some (.int .i64 0) := by rw [q0]; go_simp
  have r4 : w1.cell? ⟨w.heap.size, 4, none⟩ = some (.slice none 0 0) := by rw [q0]; go_simp
  have r5 : w1.cell? ⟨w.heap.size, 5, none⟩ = some (.int .i64 0) := by rw [q0]; go_simp
  have r6 : w1.cell? ⟨w.heap.size, 6, none⟩ = some (.int .i64 0) := by rw [q0]; go_simp
  have r7 : w1.cell? ⟨w.heap.size, 7, none⟩ = some (.int .i64 0) := by rw [q0]; go_simp
  have r8 : w1.cell? ⟨w.heap.size, 8, none⟩ = some (.int .i64 0) := by rw [q0]; go_simp
  have hO : w1.ownsRow (w.heap.size + 1) 2 1 (.slice a l cap) l (p.req.map (Value.int .i64)) := by simpa using hown
  clear q0 hc hf hb hsz hown HG
  obtain ⟨x, hx⟩ : ∃ x, x = nx p.ph 1 := ⟨_, rfl⟩
  have hx0 : (x != 0) = true := by rw [hx]; simpa using hn
  rw [← hx, hx0] at HNx
  have HX := Lib.hid hx
  have hc0 := HS.out.c0
  have hbs := cell_lt hc0
  have hc1 := keepl hb' hc0
  clear hn hx hx0
  go_wp2_with fail
  refine (HNx.out _).mono ?_
  rintro e w2 ⟨rfl, hb2⟩
  have hb2' := Below.trans (hb'.alloc hb'.size _) (hb2.mono (by simp; omega))
  have hsz2 : w1.heap.size < w2.heap.size := by have := hb2.size; simp at this; omega
  have q2 : ∀ f, w2.frozen? ⟨w.heap.size, f, none⟩ = false := fun f => (hb2.frozen (p := ⟨w.heap.size, f, none⟩) (by simp; omega)).trans (by have := q1 f; go_simp)
  have q3 : ∀ f, w2.frozen? ⟨w1.heap.size, f, none⟩ = false := fun f => (hb2.frozen (p := ⟨w1.heap.size, f, none⟩) (by simp)).trans (by go_simp)
  have hc2 : w2.cell? ⟨m.bs, 0, none⟩ = some (.pointer (some ⟨m.bt, 0, none⟩)) := keepc hb2 (by simp; omega) (keepl ((Below.refl _ w1).alloc (Nat.le_refl _) _) hc1)
  have s0 : w2.cell? ⟨w.heap.size, 0, none⟩ = some (.int .i64 0) := keepc hb2 (by simp; omega) (by go_simp)
  have s1 : w2.cell? ⟨w.heap.size, 1, none⟩ = some (.int .i64 0) := keepc hb2 (by simp; omega) (by go_simp)
  have s2 : w2.cell? ⟨w.heap.size, 2, none⟩ = some (.bool false) := keepc hb2 (by simp; omega) (by go_simp)
  have s3 : w2.cell? ⟨w.heap.size, 3, none⟩ = some (.int .i64 0) := keepc hb2 (by simp; omega) (by go_simp)
  have s4 : w2.cell? ⟨w.heap.size, 4, none⟩ = some (.slice none 0 0) := keepc hb2 (by simp; omega) (by go_simp)
  have s5 : w2.cell? ⟨w.heap.size, 5, none⟩ = some (.int .i64 0) := keepc hb2 (by simp; omega) (by go_simp)
  have s6 : w2.cell? ⟨w.heap.size, 6, none⟩ = some (.int .i64 0) := keepc hb2 (by simp; omega) (by go_simp)
  have s7 : w2.cell? ⟨w.heap.size, 7, none⟩ = some (.int .i64 0) := keepc hb2 (by simp; omega) (by go_simp)
  have s8 : w2.cell? ⟨w.heap.size, 8, none⟩ = some (.int .i64 0) := keepc hb2 (by simp; omega) (by go_simp)
  have t0 : w2.cell? ⟨w1.heap.size, 0, none⟩ = some (.int .i64 p.id) := keepc hb2 (by simp) (by go_simp)
  have t1 : w2.cell? ⟨w1.heap.size, 1, none⟩ = some (.int .i64 p.prio) := keepc hb2 (by simp) (by go_simp)
  have t2 : w2.cell? ⟨w1.heap.size, 2, none⟩ = some (.bool p.pre) := keepc hb2 (by simp) (by go_simp)
  have t3 : w2.cell? ⟨w1.heap.size, 3, none⟩ = some (.int .i64 p.grace) := keepc hb2 (by simp) (by go_simp)
  have t4 : w2.cell? ⟨w1.heap.size, 4, none⟩ = some (.slice a l cap) := keepc hb2 (by simp) (by go_simp)
  have t5 : w2.cell? ⟨w1.heap.size, 5, none⟩ = some (.int .i64 p.arr) := keepc hb2 (by simp) (by go_simp)
  have t6 : w2.cell? ⟨w1.heap.size, 6, none⟩ = some (.int .i64 p.ph) := keepc hb2 (by simp) (by go_simp)
  have t7 : w2.cell? ⟨w1.heap.size, 7, none⟩ = some (.int .i64 p.node) := keepc hb2 (by simp) (by go_simp)
  have t8 : w2.cell? ⟨w1.heap.size, 8, none⟩ = some (.int .i64 p.dead) := keepc hb2 (by simp) (by go_simp)
  have hO2 : w2.ownsRow (w.heap.size + 1) 2 1 (.slice a l cap) l (p.req.map (Value.int .i64)) := ownsRow_below (hO.alloc _) hb2
  have HOL : Hid (∀ k, (Value.slice a l cap).ownBlock = some k → k < w1.heap.size) := fun k hk => (World.ownsRow.lt hO k hk).2
  clear hb2 hb' q1 r0 r1 r2 r3 r4 r5 r6 r7 r8 hO hc0 hc1
  have hlt12 : w.heap.size < w2.heap.size := by omega
  have hl12 : (w.heap.size == w1.heap.size) = false := by simp; omega
  go_wp2_with fail
  refine wp_named fun W hW => ?_
  have hBW : Below w.heap.size w W := by rw [hW]; repeat (first | (with_reducible exact hb2') | refine Below.setCell ?_ (by show _ ≤ _; simp only []; omega) _)
  have hszW : W.heap.size = w2.heap.size := by rw [hW]; simp
  have hOW : W.ownsRow (w.heap.size + 1) 2 1 (.slice a l cap) l (p.req.map (Value.int .i64)) := by rw [hW]; refine ownsRow_of_block hO2 fun k hk => ?_; have hkl := HOL.out k hk; repeat (first | rfl | (rw [Below.heap_setCell _ _ _ _ (show k ≠ w1.heap.size by omega)]))
  have S0 : W.cell? ⟨w.heap.size, 0, none⟩ = some (.int .i64 0) := by rw [hW]; go_simp
  have S1 : W.cell? ⟨w.heap.size, 1, none⟩ = some (.int .i64 0) := by rw [hW]; go_simp
  have S2 : W.cell? ⟨w.heap.size, 2, none⟩ = some (.bool false) := by rw [hW]; go_simp
  have S3 : W.cell? ⟨w.heap.size, 3, none⟩ = some (.int .i64 0) := by rw [hW]; go_simp
  have S4 : W.cell? ⟨w.heap.size, 4, none⟩ = some (.slice none 0 0) := by rw [hW]; go_simp
  have S5 : W.cell? ⟨w.heap.size, 5, none⟩ = some (.int .i64 0) := by rw [hW]; go_simp
  have S6 : W.cell? ⟨w.heap.size, 6, none⟩ = some (.int .i64 0) := by rw [hW]; go_simp
  have S7 : W.cell? ⟨w.heap.size, 7, none⟩ = some (.int .i64 0) := by rw [hW]; go_simp
  have S8 : W.cell? ⟨w.heap.size, 8, none⟩ = some (.int .i64 0) := by rw [hW]; go_simp
  have T0 : W.cell? ⟨w1.heap.size, 0, none⟩ = some (.int .i64 p.id) := by rw [hW]; go_simp
  have T1 : W.cell? ⟨w1.heap.size, 1, none⟩ = some (.int .i64 p.prio) := by rw [hW]; go_simp
  have T2 : W.cell? ⟨w1.heap.size, 2, none⟩ = some (.bool p.pre) := by rw [hW]; go_simp
  have T3 : W.cell? ⟨w1.heap.size, 3, none⟩ = some (.int .i64 p.grace) := by rw [hW]; go_simp
  have T4 : W.cell? ⟨w1.heap.size, 4, none⟩ = some (.slice a l cap) := by rw [hW]; go_simp
  have T5 : W.cell? ⟨w1.heap.size, 5, none⟩ = some (.int .i64 p.arr) := by rw [hW]; go_simp
  have T6 : W.cell? ⟨w1.heap.size, 6, none⟩ = some (.int .i64 x) := by rw [hW]; go_simp
  have T7 : W.cell? ⟨w1.heap.size, 7, none⟩ = some (.int .i64 node) := by rw [hW]; go_simp
  have T8 : W.cell? ⟨w1.heap.size, 8, none⟩ = some (.int .i64 (-1)) := by rw [hW]; go_simp
  have Sf : ∀ f, W.frozen? ⟨w.heap.size, f, none⟩ = false := fun f => by rw [hW]; go_simp
  have J0 : W.cell? ⟨m.bs, 0, none⟩ = some (.pointer (some ⟨m.bt, 0, none⟩)) := by rw [hW]; go_simp
  clear hW
  clear q2 q3 s0 s1 s2 s3 s4 s5 s6 s7 s8 t0 t1 t2 t3 t4 t5 t6 t7 t8 hO2 hc2 hb2'
  have hsm : m.bs ≠ m.bm := HS.out.ne.2.2.1
  obtain ⟨rvs, hm, hri⟩ := HS.out.map
  have hbml := hm.lt
  have HRL : Hid (rvs.length = ps.length) := hm.choose_spec.choose_spec.2.2
  have h0m : w.heap.size ≠ m.bm := by omega
  have h1m : w1.heap.size ≠ m.bm := by omega
  have h10 : w1.heap.size ≠ w.heap.size := by omega
  have hs0 : m.bs ≠ w.heap.size := by omega
  have HNP : Hid (tp p x node (-1) = tp (p) (nx p.ph 1) node (-1)) := by rw [HX.out]; rfl
  have HID : Hid (∀ w' : World, Stays (fun b => b ≠ m.bm ∧ b ≠ w.heap.size) W w' → (w'.cell? ⟨w1.heap.size, 0, none⟩ = some (.int .i64 p.id) ∧ w'.cell? ⟨w1.heap.size, 1, none⟩ = some (.int .i64 p.prio) ∧ w'.cell? ⟨w1.heap.size, 2, none⟩ = some (.bool p.pre) ∧ w'.cell? ⟨w1.heap.size, 3, none⟩ = some (.int .i64 p.grace) ∧ w'.cell? ⟨w1.heap.size, 4, none⟩ = some (.slice a l cap) ∧ w'.cell? ⟨w1.heap.size, 5, none⟩ = some (.int .i64 p.arr) ∧ w'.cell? ⟨w1.heap.size, 6, none⟩ = some (.int .i64 x) ∧ w'.cell? ⟨w1.heap.size, 7, none⟩ = some (.int .i64 node) ∧ w'.cell? ⟨w1.heap.size, 8, none⟩ = some (.int .i64 (-1)) ∧ w'.cell? ⟨m.bs, 0, none⟩ = some (.pointer (some ⟨m.bt, 0, none⟩)))) := fun w' h => ⟨h.cell ⟨h1m, h10⟩ T0, h.cell ⟨h1m, h10⟩ T1, h.cell ⟨h1m, h10⟩ T2, h.cell ⟨h1m, h10⟩ T3, h.cell ⟨h1m, h10⟩ T4, h.cell ⟨h1m, h10⟩ T5, h.cell ⟨h1m, h10⟩ T6, h.cell ⟨h1m, h10⟩ T7, h.cell ⟨h1m, h10⟩ T8, h.cell ⟨hsm, hs0⟩ J0⟩
  have hv0 : Stays (fun b => b ≠ m.bm) W W.drew := Stays.of (Below.refl _ _).drew
  have hI0 : IntsIn (fun b => w.heap.size + 1 ≤ b) W (.slice a l cap) p.req := ownsRow_int hOW HL.out
  have HI := Lib.hid hI0
  have HC : Hid (∀ W', Below W.heap.size W W' → Calls Tryd.prog 103 #[.agg #[.int .i64 p.id, .int .i64 p.prio, .bool p.pre, .int .i64 p.grace, .slice a l cap, .int .i64 p.arr, .int .i64 x, .int .i64 node, .int .i64 (-1)]] W' fun e w' => ∃ a5 c5, e = .returned (.agg #[.int .i64 p.id, .int .i64 p.prio, .bool p.pre, .int .i64 p.grace, .slice a5 l c5, .int .i64 p.arr, .int .i64 x, .int .i64 node, .int .i64 (-1)]) ∧ w'.ownsRow W'.heap.size 2 1 (.slice a5 l c5) l (p.req.map (Value.int .i64)) ∧ Below W'.heap.size W' w') := fun W' hb =>
    (copied_any (tp p x node (-1)) (.slice a l cap) W' HZ.out (hI0.ints.below hb)).mono fun e w' ⟨a5, c5, he, ho, hb⟩ => ⟨a5, c5, by rw [HL.out]; exact he, by rw [HL.out]; exact ho, hb⟩
  have HT : Hid (∀ W', Below W.heap.size W W' → Calls Tryd.prog 105 #[.pointer (some ⟨m.bt, 0, none⟩), .int .i64 id, .agg #[.int .i64 p.id, .int .i64 p.prio, .bool p.pre, .int .i64 p.grace, .slice a l cap, .int .i64 p.arr, .int .i64 x, .int .i64 node, .int .i64 (-1)]] W' fun e w' => e = .returned .nilIface ∧ Stays (fun b => b ≠ m.bm) W' w' ∧ MapAt w' m.bm (ps.set k (tp p x node (-1))) (rvs.set k (.slice a l cap))) := fun W' hb => by
    have hb0 : Below w.heap.size w W' := hBW.trans (hb.mono hBW.size)
    have h : Calls Tryd.prog 105 #[.pointer (some ⟨m.bt, 0, none⟩), .int .i64 p.id, .agg #[.int .i64 p.id, .int .i64 p.prio, .bool p.pre, .int .i64 p.grace, .slice a l cap, .int .i64 p.arr, .int .i64 x, .int .i64 node, .int .i64 (-1)]] W' fun e w' => e = .returned .nilIface ∧ Stays (fun b => b ≠ m.bm) W' w' ∧ MapAt w' m.bm (ps.set k (tp p x node (-1))) (rvs.set k (.slice a l cap)) :=
      tset_any (tp p x node (-1)) (.slice a l cap) W' (HS.out.below hb0) (by rw [show (tp p x node (-1)).id = p.id from rfl, HIDK.out]; exact HFK.out) (hm.below hb0 hm.lt)
    rw [HIDK.out] at h ⊢
    exact h
  clear hI0 hOW hm
  have HRI := Lib.hid hri; clear hri
  have HBW := Lib.hid hBW
  have HK0 := Lib.hid (HID.out _ (Stays.imp hv0 fun b _ h => h.1))
  go_region_held3 (fun w' => w'.cell? ⟨w1.heap.size, 0, none⟩ = some (.int .i64 p.id) ∧ w'.cell? ⟨w1.heap.size, 1, none⟩ = some (.int .i64 p.prio) ∧ w'.cell? ⟨w1.heap.size, 2, none⟩ = some (.bool p.pre) ∧ w'.cell? ⟨w1.heap.size, 3, none⟩ = some (.int .i64 p.grace) ∧ w'.cell? ⟨w1.heap.size, 4, none⟩ = some (.slice a l cap) ∧ w'.cell? ⟨w1.heap.size, 5, none⟩ = some (.int .i64 p.arr) ∧ w'.cell? ⟨w1.heap.size, 6, none⟩ = some (.int .i64 x) ∧ w'.cell? ⟨w1.heap.size, 7, none⟩ = some (.int .i64 node) ∧ w'.cell? ⟨w1.heap.size, 8, none⟩ = some (.int .i64 (-1)) ∧ w'.cell? ⟨m.bs, 0, none⟩ = some (.pointer (some ⟨m.bt, 0, none⟩)))
    (first
      | (with_reducible exact HK0.out)
      | (with_reducible exact HK1.out)
      | (with_reducible exact HK2.out)
      | (with_reducible exact HK9.out _ _ _ _ _ _ _ _ _))
    (first
      | (go_at_call 103; ((with_reducible refine (HC.out _ (Below.refl _ _).drew).mono ?_)); rintro e w3 ⟨a5, c5, rfl, hown5, hb5⟩; have hg1 : Stays (fun b => b ≠ m.bm) W w3 := hv0.trans (Stays.of hb5); have hb3 : Below W.heap.size W w3 := ((Below.refl _ W).drew).trans hb5; have HK1 := Lib.hid (HID.out _ (Stays.imp hg1 fun b _ h => h.1)))
      | (go_at_call 105; ((with_reducible refine (HT.out _ hb3).mono ?_)); rintro e w4 ⟨rfl, hb4, hm4⟩; have hg2 : Stays (fun b => b ≠ m.bm) W w4 := hg1.trans hb4; have S0 := hg2.cell h0m S0; have S1 := hg2.cell h0m S1; have S2 := hg2.cell h0m S2; have S3 := hg2.cell h0m S3; have S4 := hg2.cell h0m S4; have S5 := hg2.cell h0m S5; have S6 := hg2.cell h0m S6; have S7 := hg2.cell h0m S7; have S8 := hg2.cell h0m S8; have Sf4 : ∀ f, w4.frozen? ⟨w.heap.size, f, none⟩ = false := (fun f => (hg2.frozen (by omega) h0m).trans (Sf f)); have HK2 := Lib.hid (HID.out _ (Stays.imp hg2 fun b _ h => h.1)); have HK9 := Lib.hid (fun v0 v1 v2 v3 v4 v5 v6 v7 v8 => HID.out _ (Stays.set9 v0 v1 v2 v3 v4 v5 v6 v7 v8 (Stays.imp hg2 fun b _ h => h.1) (fun h => h.2 rfl)))))
  all_goals
    have HM4 := Lib.hid hm4
    have HG2 := Lib.hid hg2
    have HO5 := Lib.hid hown5
    have HB4 := Lib.hid hb4
    clear hm4 hg2 hown5 hg1 hb3 hb4 hb5 HK0 HK1 HK2 HK9 HT HC HID T0 T1 T2 T3 T4 T5 T6 T7 T8 J0 HNx hv0
    go_wp2
    refine bodyPost_ret (v := .tuple #[.agg #[.int .i64 p.id, .int .i64 p.prio, .bool p.pre, .int .i64 p.grace, .slice a5 l c5, .int .i64 p.arr, .int .i64 x, .int .i64 node, .int .i64 (-1)], .nilIface]) ?_ rfl ?_
    · simp only [results, Tryd.results57]
      go_simp
    rw [← HNP.out]
    have hri4 : IntsIn (fun b => w.heap.size + 1 ≤ b ∧ b < W.heap.size) w4 (.slice a l cap) (tp p x node (-1)).req := HI.out.within.stays HG2.out fun b _ hb => by have := hb.1; show b ≠ m.bm; omega
    obtain ⟨hst, hsty⟩ := StoreAt.turn (np := tp p x node (-1)) (N := fun b => w.heap.size + 1 ≤ b ∧ b < W.heap.size) (fun b hb => by have := hb.1; omega) HS.out HRI.out HRL.out HKL.out (show p.id = _ from congrArg Pod.id HPK.out) HBW.out HG2.out HM4.out hri4
    have hszd : W.drew.heap.size = W.heap.size := rfl
    have hgl : 0 < ps.length → m.gi < w.heap.size := fun h0 => by
      obtain ⟨ja, jc, j1, j2, j3, j4⟩ := HS.out.ids
      exact (World.ownsRow.lt j2 m.gi (by rw [j4 h0]; rfl)).2
    have hbtl := cell_lt HS.out.t0
    have hwW := hBW.size
    refine ⟨a5, c5, W.heap.size, by rw [HL.out]; rfl, ?_, hwW, ?_, ?_⟩
    · refine (hst.stays (Y := fun b => b ≠ w.heap.size) (Stays.set9 _ _ _ _ _ _ _ _ _ ⟨rfl, rfl, rfl, Nat.le_refl _, fun _ _ _ => rfl⟩ (fun h => h rfl)) (by show m.bs ≠ _; omega) (by show m.bt ≠ _; omega) (by show m.bm ≠ _; omega) (fun h0 => by have := hgl (by simpa using h0); show m.gi ≠ _; omega) (fun b _ hb => by show b ≠ _; rcases hb with hx | hx <;> omega)).imp fun b _ hb => ?_
      rcases hb with hx | hx
      · exact ⟨.inl hx, by have := hx.2; omega⟩
      · exact ⟨.inr (by omega), hx.2⟩
    · refine Stays.imp (X := fun b => Off m b ∧ b ≠ w.heap.size) ?_ fun b hb h => ⟨h, by omega⟩
      exact Stays.set9 _ _ _ _ _ _ _ _ _ (hsty.imp fun b _ h => h.1) (fun h => h.2 rfl)
    · have ho : w4.ownsRow W.heap.size 2 1 (.slice a5 l c5) l (p.req.map (Value.int .i64)) := by
        refine ownsRow_of_block HO5.out fun j hj => HB4.out.block j (World.ownsRow.lt HO5.out j hj).2 ?_
        have hjl := (World.ownsRow.lt HO5.out j hj).1
        show j ≠ m.bm
        rw [hszd] at hjl
        omega
      rw [HL.out] at ho
      change (World.ownsRow · _ _ _ (.slice a5 p.req.length c5) p.req.length (p.req.map (Value.int .i64))) _
      show World.ownsRow _ _ _ _ _ _ _
      repeat (first | (with_reducible exact ho) | refine ownsRow_setCell_below ?_ (by show _ < _; simp only []; omega) _)

set_option maxHeartbeats 4000000 in
set_option maxRecDepth 100000 in
theorem sapp_2 {m : Mem} {B : Nat} {X : Nat → Prop} {size : Int} {ps : List Pod} (id node dead : Int) (w : World) (h : StoreAt m B X w size ps) (hz : (getP ps id).req.length * 8 ≤ 140737488351232) (hh : hasP ps id = true) (hn : ¬ nx (getP ps id).ph 2 = 0) {k : Nat} (hk : findI ps 0 id = (k : Int)) :
    Calls Tryd.prog 57 #[.pointer (some ⟨m.bs, 0, none⟩), .int .i64 id, .int .i64 2, .int .i64 node, .int .i64 dead] w (AppOk m B X size ps k (tp (getP ps id) (nx (getP ps id).ph 2) node (-1)) w) := by
  have h' := h.below ((Below.refl _ w).alloc (Nat.le_refl _) (.cells z9 65))
  have hg := sget_any id _ h' hz
  rw [hh] at hg
  have HS := Lib.hid h
  have HG := Lib.hid hg
  have HZ := Lib.hid hz
  clear hg h h' hz
  have hpk : getP ps id = podAt ps k := by unfold getP; rw [if_neg (by omega), hk]; rfl
  obtain ⟨-, hkl, hidk, -⟩ := findI_some hk
  rw [Nat.sub_zero] at hkl hidk
  rw [← hpk] at hidk
  generalize hp : getP ps id = p at *
  have HKL := Lib.hid hkl; clear hkl
  have HIDK := Lib.hid hidk; clear hidk
  have HPK := Lib.hid hpk; clear hpk
  have HFK := Lib.hid hk; clear hk
  have HP := Lib.hid hp; clear hp
  obtain ⟨l, hl⟩ : ∃ l, l = p.req.length := ⟨_, rfl⟩
  have HL := Lib.hid hl; clear hl
  have HNx := Lib.hid fun w => next_any p.ph 2 w
  have HHH := Lib.hid hh; clear hh
  go_enter Tryd.func57, Tryd.ntmps57
  go_wp2_with fail
  refine HG.out.mono ?_
  rintro e w1 ⟨a, cap, rfl, hown, hb⟩
  rw [← HL.out] at hown ⊢
  obtain ⟨hc, hf⟩ := bcell hb
  have hsz := hb.size
  have hb' : Below w.heap.size w w1 := Below.trans ((Below.refl _ w).alloc (Nat.le_refl _) _) (hb.mono (by simp))
  have hsz' : w.heap.size < w1.heap.size := by simp at hsz; omega
  have q0 : ∀ f, w1.cell? ⟨w.heap.size, f, none⟩ = (w.alloc (.cells z9 65)).cell? ⟨w.heap.size, f, none⟩ := fun f => hc _ _ (by simp)
  have q1 : ∀ f, w1.frozen? ⟨w.heap.size, f, none⟩ = false := fun f => by rw [hf _ _ (by simp)]; go_simp
  have r0 : w1.cell? ⟨w.heap.size, 0, none⟩ = some (.int .i64 0) := by rw [q0]; go_simp
  have r1 : w1.cell? ⟨w.heap.size, 1, none⟩ = some (.int .i64 0) := by rw [q0]; go_simp
  have r2 : w1.cell? ⟨w.heap.size, 2, none⟩ = some (.bool false) := by rw [q0]; go_simp
  have r3 : w1.cell? ⟨w.heap.size, 3, none⟩ = some (.int .i64 0) := by rw [q0]; go_simp
  have r4 : w1.cell? ⟨w.heap.size, 4, none⟩ = some (.slice none 0 0) := by rw [q0]; go_simp
  have r5 : w1.cell? ⟨w.heap.size, 5, none⟩ = some (.int .i64 0) := by rw [q0]; go_simp
  have r6 : w1.cell? ⟨w.heap.size, 6, none⟩ = some (.int .i64 0) := by rw [q0]; go_simp
  have r7 : w1.cell? ⟨w.heap.size, 7, none⟩ = some (.int .i64 0) := by rw [q0]; go_simp
  have r8 : w1.cell? ⟨w.heap.size, 8, none⟩ = some (.int .i64 0) := by rw [q0]; go_simp
  have hO : w1.ownsRow (w.heap.size + 1) 2 1 (.slice a l cap) l (p.req.map (Value.int .i64)) := by simpa using hown
  clear q0 hc hf hb hsz hown HG
  obtain ⟨x, hx⟩ : ∃ x, x = nx p.ph 2 := ⟨_, rfl⟩
  have hx0 : (x != 0) = true := by rw [hx]; simpa using hn
  rw [← hx, hx0] at HNx
  have HX := Lib.hid hx
  have hc0 := HS.out.c0
  have hbs := cell_lt hc0
  have hc1 := keepl hb' hc0
  clear hn hx hx0
  go_wp2_with fail
  refine (HNx.out _).mono ?_
  rintro e w2 ⟨rfl, hb2⟩
  have hb2' := Below.trans (hb'.alloc hb'.size _) (hb2.mono (by simp; omega))
  have hsz2 : w1.heap.size < w2.heap.size := by have := hb2.size; simp at this; omega
  have q2 : ∀ f, w2.frozen? ⟨w.heap.size, f, none⟩ = false := fun f => (hb2.frozen (p := ⟨w.heap.size, f, none⟩) (by simp; omega)).trans (by have := q1 f; go_simp)
  have q3 : ∀ f, w2.frozen? ⟨w1.heap.size, f, none⟩ = false := fun f => (hb2.frozen (p := ⟨w1.heap.size, f, none⟩) (by simp)).trans (by go_simp)
  have hc2 : w2.cell? ⟨m.bs, 0, none⟩ = some (.pointer (some ⟨m.bt, 0, none⟩)) := keepc hb2 (by simp; omega) (keepl ((Below.refl _ w1).alloc (Nat.le_refl _) _) hc1)
  have s0 : w2.cell? ⟨w.heap.size, 0, none⟩ = some (.int .i64 0) := keepc hb2 (by simp; omega) (by go_simp)
  have s1 : w2.cell? ⟨w.heap.size, 1, none⟩ = some (.int .i64 0) := keepc hb2 (by simp; omega) (by go_simp)
  have s2 : w2.cell? ⟨w.heap.size, 2, none⟩ = some (.bool false) := keepc hb2 (by simp; omega) (by go_simp)
  have s3 : w2.cell? ⟨w.heap.size, 3, none⟩ = some (.int .i64 0) := keepc hb2 (by simp; omega) (by go_simp)
  have s4 : w2.cell? ⟨w.heap.size, 4, none⟩ = some (.slice none 0 0) := keepc hb2 (by simp; omega) (by go_simp)
  have s5 : w2.cell? ⟨w.heap.size, 5, none⟩ = some (.int .i64 0) := keepc hb2 (by simp; omega) (by go_simp)
  have s6 : w2.cell? ⟨w.heap.size, 6, none⟩ = some (.int .i64 0) := keepc hb2 (by simp; omega) (by go_simp)
  have s7 : w2.cell? ⟨w.heap.size, 7, none⟩ = some (.int .i64 0) := keepc hb2 (by simp; omega) (by go_simp)
  have s8 : w2.cell? ⟨w.heap.size, 8, none⟩ = some (.int .i64 0) := keepc hb2 (by simp; omega) (by go_simp)
  have t0 : w2.cell? ⟨w1.heap.size, 0, none⟩ = some (.int .i64 p.id) := keepc hb2 (by simp) (by go_simp)
  have t1 : w2.cell? ⟨w1.heap.size, 1, none⟩ = some (.int .i64 p.prio) := keepc hb2 (by simp) (by go_simp)
  have t2 : w2.cell? ⟨w1.heap.size, 2, none⟩ = some (.bool p.pre) := keepc hb2 (by simp) (by go_simp)
  have t3 : w2.cell? ⟨w1.heap.size, 3, none⟩ = some (.int .i64 p.grace) := keepc hb2 (by simp) (by go_simp)
  have t4 : w2.cell? ⟨w1.heap.size, 4, none⟩ = some (.slice a l cap) := keepc hb2 (by simp) (by go_simp)
  have t5 : w2.cell? ⟨w1.heap.size, 5, none⟩ = some (.int .i64 p.arr) := keepc hb2 (by simp) (by go_simp)
  have t6 : w2.cell? ⟨w1.heap.size, 6, none⟩ = some (.int .i64 p.ph) := keepc hb2 (by simp) (by go_simp)
  have t7 : w2.cell? ⟨w1.heap.size, 7, none⟩ = some (.int .i64 p.node) := keepc hb2 (by simp) (by go_simp)
  have t8 : w2.cell? ⟨w1.heap.size, 8, none⟩ = some (.int .i64 p.dead) := keepc hb2 (by simp) (by go_simp)
  have hO2 : w2.ownsRow (w.heap.size + 1) 2 1 (.slice a l cap) l (p.req.map (Value.int .i64)) := ownsRow_below (hO.alloc _) hb2
  have HOL : Hid (∀ k, (Value.slice a l cap).ownBlock = some k → k < w1.heap.size) := fun k hk => (World.ownsRow.lt hO k hk).2
  clear hb2 hb' q1 r0 r1 r2 r3 r4 r5 r6 r7 r8 hO hc0 hc1
  have hlt12 : w.heap.size < w2.heap.size := by omega
  have hl12 : (w.heap.size == w1.heap.size) = false := by simp; omega
  go_wp2_with fail
  refine wp_named fun W hW => ?_
  have hBW : Below w.heap.size w W := by rw [hW]; repeat (first | (with_reducible exact hb2') | refine Below.setCell ?_ (by show _ ≤ _; simp only []; omega) _)
  have hszW : W.heap.size = w2.heap.size := by rw [hW]; simp
  have hOW : W.ownsRow (w.heap.size + 1) 2 1 (.slice a l cap) l (p.req.map (Value.int .i64)) := by rw [hW]; refine ownsRow_of_block hO2 fun k hk => ?_; have hkl := HOL.out k hk; repeat (first | rfl | (rw [Below.heap_setCell _ _ _ _ (show k ≠ w1.heap.size by omega)]))
  have S0 : W.cell? ⟨w.heap.size, 0, none⟩ = some (.int .i64 0) := by rw [hW]; go_simp
  have S1 : W.cell? ⟨w.heap.size, 1, none⟩ = some (.int .i64 0) := by rw [hW]; go_simp
  have S2 : W.cell? ⟨w.heap.size, 2, none⟩ = some (.bool false) := by rw [hW]; go_simp
  have S3 : W.cell? ⟨w.heap.size, 3, none⟩ = some (.int .i64 0) := by rw [hW]; go_simp
  have S4 : W.cell? ⟨w.heap.size, 4, none⟩ = some (.slice none 0 0) := by rw [hW]; go_simp
  have S5 : W.cell? ⟨w.heap.size, 5, none⟩ = some (.int .i64 0) := by rw [hW]; go_simp
  have S6 : W.cell? ⟨w.heap.size, 6, none⟩ = some (.int .i64 0) := by rw [hW]; go_simp
  have S7 : W.cell? ⟨w.heap.size, 7, none⟩ = some (.int .i64 0) := by rw [hW]; go_simp
  have S8 : W.cell? ⟨w.heap.size, 8, none⟩ = some (.int .i64 0) := by rw [hW]; go_simp
  have T0 : W.cell? ⟨w1.heap.size, 0, none⟩ = some (.int .i64 p.id) := by rw [hW]; go_simp
  have T1 : W.cell? ⟨w1.heap.size, 1, none⟩ = some (.int .i64 p.prio) := by rw [hW]; go_simp
  have T2 : W.cell? ⟨w1.heap.size, 2, none⟩ = some (.bool p.pre) := by rw [hW]; go_simp
  have T3 : W.cell? ⟨w1.heap.size, 3, none⟩ = some (.int .i64 p.grace) := by rw [hW]; go_simp
  have T4 : W.cell? ⟨w1.heap.size, 4, none⟩ = some (.slice a l cap) := by rw [hW]; go_simp
  have T5 : W.cell? ⟨w1.heap.size, 5, none⟩ = some (.int .i64 p.arr) := by rw [hW]; go_simp
  have T6 : W.cell? ⟨w1.heap.size, 6, none⟩ = some (.int .i64 x) := by rw [hW]; go_simp
  have T7 : W.cell? ⟨w1.heap.size, 7, none⟩ = some (.int .i64 node) := by rw [hW]; go_simp
  have T8 : W.cell? ⟨w1.heap.size, 8, none⟩ = some (.int .i64 (-1)) := by rw [hW]; go_simp
  have Sf : ∀ f, W.frozen? ⟨w.heap.size, f, none⟩ = false := fun f => by rw [hW]; go_simp
  have J0 : W.cell? ⟨m.bs, 0, none⟩ = some (.pointer (some ⟨m.bt, 0, none⟩)) := by rw [hW]; go_simp
  clear hW
  clear q2 q3 s0 s1 s2 s3 s4 s5 s6 s7 s8 t0 t1 t2 t3 t4 t5 t6 t7 t8 hO2 hc2 hb2'
  have hsm : m.bs ≠ m.bm := HS.out.ne.2.2.1
  obtain ⟨rvs, hm, hri⟩ := HS.out.map
  have hbml := hm.lt
  have HRL : Hid (rvs.length = ps.length) := hm.choose_spec.choose_spec.2.2
  have h0m : w.heap.size ≠ m.bm := by omega
  have h1m : w1.heap.size ≠ m.bm := by omega
  have h10 : w1.heap.size ≠ w.heap.size := by omega
  have hs0 : m.bs ≠ w.heap.size := by omega
  have HNP : Hid (tp p x node (-1) = tp (p) (nx p.ph 2) node (-1)) := by rw [HX.out]; rfl
  have HID : Hid (∀ w' : World, Stays (fun b => b ≠ m.bm ∧ b ≠ w.heap.size) W w' → (w'.cell? ⟨w1.heap.size, 0, none⟩ = some (.int .i64 p.id) ∧ w'.cell? ⟨w1.heap.size, 1, none⟩ = some (.int .i64 p.prio) ∧ w'.cell? ⟨w1.heap.size, 2, none⟩ = some (.bool p.pre) ∧ w'.cell? ⟨w1.heap.size, 3, none⟩ = some (.int .i64 p.grace) ∧ w'.cell? ⟨w1.heap.size, 4, none⟩ = some (.slice a l cap) ∧ w'.cell? ⟨w1.heap.size, 5, none⟩ = some (.int .i64 p.arr) ∧ w'.cell? ⟨w1.heap.size, 6, none⟩ = some (.int .i64 x) ∧ w'.cell? ⟨w1.heap.size, 7, none⟩ = some (.int .i64 node) ∧ w'.cell? ⟨w1.heap.size, 8, none⟩ = some (.int .i64 (-1)) ∧ w'.cell? ⟨m.bs, 0, none⟩ = some (.pointer (some ⟨m.bt, 0, none⟩)))) := fun w' h => ⟨h.cell ⟨h1m, h10⟩ T0, h.cell ⟨h1m, h10⟩ T1, h.cell ⟨h1m, h10⟩ T2, h.cell ⟨h1m, h10⟩ T3, h.cell ⟨h1m, h10⟩ T4, h.cell ⟨h1m, h10⟩ T5, h.cell ⟨h1m, h10⟩ T6, h.cell ⟨h1m, h10⟩ T7, h.cell ⟨h1m, h10⟩ T8, h.cell ⟨hsm, hs0⟩ J0⟩
  have hv0 : Stays (fun b => b ≠ m.bm) W W.drew := Stays.of (Below.refl _ _).drew
  have hI0 : IntsIn (fun b => w.heap.size + 1 ≤ b) W (.slice a l cap) p.req := ownsRow_int hOW HL.out
  have HI := Lib.hid hI0
  have HC : Hid (∀ W', Below W.heap.size W W' → Calls Tryd.prog 103 #[.agg #[.int .i64 p.id, .int .i64 p.prio, .bool p.pre, .int .i64 p.grace, .slice a l cap, .int .i64 p.arr, .int .i64 x, .int .i64 node, .int .i64 (-1)]] W' fun e w' => ∃ a5 c5, e = .returned (.agg #[.int .i64 p.id, .int .i64 p.prio, .bool p.pre, .int .i64 p.grace, .slice a5 l c5, .int .i64 p.arr, .int .i64 x, .int .i64 node, .int .i64 (-1)]) ∧ w'.ownsRow W'.heap.size 2 1 (.slice a5 l c5) l (p.req.map (Value.int .i64)) ∧ Below W'.heap.size W' w') := fun W' hb =>
    (copied_any (tp p x node (-1)) (.slice a l cap) W' HZ.out (hI0.ints.below hb)).mono fun e w' ⟨a5, c5, he, ho, hb⟩ => ⟨a5, c5, by rw [HL.out]; exact he, by rw [HL.out]; exact ho, hb⟩
  have HT : Hid (∀ W', Below W.heap.size W W' → Calls Tryd.prog 105 #[.pointer (some ⟨m.bt, 0, none⟩), .int .i64 id, .agg #[.int .i64 p.id, .int .i64 p.prio, .bool p.pre, .int .i64 p.grace, .slice a l cap, .int .i64 p.arr, .int .i64 x, .int .i64 node, .int .i64 (-1)]] W' fun e w' => e = .returned .nilIface ∧ Stays (fun b => b ≠ m.bm) W' w' ∧ MapAt w' m.bm (ps.set k (tp p x node (-1))) (rvs.set k (.slice a l cap))) := fun W' hb => by
    have hb0 : Below w.heap.size w W' := hBW.trans (hb.mono hBW.size)
    have h : Calls Tryd.prog 105 #[.pointer (some ⟨m.bt, 0, none⟩), .int .i64 p.id, .agg #[.int .i64 p.id, .int .i64 p.prio, .bool p.pre, .int .i64 p.grace, .slice a l cap, .int .i64 p.arr, .int .i64 x, .int .i64 node, .int .i64 (-1)]] W' fun e w' => e = .returned .nilIface ∧ Stays (fun b => b ≠ m.bm) W' w' ∧ MapAt w' m.bm (ps.set k (tp p x node (-1))) (rvs.set k (.slice a l cap)) :=
      tset_any (tp p x node (-1)) (.slice a l cap) W' (HS.out.below hb0) (by rw [show (tp p x node (-1)).id = p.id from rfl, HIDK.out]; exact HFK.out) (hm.below hb0 hm.lt)
    rw [HIDK.out] at h ⊢
    exact h
  clear hI0 hOW hm
  have HRI := Lib.hid hri; clear hri
  have HBW := Lib.hid hBW
  have HK0 := Lib.hid (HID.out _ (Stays.imp hv0 fun b _ h => h.1))
  go_region_held3 (fun w' => w'.cell? ⟨w1.heap.size, 0, none⟩ = some (.int .i64 p.id) ∧ w'.cell? ⟨w1.heap.size, 1, none⟩ = some (.int .i64 p.prio) ∧ w'.cell? ⟨w1.heap.size, 2, none⟩ = some (.bool p.pre) ∧ w'.cell? ⟨w1.heap.size, 3, none⟩ = some (.int .i64 p.grace) ∧ w'.cell? ⟨w1.heap.size, 4, none⟩ = some (.slice a l cap) ∧ w'.cell? ⟨w1.heap.size, 5, none⟩ = some (.int .i64 p.arr) ∧ w'.cell? ⟨w1.heap.size, 6, none⟩ = some (.int .i64 x) ∧ w'.cell? ⟨w1.heap.size, 7, none⟩ = some (.int .i64 node) ∧ w'.cell? ⟨w1.heap.size, 8, none⟩ = some (.int .i64 (-1)) ∧ w'.cell? ⟨m.bs, 0, none⟩ = some (.pointer (some ⟨m.bt, 0, none⟩)))
    (first
      | (with_reducible exact HK0.out)
      | (with_reducible exact HK1.out)
      | (with_reducible exact HK2.out)
      | (with_reducible exact HK9.out _ _ _ _ _ _ _ _ _))
    (first
      | (go_at_call 103; ((with_reducible refine (HC.out _ (Below.refl _ _).drew).mono ?_)); rintro e w3 ⟨a5, c5, rfl, hown5, hb5⟩; have hg1 : Stays (fun b => b ≠ m.bm) W w3 := hv0.trans (Stays.of hb5); have hb3 : Below W.heap.size W w3 := ((Below.refl _ W).drew).trans hb5; have HK1 := Lib.hid (HID.out _ (Stays.imp hg1 fun b _ h => h.1)))
      | (go_at_call 105; ((with_reducible refine (HT.out _ hb3).mono ?_)); rintro e w4 ⟨rfl, hb4, hm4⟩; have hg2 : Stays (fun b => b ≠ m.bm) W w4 := hg1.trans hb4; have S0 := hg2.cell h0m S0; have S1 := hg2.cell h0m S1; have S2 := hg2.cell h0m S2; have S3 := hg2.cell h0m S3; have S4 := hg2.cell h0m S4; have S5 := hg2.cell h0m S5; have S6 := hg2.cell h0m S6; have S7 := hg2.cell h0m S7; have S8 := hg2.cell h0m S8; have Sf4 : ∀ f, w4.frozen? ⟨w.heap.size, f, none⟩ = false := (fun f => (hg2.frozen (by omega) h0m).trans (Sf f)); have HK2 := Lib.hid (HID.out _ (Stays.imp hg2 fun b _ h => h.1)); have HK9 := Lib.hid (fun v0 v1 v2 v3 v4 v5 v6 v7 v8 => HID.out _ (Stays.set9 v0 v1 v2 v3 v4 v5 v6 v7 v8 (Stays.imp hg2 fun b _ h => h.1) (fun h => h.2 rfl)))))
  all_goals
    have HM4 := Lib.hid hm4
    have HG2 := Lib.hid hg2
    have HO5 := Lib.hid hown5
    have HB4 := Lib.hid hb4
    clear hm4 hg2 hown5 hg1 hb3 hb4 hb5 HK0 HK1 HK2 HK9 HT HC HID T0 T1 T2 T3 T4 T5 T6 T7 T8 J0 HNx hv0
    go_wp2
    refine bodyPost_ret (v := .tuple #[.agg #[.int .i64 p.id, .int .i64 p.prio, .bool p.pre, .int .i64 p.grace, .slice a5 l c5, .int .i64 p.arr, .int .i64 x, .int .i64 node, .int .i64 (-1)], .nilIface]) ?_ rfl ?_
    · simp only [results, Tryd.results57]
      go_simp
    rw [← HNP.out]
    have hri4 : IntsIn (fun b => w.heap.size + 1 ≤ b ∧ b < W.heap.size) w4 (.slice a l cap) (tp p x node (-1)).req := HI.out.within.stays HG2.out fun b _ hb => by have := hb.1; show b ≠ m.bm; omega
    obtain ⟨hst, hsty⟩ := StoreAt.turn (np := tp p x node (-1)) (N := fun b => w.heap.size + 1 ≤ b ∧ b < W.heap.size) (fun b hb => by have := hb.1; omega) HS.out HRI.out HRL.out HKL.out (show p.id = _ from congrArg Pod.id HPK.out) HBW.out HG2.out HM4.out hri4
    have hszd : W.drew.heap.size = W.heap.size := rfl
    have hgl : 0 < ps.length → m.gi < w.heap.size := fun h0 => by
      obtain ⟨ja, jc, j1, j2, j3, j4⟩ := HS.out.ids
      exact (World.ownsRow.lt j2 m.gi (by rw [j4 h0]; rfl)).2
    have hbtl := cell_lt HS.out.t0
    have hwW := hBW.size
    refine ⟨a5, c5, W.heap.size, by rw [HL.out]; rfl, ?_, hwW, ?_, ?_⟩
    · refine (hst.stays (Y := fun b => b ≠ w.heap.size) (Stays.set9 _ _ _ _ _ _ _ _ _ ⟨rfl, rfl, rfl, Nat.le_refl _, fun _ _ _ => rfl⟩ (fun h => h rfl)) (by show m.bs ≠ _; omega) (by show m.bt ≠ _; omega) (by show m.bm ≠ _; omega) (fun h0 => by have := hgl (by simpa using h0); show m.gi ≠ _; omega) (fun b _ hb => by show b ≠ _; rcases hb with hx | hx <;> omega)).imp fun b _ hb => ?_
      rcases hb with hx | hx
      · exact ⟨.inl hx, by have := hx.2; omega⟩
      · exact ⟨.inr (by omega), hx.2⟩
    · refine Stays.imp (X := fun b => Off m b ∧ b ≠ w.heap.size) ?_ fun b hb h => ⟨h, by omega⟩
      exact Stays.set9 _ _ _ _ _ _ _ _ _ (hsty.imp fun b _ h => h.1) (fun h => h.2 rfl)
    · have ho : w4.ownsRow W.heap.size 2 1 (.slice a5 l c5) l (p.req.map (Value.int .i64)) := by
        refine ownsRow_of_block HO5.out fun j hj => HB4.out.block j (World.ownsRow.lt HO5.out j hj).2 ?_
        have hjl := (World.ownsRow.lt HO5.out j hj).1
        show j ≠ m.bm
        rw [hszd] at hjl
        omega
      rw [HL.out] at ho
      change (World.ownsRow · _ _ _ (.slice a5 p.req.length c5) p.req.length (p.req.map (Value.int .i64))) _
      show World.ownsRow _ _ _ _ _ _ _
      repeat (first | (with_reducible exact ho) | refine ownsRow_setCell_below ?_ (by show _ < _; simp only []; omega) _)

set_option maxHeartbeats 4000000 in
set_option maxRecDepth 100000 in
theorem sapp_3 {m : Mem} {B : Nat} {X : Nat → Prop} {size : Int} {ps : List Pod} (id node dead : Int) (w : World) (h : StoreAt m B X w size ps) (hz : (getP ps id).req.length * 8 ≤ 140737488351232) (hh : hasP ps id = true) (hn : ¬ nx (getP ps id).ph 3 = 0) {k : Nat} (hk : findI ps 0 id = (k : Int)) :
    Calls Tryd.prog 57 #[.pointer (some ⟨m.bs, 0, none⟩), .int .i64 id, .int .i64 3, .int .i64 node, .int .i64 dead] w (AppOk m B X size ps k (tp (getP ps id) (nx (getP ps id).ph 3) (-1) (-1)) w) := by
  have h' := h.below ((Below.refl _ w).alloc (Nat.le_refl _) (.cells z9 65))
  have hg := sget_any id _ h' hz
  rw [hh] at hg
  have HS := Lib.hid h
  have HG := Lib.hid hg
  have HZ := Lib.hid hz
  clear hg h h' hz
  have hpk : getP ps id = podAt ps k := by unfold getP; rw [if_neg (by omega), hk]; rfl
  obtain ⟨-, hkl, hidk, -⟩ := findI_some hk
  rw [Nat.sub_zero] at hkl hidk
  rw [← hpk] at hidk
  generalize hp : getP ps id = p at *
  have HKL := Lib.hid hkl; clear hkl
  have HIDK := Lib.hid hidk; clear hidk
  have HPK := Lib.hid hpk; clear hpk
  have HFK := Lib.hid hk; clear hk
  have HP := Lib.hid hp; clear hp
  obtain ⟨l, hl⟩ : ∃ l, l = p.req.length := ⟨_, rfl⟩
  have HL := Lib.hid hl; clear hl
  have HNx := Lib.hid fun w => next_any p.ph 3 w
  have HHH := Lib.hid hh; clear hh
  go_enter Tryd.func57, Tryd.ntmps57
  go_wp2_with fail
  refine HG.out.mono ?_
  rintro e w1 ⟨a, cap, rfl, hown, hb⟩
  rw [← HL.out] at hown ⊢
  obtain ⟨hc, hf⟩ := bcell hb
  have hsz := hb.size
  have hb' : Below w.heap.size w w1 := Below.trans ((Below.refl _ w).alloc (Nat.le_refl _) _) (hb.mono (by simp))
  have hsz' : w.heap.size < w1.heap.size := by simp at hsz; omega
  have q0 : ∀ f, w1.cell? ⟨w.heap.size, f, none⟩ = (w.alloc (.cells z9 65)).cell? ⟨w.heap.size, f, none⟩ := fun f => hc _ _ (by simp)
  have q1 : ∀ f, w1.frozen? ⟨w.heap.size, f, none⟩ = false := fun f => by rw [hf _ _ (by simp)]; go_simp
  have r0 : w1.cell? ⟨w.heap.size, 0, none⟩ = some (.int .i64 0) := by rw [q0]; go_simp
  have r1 : w1.cell? ⟨w.heap.size, 1, none⟩ = some (.int .i64 0) := by rw [q0]; go_simp
  have r2 : w1.cell? ⟨w.heap.size, 2, none⟩ = some (.bool false) := by rw [q0]; go_simp
  have r3 : w1.cell? ⟨w.heap.size, 3, none⟩ = some (.int .i64 0) := by rw [q0]; go_simp
  have r4 : w1.cell? ⟨w.heap.size, 4, none⟩ = some (.slice none 0 0) := by rw [q0]; go_simp
  have r5 : w1.cell? ⟨w.heap.size, 5, none⟩ = some (.int .i64 0) := by rw [q0]; go_simp
  have r6 : w1.cell? ⟨w.heap.size, 6, none⟩ = some (.int .i64 0) := by rw [q0]; go_simp
  have r7 : w1.cell? ⟨w.heap.size, 7, none⟩ = some (.int .i64 0) := by rw [q0]; go_simp
  have r8 : w1.cell? ⟨w.heap.size, 8, none⟩ = some (.int .i64 0) := by rw [q0]; go_simp
  have hO : w1.ownsRow (w.heap.size + 1) 2 1 (.slice a l cap) l (p.req.map (Value.int .i64)) := by simpa using hown
  clear q0 hc hf hb hsz hown HG
  obtain ⟨x, hx⟩ : ∃ x, x = nx p.ph 3 := ⟨_, rfl⟩
  have hx0 : (x != 0) = true := by rw [hx]; simpa using hn
  rw [← hx, hx0] at HNx
  have HX := Lib.hid hx
  have hc0 := HS.out.c0
  have hbs := cell_lt hc0
  have hc1 := keepl hb' hc0
  clear hn hx hx0
  go_wp2_with fail
  refine (HNx.out _).mono ?_
  rintro e w2 ⟨rfl, hb2⟩
  have hb2' := Below.trans (hb'.alloc hb'.size _) (hb2.mono (by simp; omega))
  have hsz2 : w1.heap.size < w2.heap.size := by have := hb2.size; simp at this; omega
  have q2 : ∀ f, w2.frozen? ⟨w.heap.size, f, none⟩ = false := fun f => (hb2.frozen (p := ⟨w.heap.size, f, none⟩) (by simp; omega)).trans (by have := q1 f; go_simp)
  have q3 : ∀ f, w2.frozen? ⟨w1.heap.size, f, none⟩ = false := fun f => (hb2.frozen (p := ⟨w1.heap.size, f, none⟩) (by simp)).trans (by go_simp)
  have hc2 : w2.cell? ⟨m.bs, 0, none⟩ = some (.pointer (some ⟨m.bt, 0, none⟩)) := keepc hb2 (by simp; omega) (keepl ((Below.refl _ w1).alloc (Nat.le_refl _) _) hc1)
  have s0 : w2.cell? ⟨w.heap.size, 0, none⟩ = some (.int .i64 0) := keepc hb2 (by simp; omega) (by go_simp)
  have s1 : w2.cell? ⟨w.heap.size, 1, none⟩ = some (.int .i64 0) := keepc hb2 (by simp; omega) (by go_simp)
  have s2 : w2.cell? ⟨w.heap.size, 2, none⟩ = some (.bool false) := keepc hb2 (by simp; omega) (by go_simp)
  have s3 : w2.cell? ⟨w.heap.size, 3, none⟩ = some (.int .i64 0) := keepc hb2 (by simp; omega) (by go_simp)
  have s4 : w2.cell? ⟨w.heap.size, 4, none⟩ = some (.slice none 0 0) := keepc hb2 (by simp; omega) (by go_simp)
  have s5 : w2.cell? ⟨w.heap.size, 5, none⟩ = some (.int .i64 0) := keepc hb2 (by simp; omega) (by go_simp)
  have s6 : w2.cell? ⟨w.heap.size, 6, none⟩ = some (.int .i64 0) := keepc hb2 (by simp; omega) (by go_simp)
  have s7 : w2.cell? ⟨w.heap.size, 7, none⟩ = some (.int .i64 0) := keepc hb2 (by simp; omega) (by go_simp)
  have s8 : w2.cell? ⟨w.heap.size, 8, none⟩ = some (.int .i64 0) := keepc hb2 (by simp; omega) (by go_simp)
  have t0 : w2.cell? ⟨w1.heap.size, 0, none⟩ = some (.int .i64 p.id) := keepc hb2 (by simp) (by go_simp)
  have t1 : w2.cell? ⟨w1.heap.size, 1, none⟩ = some (.int .i64 p.prio) := keepc hb2 (by simp) (by go_simp)
  have t2 : w2.cell? ⟨w1.heap.size, 2, none⟩ = some (.bool p.pre) := keepc hb2 (by simp) (by go_simp)
  have t3 : w2.cell? ⟨w1.heap.size, 3, none⟩ = some (.int .i64 p.grace) := keepc hb2 (by simp) (by go_simp)
  have t4 : w2.cell? ⟨w1.heap.size, 4, none⟩ = some (.slice a l cap) := keepc hb2 (by simp) (by go_simp)
  have t5 : w2.cell? ⟨w1.heap.size, 5, none⟩ = some (.int .i64 p.arr) := keepc hb2 (by simp) (by go_simp)
  have t6 : w2.cell? ⟨w1.heap.size, 6, none⟩ = some (.int .i64 p.ph) := keepc hb2 (by simp) (by go_simp)
  have t7 : w2.cell? ⟨w1.heap.size, 7, none⟩ = some (.int .i64 p.node) := keepc hb2 (by simp) (by go_simp)
  have t8 : w2.cell? ⟨w1.heap.size, 8, none⟩ = some (.int .i64 p.dead) := keepc hb2 (by simp) (by go_simp)
  have hO2 : w2.ownsRow (w.heap.size + 1) 2 1 (.slice a l cap) l (p.req.map (Value.int .i64)) := ownsRow_below (hO.alloc _) hb2
  have HOL : Hid (∀ k, (Value.slice a l cap).ownBlock = some k → k < w1.heap.size) := fun k hk => (World.ownsRow.lt hO k hk).2
  clear hb2 hb' q1 r0 r1 r2 r3 r4 r5 r6 r7 r8 hO hc0 hc1
  have hlt12 : w.heap.size < w2.heap.size := by omega
  have hl12 : (w.heap.size == w1.heap.size) = false := by simp; omega
  go_wp2_with fail
  refine wp_named fun W hW => ?_
  have hBW : Below w.heap.size w W := by rw [hW]; repeat (first | (with_reducible exact hb2') | refine Below.setCell ?_ (by show _ ≤ _; simp only []; omega) _)
  have hszW : W.heap.size = w2.heap.size := by rw [hW]; simp
  have hOW : W.ownsRow (w.heap.size + 1) 2 1 (.slice a l cap) l (p.req.map (Value.int .i64)) := by rw [hW]; refine ownsRow_of_block hO2 fun k hk => ?_; have hkl := HOL.out k hk; repeat (first | rfl | (rw [Below.heap_setCell _ _ _ _ (show k ≠ w1.heap.size by omega)]))
  have S0 : W.cell? ⟨w.heap.size, 0, none⟩ = some (.int .i64 0) := by rw [hW]; go_simp
  have S1 : W.cell? ⟨w.heap.size, 1, none⟩ = some (.int .i64 0) := by rw [hW]; go_simp
  have S2 : W.cell? ⟨w.heap.size, 2, none⟩ = some (.bool false) := by rw [hW]; go_simp
  have S3 : W.cell? ⟨w.heap.size, 3, none⟩ = some (.int .i64 0) := by rw [hW]; go_simp
  have S4 : W.cell? ⟨w.heap.size, 4, none⟩ = some (.slice none 0 0) := by rw [hW]; go_simp
  have S5 : W.cell? ⟨w.heap.size, 5, none⟩ = some (.int .i64 0) := by rw [hW]; go_simp
  have S6 : W.cell? ⟨w.heap.size, 6, none⟩ = some (.int .i64 0) := by rw [hW]; go_simp
  have S7 : W.cell? ⟨w.heap.size, 7, none⟩ = some (.int .i64 0) := by rw [hW]; go_simp
  have S8 : W.cell? ⟨w.heap.size, 8, none⟩ = some (.int .i64 0) := by rw [hW]; go_simp
  have T0 : W.cell? ⟨w1.heap.size, 0, none⟩ = some (.int .i64 p.id) := by rw [hW]; go_simp
  have T1 : W.cell? ⟨w1.heap.size, 1, none⟩ = some (.int .i64 p.prio) := by rw [hW]; go_simp
  have T2 : W.cell? ⟨w1.heap.size, 2, none⟩ = some (.bool p.pre) := by rw [hW]; go_simp
  have T3 : W.cell? ⟨w1.heap.size, 3, none⟩ = some (.int .i64 p.grace) := by rw [hW]; go_simp
  have T4 : W.cell? ⟨w1.heap.size, 4, none⟩ = some (.slice a l cap) := by rw [hW]; go_simp
  have T5 : W.cell? ⟨w1.heap.size, 5, none⟩ = some (.int .i64 p.arr) := by rw [hW]; go_simp
  have T6 : W.cell? ⟨w1.heap.size, 6, none⟩ = some (.int .i64 x) := by rw [hW]; go_simp
  have T7 : W.cell? ⟨w1.heap.size, 7, none⟩ = some (.int .i64 (-1)) := by rw [hW]; go_simp
  have T8 : W.cell? ⟨w1.heap.size, 8, none⟩ = some (.int .i64 (-1)) := by rw [hW]; go_simp
  have Sf : ∀ f, W.frozen? ⟨w.heap.size, f, none⟩ = false := fun f => by rw [hW]; go_simp
  have J0 : W.cell? ⟨m.bs, 0, none⟩ = some (.pointer (some ⟨m.bt, 0, none⟩)) := by rw [hW]; go_simp
  clear hW
  clear q2 q3 s0 s1 s2 s3 s4 s5 s6 s7 s8 t0 t1 t2 t3 t4 t5 t6 t7 t8 hO2 hc2 hb2'
  have hsm : m.bs ≠ m.bm := HS.out.ne.2.2.1
  obtain ⟨rvs, hm, hri⟩ := HS.out.map
  have hbml := hm.lt
  have HRL : Hid (rvs.length = ps.length) := hm.choose_spec.choose_spec.2.2
  have h0m : w.heap.size ≠ m.bm := by omega
  have h1m : w1.heap.size ≠ m.bm := by omega
  have h10 : w1.heap.size ≠ w.heap.size := by omega
  have hs0 : m.bs ≠ w.heap.size := by omega
  have HNP : Hid (tp p x (-1) (-1) = tp (p) (nx p.ph 3) (-1) (-1)) := by rw [HX.out]; rfl
  have HID : Hid (∀ w' : World, Stays (fun b => b ≠ m.bm ∧ b ≠ w.heap.size) W w' → (w'.cell? ⟨w1.heap.size, 0, none⟩ = some (.int .i64 p.id) ∧ w'.cell? ⟨w1.heap.size, 1, none⟩ = some (.int .i64 p.prio) ∧ w'.cell? ⟨w1.heap.size, 2, none⟩ = some (.bool p.pre) ∧ w'.cell? ⟨w1.heap.size, 3, none⟩ = some (.int .i64 p.grace) ∧ w'.cell? ⟨w1.heap.size, 4, none⟩ = some (.slice a l cap) ∧ w'.cell? ⟨w1.heap.size, 5, none⟩ = some (.int .i64 p.arr) ∧ w'.cell? ⟨w1.heap.size, 6, none⟩ = some (.int .i64 x) ∧ w'.cell? ⟨w1.heap.size, 7, none⟩ = some (.int .i64 (-1)) ∧ w'.cell? ⟨w1.heap.size, 8, none⟩ = some (.int .i64 (-1)) ∧ w'.cell? ⟨m.bs, 0, none⟩ = some (.pointer (some ⟨m.bt, 0, none⟩)))) := fun w' h => ⟨h.cell ⟨h1m, h10⟩ T0, h.cell ⟨h1m, h10⟩ T1, h.cell ⟨h1m, h10⟩ T2, h.cell ⟨h1m, h10⟩ T3, h.cell ⟨h1m, h10⟩ T4, h.cell ⟨h1m, h10⟩ T5, h.cell ⟨h1m, h10⟩ T6, h.cell ⟨h1m, h10⟩ T7, h.cell ⟨h1m, h10⟩ T8, h.cell ⟨hsm, hs0⟩ J0⟩
  have hv0 : Stays (fun b => b ≠ m.bm) W W.drew := Stays.of (Below.refl _ _).drew
  have hI0 : IntsIn (fun b => w.heap.size + 1 ≤ b) W (.slice a l cap) p.req := ownsRow_int hOW HL.out
  have HI := Lib.hid hI0
  have HC : Hid (∀ W', Below W.heap.size W W' → Calls Tryd.prog 103 #[.agg #[.int .i64 p.id, .int .i64 p.prio, .bool p.pre, .int .i64 p.grace, .slice a l cap, .int .i64 p.arr, .int .i64 x, .int .i64 (-1), .int .i64 (-1)]] W' fun e w' => ∃ a5 c5, e = .returned (.agg #[.int .i64 p.id, .int .i64 p.prio, .bool p.pre, .int .i64 p.grace, .slice a5 l c5, .int .i64 p.arr, .int .i64 x, .int .i64 (-1), .int .i64 (-1)]) ∧ w'.ownsRow W'.heap.size 2 1 (.slice a5 l c5) l (p.req.map (Value.int .i64)) ∧ Below W'.heap.size W' w') := fun W' hb =>
    (copied_any (tp p x (-1) (-1)) (.slice a l cap) W' HZ.out (hI0.ints.below hb)).mono fun e w' ⟨a5, c5, he, ho, hb⟩ => ⟨a5, c5, by rw [HL.out]; exact he, by rw [HL.out]; exact ho, hb⟩
  have HT : Hid (∀ W', Below W.heap.size W W' → Calls Tryd.prog 105 #[.pointer (some ⟨m.bt, 0, none⟩), .int .i64 id, .agg #[.int .i64 p.id, .int .i64 p.prio, .bool p.pre, .int .i64 p.grace, .slice a l cap, .int .i64 p.arr, .int .i64 x, .int .i64 (-1), .int .i64 (-1)]] W' fun e w' => e = .returned .nilIface ∧ Stays (fun b => b ≠ m.bm) W' w' ∧ MapAt w' m.bm (ps.set k (tp p x (-1) (-1))) (rvs.set k (.slice a l cap))) := fun W' hb => by
    have hb0 : Below w.heap.size w W' := hBW.trans (hb.mono hBW.size)
    have h : Calls Tryd.prog 105 #[.pointer (some ⟨m.bt, 0, none⟩), .int .i64 p.id, .agg #[.int .i64 p.id, .int .i64 p.prio, .bool p.pre, .int .i64 p.grace, .slice a l cap, .int .i64 p.arr, .int .i64 x, .int .i64 (-1), .int .i64 (-1)]] W' fun e w' => e = .returned .nilIface ∧ Stays (fun b => b ≠ m.bm) W' w' ∧ MapAt w' m.bm (ps.set k (tp p x (-1) (-1))) (rvs.set k (.slice a l cap)) :=
      tset_any (tp p x (-1) (-1)) (.slice a l cap) W' (HS.out.below hb0) (by rw [show (tp p x (-1) (-1)).id = p.id from rfl, HIDK.out]; exact HFK.out) (hm.below hb0 hm.lt)
    rw [HIDK.out] at h ⊢
    exact h
  clear hI0 hOW hm
  have HRI := Lib.hid hri; clear hri
  have HBW := Lib.hid hBW
  have HK0 := Lib.hid (HID.out _ (Stays.imp hv0 fun b _ h => h.1))
  go_region_held3 (fun w' => w'.cell? ⟨w1.heap.size, 0, none⟩ = some (.int .i64 p.id) ∧ w'.cell? ⟨w1.heap.size, 1, none⟩ = some (.int .i64 p.prio) ∧ w'.cell? ⟨w1.heap.size, 2, none⟩ = some (.bool p.pre) ∧ w'.cell? ⟨w1.heap.size, 3, none⟩ = some (.int .i64 p.grace) ∧ w'.cell? ⟨w1.heap.size, 4, none⟩ = some (.slice a l cap) ∧ w'.cell? ⟨w1.heap.size, 5, none⟩ = some (.int .i64 p.arr) ∧ w'.cell? ⟨w1.heap.size, 6, none⟩ = some (.int .i64 x) ∧ w'.cell? ⟨w1.heap.size, 7, none⟩ = some (.int .i64 (-1)) ∧ w'.cell? ⟨w1.heap.size, 8, none⟩ = some (.int .i64 (-1)) ∧ w'.cell? ⟨m.bs, 0, none⟩ = some (.pointer (some ⟨m.bt, 0, none⟩)))
    (first
      | (with_reducible exact HK0.out)
      | (with_reducible exact HK1.out)
      | (with_reducible exact HK2.out)
      | (with_reducible exact HK9.out _ _ _ _ _ _ _ _ _))
    (first
      | (go_at_call 103; ((with_reducible refine (HC.out _ (Below.refl _ _).drew).mono ?_)); rintro e w3 ⟨a5, c5, rfl, hown5, hb5⟩; have hg1 : Stays (fun b => b ≠ m.bm) W w3 := hv0.trans (Stays.of hb5); have hb3 : Below W.heap.size W w3 := ((Below.refl _ W).drew).trans hb5; have HK1 := Lib.hid (HID.out _ (Stays.imp hg1 fun b _ h => h.1)))
      | (go_at_call 105; ((with_reducible refine (HT.out _ hb3).mono ?_)); rintro e w4 ⟨rfl, hb4, hm4⟩; have hg2 : Stays (fun b => b ≠ m.bm) W w4 := hg1.trans hb4; have S0 := hg2.cell h0m S0; have S1 := hg2.cell h0m S1; have S2 := hg2.cell h0m S2; have S3 := hg2.cell h0m S3; have S4 := hg2.cell h0m S4; have S5 := hg2.cell h0m S5; have S6 := hg2.cell h0m S6; have S7 := hg2.cell h0m S7; have S8 := hg2.cell h0m S8; have Sf4 : ∀ f, w4.frozen? ⟨w.heap.size, f, none⟩ = false := (fun f => (hg2.frozen (by omega) h0m).trans (Sf f)); have HK2 := Lib.hid (HID.out _ (Stays.imp hg2 fun b _ h => h.1)); have HK9 := Lib.hid (fun v0 v1 v2 v3 v4 v5 v6 v7 v8 => HID.out _ (Stays.set9 v0 v1 v2 v3 v4 v5 v6 v7 v8 (Stays.imp hg2 fun b _ h => h.1) (fun h => h.2 rfl)))))
  all_goals
    have HM4 := Lib.hid hm4
    have HG2 := Lib.hid hg2
    have HO5 := Lib.hid hown5
    have HB4 := Lib.hid hb4
    clear hm4 hg2 hown5 hg1 hb3 hb4 hb5 HK0 HK1 HK2 HK9 HT HC HID T0 T1 T2 T3 T4 T5 T6 T7 T8 J0 HNx hv0
    go_wp2
    refine bodyPost_ret (v := .tuple #[.agg #[.int .i64 p.id, .int .i64 p.prio, .bool p.pre, .int .i64 p.grace, .slice a5 l c5, .int .i64 p.arr, .int .i64 x, .int .i64 (-1), .int .i64 (-1)], .nilIface]) ?_ rfl ?_
    · simp only [results, Tryd.results57]
      go_simp
    rw [← HNP.out]
    have hri4 : IntsIn (fun b => w.heap.size + 1 ≤ b ∧ b < W.heap.size) w4 (.slice a l cap) (tp p x (-1) (-1)).req := HI.out.within.stays HG2.out fun b _ hb => by have := hb.1; show b ≠ m.bm; omega
    obtain ⟨hst, hsty⟩ := StoreAt.turn (np := tp p x (-1) (-1)) (N := fun b => w.heap.size + 1 ≤ b ∧ b < W.heap.size) (fun b hb => by have := hb.1; omega) HS.out HRI.out HRL.out HKL.out (show p.id = _ from congrArg Pod.id HPK.out) HBW.out HG2.out HM4.out hri4
    have hszd : W.drew.heap.size = W.heap.size := rfl
    have hgl : 0 < ps.length → m.gi < w.heap.size := fun h0 => by
      obtain ⟨ja, jc, j1, j2, j3, j4⟩ := HS.out.ids
      exact (World.ownsRow.lt j2 m.gi (by rw [j4 h0]; rfl)).2
    have hbtl := cell_lt HS.out.t0
    have hwW := hBW.size
    refine ⟨a5, c5, W.heap.size, by rw [HL.out]; rfl, ?_, hwW, ?_, ?_⟩
    · refine (hst.stays (Y := fun b => b ≠ w.heap.size) (Stays.set9 _ _ _ _ _ _ _ _ _ ⟨rfl, rfl, rfl, Nat.le_refl _, fun _ _ _ => rfl⟩ (fun h => h rfl)) (by show m.bs ≠ _; omega) (by show m.bt ≠ _; omega) (by show m.bm ≠ _; omega) (fun h0 => by have := hgl (by simpa using h0); show m.gi ≠ _; omega) (fun b _ hb => by show b ≠ _; rcases hb with hx | hx <;> omega)).imp fun b _ hb => ?_
      rcases hb with hx | hx
      · exact ⟨.inl hx, by have := hx.2; omega⟩
      · exact ⟨.inr (by omega), hx.2⟩
    · refine Stays.imp (X := fun b => Off m b ∧ b ≠ w.heap.size) ?_ fun b hb h => ⟨h, by omega⟩
      exact Stays.set9 _ _ _ _ _ _ _ _ _ (hsty.imp fun b _ h => h.1) (fun h => h.2 rfl)
    · have ho : w4.ownsRow W.heap.size 2 1 (.slice a5 l c5) l (p.req.map (Value.int .i64)) := by
        refine ownsRow_of_block HO5.out fun j hj => HB4.out.block j (World.ownsRow.lt HO5.out j hj).2 ?_
        have hjl := (World.ownsRow.lt HO5.out j hj).1
        show j ≠ m.bm
        rw [hszd] at hjl
        omega
      rw [HL.out] at ho
      change (World.ownsRow · _ _ _ (.slice a5 p.req.length c5) p.req.length (p.req.map (Value.int .i64))) _
      show World.ownsRow _ _ _ _ _ _ _
      repeat (first | (with_reducible exact ho) | refine ownsRow_setCell_below ?_ (by show _ < _; simp only []; omega) _)

set_option maxHeartbeats 4000000 in
set_option maxRecDepth 100000 in
theorem sapp_4 {m : Mem} {B : Nat} {X : Nat → Prop} {size : Int} {ps : List Pod} (id node dead : Int) (w : World) (h : StoreAt m B X w size ps) (hz : (getP ps id).req.length * 8 ≤ 140737488351232) (hh : hasP ps id = true) (hn : ¬ nx (getP ps id).ph 4 = 0) {k : Nat} (hk : findI ps 0 id = (k : Int)) :
    Calls Tryd.prog 57 #[.pointer (some ⟨m.bs, 0, none⟩), .int .i64 id, .int .i64 4, .int .i64 node, .int .i64 dead] w (AppOk m B X size ps k (tp (getP ps id) (nx (getP ps id).ph 4) (getP ps id).node dead) w) := by
  have h' := h.below ((Below.refl _ w).alloc (Nat.le_refl _) (.cells z9 65))
  have hg := sget_any id _ h' hz
  rw [hh] at hg
  have HS := Lib.hid h
  have HG := Lib.hid hg
  have HZ := Lib.hid hz
  clear hg h h' hz
  have hpk : getP ps id = podAt ps k := by unfold getP; rw [if_neg (by omega), hk]; rfl
  obtain ⟨-, hkl, hidk, -⟩ := findI_some hk
  rw [Nat.sub_zero] at hkl hidk
  rw [← hpk] at hidk
  generalize hp : getP ps id = p at *
  have HKL := Lib.hid hkl; clear hkl
  have HIDK := Lib.hid hidk; clear hidk
  have HPK := Lib.hid hpk; clear hpk
  have HFK := Lib.hid hk; clear hk
  have HP := Lib.hid hp; clear hp
  obtain ⟨l, hl⟩ : ∃ l, l = p.req.length := ⟨_, rfl⟩
  have HL := Lib.hid hl; clear hl
  have HNx := Lib.hid fun w => next_any p.ph 4 w
  have HHH := Lib.hid hh; clear hh
  go_enter Tryd.func57, Tryd.ntmps57
  go_wp2_with fail
  refine HG.out.mono ?_
  rintro e w1 ⟨a, cap, rfl, hown, hb⟩
  rw [← HL.out] at hown ⊢
  obtain ⟨hc, hf⟩ := bcell hb
  have hsz := hb.size
  have hb' : Below w.heap.size w w1 := Below.trans ((Below.refl _ w).alloc (Nat.le_refl _) _) (hb.mono (by simp))
  have hsz' : w.heap.size < w1.heap.size := by simp at hsz; omega
  have q0 : ∀ f, w1.cell? ⟨w.heap.size, f, none⟩ = (w.alloc (.cells z9 65)).cell? ⟨w.heap.size, f, none⟩ := fun f => hc _ _ (by simp)
  have q1 : ∀ f, w1.frozen? ⟨w.heap.size, f, none⟩ = false := fun f => by rw [hf _ _ (by simp)]; go_simp
  have r0 : w1.cell? ⟨w.heap.size, 0, none⟩ = some (.int .i64 0) := by rw [q0]; go_simp
  have r1 : w1.cell? ⟨w.heap.size, 1, none⟩ = some (.int .i64 0) := by rw [q0]; go_simp
  have r2 : w1.cell? ⟨w.heap.size, 2, none⟩ = some (.bool false) := by rw [q0]; go_simp
  have r3 : w1.cell? ⟨w.heap.size, 3, none⟩ = some (.int .i64 0) := by rw [q0]; go_simp
  have r4 : w1.cell? ⟨w.heap.size, 4, none⟩ = some (.slice none 0 0) := by rw [q0]; go_simp
  have r5 : w1.cell? ⟨w.heap.size, 5, none⟩ = some (.int .i64 0) := by rw [q0]; go_simp
  have r6 : w1.cell? ⟨w.heap.size, 6, none⟩ = some (.int .i64 0) := by rw [q0]; go_simp
  have r7 : w1.cell? ⟨w.heap.size, 7, none⟩ = some (.int .i64 0) := by rw [q0]; go_simp
  have r8 : w1.cell? ⟨w.heap.size, 8, none⟩ = some (.int .i64 0) := by rw [q0]; go_simp
  have hO : w1.ownsRow (w.heap.size + 1) 2 1 (.slice a l cap) l (p.req.map (Value.int .i64)) := by simpa using hown
  clear q0 hc hf hb hsz hown HG
  obtain ⟨x, hx⟩ : ∃ x, x = nx p.ph 4 := ⟨_, rfl⟩
  have hx0 : (x != 0) = true := by rw [hx]; simpa using hn
  rw [← hx, hx0] at HNx
  have HX := Lib.hid hx
  have hc0 := HS.out.c0
  have hbs := cell_lt hc0
  have hc1 := keepl hb' hc0
  clear hn hx hx0
  go_wp2_with fail
  refine (HNx.out _).mono ?_
  rintro e w2 ⟨rfl, hb2⟩
  have hb2' := Below.trans (hb'.alloc hb'.size _) (hb2.mono (by simp; omega))
  have hsz2 : w1.heap.size < w2.heap.size := by have := hb2.size; simp at this; omega
  have q2 : ∀ f, w2.frozen? ⟨w.heap.size, f, none⟩ = false := fun f => (hb2.frozen (p := ⟨w.heap.size, f, none⟩) (by simp; omega)).trans (by have := q1 f; go_simp)
  have q3 : ∀ f, w2.frozen? ⟨w1.heap.size, f, none⟩ = false := fun f => (hb2.frozen (p := ⟨w1.heap.size, f, none⟩) (by simp)).trans (by go_simp)
  have hc2 : w2.cell? ⟨m.bs, 0, none⟩ = some (.pointer (some ⟨m.bt, 0, none⟩)) := keepc hb2 (by simp; omega) (keepl ((Below.refl _ w1).alloc (Nat.le_refl _) _) hc1)
  have s0 : w2.cell? ⟨w.heap.size, 0, none⟩ = some (.int .i64 0) := keepc hb2 (by simp; omega) (by go_simp)
  have s1 : w2.cell? ⟨w.heap.size, 1, none⟩ = some (.int .i64 0) := keepc hb2 (by simp; omega) (by go_simp)
  have s2 : w2.cell? ⟨w.heap.size, 2, none⟩ = some (.bool false) := keepc hb2 (by simp; omega) (by go_simp)
  have s3 : w2.cell? ⟨w.heap.size, 3, none⟩ = some (.int .i64 0) := keepc hb2 (by simp; omega) (by go_simp)
  have s4 : w2.cell? ⟨w.heap.size, 4, none⟩ = some (.slice none 0 0) := keepc hb2 (by simp; omega) (by go_simp)
  have s5 : w2.cell? ⟨w.heap.size, 5, none⟩ = some (.int .i64 0) := keepc hb2 (by simp; omega) (by go_simp)
  have s6 : w2.cell? ⟨w.heap.size, 6, none⟩ = some (.int .i64 0) := keepc hb2 (by simp; omega) (by go_simp)
  have s7 : w2.cell? ⟨w.heap.size, 7, none⟩ = some (.int .i64 0) := keepc hb2 (by simp; omega) (by go_simp)
  have s8 : w2.cell? ⟨w.heap.size, 8, none⟩ = some (.int .i64 0) := keepc hb2 (by simp; omega) (by go_simp)
  have t0 : w2.cell? ⟨w1.heap.size, 0, none⟩ = some (.int .i64 p.id) := keepc hb2 (by simp) (by go_simp)
  have t1 : w2.cell? ⟨w1.heap.size, 1, none⟩ = some (.int .i64 p.prio) := keepc hb2 (by simp) (by go_simp)
  have t2 : w2.cell? ⟨w1.heap.size, 2, none⟩ = some (.bool p.pre) := keepc hb2 (by simp) (by go_simp)
  have t3 : w2.cell? ⟨w1.heap.size, 3, none⟩ = some (.int .i64 p.grace) := keepc hb2 (by simp) (by go_simp)
  have t4 : w2.cell? ⟨w1.heap.size, 4, none⟩ = some (.slice a l cap) := keepc hb2 (by simp) (by go_simp)
  have t5 : w2.cell? ⟨w1.heap.size, 5, none⟩ = some (.int .i64 p.arr) := keepc hb2 (by simp) (by go_simp)
  have t6 : w2.cell? ⟨w1.heap.size, 6, none⟩ = some (.int .i64 p.ph) := keepc hb2 (by simp) (by go_simp)
  have t7 : w2.cell? ⟨w1.heap.size, 7, none⟩ = some (.int .i64 p.node) := keepc hb2 (by simp) (by go_simp)
  have t8 : w2.cell? ⟨w1.heap.size, 8, none⟩ = some (.int .i64 p.dead) := keepc hb2 (by simp) (by go_simp)
  have hO2 : w2.ownsRow (w.heap.size + 1) 2 1 (.slice a l cap) l (p.req.map (Value.int .i64)) := ownsRow_below (hO.alloc _) hb2
  have HOL : Hid (∀ k, (Value.slice a l cap).ownBlock = some k → k < w1.heap.size) := fun k hk => (World.ownsRow.lt hO k hk).2
  clear hb2 hb' q1 r0 r1 r2 r3 r4 r5 r6 r7 r8 hO hc0 hc1
  have hlt12 : w.heap.size < w2.heap.size := by omega
  have hl12 : (w.heap.size == w1.heap.size) = false := by simp; omega
  go_wp2_with fail
  refine wp_named fun W hW => ?_
  have hBW : Below w.heap.size w W := by rw [hW]; repeat (first | (with_reducible exact hb2') | refine Below.setCell ?_ (by show _ ≤ _; simp only []; omega) _)
  have hszW : W.heap.size = w2.heap.size := by rw [hW]; simp
  have hOW : W.ownsRow (w.heap.size + 1) 2 1 (.slice a l cap) l (p.req.map (Value.int .i64)) := by rw [hW]; refine ownsRow_of_block hO2 fun k hk => ?_; have hkl := HOL.out k hk; repeat (first | rfl | (rw [Below.heap_setCell _ _ _ _ (show k ≠ w1.heap.size by omega)]))
  have S0 : W.cell? ⟨w.heap.size, 0, none⟩ = some (.int .i64 0) := by rw [hW]; go_simp
  have S1 : W.cell? ⟨w.heap.size, 1, none⟩ = some (.int .i64 0) := by rw [hW]; go_simp
  have S2 : W.cell? ⟨w.heap.size, 2, none⟩ = some (.bool false) := by rw [hW]; go_simp
  have S3 : W.cell? ⟨w.heap.size, 3, none⟩ = some (.int .i64 0) := by rw [hW]; go_simp
  have S4 : W.cell? ⟨w.heap.size, 4, none⟩ = some (.slice none 0 0) := by rw [hW]; go_simp
  have S5 : W.cell? ⟨w.heap.size, 5, none⟩ = some (.int .i64 0) := by rw [hW]; go_simp
  have S6 : W.cell? ⟨w.heap.size, 6, none⟩ = some (.int .i64 0) := by rw [hW]; go_simp
  have S7 : W.cell? ⟨w.heap.size, 7, none⟩ = some (.int .i64 0) := by rw [hW]; go_simp
  have S8 : W.cell? ⟨w.heap.size, 8, none⟩ = some (.int .i64 0) := by rw [hW]; go_simp
  have T0 : W.cell? ⟨w1.heap.size, 0, none⟩ = some (.int .i64 p.id) := by rw [hW]; go_simp
  have T1 : W.cell? ⟨w1.heap.size, 1, none⟩ = some (.int .i64 p.prio) := by rw [hW]; go_simp
  have T2 : W.cell? ⟨w1.heap.size, 2, none⟩ = some (.bool p.pre) := by rw [hW]; go_simp
  have T3 : W.cell? ⟨w1.heap.size, 3, none⟩ = some (.int .i64 p.grace) := by rw [hW]; go_simp
  have T4 : W.cell? ⟨w1.heap.size, 4, none⟩ = some (.slice a l cap) := by rw [hW]; go_simp
  have T5 : W.cell? ⟨w1.heap.size, 5, none⟩ = some (.int .i64 p.arr) := by rw [hW]; go_simp
  have T6 : W.cell? ⟨w1.heap.size, 6, none⟩ = some (.int .i64 x) := by rw [hW]; go_simp
  have T7 : W.cell? ⟨w1.heap.size, 7, none⟩ = some (.int .i64 p.node) := by rw [hW]; go_simp
  have T8 : W.cell? ⟨w1.heap.size, 8, none⟩ = some (.int .i64 dead) := by rw [hW]; exact World.cell?_setCell_same' _ _ _ (by rw [World.cell?_setCell_same' _ _ _ (by go_simp)]; rfl)
  have Sf : ∀ f, W.frozen? ⟨w.heap.size, f, none⟩ = false := fun f => by rw [hW]; go_simp
  have J0 : W.cell? ⟨m.bs, 0, none⟩ = some (.pointer (some ⟨m.bt, 0, none⟩)) := by rw [hW]; go_simp
  clear hW
  clear q2 q3 s0 s1 s2 s3 s4 s5 s6 s7 s8 t0 t1 t2 t3 t4 t5 t6 t7 t8 hO2 hc2 hb2'
  have hsm : m.bs ≠ m.bm := HS.out.ne.2.2.1
  obtain ⟨rvs, hm, hri⟩ := HS.out.map
  have hbml := hm.lt
  have HRL : Hid (rvs.length = ps.length) := hm.choose_spec.choose_spec.2.2
  have h0m : w.heap.size ≠ m.bm := by omega
  have h1m : w1.heap.size ≠ m.bm := by omega
  have h10 : w1.heap.size ≠ w.heap.size := by omega
  have hs0 : m.bs ≠ w.heap.size := by omega
  have HNP : Hid (tp p x (p.node) dead = tp (p) (nx p.ph 4) (p.node) dead) := by rw [HX.out]; rfl
  have HID : Hid (∀ w' : World, Stays (fun b => b ≠ m.bm ∧ b ≠ w.heap.size) W w' → (w'.cell? ⟨w1.heap.size, 0, none⟩ = some (.int .i64 p.id) ∧ w'.cell? ⟨w1.heap.size, 1, none⟩ = some (.int .i64 p.prio) ∧ w'.cell? ⟨w1.heap.size, 2, none⟩ = some (.bool p.pre) ∧ w'.cell? ⟨w1.heap.size, 3, none⟩ = some (.int .i64 p.grace) ∧ w'.cell? ⟨w1.heap.size, 4, none⟩ = some (.slice a l cap) ∧ w'.cell? ⟨w1.heap.size, 5, none⟩ = some (.int .i64 p.arr) ∧ w'.cell? ⟨w1.heap.size, 6, none⟩ = some (.int .i64 x) ∧ w'.cell? ⟨w1.heap.size, 7, none⟩ = some (.int .i64 p.node) ∧ w'.cell? ⟨w1.heap.size, 8, none⟩ = some (.int .i64 dead) ∧ w'.cell? ⟨m.bs, 0, none⟩ = some (.pointer (some ⟨m.bt, 0, none⟩)))) := fun w' h => ⟨h.cell ⟨h1m, h10⟩ T0, h.cell ⟨h1m, h10⟩ T1, h.cell ⟨h1m, h10⟩ T2, h.cell ⟨h1m, h10⟩ T3, h.cell ⟨h1m, h10⟩ T4, h.cell ⟨h1m, h10⟩ T5, h.cell ⟨h1m, h10⟩ T6, h.cell ⟨h1m, h10⟩ T7, h.cell ⟨h1m, h10⟩ T8, h.cell ⟨hsm, hs0⟩ J0⟩
  have hv0 : Stays (fun b => b ≠ m.bm) W W.drew := Stays.of (Below.refl _ _).drew
  have hI0 : IntsIn (fun b => w.heap.size + 1 ≤ b) W (.slice a l cap) p.req := ownsRow_int hOW HL.out
  have HI := Lib.hid hI0
  have HC : Hid (∀ W', Below W.heap.size W W' → Calls Tryd.prog 103 #[.agg #[.int .i64 p.id, .int .i64 p.prio, .bool p.pre, .int .i64 p.grace, .slice a l cap, .int .i64 p.arr, .int .i64 x, .int .i64 p.node, .int .i64 dead]] W' fun e w' => ∃ a5 c5, e = .returned (.agg #[.int .i64 p.id, .int .i64 p.prio, .bool p.pre, .int .i64 p.grace, .slice a5 l c5, .int .i64 p.arr, .int .i64 x, .int .i64 p.node, .int .i64 dead]) ∧ w'.ownsRow W'.heap.size 2 1 (.slice a5 l c5) l (p.req.map (Value.int .i64)) ∧ Below W'.heap.size W' w') := fun W' hb =>
    (copied_any (tp p x (p.node) dead) (.slice a l cap) W' HZ.out (hI0.ints.below hb)).mono fun e w' ⟨a5, c5, he, ho, hb⟩ => ⟨a5, c5, by rw [HL.out]; exact he, by rw [HL.out]; exact ho, hb⟩
  have HT : Hid (∀ W', Below W.heap.size W W' → Calls Tryd.prog 105 #[.pointer (some ⟨m.bt, 0, none⟩), .int .i64 id, .agg #[.int .i64 p.id, .int .i64 p.prio, .bool p.pre, .int .i64 p.grace, .slice a l cap, .int .i64 p.arr, .int .i64 x, .int .i64 p.node, .int .i64 dead]] W' fun e w' => e = .returned .nilIface ∧ Stays (fun b => b ≠ m.bm) W' w' ∧ MapAt w' m.bm (ps.set k (tp p x (p.node) dead)) (rvs.set k (.slice a l cap))) := fun W' hb => by
    have hb0 : Below w.heap.size w W' := hBW.trans (hb.mono hBW.size)
    have h : Calls Tryd.prog 105 #[.pointer (some ⟨m.bt, 0, none⟩), .int .i64 p.id, .agg #[.int .i64 p.id, .int .i64 p.prio, .bool p.pre, .int .i64 p.grace, .slice a l cap, .int .i64 p.arr, .int .i64 x, .int .i64 p.node, .int .i64 dead]] W' fun e w' => e = .returned .nilIface ∧ Stays (fun b => b ≠ m.bm) W' w' ∧ MapAt w' m.bm (ps.set k (tp p x (p.node) dead)) (rvs.set k (.slice a l cap)) :=
      tset_any (tp p x (p.node) dead) (.slice a l cap) W' (HS.out.below hb0) (by rw [show (tp p x (p.node) dead).id = p.id from rfl, HIDK.out]; exact HFK.out) (hm.below hb0 hm.lt)
    rw [HIDK.out] at h ⊢
    exact h
  clear hI0 hOW hm
  have HRI := Lib.hid hri; clear hri
  have HBW := Lib.hid hBW
  have HK0 := Lib.hid (HID.out _ (Stays.imp hv0 fun b _ h => h.1))
  go_region_held3 (fun w' => w'.cell? ⟨w1.heap.size, 0, none⟩ = some (.int .i64 p.id) ∧ w'.cell? ⟨w1.heap.size, 1, none⟩ = some (.int .i64 p.prio) ∧ w'.cell? ⟨w1.heap.size, 2, none⟩ = some (.bool p.pre) ∧ w'.cell? ⟨w1.heap.size, 3, none⟩ = some (.int .i64 p.grace) ∧ w'.cell? ⟨w1.heap.size, 4, none⟩ = some (.slice a l cap) ∧ w'.cell? ⟨w1.heap.size, 5, none⟩ = some (.int .i64 p.arr) ∧ w'.cell? ⟨w1.heap.size, 6, none⟩ = some (.int .i64 x) ∧ w'.cell? ⟨w1.heap.size, 7, none⟩ = some (.int .i64 p.node) ∧ w'.cell? ⟨w1.heap.size, 8, none⟩ = some (.int .i64 dead) ∧ w'.cell? ⟨m.bs, 0, none⟩ = some (.pointer (some ⟨m.bt, 0, none⟩)))
    (first
      | (with_reducible exact HK0.out)
      | (with_reducible exact HK1.out)
      | (with_reducible exact HK2.out)
      | (with_reducible exact HK9.out _ _ _ _ _ _ _ _ _))
    (first
      | (go_at_call 103; ((with_reducible refine (HC.out _ (Below.refl _ _).drew).mono ?_)); rintro e w3 ⟨a5, c5, rfl, hown5, hb5⟩; have hg1 : Stays (fun b => b ≠ m.bm) W w3 := hv0.trans (Stays.of hb5); have hb3 : Below W.heap.size W w3 := ((Below.refl _ W).drew).trans hb5; have HK1 := Lib.hid (HID.out _ (Stays.imp hg1 fun b _ h => h.1)))
      | (go_at_call 105; ((with_reducible refine (HT.out _ hb3).mono ?_)); rintro e w4 ⟨rfl, hb4, hm4⟩; have hg2 : Stays (fun b => b ≠ m.bm) W w4 := hg1.trans hb4; have S0 := hg2.cell h0m S0; have S1 := hg2.cell h0m S1; have S2 := hg2.cell h0m S2; have S3 := hg2.cell h0m S3; have S4 := hg2.cell h0m S4; have S5 := hg2.cell h0m S5; have S6 := hg2.cell h0m S6; have S7 := hg2.cell h0m S7; have S8 := hg2.cell h0m S8; have Sf4 : ∀ f, w4.frozen? ⟨w.heap.size, f, none⟩ = false := (fun f => (hg2.frozen (by omega) h0m).trans (Sf f)); have HK2 := Lib.hid (HID.out _ (Stays.imp hg2 fun b _ h => h.1)); have HK9 := Lib.hid (fun v0 v1 v2 v3 v4 v5 v6 v7 v8 => HID.out _ (Stays.set9 v0 v1 v2 v3 v4 v5 v6 v7 v8 (Stays.imp hg2 fun b _ h => h.1) (fun h => h.2 rfl)))))
  all_goals
    have HM4 := Lib.hid hm4
    have HG2 := Lib.hid hg2
    have HO5 := Lib.hid hown5
    have HB4 := Lib.hid hb4
    clear hm4 hg2 hown5 hg1 hb3 hb4 hb5 HK0 HK1 HK2 HK9 HT HC HID T0 T1 T2 T3 T4 T5 T6 T7 T8 J0 HNx hv0
    go_wp2
    refine bodyPost_ret (v := .tuple #[.agg #[.int .i64 p.id, .int .i64 p.prio, .bool p.pre, .int .i64 p.grace, .slice a5 l c5, .int .i64 p.arr, .int .i64 x, .int .i64 p.node, .int .i64 dead], .nilIface]) ?_ rfl ?_
    · simp only [results, Tryd.results57]
      go_simp
    rw [← HNP.out]
    have hri4 : IntsIn (fun b => w.heap.size + 1 ≤ b ∧ b < W.heap.size) w4 (.slice a l cap) (tp p x (p.node) dead).req := HI.out.within.stays HG2.out fun b _ hb => by have := hb.1; show b ≠ m.bm; omega
    obtain ⟨hst, hsty⟩ := StoreAt.turn (np := tp p x (p.node) dead) (N := fun b => w.heap.size + 1 ≤ b ∧ b < W.heap.size) (fun b hb => by have := hb.1; omega) HS.out HRI.out HRL.out HKL.out (show p.id = _ from congrArg Pod.id HPK.out) HBW.out HG2.out HM4.out hri4
    have hszd : W.drew.heap.size = W.heap.size := rfl
    have hgl : 0 < ps.length → m.gi < w.heap.size := fun h0 => by
      obtain ⟨ja, jc, j1, j2, j3, j4⟩ := HS.out.ids
      exact (World.ownsRow.lt j2 m.gi (by rw [j4 h0]; rfl)).2
    have hbtl := cell_lt HS.out.t0
    have hwW := hBW.size
    refine ⟨a5, c5, W.heap.size, by rw [HL.out]; rfl, ?_, hwW, ?_, ?_⟩
    · refine (hst.stays (Y := fun b => b ≠ w.heap.size) (Stays.set9 _ _ _ _ _ _ _ _ _ ⟨rfl, rfl, rfl, Nat.le_refl _, fun _ _ _ => rfl⟩ (fun h => h rfl)) (by show m.bs ≠ _; omega) (by show m.bt ≠ _; omega) (by show m.bm ≠ _; omega) (fun h0 => by have := hgl (by simpa using h0); show m.gi ≠ _; omega) (fun b _ hb => by show b ≠ _; rcases hb with hx | hx <;> omega)).imp fun b _ hb => ?_
      rcases hb with hx | hx
      · exact ⟨.inl hx, by have := hx.2; omega⟩
      · exact ⟨.inr (by omega), hx.2⟩
    · refine Stays.imp (X := fun b => Off m b ∧ b ≠ w.heap.size) ?_ fun b hb h => ⟨h, by omega⟩
      exact Stays.set9 _ _ _ _ _ _ _ _ _ (hsty.imp fun b _ h => h.1) (fun h => h.2 rfl)
    · have ho : w4.ownsRow W.heap.size 2 1 (.slice a5 l c5) l (p.req.map (Value.int .i64)) := by
        refine ownsRow_of_block HO5.out fun j hj => HB4.out.block j (World.ownsRow.lt HO5.out j hj).2 ?_
        have hjl := (World.ownsRow.lt HO5.out j hj).1
        show j ≠ m.bm
        rw [hszd] at hjl
        omega
      rw [HL.out] at ho
      change (World.ownsRow · _ _ _ (.slice a5 p.req.length c5) p.req.length (p.req.map (Value.int .i64))) _
      show World.ownsRow _ _ _ _ _ _ _
      repeat (first | (with_reducible exact ho) | refine ownsRow_setCell_below ?_ (by show _ < _; simp only []; omega) _)

set_option maxHeartbeats 4000000 in
set_option maxRecDepth 100000 in
theorem sapp_5 {m : Mem} {B : Nat} {X : Nat → Prop} {size : Int} {ps : List Pod} (id node dead : Int) (w : World) (h : StoreAt m B X w size ps) (hz : (getP ps id).req.length * 8 ≤ 140737488351232) (hh : hasP ps id = true) (hn : ¬ nx (getP ps id).ph 5 = 0) {k : Nat} (hk : findI ps 0 id = (k : Int)) :
    Calls Tryd.prog 57 #[.pointer (some ⟨m.bs, 0, none⟩), .int .i64 id, .int .i64 5, .int .i64 node, .int .i64 dead] w (AppOk m B X size ps k (tp (getP ps id) (nx (getP ps id).ph 5) (-1) (-1)) w) := by
  have h' := h.below ((Below.refl _ w).alloc (Nat.le_refl _) (.cells z9 65))
  have hg := sget_any id _ h' hz
  rw [hh] at hg
  have HS := Lib.hid h
  have HG := Lib.hid hg
  have HZ := Lib.hid hz
  clear hg h h' hz
  have hpk : getP ps id = podAt ps k := by unfold getP; rw [if_neg (by omega), hk]; rfl
  obtain ⟨-, hkl, hidk, -⟩ := findI_some hk
  rw [Nat.sub_zero] at hkl hidk
  rw [← hpk] at hidk
  generalize hp : getP ps id = p at *
  have HKL := Lib.hid hkl; clear hkl
  have HIDK := Lib.hid hidk; clear hidk
  have HPK := Lib.hid hpk; clear hpk
  have HFK := Lib.hid hk; clear hk
  have HP := Lib.hid hp; clear hp
  obtain ⟨l, hl⟩ : ∃ l, l = p.req.length := ⟨_, rfl⟩
  have HL := Lib.hid hl; clear hl
  have HNx := Lib.hid fun w => next_any p.ph 5 w
  have HHH := Lib.hid hh; clear hh
  go_enter Tryd.func57, Tryd.ntmps57
  go_wp2_with fail
  refine HG.out.mono ?_
  rintro e w1 ⟨a, cap, rfl, hown, hb⟩
  rw [← HL.out] at hown ⊢
  obtain ⟨hc, hf⟩ := bcell hb
  have hsz := hb.size
  have hb' : Below w.heap.size w w1 := Below.trans ((Below.refl _ w).alloc (Nat.le_refl _) _) (hb.mono (by simp))
  have hsz' : w.heap.size < w1.heap.size := by simp at hsz; omega
  have q0 : ∀ f, w1.cell? ⟨w.heap.size, f, none⟩ = (w.alloc (.cells z9 65)).cell? ⟨w.heap.size, f, none⟩ := fun f => hc _ _ (by simp)
  have q1 : ∀ f, w1.frozen? ⟨w.heap.size, f, none⟩ = false := fun f => by rw [hf _ _ (by simp)]; go_simp
  have r0 : w1.cell? ⟨w.heap.size, 0, none⟩ = some (.int .i64 0) := by rw [q0]; go_simp
  have r1 : w1.cell? ⟨w.heap.size, 1, none⟩ = some (.int .i64 0) := by rw [q0]; go_simp
  have r2 : w1.cell? ⟨w.heap.size, 2, none⟩ = some (.bool false) := by rw [q0]; go_simp
  have r3 : w1.cell? ⟨w.heap.size, 3, none⟩ = some (.int .i64 0) := by rw [q0]; go_simp
  have r4 : w1.cell? ⟨w.heap.size, 4, none⟩ = some (.slice none 0 0) := by rw [q0]; go_simp
  have r5 : w1.cell? ⟨w.heap.size, 5, none⟩ = some (.int .i64 0) := by rw [q0]; go_simp
  have r6 : w1.cell? ⟨w.heap.size, 6, none⟩ = some (.int .i64 0) := by rw [q0]; go_simp
  have r7 : w1.cell? ⟨w.heap.size, 7, none⟩ = some (.int .i64 0) := by rw [q0]; go_simp
  have r8 : w1.cell? ⟨w.heap.size, 8, none⟩ = some (.int .i64 0) := by rw [q0]; go_simp
  have hO : w1.ownsRow (w.heap.size + 1) 2 1 (.slice a l cap) l (p.req.map (Value.int .i64)) := by simpa using hown
  clear q0 hc hf hb hsz hown HG
  obtain ⟨x, hx⟩ : ∃ x, x = nx p.ph 5 := ⟨_, rfl⟩
  have hx0 : (x != 0) = true := by rw [hx]; simpa using hn
  rw [← hx, hx0] at HNx
  have HX := Lib.hid hx
  have hc0 := HS.out.c0
  have hbs := cell_lt hc0
  have hc1 := keepl hb' hc0
  clear hn hx hx0
  go_wp2_with fail
  refine (HNx.out _).mono ?_
  rintro e w2 ⟨rfl, hb2⟩
  have hb2' := Below.trans (hb'.alloc hb'.size _) (hb2.mono (by simp; omega))
  have hsz2 : w1.heap.size < w2.heap.size := by have := hb2.size; simp at this; omega
  have q2 : ∀ f, w2.frozen? ⟨w.heap.size, f, none⟩ = false := fun f => (hb2.frozen (p := ⟨w.heap.size, f, none⟩) (by simp; omega)).trans (by have := q1 f; go_simp)
  have q3 : ∀ f, w2.frozen? ⟨w1.heap.size, f, none⟩ = false := fun f => (hb2.frozen (p := ⟨w1.heap.size, f, none⟩) (by simp)).trans (by go_simp)
  have hc2 : w2.cell? ⟨m.bs, 0, none⟩ = some (.pointer (some ⟨m.bt, 0, none⟩)) := keepc hb2 (by simp; omega) (keepl ((Below.refl _ w1).alloc (Nat.le_refl _) _) hc1)
  have s0 : w2.cell? ⟨w.heap.size, 0, none⟩ = some (.int .i64 0) := keepc hb2 (by simp; omega) (by go_simp)
  have s1 : w2.cell? ⟨w.heap.size, 1, none⟩ = some (.int .i64 0) := keepc hb2 (by simp; omega) (by go_simp)
  have s2 : w2.cell? ⟨w.heap.size, 2, none⟩ = some (.bool false) := keepc hb2 (by simp; omega) (by go_simp)
  have s3 : w2.cell? ⟨w.heap.size, 3, none⟩ = some (.int .i64 0) := keepc hb2 (by simp; omega) (by go_simp)
  have s4 : w2.cell? ⟨w.heap.size, 4, none⟩ = some (.slice none 0 0) := keepc hb2 (by simp; omega) (by go_simp)
  have s5 : w2.cell? ⟨w.heap.size, 5, none⟩ = some (.int .i64 0) := keepc hb2 (by simp; omega) (by go_simp)
  have s6 : w2.cell? ⟨w.heap.size, 6, none⟩ = some (.int .i64 0) := keepc hb2 (by simp; omega) (by go_simp)
  have s7 : w2.cell? ⟨w.heap.size, 7, none⟩ = some (.int .i64 0) := keepc hb2 (by simp; omega) (by go_simp)
  have s8 : w2.cell? ⟨w.heap.size, 8, none⟩ = some (.int .i64 0) := keepc hb2 (by simp; omega) (by go_simp)
  have t0 : w2.cell? ⟨w1.heap.size, 0, none⟩ = some (.int .i64 p.id) := keepc hb2 (by simp) (by go_simp)
  have t1 : w2.cell? ⟨w1.heap.size, 1, none⟩ = some (.int .i64 p.prio) := keepc hb2 (by simp) (by go_simp)
  have t2 : w2.cell? ⟨w1.heap.size, 2, none⟩ = some (.bool p.pre) := keepc hb2 (by simp) (by go_simp)
  have t3 : w2.cell? ⟨w1.heap.size, 3, none⟩ = some (.int .i64 p.grace) := keepc hb2 (by simp) (by go_simp)
  have t4 : w2.cell? ⟨w1.heap.size, 4, none⟩ = some (.slice a l cap) := keepc hb2 (by simp) (by go_simp)
  have t5 : w2.cell? ⟨w1.heap.size, 5, none⟩ = some (.int .i64 p.arr) := keepc hb2 (by simp) (by go_simp)
  have t6 : w2.cell? ⟨w1.heap.size, 6, none⟩ = some (.int .i64 p.ph) := keepc hb2 (by simp) (by go_simp)
  have t7 : w2.cell? ⟨w1.heap.size, 7, none⟩ = some (.int .i64 p.node) := keepc hb2 (by simp) (by go_simp)
  have t8 : w2.cell? ⟨w1.heap.size, 8, none⟩ = some (.int .i64 p.dead) := keepc hb2 (by simp) (by go_simp)
  have hO2 : w2.ownsRow (w.heap.size + 1) 2 1 (.slice a l cap) l (p.req.map (Value.int .i64)) := ownsRow_below (hO.alloc _) hb2
  have HOL : Hid (∀ k, (Value.slice a l cap).ownBlock = some k → k < w1.heap.size) := fun k hk => (World.ownsRow.lt hO k hk).2
  clear hb2 hb' q1 r0 r1 r2 r3 r4 r5 r6 r7 r8 hO hc0 hc1
  have hlt12 : w.heap.size < w2.heap.size := by omega
  have hl12 : (w.heap.size == w1.heap.size) = false := by simp; omega
  go_wp2_with fail
  refine wp_named fun W hW => ?_
  have hBW : Below w.heap.size w W := by rw [hW]; repeat (first | (with_reducible exact hb2') | refine Below.setCell ?_ (by show _ ≤ _; simp only []; omega) _)
  have hszW : W.heap.size = w2.heap.size := by rw [hW]; simp
  have hOW : W.ownsRow (w.heap.size + 1) 2 1 (.slice a l cap) l (p.req.map (Value.int .i64)) := by rw [hW]; refine ownsRow_of_block hO2 fun k hk => ?_; have hkl := HOL.out k hk; repeat (first | rfl | (rw [Below.heap_setCell _ _ _ _ (show k ≠ w1.heap.size by omega)]))
  have S0 : W.cell? ⟨w.heap.size, 0, none⟩ = some (.int .i64 0) := by rw [hW]; go_simp
  have S1 : W.cell? ⟨w.heap.size, 1, none⟩ = some (.int .i64 0) := by rw [hW]; go_simp
  have S2 : W.cell? ⟨w.heap.size, 2, none⟩ = some (.bool false) := by rw [hW]; go_simp
  have S3 : W.cell? ⟨w.heap.size, 3, none⟩ = some (.int .i64 0) := by rw [hW]; go_simp
  have S4 : W.cell? ⟨w.heap.size, 4, none⟩ = some (.slice none 0 0) := by rw [hW]; go_simp
  have S5 : W.cell? ⟨w.heap.size, 5, none⟩ = some (.int .i64 0) := by rw [hW]; go_simp
  have S6 : W.cell? ⟨w.heap.size, 6, none⟩ = some (.int .i64 0) := by rw [hW]; go_simp
  have S7 : W.cell? ⟨w.heap.size, 7, none⟩ = some (.int .i64 0) := by rw [hW]; go_simp
  have S8 : W.cell? ⟨w.heap.size, 8, none⟩ = some (.int .i64 0) := by rw [hW]; go_simp
  have T0 : W.cell? ⟨w1.heap.size, 0, none⟩ = some (.int .i64 p.id) := by rw [hW]; go_simp
  have T1 : W.cell? ⟨w1.heap.size, 1, none⟩ = some (.int .i64 p.prio) := by rw [hW]; go_simp
  have T2 : W.cell? ⟨w1.heap.size, 2, none⟩ = some (.bool p.pre) := by rw [hW]; go_simp
  have T3 : W.cell? ⟨w1.heap.size, 3, none⟩ = some (.int .i64 p.grace) := by rw [hW]; go_simp
  have T4 : W.cell? ⟨w1.heap.size, 4, none⟩ = some (.slice a l cap) := by rw [hW]; go_simp
  have T5 : W.cell? ⟨w1.heap.size, 5, none⟩ = some (.int .i64 p.arr) := by rw [hW]; go_simp
  have T6 : W.cell? ⟨w1.heap.size, 6, none⟩ = some (.int .i64 x) := by rw [hW]; go_simp
  have T7 : W.cell? ⟨w1.heap.size, 7, none⟩ = some (.int .i64 (-1)) := by rw [hW]; go_simp
  have T8 : W.cell? ⟨w1.heap.size, 8, none⟩ = some (.int .i64 (-1)) := by rw [hW]; go_simp
  have Sf : ∀ f, W.frozen? ⟨w.heap.size, f, none⟩ = false := fun f => by rw [hW]; go_simp
  have J0 : W.cell? ⟨m.bs, 0, none⟩ = some (.pointer (some ⟨m.bt, 0, none⟩)) := by rw [hW]; go_simp
  clear hW
  clear q2 q3 s0 s1 s2 s3 s4 s5 s6 s7 s8 t0 t1 t2 t3 t4 t5 t6 t7 t8 hO2 hc2 hb2'
  have hsm : m.bs ≠ m.bm := HS.out.ne.2.2.1
  obtain ⟨rvs, hm, hri⟩ := HS.out.map
  have hbml := hm.lt
  have HRL : Hid (rvs.length = ps.length) := hm.choose_spec.choose_spec.2.2
  have h0m : w.heap.size ≠ m.bm := by omega
  have h1m : w1.heap.size ≠ m.bm := by omega
  have h10 : w1.heap.size ≠ w.heap.size := by omega
  have hs0 : m.bs ≠ w.heap.size := by omega
  have HNP : Hid (tp p x (-1) (-1) = tp (p) (nx p.ph 5) (-1) (-1)) := by rw [HX.out]; rfl
  have HID : Hid (∀ w' : World, Stays (fun b => b ≠ m.bm ∧ b ≠ w.heap.size) W w' → (w'.cell? ⟨w1.heap.size, 0, none⟩ = some (.int .i64 p.id) ∧ w'.cell? ⟨w1.heap.size, 1, none⟩ = some (.int .i64 p.prio) ∧ w'.cell? ⟨w1.heap.size, 2, none⟩ = some (.bool p.pre) ∧ w'.cell? ⟨w1.heap.size, 3, none⟩ = some (.int .i64 p.grace) ∧ w'.cell? ⟨w1.heap.size, 4, none⟩ = some (.slice a l cap) ∧ w'.cell? ⟨w1.heap.size, 5, none⟩ = some (.int .i64 p.arr) ∧ w'.cell? ⟨w1.heap.size, 6, none⟩ = some (.int .i64 x) ∧ w'.cell? ⟨w1.heap.size, 7, none⟩ = some (.int .i64 (-1)) ∧ w'.cell? ⟨w1.heap.size, 8, none⟩ = some (.int .i64 (-1)) ∧ w'.cell? ⟨m.bs, 0, none⟩ = some (.pointer (some ⟨m.bt, 0, none⟩)))) := fun w' h => ⟨h.cell ⟨h1m, h10⟩ T0, h.cell ⟨h1m, h10⟩ T1, h.cell ⟨h1m, h10⟩ T2, h.cell ⟨h1m, h10⟩ T3, h.cell ⟨h1m, h10⟩ T4, h.cell ⟨h1m, h10⟩ T5, h.cell ⟨h1m, h10⟩ T6, h.cell ⟨h1m, h10⟩ T7, h.cell ⟨h1m, h10⟩ T8, h.cell ⟨hsm, hs0⟩ J0⟩
  have hv0 : Stays (fun b => b ≠ m.bm) W W.drew := Stays.of (Below.refl _ _).drew
  have hI0 : IntsIn (fun b => w.heap.size + 1 ≤ b) W (.slice a l cap) p.req := ownsRow_int hOW HL.out
  have HI := Lib.hid hI0
  have HC : Hid (∀ W', Below W.heap.size W W' → Calls Tryd.prog 103 #[.agg #[.int .i64 p.id, .int .i64 p.prio, .bool p.pre, .int .i64 p.grace, .slice a l cap, .int .i64 p.arr, .int .i64 x, .int .i64 (-1), .int .i64 (-1)]] W' fun e w' => ∃ a5 c5, e = .returned (.agg #[.int .i64 p.id, .int .i64 p.prio, .bool p.pre, .int .i64 p.grace, .slice a5 l c5, .int .i64 p.arr, .int .i64 x, .int .i64 (-1), .int .i64 (-1)]) ∧ w'.ownsRow W'.heap.size 2 1 (.slice a5 l c5) l (p.req.map (Value.int .i64)) ∧ Below W'.heap.size W' w') := fun W' hb =>
    (copied_any (tp p x (-1) (-1)) (.slice a l cap) W' HZ.out (hI0.ints.below hb)).mono fun e w' ⟨a5, c5, he, ho, hb⟩ => ⟨a5, c5, by rw [HL.out]; exact he, by rw [HL.out]; exact ho, hb⟩
  have HT : Hid (∀ W', Below W.heap.size W W' → Calls Tryd.prog 105 #[.pointer (some ⟨m.bt, 0, none⟩), .int .i64 id, .agg #[.int .i64 p.id, .int .i64 p.prio, .bool p.pre, .int .i64 p.grace, .slice a l cap, .int .i64 p.arr, .int .i64 x, .int .i64 (-1), .int .i64 (-1)]] W' fun e w' => e = .returned .nilIface ∧ Stays (fun b => b ≠ m.bm) W' w' ∧ MapAt w' m.bm (ps.set k (tp p x (-1) (-1))) (rvs.set k (.slice a l cap))) := fun W' hb => by
    have hb0 : Below w.heap.size w W' := hBW.trans (hb.mono hBW.size)
    have h : Calls Tryd.prog 105 #[.pointer (some ⟨m.bt, 0, none⟩), .int .i64 p.id, .agg #[.int .i64 p.id, .int .i64 p.prio, .bool p.pre, .int .i64 p.grace, .slice a l cap, .int .i64 p.arr, .int .i64 x, .int .i64 (-1), .int .i64 (-1)]] W' fun e w' => e = .returned .nilIface ∧ Stays (fun b => b ≠ m.bm) W' w' ∧ MapAt w' m.bm (ps.set k (tp p x (-1) (-1))) (rvs.set k (.slice a l cap)) :=
      tset_any (tp p x (-1) (-1)) (.slice a l cap) W' (HS.out.below hb0) (by rw [show (tp p x (-1) (-1)).id = p.id from rfl, HIDK.out]; exact HFK.out) (hm.below hb0 hm.lt)
    rw [HIDK.out] at h ⊢
    exact h
  clear hI0 hOW hm
  have HRI := Lib.hid hri; clear hri
  have HBW := Lib.hid hBW
  have HK0 := Lib.hid (HID.out _ (Stays.imp hv0 fun b _ h => h.1))
  go_region_held3 (fun w' => w'.cell? ⟨w1.heap.size, 0, none⟩ = some (.int .i64 p.id) ∧ w'.cell? ⟨w1.heap.size, 1, none⟩ = some (.int .i64 p.prio) ∧ w'.cell? ⟨w1.heap.size, 2, none⟩ = some (.bool p.pre) ∧ w'.cell? ⟨w1.heap.size, 3, none⟩ = some (.int .i64 p.grace) ∧ w'.cell? ⟨w1.heap.size, 4, none⟩ = some (.slice a l cap) ∧ w'.cell? ⟨w1.heap.size, 5, none⟩ = some (.int .i64 p.arr) ∧ w'.cell? ⟨w1.heap.size, 6, none⟩ = some (.int .i64 x) ∧ w'.cell? ⟨w1.heap.size, 7, none⟩ = some (.int .i64 (-1)) ∧ w'.cell? ⟨w1.heap.size, 8, none⟩ = some (.int .i64 (-1)) ∧ w'.cell? ⟨m.bs, 0, none⟩ = some (.pointer (some ⟨m.bt, 0, none⟩)))
    (first
      | (with_reducible exact HK0.out)
      | (with_reducible exact HK1.out)
      | (with_reducible exact HK2.out)
      | (with_reducible exact HK9.out _ _ _ _ _ _ _ _ _))
    (first
      | (go_at_call 103; ((with_reducible refine (HC.out _ (Below.refl _ _).drew).mono ?_)); rintro e w3 ⟨a5, c5, rfl, hown5, hb5⟩; have hg1 : Stays (fun b => b ≠ m.bm) W w3 := hv0.trans (Stays.of hb5); have hb3 : Below W.heap.size W w3 := ((Below.refl _ W).drew).trans hb5; have HK1 := Lib.hid (HID.out _ (Stays.imp hg1 fun b _ h => h.1)))
      | (go_at_call 105; ((with_reducible refine (HT.out _ hb3).mono ?_)); rintro e w4 ⟨rfl, hb4, hm4⟩; have hg2 : Stays (fun b => b ≠ m.bm) W w4 := hg1.trans hb4; have S0 := hg2.cell h0m S0; have S1 := hg2.cell h0m S1; have S2 := hg2.cell h0m S2; have S3 := hg2.cell h0m S3; have S4 := hg2.cell h0m S4; have S5 := hg2.cell h0m S5; have S6 := hg2.cell h0m S6; have S7 := hg2.cell h0m S7; have S8 := hg2.cell h0m S8; have Sf4 : ∀ f, w4.frozen? ⟨w.heap.size, f, none⟩ = false := (fun f => (hg2.frozen (by omega) h0m).trans (Sf f)); have HK2 := Lib.hid (HID.out _ (Stays.imp hg2 fun b _ h => h.1)); have HK9 := Lib.hid (fun v0 v1 v2 v3 v4 v5 v6 v7 v8 => HID.out _ (Stays.set9 v0 v1 v2 v3 v4 v5 v6 v7 v8 (Stays.imp hg2 fun b _ h => h.1) (fun h => h.2 rfl)))))
  all_goals
    have HM4 := Lib.hid hm4
    have HG2 := Lib.hid hg2
    have HO5 := Lib.hid hown5
    have HB4 := Lib.hid hb4
    clear hm4 hg2 hown5 hg1 hb3 hb4 hb5 HK0 HK1 HK2 HK9 HT HC HID T0 T1 T2 T3 T4 T5 T6 T7 T8 J0 HNx hv0
    go_wp2
    refine bodyPost_ret (v := .tuple #[.agg #[.int .i64 p.id, .int .i64 p.prio, .bool p.pre, .int .i64 p.grace, .slice a5 l c5, .int .i64 p.arr, .int .i64 x, .int .i64 (-1), .int .i64 (-1)], .nilIface]) ?_ rfl ?_
    · simp only [results, Tryd.results57]
      go_simp
    rw [← HNP.out]
    have hri4 : IntsIn (fun b => w.heap.size + 1 ≤ b ∧ b < W.heap.size) w4 (.slice a l cap) (tp p x (-1) (-1)).req := HI.out.within.stays HG2.out fun b _ hb => by have := hb.1; show b ≠ m.bm; omega
    obtain ⟨hst, hsty⟩ := StoreAt.turn (np := tp p x (-1) (-1)) (N := fun b => w.heap.size + 1 ≤ b ∧ b < W.heap.size) (fun b hb => by have := hb.1; omega) HS.out HRI.out HRL.out HKL.out (show p.id = _ from congrArg Pod.id HPK.out) HBW.out HG2.out HM4.out hri4
    have hszd : W.drew.heap.size = W.heap.size := rfl
    have hgl : 0 < ps.length → m.gi < w.heap.size := fun h0 => by
      obtain ⟨ja, jc, j1, j2, j3, j4⟩ := HS.out.ids
      exact (World.ownsRow.lt j2 m.gi (by rw [j4 h0]; rfl)).2
    have hbtl := cell_lt HS.out.t0
    have hwW := hBW.size
    refine ⟨a5, c5, W.heap.size, by rw [HL.out]; rfl, ?_, hwW, ?_, ?_⟩
    · refine (hst.stays (Y := fun b => b ≠ w.heap.size) (Stays.set9 _ _ _ _ _ _ _ _ _ ⟨rfl, rfl, rfl, Nat.le_refl _, fun _ _ _ => rfl⟩ (fun h => h rfl)) (by show m.bs ≠ _; omega) (by show m.bt ≠ _; omega) (by show m.bm ≠ _; omega) (fun h0 => by have := hgl (by simpa using h0); show m.gi ≠ _; omega) (fun b _ hb => by show b ≠ _; rcases hb with hx | hx <;> omega)).imp fun b _ hb => ?_
      rcases hb with hx | hx
      · exact ⟨.inl hx, by have := hx.2; omega⟩
      · exact ⟨.inr (by omega), hx.2⟩
    · refine Stays.imp (X := fun b => Off m b ∧ b ≠ w.heap.size) ?_ fun b hb h => ⟨h, by omega⟩
      exact Stays.set9 _ _ _ _ _ _ _ _ _ (hsty.imp fun b _ h => h.1) (fun h => h.2 rfl)
    · have ho : w4.ownsRow W.heap.size 2 1 (.slice a5 l c5) l (p.req.map (Value.int .i64)) := by
        refine ownsRow_of_block HO5.out fun j hj => HB4.out.block j (World.ownsRow.lt HO5.out j hj).2 ?_
        have hjl := (World.ownsRow.lt HO5.out j hj).1
        show j ≠ m.bm
        rw [hszd] at hjl
        omega
      rw [HL.out] at ho
      change (World.ownsRow · _ _ _ (.slice a5 p.req.length c5) p.req.length (p.req.map (Value.int .i64))) _
      show World.ownsRow _ _ _ _ _ _ _
      repeat (first | (with_reducible exact ho) | refine ownsRow_setCell_below ?_ (by show _ < _; simp only []; omega) _)

end Go.Proofs.YtcegipkhmibdeaaDoor
/- A range over a function whose values are known to hold something at the time they are handed on: a law for a body that never leaves. -/
namespace Go.Proofs.YtcegipkhmibdeaaDoor
set_option linter.all false
open Go.RowKit

/-- The two blocks of book-keeping of a range over a function that begins in a heap of this size. -/
abbrev Apart (n : Nat) : Nat → Prop := fun b => b ≠ n ∧ b ≠ n + 1
/-- What an iterator promises that hands values on of which something is known at that time. -/
def SeqGiven {α : Type} (n : Nat) (P : Program) (g : Nat) (lb : Array Value) (encs : α → Array Value) (Z : Nat → Prop) (G : α → World → Prop) (S : List α → Prop) (N : Nat) (w0 : World) : Prop :=
  ∀ (l : Nat) (J : List α → World → Prop) (W : World), Below w0.heap.size w0 W → w0.heap.size + 1 < W.heap.size → (∀ s A B, J s A → Below A.heap.size A B → J s B) →
    (∀ pre x W1, J pre W1 → G x W1 → pre.length < N → YieldAt Fence.wide (n - 1) P l (encs x) W1 fun e W' => e = .returned (.bool true) ∧ J (pre ++ [x]) W' ∧ Stays Z W1 W') → J [] W →
    CallsIn Fence.wide n P g (#[.func (.yield l) #[] #[]] ++ lb) W fun e W' => (∃ v, e = .returned v) ∧ ∃ xs, S xs ∧ J xs W'
/-- A round's end. -/
def roundEnd {α : Type} (n : Nat) (Z : Nat → Prop) (I : List α → World → Prop) (xs : List α) (W : World) : Exit → Act → World → Prop
  | .normal, _, W' => Stays (fun b => Z b ∨ b = n ∨ b = n + 1) W W' ∧ I xs W'
  | .ret, _, _ => False
  | .exit _, _, _ => False
  | .goto _, _, _ => False
  | .panic _, _, _ => False
  | .outgrown, _, _ => False
theorem Stays.putObj {X : Nat → Prop} {W : World} {l : Nat} {o : Obj} (h : ¬ X l) : Stays X W (W.putObj l o) :=
  ⟨rfl, rfl, rfl, by simp, fun k _ hX => World.putObj_heap_other fun e => h (e ▸ hX)⟩
theorem wpIn_rangeFunc_given {α : Type} {P : Program} {n : Nat} {g : Operand} {ps : Array Tmp} {assign body : Code} {Q : Exit → Act → World → Prop} {a : Act} {w : World}
    (h1 : 1 ≤ n) {gf : Nat} {lb : Array Value} (hg : a.eval g = .func (.func gf) #[] lb) (eg : ∀ args w, (callFunc gf args).run P w = .ok (.enter gf args) w)
    {encs : α → Array Value} {Z : Nat → Prop} (hZ : ∀ b, Z b → b < w.heap.size) {G : α → World → Prop} {S : List α → Prop} {N : Nat} (hseq : SeqGiven (n - 1) P gf lb encs Z G S N w) (hps : ∀ x, (encs x).size = ps.size)
    (I : List α → World → Prop) (hI : ∀ s A B, I s A → Stays (Apart w.heap.size) A B → I s B) (h0 : I [] w)
    (Ax : α → Act → World → Prop) (hAx : ∀ x a' A B, Ax x a' A → Stays (Apart w.heap.size) A B → Ax x a' B)
    (hassign : ∀ (l : Nat) (pre : List α) (x : α) (W : World) (K : Act → World → Prop), w.heap.size + 1 < W.heap.size → I pre W → G x W → (∀ a' W', Below W.heap.size W W' → Ax x a' W' → K a' W') →
      assign.wpIn (Fence.wide.inRound l) (n - 1 - 1) P (Exit.then K (fun _ _ _ => False)) { tmps := (ps.zip (encs x)).foldl (fun t (p, v) => t.setIfInBounds p v) a.tmps, defers := [] } W)
    (hbody : ∀ (l : Nat) (pre : List α) (x : α) (a' : Act) (W : World), w.heap.size + 1 < W.heap.size → I pre W → Ax x a' W → pre.length < N → body.wpIn (Fence.wide.inRound l) (n - 1 - 1) P (roundEnd w.heap.size Z I (pre ++ [x]) W) a' W)
    (hdone : ∀ (xs : List α) (W : World), S xs → I xs W → W.heap[w.heap.size]? = some (.deferred (some [])) → Q .normal { a with defers := { target := .collected w.heap.size, args := #[] } :: a.defers } W) :
    (Code.rangeFunc g ps assign body).wpIn Fence.wide n P Q a w := by
  refine wpIn_rangeFunc fun fn hfn => ?_
  obtain ⟨rec, hrec⟩ : ∃ rec : LoopState → Loop, rec = fun st => { state := st, pending := none, fn, tmps := a.tmps, params := ps, assign, body, defers := w.heap.size } := ⟨_, rfl⟩
  obtain ⟨V, hV⟩ : ∃ V, V = (w.alloc (.deferred (some []))).alloc (.loop (rec .ready)) := ⟨_, rfl⟩
  have hVL : V.heap[w.heap.size + 1]? = some (.loop (rec .ready)) := by
    rw [hV]; have := World.alloc_heap_new (w.alloc (.deferred (some []))) (.loop (rec .ready)); rwa [World.size_alloc] at this
  have hVD : V.heap[w.heap.size]? = some (.deferred (some [])) := by
    rw [hV]; exact (Below.heap_alloc _ _ _ (by simp)).trans (World.alloc_heap_new w _)
  have hwV : Below w.heap.size w V := by rw [hV]; exact ((Below.refl _ w).alloc (Nat.le_refl _) _).alloc (by simp) _
  have hVs : w.heap.size + 1 < V.heap.size := (Array.getElem?_eq_some_iff.1 hVL).1
  refine ⟨w.heap.size + 1, [{ target := .collected w.heap.size, args := #[] }], V, { target := .fn (.func gf) lb, args := #[.func (.yield (w.heap.size + 1)) #[] #[]] }, V, gf, #[.func (.yield (w.heap.size + 1)) #[] #[]] ++ lb, V, ?_, ?_, fun _ _ => trivial, ?_, fun _ => h1, ?_⟩
  · rw [hV, hrec]; exact run_enterLoop_outer _ _ _ _ _
  · simp only [resolve, hg]
    simp [go_sem]
  · simp [invoke, go_sem, eg]
  have keep : ∀ (A B : World) (k : Nat) (o : Obj), A.heap[k]? = some o → Below A.heap.size A B → B.heap[k]? = some o := fun A B k o hk hb => (hb.block k (Array.getElem?_eq_some_iff.1 hk).1).trans hk
  refine (hseq (w.heap.size + 1) (fun pre W => I pre W ∧ W.heap[w.heap.size + 1]? = some (.loop (rec .ready)) ∧ W.heap[w.heap.size]? = some (.deferred (some []))) V hwV hVs
    (fun s A B h hb => ⟨hI s A B h.1 (Stays.of hb), keep A B _ _ h.2.1 hb, keep A B _ _ h.2.2 hb⟩) ?_ ⟨hI _ _ _ h0 (Stays.of hwV), hVL, hVD⟩).mono ?_
  · rintro pre x W ⟨hi, hl, hk⟩ hG hN
    have hlt : w.heap.size + 1 < W.heap.size := (Array.getElem?_eq_some_iff.1 hl).1
    have hy := run_yield (P := P) (args := encs x) hl (by rw [hrec]; exact hps x)
    rw [hrec] at hy
    refine ⟨fn, _, assign, body, hy, roundIn_of_wpIn hfn (hassign _ pre x W _ hlt hi hG fun a' A hb hax => ?_)⟩
    have hl1 := keep W A _ _ hl hb
    have hk1 := keep W A _ _ hk hb
    have hlt1 : w.heap.size + 1 < A.heap.size := (Array.getElem?_eq_some_iff.1 hl1).1
    have hi1 := hI _ _ _ hi (Stays.of hb)
    refine ⟨_, run_beginRound hl1 (by rw [hrec]), ?_⟩
    obtain ⟨o2, ho2⟩ : ∃ o2, o2 = ({ rec .ready with state := .busy } : Loop) := ⟨_, rfl⟩
    rw [← ho2]
    have hl2 : (A.putObj (w.heap.size + 1) (.loop o2)).heap[w.heap.size + 1]? = some (.loop o2) := World.putObj_heap_same hlt1
    have hk2 : (A.putObj (w.heap.size + 1) (.loop o2)).heap[w.heap.size]? = some (.deferred (some [])) := (World.putObj_heap_other (by omega)).trans hk1
    have hs2 : Stays (Apart w.heap.size) A (A.putObj (w.heap.size + 1) (.loop o2)) := Stays.putObj fun h => h.2 rfl
    have hz2 : Stays Z A (A.putObj (w.heap.size + 1) (.loop o2)) := Stays.putObj fun h => by have := hZ _ h; omega
    refine wpIn_mono (hbody _ pre x a' _ (by simpa using hlt1) (hI _ _ _ hi1 hs2) (hAx _ _ _ _ hax hs2) hN) ?_
    rintro e a3 W3 hp
    cases e with
    | normal =>
      obtain ⟨hst, hi3⟩ := hp
      have hl3 := (hst.block _ (Array.getElem?_eq_some_iff.1 hl2).1 (.inr (.inr rfl))).trans hl2
      have hk3 := (hst.block _ (Array.getElem?_eq_some_iff.1 hk2).1 (.inr (.inl rfl))).trans hk2
      have hrun := run_endRound (P := P) none hl3
      have hlt3 : w.heap.size + 1 < W3.heap.size := (Array.getElem?_eq_some_iff.1 hl3).1
      have e3 : ({ o2 with state := if (none : Option Code).isNone then .ready else .done, pending := none } : Loop) = rec .ready := by rw [ho2, hrec]; rfl
      rw [e3] at hrun
      refine ⟨_, _, hrun, rfl, ⟨hI _ _ _ hi3 (Stays.putObj fun h => h.2 rfl), World.putObj_heap_same hlt3, (World.putObj_heap_other (by omega)).trans hk3⟩, ?_⟩
      exact ((Stays.of hb).trans hz2).trans ((hst.imp fun b _ h => .inl h).trans (Stays.putObj fun h => by have := hZ _ h; omega))
    | ret => exact hp.elim
    | exit id => exact hp.elim
    | goto t => exact hp.elim
    | panic ch => exact hp.elim
    | outgrown => exact hp.elim
  · rintro e W2 ⟨⟨v, rfl⟩, xs, hS, hi, hl, hk⟩
    have hrun := run_endLoop (P := P) hl (by rw [hrec]; simp)
    have ep : (rec .ready).pending = none := by rw [hrec]
    rw [ep] at hrun
    exact ⟨none, _, hrun, hdone xs _ hS (hI _ _ _ hi (Stays.putObj fun h => h.2 rfl)) ((World.putObj_heap_other (by omega)).trans hk)⟩
end Go.Proofs.YtcegipkhmibdeaaDoor
/- Store.Submit and Store.Apply at whatever store; New. -/
namespace Go.Proofs.YtcegipkhmibdeaaDoor
set_option linter.all false
open Go.RowKit

/-- What an operation leaves: the store, and a pod of one's own in blocks that the store does not know. -/
def OpPost (m : Mem) (B : Nat) (X : Nat → Prop) (size : Int) (R : List Pod × Int) (q : Pod) (w : World) (e : Ending) (w' : World) : Prop :=
  ∃ g' a cap c, e = .returned (.tuple #[podV q (.slice a q.req.length cap), errV (if R.2 = 0 then none else some (.fault R.2 0))]) ∧ StoreAt { m with gi := g' } B (fun b => ((X b ∧ b < w.heap.size) ∨ w.heap.size ≤ b) ∧ b < c) w' size R.1 ∧ (m.gi < w.heap.size → g' < c) ∧ (g' = m.gi ∨ (w.heap.size ≤ g' ∧ 0 < R.1.length)) ∧ w.heap.size ≤ c ∧ Stays (Off m) w w' ∧
    w'.ownsRow c 2 1 (.slice a q.req.length cap) q.req.length (q.req.map (Value.int .i64))
theorem StoreAt.giLt {m : Mem} {B : Nat} {X : Nat → Prop} {w : World} {size : Int} {ps : List Pod} (h : StoreAt m B X w size ps) (h0 : 0 < ps.length) : m.gi < w.heap.size := by
  obtain ⟨ja, jc, j1, j2, j3, j4⟩ := h.ids
  exact (World.ownsRow.lt j2 m.gi (by rw [j4 h0]; rfl)).2
/-- Where an operation is refused, the store is as it was. -/
theorem OpPost.refused {m : Mem} {B : Nat} {X : Nat → Prop} {size : Int} {ps : List Pod} {w w' : World} {c : Int} (h : StoreAt m B X w size ps) (hc : ¬ c = 0) (hb : Below w.heap.size w w') :
    OpPost m B X size (ps, c) pod0 w (.returned (.tuple #[podV pod0 (.slice none 0 0), (EV.fault c 0).val])) w' :=
  ⟨m.gi, none, 0, w'.heap.size, by simp only [if_neg hc]; rfl, (h.within.below hb).imp fun b hl hx => ⟨.inl hx, hl⟩, fun h0 => Nat.lt_of_lt_of_le h0 hb.size, .inl rfl, hb.size, Stays.of hb, World.ownsRow_nil _ _ _ _⟩
theorem ssub_any {m : Mem} {B : Nat} {X : Nat → Prop} {size : Int} {ps : List Pod} (n : Int) (p : Pod) (rv : Value) (w : World) (hn : size = max n 0) (hn1 : n ≤ 9223372036854775807) (hle : (ps.length : Int) ≤ size) (hx : (ps.length + 1) * 88 ≤ 140737488351232) (hz : p.req.length * 8 ≤ 140737488351232)
    (h : StoreAt m B X w size ps) (hi : IntsAt w rv p.req) (hE : ErrType w) :
    Calls Tryd.prog 56 #[.pointer (some ⟨m.bs, 0, none⟩), podV p rv] w (OpPost m B X size (subR ps n p) (if (subR ps n p).2 = 0 then newPod ps p else pod0) w) := by
  have h0 : 0 ≤ size := by omega
  have h1 : size ≤ 9223372036854775807 := by omega
  unfold subR
  by_cases hf : 0 ≤ findI ps 0 p.id
  · rw [if_pos hf]
    have hh : hasP ps p.id = true := by unfold hasP; simp [hf]
    refine (ssub_bad p rv w hz h hi 6 hE fun W rv' hW => tadd_old p.id (newPod ps p) rv' W hW hh).mono ?_
    rintro e w' ⟨rfl, hb⟩
    exact OpPost.refused h (by decide) hb
  rw [if_neg hf]
  have hf' : findI ps 0 p.id = -1 := by rcases findI_bound ps 0 p.id with h | h; exact h; omega
  by_cases hs : n ≤ (ps.length : Int)
  · rw [if_pos hs]
    have hh : hasP ps p.id = false := by unfold hasP; simp; omega
    refine (ssub_bad p rv w hz h hi 7 hE fun W rv' hW => tadd_full p.id (newPod ps p) rv' W hW h0 h1 (by omega) hh (by omega)).mono ?_
    rintro e w' ⟨rfl, hb⟩
    exact OpPost.refused h (by decide) hb
  · rw [if_neg hs]
    refine (ssub_new p rv w hz h hi h0 h1 (by omega) hf' (by omega)).mono ?_
    rintro e w' ⟨g', a, cap, c, rfl, hst, hg, hgc, hwc, hS, ho⟩
    have hB := h.bs
    have hl := cell_lt h.c0
    exact ⟨g', a, cap, c, rfl, hst, fun _ => hgc, hg.imp id fun h => ⟨h, by simp⟩, hwc, hS, ho⟩
theorem sapp_good {m : Mem} {B : Nat} {X : Nat → Prop} {size : Int} {ps : List Pod} (id ev node dead : Int) (w : World) (h : StoreAt m B X w size ps) (hz : (getP ps id).req.length * 8 ≤ 140737488351232) (hh : hasP ps id = true) (hn : ¬ nx (getP ps id).ph ev = 0) {k : Nat} (hk : findI ps 0 id = (k : Int)) :
    Calls Tryd.prog 57 #[.pointer (some ⟨m.bs, 0, none⟩), .int .i64 id, .int .i64 ev, .int .i64 node, .int .i64 dead] w (AppOk m B X size ps k (turned (getP ps id) ev node dead) w) := by
  rcases nx_ev hn with rfl | rfl | rfl | rfl | rfl
  · exact sapp_1 id node dead w h hz hh hn hk
  · exact sapp_2 id node dead w h hz hh hn hk
  · exact sapp_3 id node dead w h hz hh hn hk
  · exact sapp_4 id node dead w h hz hh hn hk
  · exact sapp_5 id node dead w h hz hh hn hk
theorem sapp_any {m : Mem} {B : Nat} {X : Nat → Prop} {size : Int} {ps : List Pod} (id ev node dead : Int) (w : World) (h : StoreAt m B X w size ps) (hz : (getP ps id).req.length * 8 ≤ 140737488351232) :
    Calls Tryd.prog 57 #[.pointer (some ⟨m.bs, 0, none⟩), .int .i64 id, .int .i64 ev, .int .i64 node, .int .i64 dead] w
      (OpPost m B X size (appR ps id ev node dead) (if (appR ps id ev node dead).2 = 0 then turned (getP ps id) ev node dead else pod0) w) := by
  unfold appR
  by_cases hf : findI ps 0 id < 0
  · rw [if_pos hf]
    have hh : hasP ps id = false := by unfold hasP; simp; omega
    refine (sapp_none id ev node dead w h hh).mono ?_
    rintro e w' ⟨rfl, hb⟩
    exact OpPost.refused h (by decide) hb
  rw [if_neg hf]
  have hh : hasP ps id = true := by unfold hasP; simp; omega
  obtain ⟨k, hk⟩ : ∃ k : Nat, findI ps 0 id = (k : Int) := ⟨(findI ps 0 id).toNat, by omega⟩
  have hp : getP ps id = podAt ps k := by unfold getP; rw [if_neg hf, hk]; rfl
  have hkl : k < ps.length := by have := (findI_some hk).2.1; omega
  rw [show (findI ps 0 id).toNat = k by omega, ← hp]
  by_cases hn : nx (getP ps id).ph ev = 0
  · rw [if_pos hn]
    refine (sapp_bad id ev node dead w h hz hh hn).mono ?_
    rintro e w' ⟨rfl, hb⟩
    exact OpPost.refused h (by decide) hb
  · rw [if_neg hn]
    refine (sapp_good id ev node dead w h hz hh hn hk).mono ?_
    rintro e w' ⟨a, cap, c, rfl, hst, hwc, hS, ho⟩
    have hB := h.bs
    have hl := cell_lt h.c0
    exact ⟨m.gi, a, cap, c, rfl, hst, fun h0 => Nat.lt_of_lt_of_le h0 hwc, .inl rfl, hwc, hS, ho⟩
set_option maxHeartbeats 1000000 in
set_option maxRecDepth 100000 in
/-- table.New. -/
theorem tnew_any (n : Int) (w : World) (h1 : n ≤ 9223372036854775807) (h0 : -9223372036854775808 ≤ n) :
    Calls Tryd.prog 101 #[.int .i64 n] w fun e w' => e = .returned (.pointer (some ⟨w.heap.size + 1, 0, none⟩)) ∧ w' = (w.alloc (.map #[] 0)).alloc (.cells #[.int .i64 (max n 0), .map (some w.heap.size)] 167) := by
  have hmm := @run_makeMap Tryd.prog
  go_enter Tryd.func101, Tryd.ntmps101
  go_wp2
  · go_ret
    exact ⟨rfl, by rw [show max n 0 = 0 by omega]⟩
  · go_ret
    exact ⟨rfl, by rw [show max n 0 = n by omega]⟩
/-- A new store. -/
def freshMem (b : Nat) : Mem := ⟨b + 2, b + 1, b, b + 2⟩
set_option maxHeartbeats 1000000 in
set_option maxRecDepth 100000 in
theorem pnew_any (n : Int) (w : World) (h1 : n ≤ 9223372036854775807) (h0 : -9223372036854775808 ≤ n) (B : Nat) (hB : B ≤ w.heap.size) :
    Calls Tryd.prog 53 #[.int .i64 n] w fun e w' => e = .returned (.pointer (some ⟨(freshMem w.heap.size).bs, 0, none⟩)) ∧ StoreAt (freshMem w.heap.size) B (fun b => B ≤ b) w' (max n 0) [] ∧ Below w.heap.size w w' ∧ w'.heap.size = w.heap.size + 3 := by
  have HT := Lib.hid fun w => tnew_any n w h1 h0
  generalize hz : max n 0 = z at *
  go_enter Tryd.func53, Tryd.ntmps53
  go_wp2_with fail
  refine (HT.out _).mono ?_
  rintro e w' ⟨rfl, rfl⟩
  go_wp2
  go_ret
  have e1 : ((w.alloc (.map #[] 0)).alloc (.cells #[.int .i64 z, .map (some w.heap.size)] 167)).heap.size = w.heap.size + 2 := by simp
  have hb : Below w.heap.size w ((((w.alloc (.map #[] 0)).alloc (.cells #[.int .i64 z, .map (some w.heap.size)] 167))).alloc (.cells #[.pointer (some ⟨w.heap.size + 1, 0, none⟩), .slice none 0 0] 132)) := (((Below.refl _ w).alloc (Nat.le_refl _) _).alloc (by simp) _).alloc (by simp; omega) _
  refine ⟨rfl, ⟨?_, ?_, ?_, ⟨none, 0, ?_, World.ownsRow_nil _ _ _ _, fun _ => rfl, fun h => by simp at h⟩, ⟨[], ⟨#[], 0, ?_, rfl, rfl⟩, fun j hj => by simp at hj⟩, ?_, by show B ≤ w.heap.size + 2; omega, hB, by show B ≤ w.heap.size + 2; omega, ?_⟩, hb, by simp⟩
  · show World.cell? _ ⟨w.heap.size + 2, 0, none⟩ = some (.pointer (some ⟨w.heap.size + 1, 0, none⟩))
    go_simp
  · show World.cell? _ ⟨w.heap.size + 1, 0, none⟩ = _
    go_simp
  · show World.cell? _ ⟨w.heap.size + 1, 1, none⟩ = some (.map (some w.heap.size))
    go_simp
  · show World.cell? _ ⟨w.heap.size + 2, 1, none⟩ = some (.slice none 0 0)
    go_simp
  · exact (Below.heap_alloc _ _ w.heap.size (by simp; omega)).trans ((Below.heap_alloc _ _ w.heap.size (by simp)).trans (Go.World.alloc_heap_new w _))
  · intro j
    show World.frozen? _ ⟨w.heap.size + 2, j, none⟩ = false
    go_simp
  · refine ⟨?_, ?_, ?_, ?_, ?_, fun h => by simp at h⟩ <;> (simp only [freshMem]; omega)
end Go.Proofs.YtcegipkhmibdeaaDoor
/- The three properties that lists of pods are made by; Store.all. -/
namespace Go.Proofs.YtcegipkhmibdeaaDoor
set_option linter.all false
open Go.RowKit

set_option maxRecDepth 100000 in
theorem hAll_any (p : Pod) (rv : Value) (w : World) : Calls Tryd.prog 107 #[podV p rv] w fun e w' => e = .returned (.bool true) ∧ Below w.heap.size w w' := by
  go_enter Tryd.func107, Tryd.ntmps107
  go_wp2
  go_ret
  exact ⟨rfl, (Below.refl _ _).alloc (Nat.le_refl _) _⟩
set_option maxRecDepth 100000 in
theorem hWith_any (ph : Int) (p : Pod) (rv : Value) (b : Nat) (w : World) (hc : w.cell? ⟨b, 0, none⟩ = some (.int .i64 ph)) : Calls Tryd.prog 111 #[podV p rv, .pointer (some ⟨b, 0, none⟩)] w fun e w' => e = .returned (.bool (withB ph p)) ∧ Below w.heap.size w w' := by
  have hb := cell_lt hc
  go_enter Tryd.func111, Tryd.ntmps111
  go_wp2
  go_ret
  exact ⟨rfl, (Below.refl _ _).alloc (Nat.le_refl _) _⟩
set_option maxRecDepth 100000 in
theorem hOn_any (node : Int) (p : Pod) (rv : Value) (b : Nat) (w : World) (hc : w.cell? ⟨b, 0, none⟩ = some (.int .i64 node)) : Calls Tryd.prog 110 #[podV p rv, .pointer (some ⟨b, 0, none⟩)] w fun e w' => e = .returned (.bool (onB node p)) ∧ Below w.heap.size w w' := by
  have hb := cell_lt hc
  have hpl := Lib.hid fun w => placed_any p.ph w
  have hq : (p.ph == 2 || p.ph == 3 || p.ph == 4) = (decide (2 ≤ p.ph) && decide (p.ph ≤ 4)) := by
    rw [Bool.eq_iff_iff]; simp; omega
  rw [hq] at hpl
  have hd : onB node p = (p.node == node && (decide (2 ≤ p.ph) && decide (p.ph ≤ 4))) := by simp [onB, Bool.and_assoc]
  rw [hd]
  generalize (decide (2 ≤ p.ph) && decide (p.ph ≤ 4)) = q at *
  clear hq hd
  cases hn : (p.node == node)
  · go_enter Tryd.func110, Tryd.ntmps110
    go_wp2
    go_ret
    exact ⟨rfl, (Below.refl _ _).alloc (Nat.le_refl _) _⟩
  · go_enter Tryd.func110, Tryd.ntmps110
    go_wp2_with fail
    refine (hpl.out _).mono ?_
    rintro e w1 ⟨rfl, rfl⟩
    go_wp2
    go_ret
    exact ⟨rfl, (Below.refl _ _).alloc (Nat.le_refl _) _⟩
/-- Store.all: the receiver and the property, each in a box. -/
theorem all_any (sp : Option Addr) (h : Nat) (lb : Array Value) (w : World) : Calls Tryd.prog 122 #[.pointer sp, .func (.func h) #[] lb] w fun e w' => e = .returned (.func (.func 127) #[] #[.pointer (some ⟨w.heap.size, 0, none⟩), .pointer (some ⟨w.heap.size + 1, 0, none⟩)]) ∧ w' = (w.alloc (.cells #[.pointer sp] 60)).alloc (.cells #[.func (.func h) #[] lb] 137) := by
  go_enter Tryd.func122, Tryd.ntmps122
  go_wp2
  go_ret
  exact ⟨rfl, rfl⟩
end Go.Proofs.YtcegipkhmibdeaaDoor
/- The iterator of Store.all. -/
namespace Go.Proofs.YtcegipkhmibdeaaDoor
set_option linter.all false
open Go.RowKit
attribute [local go_sem] Oper.semAt_some

/-- Each id stands once. -/
def IdsOk (ps : List Pod) : Prop := ∀ k, k < ps.length → findI ps 0 (podAt ps k).id = (k : Int)
theorem StoreAt.idAt {m : Mem} {B : Nat} {X : Nat → Prop} {w : World} {size : Int} {ps : List Pod} (h : StoreAt m B X w size ps) {k : Nat} (hk : k < ps.length) : w.cell? ⟨m.gi, k, none⟩ = some (.int .i64 (podAt ps k).id) := by
  obtain ⟨a, c, i1, i2, i3, i4⟩ := h.ids
  rw [i4 (by omega)] at i2
  have := i2.cells (g := m.gi) rfl k (.int .i64 (podAt ps k).id) (by rw [List.getElem?_map, List.getElem?_eq_getElem hk, podAt_get hk]; rfl)
  rw [add_mk, Nat.zero_add] at this
  exact this

set_option maxHeartbeats 4000000 in
set_option maxRecDepth 100000 in
theorem iter_all {m : Mem} {B : Nat} {X : Nat → Prop} {size : Int} {ps : List Pod} (n : Nat) (hn : 1 ≤ n) (ob sb fb nb : Nat) (node : Int) (w0 : World) (hst : StoreAt m B X w0 size ps) (hid : IdsOk ps) (hsm : smallPods ps)
    (hcs : w0.cell? ⟨sb, 0, none⟩ = some (.pointer (some ⟨m.bs, 0, none⟩))) (hch : w0.cell? ⟨fb, 0, none⟩ = some (.func (.func 107) #[] #[]))
    (hob : m.bs < ob ∧ m.bt < ob ∧ m.bm < ob ∧ (0 < ps.length → m.gi < ob) ∧ ∀ b, X b → b < ob) (hsb : sb ≠ ob) (hhb : fb ≠ ob) (hnb : nb ≠ ob) (hol : ob < w0.heap.size) :
    SeqGiven n Tryd.prog 127 #[.pointer (some ⟨sb, 0, none⟩), .pointer (some ⟨fb, 0, none⟩)] (fun x : Pod × Value => #[podV x.1 x.2]) (fun b => b < w0.heap.size ∧ b ≠ ob) (fun x W => W.ownsRow (w0.heap.size + 2) 2 1 x.2 x.1.req.length (x.1.req.map (Value.int .i64))) (fun xs => xs.map Prod.fst = ps.filter (fun _ => true)) ps.length w0 := by
  intro l J W hW hsz hJ hY h0
  obtain ⟨o1, o2, o3, o4, o5⟩ := hob
  have HST : Hid (∀ V, Stays (fun b => b < w0.heap.size ∧ b ≠ ob) w0 V → StoreAt m B X V size ps) := fun V hV => hst.stays hV ⟨by omega, by omega⟩ ⟨by omega, by omega⟩ ⟨by omega, by omega⟩ (fun h => by have := o4 h; exact ⟨by omega, by omega⟩) (fun b hb hx => ⟨hb, by have := o5 b hx; omega⟩)
  have lsb := cell_lt hcs
  have lhb := cell_lt hch
  have HS1 : Hid (∀ V, Stays (fun b => b < w0.heap.size ∧ b ≠ ob) w0 V → V.cell? ⟨sb, 0, none⟩ = some (.pointer (some ⟨m.bs, 0, none⟩))) := fun V hV => hV.cell ⟨lsb, hsb⟩ hcs
  have HS2 : Hid (∀ V, Stays (fun b => b < w0.heap.size ∧ b ≠ ob) w0 V → V.cell? ⟨fb, 0, none⟩ = some (.func (.func 107) #[] #[])) := fun V hV => hV.cell ⟨lhb, hhb⟩ hch
  skip
  have hZW : Stays (fun b => b < w0.heap.size ∧ b ≠ ob) w0 W := Stays.of hW
  have cs := HS1.out W hZW
  have hstW := HST.out W hZW
  have cb := hstW.c0
  obtain ⟨ia, ic, cids, -, ia0, ia1⟩ := hstW.ids
  obtain ⟨nn, hnn⟩ : ∃ nn, nn = ps.length := ⟨_, rfl⟩
  rw [← hnn] at cids ia1
  have hcap : nn * 9 * 8 ≤ 140737488351232 := by rw [hnn]; exact hsm.1
  have HN := Lib.hid hnn; clear hnn
  have HIA := Lib.hid ia1; clear ia1 ia0
  have HSM := Lib.hid hsm; clear hsm
  have HID := Lib.hid hid; clear hid
  have HJ := Lib.hid hJ; clear hJ
  have HY := Lib.hid hY; clear hY
  have HZ0 := Lib.hid hZW; clear hZW
  have HJ0 := Lib.hid h0; clear h0
  clear hst hstW hcs hch hW
  skip
  refine callsIn_of_wp Tryd.func127 rfl trivial ?_ rfl
  simp only [Tryd.ntmps127, List.size_toArray, List.length_cons, List.length_nil, Nat.reduceAdd, Nat.reduceSub, Array.replicate_succ, Array.replicate_zero, List.push_toArray, List.append_toArray, List.nil_append, List.cons_append]
  gi_wp2
  gi_loopw [15] (fun i wr => ∃ (k : Nat) (pre : List (Pod × Value)), k ≤ nn ∧ i = .int .i64 k ∧ Hid (pre.map Prod.fst = (ps.take k).filter (fun _ => true)) ∧ Hid (J pre wr) ∧ Hid (Stays (fun b => b < w0.heap.size ∧ b ≠ ob) w0 wr) ∧ w0.heap.size + 1 < wr.heap.size) (fun i _ => nn - (intOf i).toNat)
  case atStart => exact ⟨0, [], Nat.zero_le _, rfl, rfl, HJ0.out, HZ0.out, hsz⟩
  case round =>
    obtain ⟨k, pre, hk, rfl, hpre, hJs, hZr, hszr⟩ := hrel
    by_cases hlt : k < nn
    · have hkl : k < ps.length := by rw [← HN.out]; exact hlt
      have hstr := HST.out wr hZr.out
      have hs1 := HS1.out wr hZr.out
      have hs2 := HS2.out wr hZr.out
      have hs0 := hstr.c0
      have hidc := hstr.idAt hkl
      have hft := take_filter (ps := ps) (k := k) (fun _ => true) hkl
      have hfk := HID.out k hkl
      have hgp : getP ps (podAt ps k).id = podAt ps k := by unfold getP; rw [if_neg (by omega), hfk]; rfl
      have hhp : hasP ps (podAt ps k).id = true := by unfold hasP; rw [hfk]; simp
      have hlen := HSM.out.2 k hkl
      have hg := tget_any (podAt ps k).id wr hstr
      unfold RetGet at hg
      rw [hgp, hhp] at hg
      clear hgp hhp hfk hstr
      generalize podAt ps k = x at *
      have HG := Lib.hid hg; clear hg
      have HLEN := Lib.hid hlen; clear hlen
      have HFT := Lib.hid hft; clear hft
      have hia := HIA.out (by omega)
      subst hia
      have hki : (0 : Int) ≤ (k : Int) := by omega
      have hkl2 : (k : Int) < (nn : Int) := by omega
      clear hkl
      obtain ⟨lx, hlx⟩ : ∃ lx, lx = x.req.length := ⟨_, rfl⟩
      have HLX := Lib.hid hlx; clear hlx
      gi_wp2_with fail
      refine ⟨trivial, ?_⟩
      refine (callsIn_wide.2 HG.out).mono ?_
      rintro e w1 ⟨a, cap, rfl, hi, hb⟩
      rw [← HLX.out] at hi ⊢
      have hZ1 : Stays (fun b => b < w0.heap.size ∧ b ≠ ob) w0 w1 := hZr.out.trans (Stays.of hb)
      have hsz1 := hb.size
      have lhb1 : fb < w1.heap.size := by omega
      have t2 := HS2.out w1 hZ1
      gi_wp2_with fail
      refine ⟨trivial, ?_⟩
      have hb2 : Below wr.heap.size wr (w1.alloc (.cells #[.int .i64 x.id, .int .i64 x.prio, .bool x.pre, .int .i64 x.grace, .slice a lx cap, .int .i64 x.arr, .int .i64 x.ph, .int .i64 x.node, .int .i64 x.dead] 65)) := hb.alloc hb.size _
      have hZ2 : Stays (fun b => b < w0.heap.size ∧ b ≠ ob) w0 (w1.alloc (.cells #[.int .i64 x.id, .int .i64 x.prio, .bool x.pre, .int .i64 x.grace, .slice a lx cap, .int .i64 x.arr, .int .i64 x.ph, .int .i64 x.node, .int .i64 x.dead] 65)) := hZr.out.trans (Stays.of hb2)
      have HH := Lib.hid (hAll_any x (.slice a lx cap) (w1.alloc (.cells #[.int .i64 x.id, .int .i64 x.prio, .bool x.pre, .int .i64 x.grace, .slice a lx cap, .int .i64 x.arr, .int .i64 x.ph, .int .i64 x.node, .int .i64 x.dead] 65)))
      have HI := Lib.hid hi; clear hi
      have HFX : Hid ((fun (_ : Pod) => true) x = true) := rfl
      refine (callsIn_wide.2 HH.out).mono ?_
      rintro e w3 ⟨rfl, hb3⟩
      have hb4 : Below wr.heap.size wr w3 := hb2.trans (hb3.mono hb2.size)
      have p0 : w3.cell? ⟨w1.heap.size, 0, none⟩ = some (.int .i64 x.id) := keepc hb3 (by simp) (by go_simp)
      have p1 : w3.cell? ⟨w1.heap.size, 1, none⟩ = some (.int .i64 x.prio) := keepc hb3 (by simp) (by go_simp)
      have p2 : w3.cell? ⟨w1.heap.size, 2, none⟩ = some (.bool x.pre) := keepc hb3 (by simp) (by go_simp)
      have p3 : w3.cell? ⟨w1.heap.size, 3, none⟩ = some (.int .i64 x.grace) := keepc hb3 (by simp) (by go_simp)
      have p4 : w3.cell? ⟨w1.heap.size, 4, none⟩ = some (.slice a lx cap) := keepc hb3 (by simp) (by go_simp)
      have p5 : w3.cell? ⟨w1.heap.size, 5, none⟩ = some (.int .i64 x.arr) := keepc hb3 (by simp) (by go_simp)
      have p6 : w3.cell? ⟨w1.heap.size, 6, none⟩ = some (.int .i64 x.ph) := keepc hb3 (by simp) (by go_simp)
      have p7 : w3.cell? ⟨w1.heap.size, 7, none⟩ = some (.int .i64 x.node) := keepc hb3 (by simp) (by go_simp)
      have p8 : w3.cell? ⟨w1.heap.size, 8, none⟩ = some (.int .i64 x.dead) := keepc hb3 (by simp) (by go_simp)
      have hsz3 : w1.heap.size < w3.heap.size := by have := hb3.size; simp at this; omega
      have hi3 : IntsAt w3 (.slice a lx cap) x.req := by
        have h1 := HI.out.ints
        exact (h1.below ((Below.refl _ _).alloc (Nat.le_refl _) _)).below hb3
      have HC := Lib.hid (copied_any x (.slice a lx cap) w3 HLEN.out hi3)
      have HB4 := Lib.hid hb4; clear hb4
      clear hb3 hb2 hZ2 HH hZ1 hi3
      unfold RetPod at HC
      gi_wp2_with fail
      refine ⟨trivial, ?_⟩
      refine (callsIn_wide.2 HC.out).mono ?_
      rintro e w4 ⟨a4, c4, rfl, ho4, hb5⟩
      have hbr : Below wr.heap.size wr w4 := HB4.out.trans (hb5.mono HB4.out.size)
      have hsz4 := HB4.out.size
      have hG4 : w4.ownsRow (w0.heap.size + 2) 2 1 (.slice a4 x.req.length c4) x.req.length (x.req.map (Value.int .i64)) := ownsRow_low ho4 (by omega)
      have hpl : pre.length < ps.length := by
        have h1 := congrArg List.length hpre.out
        rw [List.length_map] at h1
        have h2 : ((ps.take k).filter (fun _ => true)).length ≤ k := Nat.le_trans (List.length_filter_le _ _) (by simp; omega)
        have h3 := HN.out
        omega
      obtain ⟨fn, tmps, assign, body, hy, hR⟩ := HY.out pre (x, .slice a4 x.req.length c4) w4 (HJ.out _ _ _ hJs.out hbr) hG4 hpl
      clear hpl
      dsimp only at hy
      rw [← HLX.out] at hy hR ⊢
      have HR := Lib.hid hR; clear hR
      have HBR := Lib.hid hbr
      clear hbr hG4 ho4 hb5 HC
      gi_wp2
      refine HR.out.mono ?_
      rintro e W5 ⟨rfl, hJ5, hk5⟩
      have HJ5 := Lib.hid hJ5
      have HK5 := Lib.hid hk5
      have hsz5 := HBR.out.size
      clear hJ5 hk5 hy
      gi_wp2
      go_roundw
      case rel => exact ⟨k + 1, pre ++ [(x, .slice a4 lx c4)], by omega, by go_num, by rw [HFT.out, List.map_append, hpre.out]; simp [Hid], HJ5, (hZr.out.trans (Stays.of HBR.out)).trans HK5.out, by have := HK5.out.size; omega⟩
      case measure => simp [intOf]; omega
    · have hend : Hid (pre.map Prod.fst = ps.filter (fun _ => true)) := by rw [hpre.out, List.take_of_length_le (by rw [← HN.out]; omega)]; simp [Hid]
      gi_wp2
      go_end0
      exact ⟨⟨_, rfl⟩, pre, hend.out, hJs.out⟩

set_option maxHeartbeats 4000000 in
set_option maxRecDepth 100000 in
theorem iter_on {m : Mem} {B : Nat} {X : Nat → Prop} {size : Int} {ps : List Pod} (n : Nat) (hn : 1 ≤ n) (ob sb fb nb : Nat) (node : Int) (w0 : World) (hst : StoreAt m B X w0 size ps) (hid : IdsOk ps) (hsm : smallPods ps)
    (hcs : w0.cell? ⟨sb, 0, none⟩ = some (.pointer (some ⟨m.bs, 0, none⟩))) (hch : w0.cell? ⟨fb, 0, none⟩ = some (.func (.func 110) #[] #[.pointer (some ⟨nb, 0, none⟩)])) (hcn : w0.cell? ⟨nb, 0, none⟩ = some (.int .i64 node))
    (hob : m.bs < ob ∧ m.bt < ob ∧ m.bm < ob ∧ (0 < ps.length → m.gi < ob) ∧ ∀ b, X b → b < ob) (hsb : sb ≠ ob) (hhb : fb ≠ ob) (hnb : nb ≠ ob) (hol : ob < w0.heap.size) :
    SeqGiven n Tryd.prog 127 #[.pointer (some ⟨sb, 0, none⟩), .pointer (some ⟨fb, 0, none⟩)] (fun x : Pod × Value => #[podV x.1 x.2]) (fun b => b < w0.heap.size ∧ b ≠ ob) (fun x W => W.ownsRow (w0.heap.size + 2) 2 1 x.2 x.1.req.length (x.1.req.map (Value.int .i64))) (fun xs => xs.map Prod.fst = ps.filter (onB node)) ps.length w0 := by
  intro l J W hW hsz hJ hY h0
  obtain ⟨o1, o2, o3, o4, o5⟩ := hob
  have HST : Hid (∀ V, Stays (fun b => b < w0.heap.size ∧ b ≠ ob) w0 V → StoreAt m B X V size ps) := fun V hV => hst.stays hV ⟨by omega, by omega⟩ ⟨by omega, by omega⟩ ⟨by omega, by omega⟩ (fun h => by have := o4 h; exact ⟨by omega, by omega⟩) (fun b hb hx => ⟨hb, by have := o5 b hx; omega⟩)
  have lsb := cell_lt hcs
  have lhb := cell_lt hch
  have HS1 : Hid (∀ V, Stays (fun b => b < w0.heap.size ∧ b ≠ ob) w0 V → V.cell? ⟨sb, 0, none⟩ = some (.pointer (some ⟨m.bs, 0, none⟩))) := fun V hV => hV.cell ⟨lsb, hsb⟩ hcs
  have HS2 : Hid (∀ V, Stays (fun b => b < w0.heap.size ∧ b ≠ ob) w0 V → V.cell? ⟨fb, 0, none⟩ = some (.func (.func 110) #[] #[.pointer (some ⟨nb, 0, none⟩)])) := fun V hV => hV.cell ⟨lhb, hhb⟩ hch
  have lnb := cell_lt hcn
  have HS3 : Hid (∀ V, Stays (fun b => b < w0.heap.size ∧ b ≠ ob) w0 V → V.cell? ⟨nb, 0, none⟩ = some (.int .i64 node)) := fun V hV => hV.cell ⟨lnb, hnb⟩ hcn
  have hZW : Stays (fun b => b < w0.heap.size ∧ b ≠ ob) w0 W := Stays.of hW
  have cs := HS1.out W hZW
  have hstW := HST.out W hZW
  have cb := hstW.c0
  obtain ⟨ia, ic, cids, -, ia0, ia1⟩ := hstW.ids
  obtain ⟨nn, hnn⟩ : ∃ nn, nn = ps.length := ⟨_, rfl⟩
  rw [← hnn] at cids ia1
  have hcap : nn * 9 * 8 ≤ 140737488351232 := by rw [hnn]; exact hsm.1
  have HN := Lib.hid hnn; clear hnn
  have HIA := Lib.hid ia1; clear ia1 ia0
  have HSM := Lib.hid hsm; clear hsm
  have HID := Lib.hid hid; clear hid
  have HJ := Lib.hid hJ; clear hJ
  have HY := Lib.hid hY; clear hY
  have HZ0 := Lib.hid hZW; clear hZW
  have HJ0 := Lib.hid h0; clear h0
  clear hst hstW hcs hch hW
  clear hcn
  refine callsIn_of_wp Tryd.func127 rfl trivial ?_ rfl
  simp only [Tryd.ntmps127, List.size_toArray, List.length_cons, List.length_nil, Nat.reduceAdd, Nat.reduceSub, Array.replicate_succ, Array.replicate_zero, List.push_toArray, List.append_toArray, List.nil_append, List.cons_append]
  gi_wp2
  gi_loopw [15] (fun i wr => ∃ (k : Nat) (pre : List (Pod × Value)), k ≤ nn ∧ i = .int .i64 k ∧ Hid (pre.map Prod.fst = (ps.take k).filter (onB node)) ∧ Hid (J pre wr) ∧ Hid (Stays (fun b => b < w0.heap.size ∧ b ≠ ob) w0 wr) ∧ w0.heap.size + 1 < wr.heap.size) (fun i _ => nn - (intOf i).toNat)
  case atStart => exact ⟨0, [], Nat.zero_le _, rfl, rfl, HJ0.out, HZ0.out, hsz⟩
  case round =>
    obtain ⟨k, pre, hk, rfl, hpre, hJs, hZr, hszr⟩ := hrel
    by_cases hlt : k < nn
    · have hkl : k < ps.length := by rw [← HN.out]; exact hlt
      have hstr := HST.out wr hZr.out
      have hs1 := HS1.out wr hZr.out
      have hs2 := HS2.out wr hZr.out
      have hs0 := hstr.c0
      have hidc := hstr.idAt hkl
      have hft := take_filter (ps := ps) (k := k) (onB node) hkl
      have hfk := HID.out k hkl
      have hgp : getP ps (podAt ps k).id = podAt ps k := by unfold getP; rw [if_neg (by omega), hfk]; rfl
      have hhp : hasP ps (podAt ps k).id = true := by unfold hasP; rw [hfk]; simp
      have hlen := HSM.out.2 k hkl
      have hg := tget_any (podAt ps k).id wr hstr
      unfold RetGet at hg
      rw [hgp, hhp] at hg
      clear hgp hhp hfk hstr
      generalize podAt ps k = x at *
      have HG := Lib.hid hg; clear hg
      have HLEN := Lib.hid hlen; clear hlen
      have HFT := Lib.hid hft; clear hft
      have hia := HIA.out (by omega)
      subst hia
      have hki : (0 : Int) ≤ (k : Int) := by omega
      have hkl2 : (k : Int) < (nn : Int) := by omega
      clear hkl
      obtain ⟨lx, hlx⟩ : ∃ lx, lx = x.req.length := ⟨_, rfl⟩
      have HLX := Lib.hid hlx; clear hlx
      gi_wp2_with fail
      refine ⟨trivial, ?_⟩
      refine (callsIn_wide.2 HG.out).mono ?_
      rintro e w1 ⟨a, cap, rfl, hi, hb⟩
      rw [← HLX.out] at hi ⊢
      have hZ1 : Stays (fun b => b < w0.heap.size ∧ b ≠ ob) w0 w1 := hZr.out.trans (Stays.of hb)
      have hsz1 := hb.size
      have lhb1 : fb < w1.heap.size := by omega
      have t2 := HS2.out w1 hZ1
      gi_wp2_with fail
      refine ⟨trivial, ?_⟩
      have hb2 : Below wr.heap.size wr (w1.alloc (.cells #[.int .i64 x.id, .int .i64 x.prio, .bool x.pre, .int .i64 x.grace, .slice a lx cap, .int .i64 x.arr, .int .i64 x.ph, .int .i64 x.node, .int .i64 x.dead] 65)) := hb.alloc hb.size _
      have hZ2 : Stays (fun b => b < w0.heap.size ∧ b ≠ ob) w0 (w1.alloc (.cells #[.int .i64 x.id, .int .i64 x.prio, .bool x.pre, .int .i64 x.grace, .slice a lx cap, .int .i64 x.arr, .int .i64 x.ph, .int .i64 x.node, .int .i64 x.dead] 65)) := hZr.out.trans (Stays.of hb2)
      have HH := Lib.hid (hOn_any node x (.slice a lx cap) nb _ (HS3.out _ hZ2))
      have HI := Lib.hid hi; clear hi
      cases hfx : (onB node) x
      · rw [hfx] at HH
        have HFX := Lib.hid hfx; clear hfx
        refine (callsIn_wide.2 HH.out).mono ?_
        rintro e w3 ⟨rfl, hb3⟩
        have hb4 : Below wr.heap.size wr w3 := hb2.trans (hb3.mono hb2.size)
        have HB4 := Lib.hid hb4; clear hb4
        clear hb3 hb2 hZ2 HH hZ1
        gi_wp2_with fail
        refine ⟨trivial, ?_⟩
        gi_wp2
        try ((refine ⟨fun f h => (by cases h), ?_⟩); gi_wp2)
        go_roundw
        case rel => exact ⟨k + 1, pre, by omega, by go_num, by rw [HFT.out, HFX.out, hpre.out]; simp [Hid], HJ.out _ _ _ hJs.out HB4.out, hZr.out.trans (Stays.of HB4.out), by have := HB4.out.size; omega⟩
        case measure => simp [intOf]; omega
      · rw [hfx] at HH
        have HFX := Lib.hid hfx; clear hfx
        refine (callsIn_wide.2 HH.out).mono ?_
        rintro e w3 ⟨rfl, hb3⟩
        have hb4 : Below wr.heap.size wr w3 := hb2.trans (hb3.mono hb2.size)
        have p0 : w3.cell? ⟨w1.heap.size, 0, none⟩ = some (.int .i64 x.id) := keepc hb3 (by simp) (by go_simp)
        have p1 : w3.cell? ⟨w1.heap.size, 1, none⟩ = some (.int .i64 x.prio) := keepc hb3 (by simp) (by go_simp)
        have p2 : w3.cell? ⟨w1.heap.size, 2, none⟩ = some (.bool x.pre) := keepc hb3 (by simp) (by go_simp)
        have p3 : w3.cell? ⟨w1.heap.size, 3, none⟩ = some (.int .i64 x.grace) := keepc hb3 (by simp) (by go_simp)
        have p4 : w3.cell? ⟨w1.heap.size, 4, none⟩ = some (.slice a lx cap) := keepc hb3 (by simp) (by go_simp)
        have p5 : w3.cell? ⟨w1.heap.size, 5, none⟩ = some (.int .i64 x.arr) := keepc hb3 (by simp) (by go_simp)
        have p6 : w3.cell? ⟨w1.heap.size, 6, none⟩ = some (.int .i64 x.ph) := keepc hb3 (by simp) (by go_simp)
        have p7 : w3.cell? ⟨w1.heap.size, 7, none⟩ = some (.int .i64 x.node) := keepc hb3 (by simp) (by go_simp)
        have p8 : w3.cell? ⟨w1.heap.size, 8, none⟩ = some (.int .i64 x.dead) := keepc hb3 (by simp) (by go_simp)
        have hsz3 : w1.heap.size < w3.heap.size := by have := hb3.size; simp at this; omega
        have hi3 : IntsAt w3 (.slice a lx cap) x.req := by
          have h1 := HI.out.ints
          exact (h1.below ((Below.refl _ _).alloc (Nat.le_refl _) _)).below hb3
        have HC := Lib.hid (copied_any x (.slice a lx cap) w3 HLEN.out hi3)
        have HB4 := Lib.hid hb4; clear hb4
        clear hb3 hb2 hZ2 HH hZ1 hi3
        unfold RetPod at HC
        gi_wp2_with fail
        refine ⟨trivial, ?_⟩
        refine (callsIn_wide.2 HC.out).mono ?_
        rintro e w4 ⟨a4, c4, rfl, ho4, hb5⟩
        have hbr : Below wr.heap.size wr w4 := HB4.out.trans (hb5.mono HB4.out.size)
        have hsz4 := HB4.out.size
        have hG4 : w4.ownsRow (w0.heap.size + 2) 2 1 (.slice a4 x.req.length c4) x.req.length (x.req.map (Value.int .i64)) := ownsRow_low ho4 (by omega)
        have hpl : pre.length < ps.length := by
          have h1 := congrArg List.length hpre.out
          rw [List.length_map] at h1
          have h2 : ((ps.take k).filter (onB node)).length ≤ k := Nat.le_trans (List.length_filter_le _ _) (by simp; omega)
          have h3 := HN.out
          omega
        obtain ⟨fn, tmps, assign, body, hy, hR⟩ := HY.out pre (x, .slice a4 x.req.length c4) w4 (HJ.out _ _ _ hJs.out hbr) hG4 hpl
        clear hpl
        dsimp only at hy
        rw [← HLX.out] at hy hR ⊢
        have HR := Lib.hid hR; clear hR
        have HBR := Lib.hid hbr
        clear hbr hG4 ho4 hb5 HC
        gi_wp2
        refine HR.out.mono ?_
        rintro e W5 ⟨rfl, hJ5, hk5⟩
        have HJ5 := Lib.hid hJ5
        have HK5 := Lib.hid hk5
        have hsz5 := HBR.out.size
        clear hJ5 hk5 hy
        gi_wp2
        go_roundw
        case rel => exact ⟨k + 1, pre ++ [(x, .slice a4 lx c4)], by omega, by go_num, by rw [HFT.out, HFX.out, List.map_append, hpre.out]; simp [Hid], HJ5, (hZr.out.trans (Stays.of HBR.out)).trans HK5.out, by have := HK5.out.size; omega⟩
        case measure => simp [intOf]; omega
    · have hend : Hid (pre.map Prod.fst = ps.filter (onB node)) := by rw [hpre.out, List.take_of_length_le (by rw [← HN.out]; omega)]; simp [Hid]
      gi_wp2
      go_end0
      exact ⟨⟨_, rfl⟩, pre, hend.out, hJs.out⟩

set_option maxHeartbeats 4000000 in
set_option maxRecDepth 100000 in
theorem iter_with {m : Mem} {B : Nat} {X : Nat → Prop} {size : Int} {ps : List Pod} (n : Nat) (hn : 1 ≤ n) (ob sb fb nb : Nat) (node : Int) (w0 : World) (hst : StoreAt m B X w0 size ps) (hid : IdsOk ps) (hsm : smallPods ps)
    (hcs : w0.cell? ⟨sb, 0, none⟩ = some (.pointer (some ⟨m.bs, 0, none⟩))) (hch : w0.cell? ⟨fb, 0, none⟩ = some (.func (.func 111) #[] #[.pointer (some ⟨nb, 0, none⟩)])) (hcn : w0.cell? ⟨nb, 0, none⟩ = some (.int .i64 node))
    (hob : m.bs < ob ∧ m.bt < ob ∧ m.bm < ob ∧ (0 < ps.length → m.gi < ob) ∧ ∀ b, X b → b < ob) (hsb : sb ≠ ob) (hhb : fb ≠ ob) (hnb : nb ≠ ob) (hol : ob < w0.heap.size) :
    SeqGiven n Tryd.prog 127 #[.pointer (some ⟨sb, 0, none⟩), .pointer (some ⟨fb, 0, none⟩)] (fun x : Pod × Value => #[podV x.1 x.2]) (fun b => b < w0.heap.size ∧ b ≠ ob) (fun x W => W.ownsRow (w0.heap.size + 2) 2 1 x.2 x.1.req.length (x.1.req.map (Value.int .i64))) (fun xs => xs.map Prod.fst = ps.filter (withB node)) ps.length w0 := by
  intro l J W hW hsz hJ hY h0
  obtain ⟨o1, o2, o3, o4, o5⟩ := hob
  have HST : Hid (∀ V, Stays (fun b => b < w0.heap.size ∧ b ≠ ob) w0 V → StoreAt m B X V size ps) := fun V hV => hst.stays hV ⟨by omega, by omega⟩ ⟨by omega, by omega⟩ ⟨by omega, by omega⟩ (fun h => by have := o4 h; exact ⟨by omega, by omega⟩) (fun b hb hx => ⟨hb, by have := o5 b hx; omega⟩)
  have lsb := cell_lt hcs
  have lhb := cell_lt hch
  have HS1 : Hid (∀ V, Stays (fun b => b < w0.heap.size ∧ b ≠ ob) w0 V → V.cell? ⟨sb, 0, none⟩ = some (.pointer (some ⟨m.bs, 0, none⟩))) := fun V hV => hV.cell ⟨lsb, hsb⟩ hcs
  have HS2 : Hid (∀ V, Stays (fun b => b < w0.heap.size ∧ b ≠ ob) w0 V → V.cell? ⟨fb, 0, none⟩ = some (.func (.func 111) #[] #[.pointer (some ⟨nb, 0, none⟩)])) := fun V hV => hV.cell ⟨lhb, hhb⟩ hch
  have lnb := cell_lt hcn
  have HS3 : Hid (∀ V, Stays (fun b => b < w0.heap.size ∧ b ≠ ob) w0 V → V.cell? ⟨nb, 0, none⟩ = some (.int .i64 node)) := fun V hV => hV.cell ⟨lnb, hnb⟩ hcn
  have hZW : Stays (fun b => b < w0.heap.size ∧ b ≠ ob) w0 W := Stays.of hW
  have cs := HS1.out W hZW
  have hstW := HST.out W hZW
  have cb := hstW.c0
  obtain ⟨ia, ic, cids, -, ia0, ia1⟩ := hstW.ids
  obtain ⟨nn, hnn⟩ : ∃ nn, nn = ps.length := ⟨_, rfl⟩
  rw [← hnn] at cids ia1
  have hcap : nn * 9 * 8 ≤ 140737488351232 := by rw [hnn]; exact hsm.1
  have HN := Lib.hid hnn; clear hnn
  have HIA := Lib.hid ia1; clear ia1 ia0
  have HSM := Lib.hid hsm; clear hsm
  have HID := Lib.hid hid; clear hid
  have HJ := Lib.hid hJ; clear hJ
  have HY := Lib.hid hY; clear hY
  have HZ0 := Lib.hid hZW; clear hZW
  have HJ0 := Lib.hid h0; clear h0
  clear hst hstW hcs hch hW
  clear hcn
  refine callsIn_of_wp Tryd.func127 rfl trivial ?_ rfl
  simp only [Tryd.ntmps127, List.size_toArray, List.length_cons, List.length_nil, Nat.reduceAdd, Nat.reduceSub, Array.replicate_succ, Array.replicate_zero, List.push_toArray, List.append_toArray, List.nil_append, List.cons_append]
  gi_wp2
  gi_loopw [15] (fun i wr => ∃ (k : Nat) (pre : List (Pod × Value)), k ≤ nn ∧ i = .int .i64 k ∧ Hid (pre.map Prod.fst = (ps.take k).filter (withB node)) ∧ Hid (J pre wr) ∧ Hid (Stays (fun b => b < w0.heap.size ∧ b ≠ ob) w0 wr) ∧ w0.heap.size + 1 < wr.heap.size) (fun i _ => nn - (intOf i).toNat)
  case atStart => exact ⟨0, [], Nat.zero_le _, rfl, rfl, HJ0.out, HZ0.out, hsz⟩
  case round =>
    obtain ⟨k, pre, hk, rfl, hpre, hJs, hZr, hszr⟩ := hrel
    by_cases hlt : k < nn
    · have hkl : k < ps.length := by rw [← HN.out]; exact hlt
      have hstr := HST.out wr hZr.out
      have hs1 := HS1.out wr hZr.out
      have hs2 := HS2.out wr hZr.out
      have hs0 := hstr.c0
      have hidc := hstr.idAt hkl
      have hft := take_filter (ps := ps) (k := k) (withB node) hkl
      have hfk := HID.out k hkl
      have hgp : getP ps (podAt ps k).id = podAt ps k := by unfold getP; rw [if_neg (by omega), hfk]; rfl
      have hhp : hasP ps (podAt ps k).id = true := by unfold hasP; rw [hfk]; simp
      have hlen := HSM.out.2 k hkl
      have hg := tget_any (podAt ps k).id wr hstr
      unfold RetGet at hg
      rw [hgp, hhp] at hg
      clear hgp hhp hfk hstr
      generalize podAt ps k = x at *
      have HG := Lib.hid hg; clear hg
      have HLEN := Lib.hid hlen; clear hlen
      have HFT := Lib.hid hft; clear hft
      have hia := HIA.out (by omega)
      subst hia
      have hki : (0 : Int) ≤ (k : Int) := by omega
      have hkl2 : (k : Int) < (nn : Int) := by omega
      clear hkl
      obtain ⟨lx, hlx⟩ : ∃ lx, lx = x.req.length := ⟨_, rfl⟩
      have HLX := Lib.hid hlx; clear hlx
      gi_wp2_with fail
      refine ⟨trivial, ?_⟩
      refine (callsIn_wide.2 HG.out).mono ?_
      rintro e w1 ⟨a, cap, rfl, hi, hb⟩
      rw [← HLX.out] at hi ⊢
      have hZ1 : Stays (fun b => b < w0.heap.size ∧ b ≠ ob) w0 w1 := hZr.out.trans (Stays.of hb)
      have hsz1 := hb.size
      have lhb1 : fb < w1.heap.size := by omega
      have t2 := HS2.out w1 hZ1
      gi_wp2_with fail
      refine ⟨trivial, ?_⟩
      have hb2 : Below wr.heap.size wr (w1.alloc (.cells #[.int .i64 x.id, .int .i64 x.prio, .bool x.pre, .int .i64 x.grace, .slice a lx cap, .int .i64 x.arr, .int .i64 x.ph, .int .i64 x.node, .int .i64 x.dead] 65)) := hb.alloc hb.size _
      have hZ2 : Stays (fun b => b < w0.heap.size ∧ b ≠ ob) w0 (w1.alloc (.cells #[.int .i64 x.id, .int .i64 x.prio, .bool x.pre, .int .i64 x.grace, .slice a lx cap, .int .i64 x.arr, .int .i64 x.ph, .int .i64 x.node, .int .i64 x.dead] 65)) := hZr.out.trans (Stays.of hb2)
      have HH := Lib.hid (hWith_any node x (.slice a lx cap) nb _ (HS3.out _ hZ2))
      have HI := Lib.hid hi; clear hi
      cases hfx : (withB node) x
      · rw [hfx] at HH
        have HFX := Lib.hid hfx; clear hfx
        refine (callsIn_wide.2 HH.out).mono ?_
        rintro e w3 ⟨rfl, hb3⟩
        have hb4 : Below wr.heap.size wr w3 := hb2.trans (hb3.mono hb2.size)
        have HB4 := Lib.hid hb4; clear hb4
        clear hb3 hb2 hZ2 HH hZ1
        gi_wp2_with fail
        refine ⟨trivial, ?_⟩
        gi_wp2
        try ((refine ⟨fun f h => (by cases h), ?_⟩); gi_wp2)
        go_roundw
        case rel => exact ⟨k + 1, pre, by omega, by go_num, by rw [HFT.out, HFX.out, hpre.out]; simp [Hid], HJ.out _ _ _ hJs.out HB4.out, hZr.out.trans (Stays.of HB4.out), by have := HB4.out.size; omega⟩
        case measure => simp [intOf]; omega
      · rw [hfx] at HH
        have HFX := Lib.hid hfx; clear hfx
        refine (callsIn_wide.2 HH.out).mono ?_
        rintro e w3 ⟨rfl, hb3⟩
        have hb4 : Below wr.heap.size wr w3 := hb2.trans (hb3.mono hb2.size)
        have p0 : w3.cell? ⟨w1.heap.size, 0, none⟩ = some (.int .i64 x.id) := keepc hb3 (by simp) (by go_simp)
        have p1 : w3.cell? ⟨w1.heap.size, 1, none⟩ = some (.int .i64 x.prio) := keepc hb3 (by simp) (by go_simp)
        have p2 : w3.cell? ⟨w1.heap.size, 2, none⟩ = some (.bool x.pre) := keepc hb3 (by simp) (by go_simp)
        have p3 : w3.cell? ⟨w1.heap.size, 3, none⟩ = some (.int .i64 x.grace) := keepc hb3 (by simp) (by go_simp)
        have p4 : w3.cell? ⟨w1.heap.size, 4, none⟩ = some (.slice a lx cap) := keepc hb3 (by simp) (by go_simp)
        have p5 : w3.cell? ⟨w1.heap.size, 5, none⟩ = some (.int .i64 x.arr) := keepc hb3 (by simp) (by go_simp)
        have p6 : w3.cell? ⟨w1.heap.size, 6, none⟩ = some (.int .i64 x.ph) := keepc hb3 (by simp) (by go_simp)
        have p7 : w3.cell? ⟨w1.heap.size, 7, none⟩ = some (.int .i64 x.node) := keepc hb3 (by simp) (by go_simp)
        have p8 : w3.cell? ⟨w1.heap.size, 8, none⟩ = some (.int .i64 x.dead) := keepc hb3 (by simp) (by go_simp)
        have hsz3 : w1.heap.size < w3.heap.size := by have := hb3.size; simp at this; omega
        have hi3 : IntsAt w3 (.slice a lx cap) x.req := by
          have h1 := HI.out.ints
          exact (h1.below ((Below.refl _ _).alloc (Nat.le_refl _) _)).below hb3
        have HC := Lib.hid (copied_any x (.slice a lx cap) w3 HLEN.out hi3)
        have HB4 := Lib.hid hb4; clear hb4
        clear hb3 hb2 hZ2 HH hZ1 hi3
        unfold RetPod at HC
        gi_wp2_with fail
        refine ⟨trivial, ?_⟩
        refine (callsIn_wide.2 HC.out).mono ?_
        rintro e w4 ⟨a4, c4, rfl, ho4, hb5⟩
        have hbr : Below wr.heap.size wr w4 := HB4.out.trans (hb5.mono HB4.out.size)
        have hsz4 := HB4.out.size
        have hG4 : w4.ownsRow (w0.heap.size + 2) 2 1 (.slice a4 x.req.length c4) x.req.length (x.req.map (Value.int .i64)) := ownsRow_low ho4 (by omega)
        have hpl : pre.length < ps.length := by
          have h1 := congrArg List.length hpre.out
          rw [List.length_map] at h1
          have h2 : ((ps.take k).filter (withB node)).length ≤ k := Nat.le_trans (List.length_filter_le _ _) (by simp; omega)
          have h3 := HN.out
          omega
        obtain ⟨fn, tmps, assign, body, hy, hR⟩ := HY.out pre (x, .slice a4 x.req.length c4) w4 (HJ.out _ _ _ hJs.out hbr) hG4 hpl
        clear hpl
        dsimp only at hy
        rw [← HLX.out] at hy hR ⊢
        have HR := Lib.hid hR; clear hR
        have HBR := Lib.hid hbr
        clear hbr hG4 ho4 hb5 HC
        gi_wp2
        refine HR.out.mono ?_
        rintro e W5 ⟨rfl, hJ5, hk5⟩
        have HJ5 := Lib.hid hJ5
        have HK5 := Lib.hid hk5
        have hsz5 := HBR.out.size
        clear hJ5 hk5 hy
        gi_wp2
        go_roundw
        case rel => exact ⟨k + 1, pre ++ [(x, .slice a4 lx c4)], by omega, by go_num, by rw [HFT.out, HFX.out, List.map_append, hpre.out]; simp [Hid], HJ5, (hZr.out.trans (Stays.of HBR.out)).trans HK5.out, by have := HK5.out.size; omega⟩
        case measure => simp [intOf]; omega
    · have hend : Hid (pre.map Prod.fst = ps.filter (withB node)) := by rw [hpre.out, List.take_of_length_le (by rw [← HN.out]; omega)]; simp [Hid]
      gi_wp2
      go_end0
      exact ⟨⟨_, rfl⟩, pre, hend.out, hJs.out⟩

end Go.Proofs.YtcegipkhmibdeaaDoor
/- Store.list. -/
namespace Go.Proofs.YtcegipkhmibdeaaDoor
set_option linter.all false
open Go.RowKit
attribute [local go_sem] Oper.semAt_some

/-- Beyond a mark, and not a row's own block. -/
abbrev Free (base : Nat) (v : Value) : Nat → Prop := fun b => base ≤ b ∧ v.ownBlock ≠ some b
theorem OwnPods.stays {X Y : Nat → Prop} {base : Nat} {w w' : World} {v : Value} {ps : List Pod} (h : OwnPods X base w v ps) (hs : Stays Y w w') (hy : ∀ b, base ≤ b → Y b) (hxy : ∀ b, X b → Y b) : OwnPods X base w' v ps := by
  obtain ⟨rvs, h1, h2, h3⟩ := h
  exact ⟨rvs, h1, ownsRow_of_block h2 fun k hk => hs.block k (World.ownsRow.lt h2 k hk).2 (hy k (World.ownsRow.lt h2 k hk).1), fun j hj => (h3 j hj).stays hs fun b _ hb => hxy b hb⟩
theorem OwnPods.imp {X Y : Nat → Prop} {base : Nat} {w : World} {v : Value} {ps : List Pod} (h : OwnPods X base w v ps) (hxy : ∀ b, X b → Y b) : OwnPods Y base w v ps := by
  obtain ⟨rvs, h1, h2, h3⟩ := h
  exact ⟨rvs, h1, h2, fun j hj => (h3 j hj).imp fun b _ hb => hxy b hb⟩
/-- Rows of two types lie apart. -/
theorem rows_apart {w : World} {b1 b2 E1 E2 s1 s2 n1 n2 : Nat} {v1 v2 : Value} {x1 x2 : List Value} (h1 : w.ownsRow b1 E1 s1 v1 n1 x1) (h2 : w.ownsRow b2 E2 s2 v2 n2 x2) (hne : E1 ≠ E2) : ∀ k, v1.ownBlock = some k → v2.ownBlock ≠ some k := by
  intro k e1 e2
  rcases h1.2 with ⟨rfl, _⟩ | ⟨g1, cap1, cur1, rfl, _, hg1, _⟩
  · simp [Value.ownBlock] at e1
  rcases h2.2 with ⟨rfl, _⟩ | ⟨g2, cap2, cur2, rfl, _, hg2, _⟩
  · simp [Value.ownBlock] at e2
  simp [Value.ownBlock] at e1 e2
  subst e1 e2
  rw [hg1] at hg2
  injection hg2 with hg2
  injection hg2 with _ h
  exact hne h
/-- append of one pod in a fence: its request lies in a row of its own. -/
theorem wpListIn_append_pod {F : Fence} {n : Nat} {w : World} {ops : Array Oper} {rest : List Oper} {o : Oper} {a : Act} {Q : Exit → Act → World → Prop} (hgd : o.guard = none) (s x : Operand)
    (ho : o.op = .call { callee := .builtin .append, args := #[s, x], argTypes := #[72, 72] }) (base : Nat)
    (v : Value) (ps : List Pod) (hs : a.eval s = v) (hown : OwnPods (Free base v) base w v ps) (g : Nat) (p : Pod) (rv : Value) (hx : a.eval x = .slice (some ⟨g, 0, none⟩) 1 1)
    (hcells : ∀ j u, (cells9 p rv)[j]? = some u → w.cell? ⟨g, j, none⟩ = some u) (hr : w.ownsRow base 2 1 rv p.req.length (p.req.map (Value.int .i64))) (hb : (ps.length + 1) * 88 ≤ 140737488351232) (hbase : base ≤ w.heap.size)
    (h : ∀ v' w', OwnPods (Free base v') base w' v' (ps ++ [p]) → w.grownBy w' v.ownBlock → wpListIn F n Tryd.prog ops Q rest (a.put o.dst v') w') : wpListIn F n Tryd.prog ops Q (o :: rest) a w := by
  obtain ⟨i0, hi, hz0, hz1, hz2⟩ := info_parts infoPod
  obtain ⟨rvs, hl, hrow, hri⟩ := hown
  obtain ⟨ar, cr, hrv⟩ := ownsRow_shape hr
  have hI : IntsIn (Free base v) w rv p.req := by
    subst hrv
    have h1 := ownsRow_int hr rfl
    obtain ⟨a0, c0, e0, h0⟩ := h1
    cases e0
    refine ⟨_, _, rfl, ?_⟩
    rcases h0 with h0 | ⟨b, off, rfl, hb1, hb2, hb3⟩
    · exact .inl h0
    · refine .inr ⟨b, off, rfl, ⟨hb1, ?_⟩, hb2, hb3⟩
      rcases hr.2 with ⟨hv0, _⟩ | ⟨g1, cap1, cur1, hv1, hrest⟩
      · cases hv0
      · injection hv1 with hv1 _ _
        injection hv1 with hv1
        injection hv1 with hv1 hv2
        subst hv1
        subst hv2
        exact rows_apart hr hrow (by decide) b rfl
  refine wpListIn_append_own_at w hgd s x 72 ho base 65 i0 _ 9 88 Tryd.underlying72 hi hz0 hz1 hz2 rfl (by decide) v ps.length (podRow ps rvs) hs hrow ⟨g, 0, none⟩ 1 1 (cells9 p rv) hx rfl
    (fun j u hu => by rw [add_mk, Nat.zero_add]; exact hcells j u hu) ?_ (by unfold maxLen; omega) (by omega) hbase (fun v' w' h1 h2 _ hnb => ?_)
  · intro u hu
    subst hrv
    simp only [cells9, List.mem_cons, List.not_mem_nil, or_false] at hu
    rcases hu with rfl | rfl | rfl | rfl | rfl | rfl | rfl | rfl | rfl <;> rfl
  · refine h v' w' ⟨rvs ++ [rv], by simp [hl], ?_, fun j hj => ?_⟩ h2
    · rw [podRow_snoc ps rvs p rv hl, List.length_append]
      exact h1
    · have hmove : ∀ (r : Value) (zs : List Int), IntsIn (Free base v) w r zs → IntsIn (Free base v') w' r zs := fun r zs hz => by
        refine (hz.within.stays (X := fun b => v.ownBlock ≠ some b) (Stays.grown h2 fun k hk hx => hx hk) fun b _ hb => hb.1.2).imp fun b _ hb => ⟨hb.1.1, ?_⟩
        rcases hnb with e | e
        · rw [e]; exact hb.1.2
        · rw [e]; intro e2; injection e2 with e2; have := hb.2; omega
      by_cases hjl : j < ps.length
      · have e1 : (rvs ++ [rv]).getD j undef = rvs.getD j undef := by
          rw [List.getD_eq_getElem?_getD, List.getD_eq_getElem?_getD, List.getElem?_append_left (by omega)]
        have e2 : podAt (ps ++ [p]) j = podAt ps j := by
          unfold podAt; rw [List.getD_eq_getElem?_getD, List.getD_eq_getElem?_getD, List.getElem?_append_left hjl]
        rw [e1, e2]
        exact hmove _ _ (hri j hjl)
      · have hje : j = ps.length := by simp at hj; omega
        subst hje
        have e1 : (rvs ++ [rv]).getD ps.length undef = rv := by
          rw [List.getD_eq_getElem?_getD, List.getElem?_append_right (by omega), hl]; simp
        have e2 : podAt (ps ++ [p]) ps.length = p := by
          unfold podAt; rw [List.getD_eq_getElem?_getD, List.getElem?_append_right (by omega)]; simp
        rw [e1, e2]
        exact hmove _ _ hI

/-- Pods of one's own. -/
def RetPods (W : World) (qs : List Pod) (e : Ending) (w' : World) : Prop := ∃ v, e = .returned v ∧ OwnPods (Free W.heap.size v) W.heap.size w' v qs ∧ Below W.heap.size W w'

set_option maxHeartbeats 4000000 in
set_option maxRecDepth 100000 in
theorem list_all {m : Mem} {B : Nat} {X : Nat → Prop} {size : Int} {ps : List Pod} (nb : Nat) (node : Int) (w : World) (hst : StoreAt m B X w size ps) (hid : IdsOk ps) (hsm : smallPods ps) (hx : (ps.length + 1) * 88 ≤ 140737488351232) (hXw : ∀ b, X b → b < w.heap.size) (hnbl : nb < w.heap.size) :
    Calls Tryd.prog 106 #[.pointer (some ⟨m.bs, 0, none⟩), .func (.func 107) #[] #[]] w (RetPods w (ps.filter (fun _ => true))) := by
  have hbs := cell_lt hst.c0
  have hbt := cell_lt hst.t0
  have hbm : m.bm < w.heap.size := by obtain ⟨rvs', hm, _⟩ := hst.map; exact hm.lt
  have hgi := hst.giLt
  have HST := Lib.hid hst; clear hst
  have HID := Lib.hid hid; clear hid
  have HSM := Lib.hid hsm; clear hsm
  have HX := Lib.hid hXw; clear hXw
  have HGI := Lib.hid hgi; clear hgi
  refine (callsIn_wide (n := 3)).1 ?_
  refine callsIn_of_wp_marks Tryd.func106 rfl trivial ?_ rfl
  simp only [Tryd.ntmps106, List.size_toArray, List.length_cons, List.length_nil, Nat.reduceAdd, Nat.reduceSub, Array.replicate_succ, Array.replicate_zero, List.push_toArray, List.append_toArray, List.nil_append, List.cons_append]
  gi_wp2_with fail
  refine ⟨trivial, ?_⟩
  refine (callsIn_wide.2 (all_any _ _ _ _)).mono ?_
  rintro e w' ⟨rfl, rfl⟩
  gi_wp2
  obtain ⟨W0, hW0⟩ : ∃ W0, W0 = ((w.alloc (.cells #[.slice none 0 0] 72)).alloc (.cells #[.pointer (some ⟨m.bs, 0, none⟩)] 60)).alloc (.cells #[.func (.func 107) #[] #[]] 137) := ⟨_, rfl⟩
  have hs0 : W0.heap.size = w.heap.size + 3 := by rw [hW0]; simp
  have hb0 : Below w.heap.size w W0 := by rw [hW0]; exact (((Below.refl _ w).alloc (Nat.le_refl _) _).alloc (by simp) _).alloc (by simp; omega) _
  have c0 : W0.cell? ⟨w.heap.size, 0, none⟩ = some (.slice none 0 0) := by rw [hW0]; go_simp
  have f0 : W0.frozen? ⟨w.heap.size, 0, none⟩ = false := by rw [hW0]; go_simp
  have c1 : W0.cell? ⟨w.heap.size + 1, 0, none⟩ = some (.pointer (some ⟨m.bs, 0, none⟩)) := by rw [hW0]; go_simp
  have c2 : W0.cell? ⟨w.heap.size + 2, 0, none⟩ = some (.func (.func 107) #[] #[]) := by rw [hW0]; go_simp
  rw [← hW0]
  clear hW0
  have hIk : ∀ (s : List (Pod × Value)) (A B : World), (∃ v, A.cell? ⟨w.heap.size, 0, none⟩ = some v ∧ A.frozen? ⟨w.heap.size, 0, none⟩ = false ∧ OwnPods (Free (W0.heap.size + 2) v) (W0.heap.size + 2) A v (s.map Prod.fst) ∧ Below w.heap.size w A) → Stays (Apart W0.heap.size) A B →
      (∃ v, B.cell? ⟨w.heap.size, 0, none⟩ = some v ∧ B.frozen? ⟨w.heap.size, 0, none⟩ = false ∧ OwnPods (Free (W0.heap.size + 2) v) (W0.heap.size + 2) B v (s.map Prod.fst) ∧ Below w.heap.size w B) := by
    rintro s A B ⟨v, h1, h2, h3, h4⟩ hs
    have hap : Apart W0.heap.size w.heap.size := ⟨by omega, by omega⟩
    exact ⟨v, hs.cell hap h1, (hs.frozen (cell_lt h1) hap).trans h2, h3.stays hs (fun b hb => ⟨by omega, by omega⟩) (fun b hb => ⟨by have := hb.1; omega, by have := hb.1; omega⟩), h4.trans (hs.below h4.size fun b hb => ⟨by omega, by omega⟩)⟩
  refine wpIn_rangeFunc_given (by omega) (gf := 127) (lb := #[.pointer (some ⟨w.heap.size + 1, 0, none⟩), .pointer (some ⟨w.heap.size + 1 + 1, 0, none⟩)]) rfl (enters_of Tryd.func127 (by kernel_rfl) rfl)
    (Z := fun b => b < W0.heap.size ∧ b ≠ w.heap.size) (fun b h => h.1)
    (iter_all 2 (by omega) w.heap.size (w.heap.size + 1) (w.heap.size + 1 + 1) nb node W0 (HST.out.below hb0) HID.out HSM.out c1 c2 ⟨hbs, hbt, hbm, HGI.out, HX.out⟩ (by omega) (by omega) (by omega) (by omega))
    (fun x => rfl)
    (fun pre W => ∃ v, W.cell? ⟨w.heap.size, 0, none⟩ = some v ∧ W.frozen? ⟨w.heap.size, 0, none⟩ = false ∧ OwnPods (Free (W0.heap.size + 2) v) (W0.heap.size + 2) W v (pre.map Prod.fst) ∧ Below w.heap.size w W)
    hIk ⟨_, c0, f0, OwnPods.nil _ _ _, hb0⟩
    (fun x a' W => ∃ Bx, W0.heap.size + 2 ≤ Bx ∧ Bx < W.heap.size ∧ PodCells W Bx 0 x.1 x.2 ∧ W.ownsRow (W0.heap.size + 2) 2 1 x.2 x.1.req.length (x.1.req.map (Value.int .i64)) ∧ a' = { tmps := #[.pointer (some ⟨m.bs, 0, none⟩), .func (.func 107) #[] #[], undef, undef, .slice none 0 0, .pointer (some ⟨w.heap.size, 0, none⟩), .pointer (some ⟨Bx, 0, none⟩), .pointer (some ⟨m.bs, 0, none⟩), .func (.func 107) #[] #[], .func (.func 127) #[] #[.pointer (some ⟨w.heap.size + 1, 0, none⟩), .pointer (some ⟨w.heap.size + 1 + 1, 0, none⟩)], podV x.1 x.2, undef, undef, undef, undef, undef], defers := [] })
    ?hax ?assign ?body ?done
  case hax =>
    rintro x a' A B ⟨Bx, h1, h2, h3, h4, h5⟩ hs
    obtain ⟨q0, q1, q2, q3, q4, q5, q6, q7, q8⟩ := h3
    have hap : Apart W0.heap.size Bx := ⟨by omega, by omega⟩
    exact ⟨Bx, h1, Nat.lt_of_lt_of_le h2 hs.size, ⟨hs.cell hap q0, hs.cell hap q1, hs.cell hap q2, hs.cell hap q3, hs.cell hap q4, hs.cell hap q5, hs.cell hap q6, hs.cell hap q7, hs.cell hap q8⟩, ownsRow_of_block h4 fun k hk => hs.block k (World.ownsRow.lt h4 k hk).2 ⟨by have := (World.ownsRow.lt h4 k hk).1; omega, by have := (World.ownsRow.lt h4 k hk).1; omega⟩, h5⟩
  case assign =>
    rintro l pre ⟨p, rv⟩ W K hlt hi hG hK
    have HK := Lib.hid hK; clear hK
    have HG := Lib.hid hG; clear hG
    clear hi hIk
    obtain ⟨ar, cr, er⟩ := ownsRow_shape HG.out
    change rv = .slice ar p.req.length cr at er
    subst er
    gi_wp2
    refine HK.out _ _ ((Below.refl _ W).alloc (Nat.le_refl _) _) ⟨W.heap.size, by omega, by simp, ⟨?_, ?_, ?_, ?_, ?_, ?_, ?_, ?_, ?_⟩, HG.out.alloc _, rfl⟩ <;> first | (simp only [Nat.zero_add]; go_simp; done) | go_simp
  case body =>
    rintro l pre ⟨p, rv⟩ a' W hlt ⟨v, h1, h2, h3, h4⟩ ⟨Bx, b1, b2, b3, b4, rfl⟩ hN
    change PodCells W Bx 0 p rv at b3
    change W.ownsRow (W0.heap.size + 2) 2 1 rv p.req.length (p.req.map (Value.int .i64)) at b4
    obtain ⟨q0, q1, q2, q3, q4, q5, q6, q7, q8⟩ := b3
    simp only [Nat.zero_add] at q1 q2 q3 q4 q5 q6 q7 q8
    obtain ⟨ar, cr, rfl⟩ := ownsRow_shape b4
    obtain ⟨av, cv, rfl⟩ := h3.shape
    have hnb : ∀ b, b < W0.heap.size + 2 → (Value.slice av (pre.map Prod.fst).length cv).ownBlock ≠ some b := fun b hb e => by
      obtain ⟨rvs, e1, e2, e3⟩ := h3
      have := (World.ownsRow.lt e2 _ e).1
      omega
    have hwW := cell_lt h1
    have hpl : (pre.map Prod.fst).length = pre.length := List.length_map ..
    have H3 := Lib.hid h3; clear h3
    have H4 := Lib.hid h4; clear h4
    have HB4 := Lib.hid b4; clear b4
    have HNB := Lib.hid hnb; clear hnb
    clear hIk
    obtain ⟨lr, hlr⟩ : ∃ lr, lr = p.req.length := ⟨_, rfl⟩
    obtain ⟨lv, hlv⟩ : ∃ lv, lv = (pre.map Prod.fst).length := ⟨_, rfl⟩
    rw [← hlr] at q4 HB4
    rw [← hlv] at h1 HNB H3
    have HLR := Lib.hid hlr; clear hlr
    rw [hpl] at hlv
    have hlv2 : lv < ps.length := by rw [hlv]; exact hN
    have HLV : Hid (lv = (pre.map Prod.fst).length) := by rw [hpl]; exact hlv
    clear hlv hpl
    have hbase : W0.heap.size + 2 ≤ W.heap.size := by omega
    have H3' : Hid (∀ o : Obj, OwnPods (Free (W0.heap.size + 2) (.slice av lv cv)) (W0.heap.size + 2) (W.alloc o) (.slice av lv cv) (pre.map Prod.fst)) := fun o => H3.out.stays (Y := fun _ => True) (Stays.of ((Below.refl _ W).alloc (Nat.le_refl _) o)) (fun _ _ => trivial) (fun _ _ => trivial)
    gi_wp2_with (gi_at_builtin; refine wpListIn_append_pod rfl (.tmp 11) (.tmp 13) rfl (W0.heap.size + 2) (.slice av lv cv) (pre.map Prod.fst) rfl (H3'.out _) W.heap.size p (.slice ar lr cr) rfl (cells9_of (by go_simp) (by go_simp) (by go_simp) (by go_simp) (by go_simp) (by go_simp) (by go_simp) (by go_simp) (by go_simp)) (by rw [← HLR.out]; exact HB4.out.alloc _) (by rw [← HLV.out]; omega) (by simp; omega) ?_; intro v' w1 hown' hgr; obtain ⟨a2, c2, rfl⟩ := hown'.shape; have HO := Lib.hid hown'; have HGR := Lib.hid hgr; have hst1 := Stays.grown (X := fun b => (Value.slice av lv cv).ownBlock ≠ some b) hgr (fun k hk hx => hx hk); have k1 := hst1.cell (HNB.out _ (by omega)) (keepl ((Below.refl _ W).alloc (Nat.le_refl _) _) h1); have k2 := (hst1.frozen (by simp; omega) (HNB.out _ (by omega))).trans ((((Below.refl _ W).alloc (Nat.le_refl _) _).frozen (p := ⟨w.heap.size, 0, none⟩) hwW).trans h2); have HST1 := Lib.hid hst1; clear hown' hgr hst1)
    have hel : (pre.map Prod.fst ++ [p]).length = pre.length + 1 := by simp
    have ho1 := HO.out
    rw [hel] at ho1
    refine ⟨((Stays.of ((Below.refl _ W).alloc (Nat.le_refl _) _)).trans (HST1.out.imp fun b _ hb => HNB.out b (by rcases hb with h | rfl | rfl <;> omega))).trans (Stays.setCell fun h => by rcases h with h | h | h <;> omega), .slice a2 (pre.length + 1) c2, World.cell?_setCell_same _ _ _ k1, by rw [World.frozen?_setCell]; exact k2, ?_, ?_⟩
    · rw [List.map_append]
      exact ho1.stays (Y := fun b => b ≠ w.heap.size) (Stays.setCell fun h => h rfl) (fun b hb => by omega) (fun b hb => by have := hb.1; omega)
    · refine H4.out.trans ?_
      have hz4 := H4.out.size
      refine (((Below.refl w.heap.size W).alloc hz4 _).grown HGR.out (by simp; omega) fun k hk => ?_).setCell (by show w.heap.size ≤ w.heap.size; omega) _
      rcases Nat.lt_or_ge k (W0.heap.size + 2) with hk1 | hk1
      · exact absurd hk (HNB.out k hk1)
      · omega
  case done =>
    rintro xs W hS ⟨v, h1, h2, h3, h4⟩ hD
    have hv0 := h3.shape
    obtain ⟨av, cv, rfl⟩ := hv0
    have H3 := Lib.hid h3; clear h3
    have H4 := Lib.hid h4; clear h4
    have HS := Lib.hid hS; clear hS
    clear hIk
    generalize (xs.map Prod.fst).length = lv at *
    gi_wp2
    have h3 := H3.out
    rw [HS.out] at h3
    refine ⟨by simp, .inl ⟨_, _, rfl, run_takeDeferred hD, ?_⟩⟩
    refine ⟨_, results_tmp rfl _ _ _, _, rfl, ((h3.stays (Y := fun b => b ≠ W0.heap.size) (Stays.putObj fun h => h rfl) (fun b hb => by omega) (fun b hb => by have := hb.1; omega)).low (by omega)).imp fun b hb => ⟨by have := hb.1; omega, hb.2⟩, ?_⟩
    exact H4.out.trans ((Stays.putObj (X := fun b => b ≠ W0.heap.size) fun h => h rfl).below H4.out.size fun b hb => by omega)

set_option maxHeartbeats 4000000 in
set_option maxRecDepth 100000 in
theorem list_on {m : Mem} {B : Nat} {X : Nat → Prop} {size : Int} {ps : List Pod} (nb : Nat) (node : Int) (w : World) (hst : StoreAt m B X w size ps) (hid : IdsOk ps) (hsm : smallPods ps) (hx : (ps.length + 1) * 88 ≤ 140737488351232) (hcn : w.cell? ⟨nb, 0, none⟩ = some (.int .i64 node)) (hXw : ∀ b, X b → b < w.heap.size) (hnbl : nb < w.heap.size) :
    Calls Tryd.prog 106 #[.pointer (some ⟨m.bs, 0, none⟩), .func (.func 110) #[] #[.pointer (some ⟨nb, 0, none⟩)]] w (RetPods w (ps.filter (onB node))) := by
  have hbs := cell_lt hst.c0
  have hbt := cell_lt hst.t0
  have hbm : m.bm < w.heap.size := by obtain ⟨rvs', hm, _⟩ := hst.map; exact hm.lt
  have hgi := hst.giLt
  have HST := Lib.hid hst; clear hst
  have HID := Lib.hid hid; clear hid
  have HSM := Lib.hid hsm; clear hsm
  have HX := Lib.hid hXw; clear hXw
  have HGI := Lib.hid hgi; clear hgi
  refine (callsIn_wide (n := 3)).1 ?_
  refine callsIn_of_wp_marks Tryd.func106 rfl trivial ?_ rfl
  simp only [Tryd.ntmps106, List.size_toArray, List.length_cons, List.length_nil, Nat.reduceAdd, Nat.reduceSub, Array.replicate_succ, Array.replicate_zero, List.push_toArray, List.append_toArray, List.nil_append, List.cons_append]
  gi_wp2_with fail
  refine ⟨trivial, ?_⟩
  refine (callsIn_wide.2 (all_any _ _ _ _)).mono ?_
  rintro e w' ⟨rfl, rfl⟩
  gi_wp2
  obtain ⟨W0, hW0⟩ : ∃ W0, W0 = ((w.alloc (.cells #[.slice none 0 0] 72)).alloc (.cells #[.pointer (some ⟨m.bs, 0, none⟩)] 60)).alloc (.cells #[.func (.func 110) #[] #[.pointer (some ⟨nb, 0, none⟩)]] 137) := ⟨_, rfl⟩
  have hs0 : W0.heap.size = w.heap.size + 3 := by rw [hW0]; simp
  have hb0 : Below w.heap.size w W0 := by rw [hW0]; exact (((Below.refl _ w).alloc (Nat.le_refl _) _).alloc (by simp) _).alloc (by simp; omega) _
  have c0 : W0.cell? ⟨w.heap.size, 0, none⟩ = some (.slice none 0 0) := by rw [hW0]; go_simp
  have f0 : W0.frozen? ⟨w.heap.size, 0, none⟩ = false := by rw [hW0]; go_simp
  have c1 : W0.cell? ⟨w.heap.size + 1, 0, none⟩ = some (.pointer (some ⟨m.bs, 0, none⟩)) := by rw [hW0]; go_simp
  have c2 : W0.cell? ⟨w.heap.size + 2, 0, none⟩ = some (.func (.func 110) #[] #[.pointer (some ⟨nb, 0, none⟩)]) := by rw [hW0]; go_simp
  rw [← hW0]
  clear hW0
  have hIk : ∀ (s : List (Pod × Value)) (A B : World), (∃ v, A.cell? ⟨w.heap.size, 0, none⟩ = some v ∧ A.frozen? ⟨w.heap.size, 0, none⟩ = false ∧ OwnPods (Free (W0.heap.size + 2) v) (W0.heap.size + 2) A v (s.map Prod.fst) ∧ Below w.heap.size w A) → Stays (Apart W0.heap.size) A B →
      (∃ v, B.cell? ⟨w.heap.size, 0, none⟩ = some v ∧ B.frozen? ⟨w.heap.size, 0, none⟩ = false ∧ OwnPods (Free (W0.heap.size + 2) v) (W0.heap.size + 2) B v (s.map Prod.fst) ∧ Below w.heap.size w B) := by
    rintro s A B ⟨v, h1, h2, h3, h4⟩ hs
    have hap : Apart W0.heap.size w.heap.size := ⟨by omega, by omega⟩
    exact ⟨v, hs.cell hap h1, (hs.frozen (cell_lt h1) hap).trans h2, h3.stays hs (fun b hb => ⟨by omega, by omega⟩) (fun b hb => ⟨by have := hb.1; omega, by have := hb.1; omega⟩), h4.trans (hs.below h4.size fun b hb => ⟨by omega, by omega⟩)⟩
  refine wpIn_rangeFunc_given (by omega) (gf := 127) (lb := #[.pointer (some ⟨w.heap.size + 1, 0, none⟩), .pointer (some ⟨w.heap.size + 1 + 1, 0, none⟩)]) rfl (enters_of Tryd.func127 (by kernel_rfl) rfl)
    (Z := fun b => b < W0.heap.size ∧ b ≠ w.heap.size) (fun b h => h.1)
    (iter_on 2 (by omega) w.heap.size (w.heap.size + 1) (w.heap.size + 1 + 1) nb node W0 (HST.out.below hb0) HID.out HSM.out c1 c2 (keepl hb0 hcn) ⟨hbs, hbt, hbm, HGI.out, HX.out⟩ (by omega) (by omega) (by omega) (by omega))
    (fun x => rfl)
    (fun pre W => ∃ v, W.cell? ⟨w.heap.size, 0, none⟩ = some v ∧ W.frozen? ⟨w.heap.size, 0, none⟩ = false ∧ OwnPods (Free (W0.heap.size + 2) v) (W0.heap.size + 2) W v (pre.map Prod.fst) ∧ Below w.heap.size w W)
    hIk ⟨_, c0, f0, OwnPods.nil _ _ _, hb0⟩
    (fun x a' W => ∃ Bx, W0.heap.size + 2 ≤ Bx ∧ Bx < W.heap.size ∧ PodCells W Bx 0 x.1 x.2 ∧ W.ownsRow (W0.heap.size + 2) 2 1 x.2 x.1.req.length (x.1.req.map (Value.int .i64)) ∧ a' = { tmps := #[.pointer (some ⟨m.bs, 0, none⟩), .func (.func 110) #[] #[.pointer (some ⟨nb, 0, none⟩)], undef, undef, .slice none 0 0, .pointer (some ⟨w.heap.size, 0, none⟩), .pointer (some ⟨Bx, 0, none⟩), .pointer (some ⟨m.bs, 0, none⟩), .func (.func 110) #[] #[.pointer (some ⟨nb, 0, none⟩)], .func (.func 127) #[] #[.pointer (some ⟨w.heap.size + 1, 0, none⟩), .pointer (some ⟨w.heap.size + 1 + 1, 0, none⟩)], podV x.1 x.2, undef, undef, undef, undef, undef], defers := [] })
    ?hax ?assign ?body ?done
  case hax =>
    rintro x a' A B ⟨Bx, h1, h2, h3, h4, h5⟩ hs
    obtain ⟨q0, q1, q2, q3, q4, q5, q6, q7, q8⟩ := h3
    have hap : Apart W0.heap.size Bx := ⟨by omega, by omega⟩
    exact ⟨Bx, h1, Nat.lt_of_lt_of_le h2 hs.size, ⟨hs.cell hap q0, hs.cell hap q1, hs.cell hap q2, hs.cell hap q3, hs.cell hap q4, hs.cell hap q5, hs.cell hap q6, hs.cell hap q7, hs.cell hap q8⟩, ownsRow_of_block h4 fun k hk => hs.block k (World.ownsRow.lt h4 k hk).2 ⟨by have := (World.ownsRow.lt h4 k hk).1; omega, by have := (World.ownsRow.lt h4 k hk).1; omega⟩, h5⟩
  case assign =>
    rintro l pre ⟨p, rv⟩ W K hlt hi hG hK
    have HK := Lib.hid hK; clear hK
    have HG := Lib.hid hG; clear hG
    clear hi hIk
    obtain ⟨ar, cr, er⟩ := ownsRow_shape HG.out
    change rv = .slice ar p.req.length cr at er
    subst er
    gi_wp2
    refine HK.out _ _ ((Below.refl _ W).alloc (Nat.le_refl _) _) ⟨W.heap.size, by omega, by simp, ⟨?_, ?_, ?_, ?_, ?_, ?_, ?_, ?_, ?_⟩, HG.out.alloc _, rfl⟩ <;> first | (simp only [Nat.zero_add]; go_simp; done) | go_simp
  case body =>
    rintro l pre ⟨p, rv⟩ a' W hlt ⟨v, h1, h2, h3, h4⟩ ⟨Bx, b1, b2, b3, b4, rfl⟩ hN
    change PodCells W Bx 0 p rv at b3
    change W.ownsRow (W0.heap.size + 2) 2 1 rv p.req.length (p.req.map (Value.int .i64)) at b4
    obtain ⟨q0, q1, q2, q3, q4, q5, q6, q7, q8⟩ := b3
    simp only [Nat.zero_add] at q1 q2 q3 q4 q5 q6 q7 q8
    obtain ⟨ar, cr, rfl⟩ := ownsRow_shape b4
    obtain ⟨av, cv, rfl⟩ := h3.shape
    have hnb : ∀ b, b < W0.heap.size + 2 → (Value.slice av (pre.map Prod.fst).length cv).ownBlock ≠ some b := fun b hb e => by
      obtain ⟨rvs, e1, e2, e3⟩ := h3
      have := (World.ownsRow.lt e2 _ e).1
      omega
    have hwW := cell_lt h1
    have hpl : (pre.map Prod.fst).length = pre.length := List.length_map ..
    have H3 := Lib.hid h3; clear h3
    have H4 := Lib.hid h4; clear h4
    have HB4 := Lib.hid b4; clear b4
    have HNB := Lib.hid hnb; clear hnb
    clear hIk
    obtain ⟨lr, hlr⟩ : ∃ lr, lr = p.req.length := ⟨_, rfl⟩
    obtain ⟨lv, hlv⟩ : ∃ lv, lv = (pre.map Prod.fst).length := ⟨_, rfl⟩
    rw [← hlr] at q4 HB4
    rw [← hlv] at h1 HNB H3
    have HLR := Lib.hid hlr; clear hlr
    rw [hpl] at hlv
    have hlv2 : lv < ps.length := by rw [hlv]; exact hN
    have HLV : Hid (lv = (pre.map Prod.fst).length) := by rw [hpl]; exact hlv
    clear hlv hpl
    have hbase : W0.heap.size + 2 ≤ W.heap.size := by omega
    have H3' : Hid (∀ o : Obj, OwnPods (Free (W0.heap.size + 2) (.slice av lv cv)) (W0.heap.size + 2) (W.alloc o) (.slice av lv cv) (pre.map Prod.fst)) := fun o => H3.out.stays (Y := fun _ => True) (Stays.of ((Below.refl _ W).alloc (Nat.le_refl _) o)) (fun _ _ => trivial) (fun _ _ => trivial)
    gi_wp2_with (gi_at_builtin; refine wpListIn_append_pod rfl (.tmp 11) (.tmp 13) rfl (W0.heap.size + 2) (.slice av lv cv) (pre.map Prod.fst) rfl (H3'.out _) W.heap.size p (.slice ar lr cr) rfl (cells9_of (by go_simp) (by go_simp) (by go_simp) (by go_simp) (by go_simp) (by go_simp) (by go_simp) (by go_simp) (by go_simp)) (by rw [← HLR.out]; exact HB4.out.alloc _) (by rw [← HLV.out]; omega) (by simp; omega) ?_; intro v' w1 hown' hgr; obtain ⟨a2, c2, rfl⟩ := hown'.shape; have HO := Lib.hid hown'; have HGR := Lib.hid hgr; have hst1 := Stays.grown (X := fun b => (Value.slice av lv cv).ownBlock ≠ some b) hgr (fun k hk hx => hx hk); have k1 := hst1.cell (HNB.out _ (by omega)) (keepl ((Below.refl _ W).alloc (Nat.le_refl _) _) h1); have k2 := (hst1.frozen (by simp; omega) (HNB.out _ (by omega))).trans ((((Below.refl _ W).alloc (Nat.le_refl _) _).frozen (p := ⟨w.heap.size, 0, none⟩) hwW).trans h2); have HST1 := Lib.hid hst1; clear hown' hgr hst1)
    have hel : (pre.map Prod.fst ++ [p]).length = pre.length + 1 := by simp
    have ho1 := HO.out
    rw [hel] at ho1
    refine ⟨((Stays.of ((Below.refl _ W).alloc (Nat.le_refl _) _)).trans (HST1.out.imp fun b _ hb => HNB.out b (by rcases hb with h | rfl | rfl <;> omega))).trans (Stays.setCell fun h => by rcases h with h | h | h <;> omega), .slice a2 (pre.length + 1) c2, World.cell?_setCell_same _ _ _ k1, by rw [World.frozen?_setCell]; exact k2, ?_, ?_⟩
    · rw [List.map_append]
      exact ho1.stays (Y := fun b => b ≠ w.heap.size) (Stays.setCell fun h => h rfl) (fun b hb => by omega) (fun b hb => by have := hb.1; omega)
    · refine H4.out.trans ?_
      have hz4 := H4.out.size
      refine (((Below.refl w.heap.size W).alloc hz4 _).grown HGR.out (by simp; omega) fun k hk => ?_).setCell (by show w.heap.size ≤ w.heap.size; omega) _
      rcases Nat.lt_or_ge k (W0.heap.size + 2) with hk1 | hk1
      · exact absurd hk (HNB.out k hk1)
      · omega
  case done =>
    rintro xs W hS ⟨v, h1, h2, h3, h4⟩ hD
    have hv0 := h3.shape
    obtain ⟨av, cv, rfl⟩ := hv0
    have H3 := Lib.hid h3; clear h3
    have H4 := Lib.hid h4; clear h4
    have HS := Lib.hid hS; clear hS
    clear hIk
    generalize (xs.map Prod.fst).length = lv at *
    gi_wp2
    have h3 := H3.out
    rw [HS.out] at h3
    refine ⟨by simp, .inl ⟨_, _, rfl, run_takeDeferred hD, ?_⟩⟩
    refine ⟨_, results_tmp rfl _ _ _, _, rfl, ((h3.stays (Y := fun b => b ≠ W0.heap.size) (Stays.putObj fun h => h rfl) (fun b hb => by omega) (fun b hb => by have := hb.1; omega)).low (by omega)).imp fun b hb => ⟨by have := hb.1; omega, hb.2⟩, ?_⟩
    exact H4.out.trans ((Stays.putObj (X := fun b => b ≠ W0.heap.size) fun h => h rfl).below H4.out.size fun b hb => by omega)

set_option maxHeartbeats 4000000 in
set_option maxRecDepth 100000 in
theorem list_with {m : Mem} {B : Nat} {X : Nat → Prop} {size : Int} {ps : List Pod} (nb : Nat) (node : Int) (w : World) (hst : StoreAt m B X w size ps) (hid : IdsOk ps) (hsm : smallPods ps) (hx : (ps.length + 1) * 88 ≤ 140737488351232) (hcn : w.cell? ⟨nb, 0, none⟩ = some (.int .i64 node)) (hXw : ∀ b, X b → b < w.heap.size) (hnbl : nb < w.heap.size) :
    Calls Tryd.prog 106 #[.pointer (some ⟨m.bs, 0, none⟩), .func (.func 111) #[] #[.pointer (some ⟨nb, 0, none⟩)]] w (RetPods w (ps.filter (withB node))) := by
  have hbs := cell_lt hst.c0
  have hbt := cell_lt hst.t0
  have hbm : m.bm < w.heap.size := by obtain ⟨rvs', hm, _⟩ := hst.map; exact hm.lt
  have hgi := hst.giLt
  have HST := Lib.hid hst; clear hst
  have HID := Lib.hid hid; clear hid
  have HSM := Lib.hid hsm; clear hsm
  have HX := Lib.hid hXw; clear hXw
  have HGI := Lib.hid hgi; clear hgi
  refine (callsIn_wide (n := 3)).1 ?_
  refine callsIn_of_wp_marks Tryd.func106 rfl trivial ?_ rfl
  simp only [Tryd.ntmps106, List.size_toArray, List.length_cons, List.length_nil, Nat.reduceAdd, Nat.reduceSub, Array.replicate_succ, Array.replicate_zero, List.push_toArray, List.append_toArray, List.nil_append, List.cons_append]
  gi_wp2_with fail
  refine ⟨trivial, ?_⟩
  refine (callsIn_wide.2 (all_any _ _ _ _)).mono ?_
  rintro e w' ⟨rfl, rfl⟩
  gi_wp2
  obtain ⟨W0, hW0⟩ : ∃ W0, W0 = ((w.alloc (.cells #[.slice none 0 0] 72)).alloc (.cells #[.pointer (some ⟨m.bs, 0, none⟩)] 60)).alloc (.cells #[.func (.func 111) #[] #[.pointer (some ⟨nb, 0, none⟩)]] 137) := ⟨_, rfl⟩
  have hs0 : W0.heap.size = w.heap.size + 3 := by rw [hW0]; simp
  have hb0 : Below w.heap.size w W0 := by rw [hW0]; exact (((Below.refl _ w).alloc (Nat.le_refl _) _).alloc (by simp) _).alloc (by simp; omega) _
  have c0 : W0.cell? ⟨w.heap.size, 0, none⟩ = some (.slice none 0 0) := by rw [hW0]; go_simp
  have f0 : W0.frozen? ⟨w.heap.size, 0, none⟩ = false := by rw [hW0]; go_simp
  have c1 : W0.cell? ⟨w.heap.size + 1, 0, none⟩ = some (.pointer (some ⟨m.bs, 0, none⟩)) := by rw [hW0]; go_simp
  have c2 : W0.cell? ⟨w.heap.size + 2, 0, none⟩ = some (.func (.func 111) #[] #[.pointer (some ⟨nb, 0, none⟩)]) := by rw [hW0]; go_simp
  rw [← hW0]
  clear hW0
  have hIk : ∀ (s : List (Pod × Value)) (A B : World), (∃ v, A.cell? ⟨w.heap.size, 0, none⟩ = some v ∧ A.frozen? ⟨w.heap.size, 0, none⟩ = false ∧ OwnPods (Free (W0.heap.size + 2) v) (W0.heap.size + 2) A v (s.map Prod.fst) ∧ Below w.heap.size w A) → Stays (Apart W0.heap.size) A B →
      (∃ v, B.cell? ⟨w.heap.size, 0, none⟩ = some v ∧ B.frozen? ⟨w.heap.size, 0, none⟩ = false ∧ OwnPods (Free (W0.heap.size + 2) v) (W0.heap.size + 2) B v (s.map Prod.fst) ∧ Below w.heap.size w B) := by
    rintro s A B ⟨v, h1, h2, h3, h4⟩ hs
    have hap : Apart W0.heap.size w.heap.size := ⟨by omega, by omega⟩
    exact ⟨v, hs.cell hap h1, (hs.frozen (cell_lt h1) hap).trans h2, h3.stays hs (fun b hb => ⟨by omega, by omega⟩) (fun b hb => ⟨by have := hb.1; omega, by have := hb.1; omega⟩), h4.trans (hs.below h4.size fun b hb => ⟨by omega, by omega⟩)⟩
  refine wpIn_rangeFunc_given (by omega) (gf := 127) (lb := #[.pointer (some ⟨w.heap.size + 1, 0, none⟩), .pointer (some ⟨w.heap.size + 1 + 1, 0, none⟩)]) rfl (enters_of Tryd.func127 (by kernel_rfl) rfl)
    (Z := fun b => b < W0.heap.size ∧ b ≠ w.heap.size) (fun b h => h.1)
    (iter_with 2 (by omega) w.heap.size (w.heap.size + 1) (w.heap.size + 1 + 1) nb node W0 (HST.out.below hb0) HID.out HSM.out c1 c2 (keepl hb0 hcn) ⟨hbs, hbt, hbm, HGI.out, HX.out⟩ (by omega) (by omega) (by omega) (by omega))
    (fun x => rfl)
    (fun pre W => ∃ v, W.cell? ⟨w.heap.size, 0, none⟩ = some v ∧ W.frozen? ⟨w.heap.size, 0, none⟩ = false ∧ OwnPods (Free (W0.heap.size + 2) v) (W0.heap.size + 2) W v (pre.map Prod.fst) ∧ Below w.heap.size w W)
    hIk ⟨_, c0, f0, OwnPods.nil _ _ _, hb0⟩
    (fun x a' W => ∃ Bx, W0.heap.size + 2 ≤ Bx ∧ Bx < W.heap.size ∧ PodCells W Bx 0 x.1 x.2 ∧ W.ownsRow (W0.heap.size + 2) 2 1 x.2 x.1.req.length (x.1.req.map (Value.int .i64)) ∧ a' = { tmps := #[.pointer (some ⟨m.bs, 0, none⟩), .func (.func 111) #[] #[.pointer (some ⟨nb, 0, none⟩)], undef, undef, .slice none 0 0, .pointer (some ⟨w.heap.size, 0, none⟩), .pointer (some ⟨Bx, 0, none⟩), .pointer (some ⟨m.bs, 0, none⟩), .func (.func 111) #[] #[.pointer (some ⟨nb, 0, none⟩)], .func (.func 127) #[] #[.pointer (some ⟨w.heap.size + 1, 0, none⟩), .pointer (some ⟨w.heap.size + 1 + 1, 0, none⟩)], podV x.1 x.2, undef, undef, undef, undef, undef], defers := [] })
    ?hax ?assign ?body ?done
  case hax =>
    rintro x a' A B ⟨Bx, h1, h2, h3, h4, h5⟩ hs
    obtain ⟨q0, q1, q2, q3, q4, q5, q6, q7, q8⟩ := h3
    have hap : Apart W0.heap.size Bx := ⟨by omega, by omega⟩
    exact ⟨Bx, h1, Nat.lt_of_lt_of_le h2 hs.size, ⟨hs.cell hap q0, hs.cell hap q1, hs.cell hap q2, hs.cell hap q3, hs.cell hap q4, hs.cell hap q5, hs.cell hap q6, hs.cell hap q7, hs.cell hap q8⟩, ownsRow_of_block h4 fun k hk => hs.block k (World.ownsRow.lt h4 k hk).2 ⟨by have := (World.ownsRow.lt h4 k hk).1; omega, by have := (World.ownsRow.lt h4 k hk).1; omega⟩, h5⟩
  case assign =>
    rintro l pre ⟨p, rv⟩ W K hlt hi hG hK
    have HK := Lib.hid hK; clear hK
    have HG := Lib.hid hG; clear hG
    clear hi hIk
    obtain ⟨ar, cr, er⟩ := ownsRow_shape HG.out
    change rv = .slice ar p.req.length cr at er
    subst er
    gi_wp2
    refine HK.out _ _ ((Below.refl _ W).alloc (Nat.le_refl _) _) ⟨W.heap.size, by omega, by simp, ⟨?_, ?_, ?_, ?_, ?_, ?_, ?_, ?_, ?_⟩, HG.out.alloc _, rfl⟩ <;> first | (simp only [Nat.zero_add]; go_simp; done) | go_simp
  case body =>
    rintro l pre ⟨p, rv⟩ a' W hlt ⟨v, h1, h2, h3, h4⟩ ⟨Bx, b1, b2, b3, b4, rfl⟩ hN
    change PodCells W Bx 0 p rv at b3
    change W.ownsRow (W0.heap.size + 2) 2 1 rv p.req.length (p.req.map (Value.int .i64)) at b4
    obtain ⟨q0, q1, q2, q3, q4, q5, q6, q7, q8⟩ := b3
    simp only [Nat.zero_add] at q1 q2 q3 q4 q5 q6 q7 q8
    obtain ⟨ar, cr, rfl⟩ := ownsRow_shape b4
    obtain ⟨av, cv, rfl⟩ := h3.shape
    have hnb : ∀ b, b < W0.heap.size + 2 → (Value.slice av (pre.map Prod.fst).length cv).ownBlock ≠ some b := fun b hb e => by
      obtain ⟨rvs, e1, e2, e3⟩ := h3
      have := (World.ownsRow.lt e2 _ e).1
      omega
    have hwW := cell_lt h1
    have hpl : (pre.map Prod.fst).length = pre.length := List.length_map ..
    have H3 := Lib.hid h3; clear h3
    have H4 := Lib.hid h4; clear h4
    have HB4 := Lib.hid b4; clear b4
    have HNB := Lib.hid hnb; clear hnb
    clear hIk
    obtain ⟨lr, hlr⟩ : ∃ lr, lr = p.req.length := ⟨_, rfl⟩
    obtain ⟨lv, hlv⟩ : ∃ lv, lv = (pre.map Prod.fst).length := ⟨_, rfl⟩
    rw [← hlr] at q4 HB4
    rw [← hlv] at h1 HNB H3
    have HLR := Lib.hid hlr; clear hlr
    rw [hpl] at hlv
    have hlv2 : lv < ps.length := by rw [hlv]; exact hN
    have HLV : Hid (lv = (pre.map Prod.fst).length) := by rw [hpl]; exact hlv
    clear hlv hpl
    have hbase : W0.heap.size + 2 ≤ W.heap.size := by omega
    have H3' : Hid (∀ o : Obj, OwnPods (Free (W0.heap.size + 2) (.slice av lv cv)) (W0.heap.size + 2) (W.alloc o) (.slice av lv cv) (pre.map Prod.fst)) := fun o => H3.out.stays (Y := fun _ => True) (Stays.of ((Below.refl _ W).alloc (Nat.le_refl _) o)) (fun _ _ => trivial) (fun _ _ => trivial)
    gi_wp2_with (gi_at_builtin; refine wpListIn_append_pod rfl (.tmp 11) (.tmp 13) rfl (W0.heap.size + 2) (.slice av lv cv) (pre.map Prod.fst) rfl (H3'.out _) W.heap.size p (.slice ar lr cr) rfl (cells9_of (by go_simp) (by go_simp) (by go_simp) (by go_simp) (by go_simp) (by go_simp) (by go_simp) (by go_simp) (by go_simp)) (by rw [← HLR.out]; exact HB4.out.alloc _) (by rw [← HLV.out]; omega) (by simp; omega) ?_; intro v' w1 hown' hgr; obtain ⟨a2, c2, rfl⟩ := hown'.shape; have HO := Lib.hid hown'; have HGR := Lib.hid hgr; have hst1 := Stays.grown (X := fun b => (Value.slice av lv cv).ownBlock ≠ some b) hgr (fun k hk hx => hx hk); have k1 := hst1.cell (HNB.out _ (by omega)) (keepl ((Below.refl _ W).alloc (Nat.le_refl _) _) h1); have k2 := (hst1.frozen (by simp; omega) (HNB.out _ (by omega))).trans ((((Below.refl _ W).alloc (Nat.le_refl _) _).frozen (p := ⟨w.heap.size, 0, none⟩) hwW).trans h2); have HST1 := Lib.hid hst1; clear hown' hgr hst1)
    have hel : (pre.map Prod.fst ++ [p]).length = pre.length + 1 := by simp
    have ho1 := HO.out
    rw [hel] at ho1
    refine ⟨((Stays.of ((Below.refl _ W).alloc (Nat.le_refl _) _)).trans (HST1.out.imp fun b _ hb => HNB.out b (by rcases hb with h | rfl | rfl <;> omega))).trans (Stays.setCell fun h => by rcases h with h | h | h <;> omega), .slice a2 (pre.length + 1) c2, World.cell?_setCell_same _ _ _ k1, by rw [World.frozen?_setCell]; exact k2, ?_, ?_⟩
    · rw [List.map_append]
      exact ho1.stays (Y := fun b => b ≠ w.heap.size) (Stays.setCell fun h => h rfl) (fun b hb => by omega) (fun b hb => by have := hb.1; omega)
    · refine H4.out.trans ?_
      have hz4 := H4.out.size
      refine (((Below.refl w.heap.size W).alloc hz4 _).grown HGR.out (by simp; omega) fun k hk => ?_).setCell (by show w.heap.size ≤ w.heap.size; omega) _
      rcases Nat.lt_or_ge k (W0.heap.size + 2) with hk1 | hk1
      · exact absurd hk (HNB.out k hk1)
      · omega
  case done =>
    rintro xs W hS ⟨v, h1, h2, h3, h4⟩ hD
    have hv0 := h3.shape
    obtain ⟨av, cv, rfl⟩ := hv0
    have H3 := Lib.hid h3; clear h3
    have H4 := Lib.hid h4; clear h4
    have HS := Lib.hid hS; clear hS
    clear hIk
    generalize (xs.map Prod.fst).length = lv at *
    gi_wp2
    have h3 := H3.out
    rw [HS.out] at h3
    refine ⟨by simp, .inl ⟨_, _, rfl, run_takeDeferred hD, ?_⟩⟩
    refine ⟨_, results_tmp rfl _ _ _, _, rfl, ((h3.stays (Y := fun b => b ≠ W0.heap.size) (Stays.putObj fun h => h rfl) (fun b hb => by omega) (fun b hb => by have := hb.1; omega)).low (by omega)).imp fun b hb => ⟨by have := hb.1; omega, hb.2⟩, ?_⟩
    exact H4.out.trans ((Stays.putObj (X := fun b => b ≠ W0.heap.size) fun h => h rfl).below H4.out.size fun b hb => by omega)

end Go.Proofs.YtcegipkhmibdeaaDoor
/- Store.All, On, With, Count; All of no store. -/
namespace Go.Proofs.YtcegipkhmibdeaaDoor
set_option linter.all false
open Go.RowKit
attribute [local go_sem] Oper.semAt_some

/-- What the lists want of a store's pods. -/
structure PodsOk (ps : List Pod) : Prop where
  ids : IdsOk ps
  small : smallPods ps
  few : (ps.length + 1) * 88 ≤ 140737488351232
theorem RetPods.later {w w1 : World} {qs : List Pod} {e : Ending} {w' : World} (h : RetPods w1 qs e w') (hb : Below w.heap.size w w1) : RetPods w qs e w' := by
  obtain ⟨v, rfl, h1, h2⟩ := h
  have hs := hb.size
  exact ⟨v, rfl, (h1.low hs).imp fun b hx => ⟨by have := hx.1; omega, hx.2⟩, hb.trans (h2.mono hs)⟩
set_option maxRecDepth 100000 in
theorem sall_any {m : Mem} {B : Nat} {X : Nat → Prop} {size : Int} {ps : List Pod} (w : World) (hst : StoreAt m B X w size ps) (hok : PodsOk ps) : Calls Tryd.prog 61 #[.pointer (some ⟨m.bs, 0, none⟩)] w (RetPods w ps) := by
  have hl := list_all 0 0 w hst.within hok.ids hok.small hok.few (fun b hb => hb.2) (by have := cell_lt hst.c0; omega)
  rw [List.filter_eq_self.2 (fun _ _ => rfl)] at hl
  have HL := Lib.hid hl; clear hl hst hok
  unfold RetPods at HL ⊢
  go_enter Tryd.func61, Tryd.ntmps61
  go_wp2_with fail
  refine HL.out.mono ?_
  rintro e w' ⟨v, rfl, h1, h2⟩
  obtain ⟨a, c, rfl⟩ := h1.shape
  have H1 := Lib.hid h1
  have H2 := Lib.hid h2
  clear h1 h2
  go_wp2
  go_ret
  exact ⟨_, rfl, H1.out, H2.out⟩
set_option maxRecDepth 100000 in
theorem son_any {m : Mem} {B : Nat} {X : Nat → Prop} {size : Int} {ps : List Pod} (node : Int) (w : World) (hst : StoreAt m B X w size ps) (hok : PodsOk ps) : Calls Tryd.prog 68 #[.pointer (some ⟨m.bs, 0, none⟩), .int .i64 node] w (RetPods w (ps.filter (onB node))) := by
  have hb : Below w.heap.size w (w.alloc (.cells #[.int .i64 node] 3)) := (Below.refl _ w).alloc (Nat.le_refl _) _
  have hl := list_on w.heap.size node (w.alloc (.cells #[.int .i64 node] 3)) (hst.within.below hb) hok.ids hok.small hok.few (by go_simp) (fun b hx => by have := hx.2; simp; omega) (by simp)
  have HL := Lib.hid (hl.mono fun e w' h => RetPods.later h hb); clear hl hst hok hb
  unfold RetPods at HL ⊢
  go_enter Tryd.func68, Tryd.ntmps68
  go_wp2_with fail
  refine HL.out.mono ?_
  rintro e w' ⟨v, rfl, h1, h2⟩
  obtain ⟨a, c, rfl⟩ := h1.shape
  have H1 := Lib.hid h1
  have H2 := Lib.hid h2
  clear h1 h2
  go_wp2
  go_ret
  exact ⟨_, rfl, H1.out, H2.out⟩
set_option maxRecDepth 100000 in
theorem swith_any {m : Mem} {B : Nat} {X : Nat → Prop} {size : Int} {ps : List Pod} (ph : Int) (w : World) (hst : StoreAt m B X w size ps) (hok : PodsOk ps) : Calls Tryd.prog 70 #[.pointer (some ⟨m.bs, 0, none⟩), .int .i64 ph] w (RetPods w (ps.filter (withB ph))) := by
  have hb : Below w.heap.size w (w.alloc (.cells #[.int .i64 ph] 3)) := (Below.refl _ w).alloc (Nat.le_refl _) _
  have hl := list_with w.heap.size ph (w.alloc (.cells #[.int .i64 ph] 3)) (hst.within.below hb) hok.ids hok.small hok.few (by go_simp) (fun b hx => by have := hx.2; simp; omega) (by simp)
  have HL := Lib.hid (hl.mono fun e w' h => RetPods.later h hb); clear hl hst hok hb
  unfold RetPods at HL ⊢
  go_enter Tryd.func70, Tryd.ntmps70
  go_wp2_with fail
  refine HL.out.mono ?_
  rintro e w' ⟨v, rfl, h1, h2⟩
  obtain ⟨a, c, rfl⟩ := h1.shape
  have H1 := Lib.hid h1
  have H2 := Lib.hid h2
  clear h1 h2
  go_wp2
  go_ret
  exact ⟨_, rfl, H1.out, H2.out⟩
set_option maxRecDepth 100000 in
theorem scount_any {m : Mem} {B : Nat} {X : Nat → Prop} {size : Int} {ps : List Pod} (ph : Int) (w : World) (hst : StoreAt m B X w size ps) (hok : PodsOk ps) : Calls Tryd.prog 72 #[.pointer (some ⟨m.bs, 0, none⟩), .int .i64 ph] w fun e w' => e = .returned (.int .i64 (ps.filter (withB ph)).length) ∧ Below w.heap.size w w' := by
  have HL := Lib.hid (swith_any ph w hst hok); clear hst hok
  unfold RetPods at HL
  obtain ⟨l, hl⟩ : ∃ l, l = (ps.filter (withB ph)).length := ⟨_, rfl⟩
  rw [← hl]
  have HLL := Lib.hid hl; clear hl
  go_enter Tryd.func72, Tryd.ntmps72
  go_wp2_with fail
  refine HL.out.mono ?_
  rintro e w' ⟨v, rfl, h1, h2⟩
  obtain ⟨a, c, rfl⟩ := h1.shape
  clear h1
  rw [← HLL.out]
  have H2 := Lib.hid h2
  clear h2
  go_wp2
  go_ret
  exact ⟨rfl, H2.out⟩
theorem iter_nil (n : Nat) (sb fb N : Nat) (G : Pod × Value → World → Prop) (Z : Nat → Prop) (w0 : World) (hcs : w0.cell? ⟨sb, 0, none⟩ = some (.pointer none)) :
    SeqGiven n Tryd.prog 127 #[.pointer (some ⟨sb, 0, none⟩), .pointer (some ⟨fb, 0, none⟩)] (fun x : Pod × Value => #[podV x.1 x.2]) Z G (fun xs => xs = []) N w0 := by
  intro l J W hW hsz hJ hY h0
  have cs := keepl hW hcs
  have H0 := Lib.hid h0
  clear hW hJ hY hcs h0
  refine callsIn_of_wp Tryd.func127 rfl trivial ?_ rfl
  simp only [Tryd.ntmps127, List.size_toArray, List.length_cons, List.length_nil, Nat.reduceAdd, Nat.reduceSub, Array.replicate_succ, Array.replicate_zero, List.push_toArray, List.append_toArray, List.nil_append, List.cons_append]
  gi_wp2
  refine bodyPost_ret (results_none rfl _ _ _) rfl ?_
  exact ⟨⟨_, rfl⟩, [], rfl, H0.out⟩
set_option maxHeartbeats 4000000 in
set_option maxRecDepth 100000 in
theorem list_nil (w : World) : Calls Tryd.prog 106 #[.pointer none, .func (.func 107) #[] #[]] w fun e w' => e = .returned (.slice none 0 0) ∧ Below w.heap.size w w' := by
  refine (callsIn_wide (n := 3)).1 ?_
  refine callsIn_of_wp_marks Tryd.func106 rfl trivial ?_ rfl
  simp only [Tryd.ntmps106, List.size_toArray, List.length_cons, List.length_nil, Nat.reduceAdd, Nat.reduceSub, Array.replicate_succ, Array.replicate_zero, List.push_toArray, List.append_toArray, List.nil_append, List.cons_append]
  gi_wp2_with fail
  refine ⟨trivial, ?_⟩
  refine (callsIn_wide.2 (all_any _ _ _ _)).mono ?_
  rintro e w' ⟨rfl, rfl⟩
  gi_wp2
  obtain ⟨W0, hW0⟩ : ∃ W0, W0 = ((w.alloc (.cells #[.slice none 0 0] 72)).alloc (.cells #[.pointer none] 60)).alloc (.cells #[.func (.func 107) #[] #[]] 137) := ⟨_, rfl⟩
  have hs0 : W0.heap.size = w.heap.size + 3 := by rw [hW0]; simp
  have hb0 : Below w.heap.size w W0 := by rw [hW0]; exact (((Below.refl _ w).alloc (Nat.le_refl _) _).alloc (by simp) _).alloc (by simp; omega) _
  have c0 : W0.cell? ⟨w.heap.size, 0, none⟩ = some (.slice none 0 0) := by rw [hW0]; go_simp
  have c1 : W0.cell? ⟨w.heap.size + 1, 0, none⟩ = some (.pointer none) := by rw [hW0]; go_simp
  rw [← hW0]
  clear hW0
  refine wpIn_rangeFunc_given (by omega) (gf := 127) (lb := #[.pointer (some ⟨w.heap.size + 1, 0, none⟩), .pointer (some ⟨w.heap.size + 1 + 1, 0, none⟩)]) rfl (enters_of Tryd.func127 (by kernel_rfl) rfl)
    (Z := fun _ => False) (fun b h => h.elim)
    (iter_nil 2 (w.heap.size + 1) (w.heap.size + 1 + 1) 0 (fun _ _ => False) (fun _ => False) W0 c1)
    (fun x => rfl)
    (fun pre W => W.cell? ⟨w.heap.size, 0, none⟩ = some (.slice none 0 0) ∧ Below w.heap.size w W)
    (fun s A B h hs => ⟨hs.cell ⟨by omega, by omega⟩ h.1, h.2.trans (hs.below h.2.size fun b hb => ⟨by omega, by omega⟩)⟩) ⟨c0, hb0⟩
    (fun x a' W => True) (fun _ _ _ _ _ _ => trivial) ?assign ?body ?done
  case assign =>
    intro l pre x W K hlt hi hG hK
    exact hG.elim
  case body =>
    intro l pre x a' W hlt hi hax hN
    omega
  case done =>
    rintro xs W hS ⟨h1, h4⟩ hD
    have H4 := Lib.hid h4; clear h4
    gi_wp2
    refine ⟨by simp, .inl ⟨_, _, rfl, run_takeDeferred hD, ?_⟩⟩
    refine ⟨_, results_tmp rfl _ _ _, rfl, ?_⟩
    exact H4.out.trans ((Stays.putObj (X := fun b => b ≠ W0.heap.size) fun h => h rfl).below H4.out.size fun b hb => by omega)
set_option maxRecDepth 100000 in
theorem sall_nil (w : World) : Calls Tryd.prog 61 #[.pointer none] w fun e w' => e = .returned (.slice none 0 0) ∧ Below w.heap.size w w' := by
  have HL := Lib.hid (list_nil w)
  go_enter Tryd.func61, Tryd.ntmps61
  go_wp2_with fail
  refine HL.out.mono ?_
  rintro e w' ⟨rfl, h2⟩
  have H2 := Lib.hid h2
  clear h2
  go_wp2
  go_ret
  exact ⟨rfl, H2.out⟩
end Go.Proofs.YtcegipkhmibdeaaDoor
