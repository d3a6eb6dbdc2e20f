/- PodKeeps: for every input the law returns true and its arguments read behind the call as before: the walk, the row over whatever heap in which the listed variables hold their data, and the tied card. -/
import Derived.Test.YtcegipkhmibdeaaDoorPods4
import Derived.Shelf.Abstract
import Derived.Test.YtcegipkhmibdeaaDoorPods1
import Derived.Test.YtcegipkhmibdeaaDoorFacts
import Derived.Test.YtcegipkhmibdeaaDoorCards
import Derived.Test.YtcegipkhmibdeaaDoorTie
import Derived.WalkKit
import Derived.ProofKit
import Derived.OpenShut
import Derived.ShutString
import Derived.Below
import Derived.SizedLaws
import Derived.SevenTiedAt
import Derived.LaidMore
import Derived.Stop.Joined
/- hammocklaw13.spoil turns the numbers of its row and nothing else. -/
namespace Go.Proofs.YtcegipkhmibdeaaDoor
set_option linter.all false
open Go.RowKit

/-- A cell that bears a number and may be written. -/
def IntCell (w : World) (b o : Nat) : Prop := (∃ z, w.cell? ⟨b, o, none⟩ = some (.int .i64 z)) ∧ w.frozen? ⟨b, o, none⟩ = false
/-- Numbers of one block are turned, into numbers. -/
structure Softens (r : Option Nat) (w w' : World) : Prop where
  stays : Stays (fun b => r ≠ some b) w w'
  ints : ∀ b o, IntCell w b o → IntCell w' b o
theorem Softens.refl (r : Option Nat) (w : World) : Softens r w w := ⟨Stays.of (Below.refl _ _), fun _ _ h => h⟩
theorem Softens.trans {r : Option Nat} {a b c : World} (h : Softens r a b) (k : Softens r b c) : Softens r a c := ⟨h.stays.trans k.stays, fun x o hx => k.ints x o (h.ints x o hx)⟩
theorem Softens.set {w : World} {b o : Nat} (h : IntCell w b o) (z : Int) : Softens (some b) w (w.setCell ⟨b, o, none⟩ (.int .i64 z)) := by
  refine ⟨Stays.setCell (by simp), fun x p hx => ?_⟩
  by_cases hxb : x = b
  · subst hxb
    refine ⟨?_, ?_⟩
    · by_cases hp : p = o
      · subst hp
        obtain ⟨⟨z0, hz⟩, -⟩ := h
        exact ⟨z, World.cell?_setCell_same _ _ _ hz⟩
      · obtain ⟨z0, hz⟩ := hx.1
        refine ⟨z0, ?_⟩
        rw [World.cell?_setCell_other]
        · exact hz
        · intro e; injection e with e1 e2; exact hp e2.symm
    · rw [World.frozen?_setCell]; exact hx.2
  · have hk := (Stays.setCell (X := fun k => k ≠ b) (w := w) (b := b) (o := o) (v := .int .i64 z) (by simp))
    obtain ⟨⟨z0, hz⟩, hf⟩ := hx
    exact ⟨⟨z0, hk.cell hxb hz⟩, by rw [hk.frozen (cell_lt hz) hxb]; exact hf⟩
set_option maxRecDepth 100000 in
theorem spoil13_some (b off n c : Nat) (w : World) (hn : n ≤ 1000) (h : ∀ j, j < n → IntCell w b (off + j)) :
    Calls Tryd.prog 60 #[.slice (some ⟨b, off, none⟩) n c] w fun e w' => e = .returned (.tuple #[]) ∧ Softens (some b) w w' := by
  have HC := Lib.hid h; clear h
  go_enter Tryd.func60, Tryd.ntmps60
  go_wp2
  go_loopw [2] (fun i wr => ∃ k : Nat, k ≤ n ∧ i = .int .i64 k ∧ Aside (Softens (some b) w wr)) (fun i _ => n - (intOf i).toNat)
  case atStart => exact ⟨0, Nat.zero_le _, rfl, Softens.refl _ _⟩
  case round =>
    obtain ⟨k, hk, rfl, hs⟩ := hrel
    by_cases hlt : k < n
    · have hc := hs.out.ints _ _ (HC.out k hlt)
      have HI := Lib.hid hc
      obtain ⟨⟨z, hz⟩, hf⟩ := hc
      have e0 : (0 : Int) ≤ (k : Int) := by omega
      have e1 : (k : Int) < (n : Int) := by omega
      go_wp2
      go_roundw
      case rel => exact ⟨k + 1, by omega, by go_num, hs.out.trans (Softens.set HI.out _)⟩
      case measure => simp [intOf]; omega
    · have HS := Lib.hid hs.out
      clear hs
      go_wp2
      go_end0
      exact ⟨rfl, HS.out⟩

end Go.Proofs.YtcegipkhmibdeaaDoor
/- Store.All, once more: the requests that it returns lie in rows of its own. -/
namespace Go.Proofs.YtcegipkhmibdeaaDoor
set_option linter.all false
open Go.RowKit
attribute [local go_sem] Oper.semAt_some

/-- Numbers in a row of one's own. -/
structure RowX (X : Nat → Prop) (base : Nat) (w : World) (rv : Value) (zs : List Int) : Prop where
  row : w.ownsRow base 2 1 rv zs.length (zs.map (Value.int .i64))
  blk : ∀ k, rv.ownBlock = some k → X k
def OwnPodsR (X : Nat → Prop) (base : Nat) (w : World) (v : Value) (ps : List Pod) : Prop :=
  ∃ rvs : List Value, rvs.length = ps.length ∧ w.ownsRow base 65 9 v ps.length (podRow ps rvs) ∧ ∀ j, j < ps.length → RowX X base w (rvs.getD j undef) (podAt ps j).req
theorem RowX.stays {X Y : Nat → Prop} {base : Nat} {w w' : World} {rv : Value} {zs : List Int} (h : RowX X base w rv zs) (hs : Stays Y w w') (hxy : ∀ b, X b → Y b) : RowX X base w' rv zs :=
  ⟨ownsRow_of_block h.row fun k hk => hs.block k (World.ownsRow.lt h.row k hk).2 (hxy k (h.blk k hk)), h.blk⟩
theorem OwnPodsR.nil (X : Nat → Prop) (base : Nat) (w : World) : OwnPodsR X base w (.slice none 0 0) [] := ⟨[], rfl, World.ownsRow_nil _ _ _ _, fun j hj => by simp at hj⟩
theorem OwnPodsR.shape {X : Nat → Prop} {base : Nat} {w : World} {v : Value} {ps : List Pod} (h : OwnPodsR X base w v ps) : ∃ a cap, v = .slice a ps.length cap := by
  obtain ⟨rvs, _, h2, _⟩ := h; exact ownsRow_shape h2
theorem OwnPodsR.stays {X Y : Nat → Prop} {base : Nat} {w w' : World} {v : Value} {ps : List Pod} (h : OwnPodsR X base w v ps) (hs : Stays Y w w') (hy : ∀ b, base ≤ b → Y b) (hxy : ∀ b, X b → Y b) : OwnPodsR X base w' v ps := by
  obtain ⟨rvs, h1, h2, h3⟩ := h
  exact ⟨rvs, h1, ownsRow_of_block h2 fun k hk => hs.block k (World.ownsRow.lt h2 k hk).2 (hy k (World.ownsRow.lt h2 k hk).1), fun j hj => (h3 j hj).stays hs hxy⟩
theorem OwnPodsR.imp {X Y : Nat → Prop} {base : Nat} {w : World} {v : Value} {ps : List Pod} (h : OwnPodsR X base w v ps) (hxy : ∀ b, X b → Y b) : OwnPodsR Y base w v ps := by
  obtain ⟨rvs, h1, h2, h3⟩ := h
  exact ⟨rvs, h1, h2, fun j hj => ⟨(h3 j hj).row, fun k hk => hxy k ((h3 j hj).blk k hk)⟩⟩
theorem OwnPodsR.low {X : Nat → Prop} {base base' : Nat} {w : World} {v : Value} {ps : List Pod} (h : OwnPodsR X base w v ps) (hb : base' ≤ base) : OwnPodsR X base' w v ps := by
  obtain ⟨rvs, h1, h2, h3⟩ := h
  exact ⟨rvs, h1, ownsRow_low h2 hb, fun j hj => ⟨ownsRow_low (h3 j hj).row hb, (h3 j hj).blk⟩⟩
theorem wpListIn_append_podR {F : Fence} {n : Nat} {w : World} {ops : Array Oper} {rest : List Oper} {o : Oper} {a : Act} {Q : Exit → Act → World → Prop} (hgd : o.guard = none) (s x : Operand)
    (ho : o.op = .call { callee := .builtin .append, args := #[s, x], argTypes := #[72, 72] }) (base : Nat)
    (v : Value) (ps : List Pod) (hs : a.eval s = v) (hown : OwnPodsR (Free base v) base w v ps) (g : Nat) (p : Pod) (rv : Value) (hx : a.eval x = .slice (some ⟨g, 0, none⟩) 1 1)
    (hcells : ∀ j u, (cells9 p rv)[j]? = some u → w.cell? ⟨g, j, none⟩ = some u) (hr : w.ownsRow base 2 1 rv p.req.length (p.req.map (Value.int .i64))) (hb : (ps.length + 1) * 88 ≤ 140737488351232) (hbase : base ≤ w.heap.size)
    (h : ∀ v' w', OwnPodsR (Free base v') base w' v' (ps ++ [p]) → w.grownBy w' v.ownBlock → wpListIn F n Tryd.prog ops Q rest (a.put o.dst v') w') : wpListIn F n Tryd.prog ops Q (o :: rest) a w := by
  obtain ⟨i0, hi, hz0, hz1, hz2⟩ := info_parts infoPod
  obtain ⟨rvs, hl, hrow, hri⟩ := hown
  obtain ⟨ar, cr, hrv⟩ := ownsRow_shape hr
  have hI : RowX (Free base v) base w rv p.req := ⟨hr, fun k hk => ⟨(World.ownsRow.lt hr k hk).1, rows_apart hr hrow (by decide) k hk⟩⟩
  refine wpListIn_append_own_at w hgd s x 72 ho base 65 i0 _ 9 88 Tryd.underlying72 hi hz0 hz1 hz2 rfl (by decide) v ps.length (podRow ps rvs) hs hrow ⟨g, 0, none⟩ 1 1 (cells9 p rv) hx rfl
    (fun j u hu => by rw [add_mk, Nat.zero_add]; exact hcells j u hu) ?_ (by unfold maxLen; omega) (by omega) hbase (fun v' w' h1 h2 _ hnb => ?_)
  · intro u hu
    subst hrv
    simp only [cells9, List.mem_cons, List.not_mem_nil, or_false] at hu
    rcases hu with rfl | rfl | rfl | rfl | rfl | rfl | rfl | rfl | rfl <;> rfl
  · refine h v' w' ⟨rvs ++ [rv], by simp [hl], ?_, fun j hj => ?_⟩ h2
    · rw [podRow_snoc ps rvs p rv hl, List.length_append]
      exact h1
    · have hmove : ∀ (r : Value) (zs : List Int), RowX (Free base v) base w r zs → RowX (Free base v') base w' r zs := fun r zs hz => by
        have hz2 := hz.stays (Y := fun b => v.ownBlock ≠ some b) (Stays.grown h2 fun k hk hx => hx hk) fun b hb => hb.2
        refine ⟨hz2.row, fun k hk => ⟨(hz.blk k hk).1, ?_⟩⟩
        rcases hnb with e | e
        · rw [e]; exact (hz.blk k hk).2
        · rw [e]; intro e2; injection e2 with e2; have := (World.ownsRow.lt hz.row k hk).2; omega
      by_cases hjl : j < ps.length
      · have e1 : (rvs ++ [rv]).getD j undef = rvs.getD j undef := by
          rw [List.getD_eq_getElem?_getD, List.getD_eq_getElem?_getD, List.getElem?_append_left (by omega)]
        have e2 : podAt (ps ++ [p]) j = podAt ps j := by
          unfold podAt; rw [List.getD_eq_getElem?_getD, List.getD_eq_getElem?_getD, List.getElem?_append_left hjl]
        rw [e1, e2]
        exact hmove _ _ (hri j hjl)
      · have hje : j = ps.length := by simp at hj; omega
        subst hje
        have e1 : (rvs ++ [rv]).getD ps.length undef = rv := by
          rw [List.getD_eq_getElem?_getD, List.getElem?_append_right (by omega), hl]; simp
        have e2 : podAt (ps ++ [p]) ps.length = p := by
          unfold podAt; rw [List.getD_eq_getElem?_getD, List.getElem?_append_right (by omega)]; simp
        rw [e1, e2]
        exact hmove _ _ hI
def RetPodsR (W : World) (qs : List Pod) (e : Ending) (w' : World) : Prop := ∃ v, e = .returned v ∧ OwnPodsR (Free W.heap.size v) W.heap.size w' v qs ∧ Below W.heap.size W w'

set_option maxHeartbeats 4000000 in
set_option maxRecDepth 100000 in
theorem list_allR {m : Mem} {B : Nat} {X : Nat → Prop} {size : Int} {ps : List Pod} (nb : Nat) (node : Int) (w : World) (hst : StoreAt m B X w size ps) (hid : IdsOk ps) (hsm : smallPods ps) (hx : (ps.length + 1) * 88 ≤ 140737488351232) (hXw : ∀ b, X b → b < w.heap.size) (hnbl : nb < w.heap.size) :
    Calls Tryd.prog 106 #[.pointer (some ⟨m.bs, 0, none⟩), .func (.func 107) #[] #[]] w (RetPodsR w (ps.filter (fun _ => true))) := by
  have hbs := cell_lt hst.c0
  have hbt := cell_lt hst.t0
  have hbm : m.bm < w.heap.size := by obtain ⟨rvs', hm, _⟩ := hst.map; exact hm.lt
  have hgi := hst.giLt
  have HST := Lib.hid hst; clear hst
  have HID := Lib.hid hid; clear hid
  have HSM := Lib.hid hsm; clear hsm
  have HX := Lib.hid hXw; clear hXw
  have HGI := Lib.hid hgi; clear hgi
  refine (callsIn_wide (n := 3)).1 ?_
  refine callsIn_of_wp_marks Tryd.func106 rfl trivial ?_ rfl
  simp only [Tryd.ntmps106, List.size_toArray, List.length_cons, List.length_nil, Nat.reduceAdd, Nat.reduceSub, Array.replicate_succ, Array.replicate_zero, List.push_toArray, List.append_toArray, List.nil_append, List.cons_append]
  gi_wp2_with fail
  refine ⟨trivial, ?_⟩
  refine (callsIn_wide.2 (all_any _ _ _ _)).mono ?_
  rintro e w' ⟨rfl, rfl⟩
  gi_wp2
  obtain ⟨W0, hW0⟩ : ∃ W0, W0 = ((w.alloc (.cells #[.slice none 0 0] 72)).alloc (.cells #[.pointer (some ⟨m.bs, 0, none⟩)] 60)).alloc (.cells #[.func (.func 107) #[] #[]] 137) := ⟨_, rfl⟩
  have hs0 : W0.heap.size = w.heap.size + 3 := by rw [hW0]; simp
  have hb0 : Below w.heap.size w W0 := by rw [hW0]; exact (((Below.refl _ w).alloc (Nat.le_refl _) _).alloc (by simp) _).alloc (by simp; omega) _
  have c0 : W0.cell? ⟨w.heap.size, 0, none⟩ = some (.slice none 0 0) := by rw [hW0]; go_simp
  have f0 : W0.frozen? ⟨w.heap.size, 0, none⟩ = false := by rw [hW0]; go_simp
  have c1 : W0.cell? ⟨w.heap.size + 1, 0, none⟩ = some (.pointer (some ⟨m.bs, 0, none⟩)) := by rw [hW0]; go_simp
  have c2 : W0.cell? ⟨w.heap.size + 2, 0, none⟩ = some (.func (.func 107) #[] #[]) := by rw [hW0]; go_simp
  rw [← hW0]
  clear hW0
  have hIk : ∀ (s : List (Pod × Value)) (A B : World), (∃ v, A.cell? ⟨w.heap.size, 0, none⟩ = some v ∧ A.frozen? ⟨w.heap.size, 0, none⟩ = false ∧ OwnPodsR (Free (W0.heap.size + 2) v) (W0.heap.size + 2) A v (s.map Prod.fst) ∧ Below w.heap.size w A) → Stays (Apart W0.heap.size) A B →
      (∃ v, B.cell? ⟨w.heap.size, 0, none⟩ = some v ∧ B.frozen? ⟨w.heap.size, 0, none⟩ = false ∧ OwnPodsR (Free (W0.heap.size + 2) v) (W0.heap.size + 2) B v (s.map Prod.fst) ∧ Below w.heap.size w B) := by
    rintro s A B ⟨v, h1, h2, h3, h4⟩ hs
    have hap : Apart W0.heap.size w.heap.size := ⟨by omega, by omega⟩
    exact ⟨v, hs.cell hap h1, (hs.frozen (cell_lt h1) hap).trans h2, h3.stays hs (fun b hb => ⟨by omega, by omega⟩) (fun b hb => ⟨by have := hb.1; omega, by have := hb.1; omega⟩), h4.trans (hs.below h4.size fun b hb => ⟨by omega, by omega⟩)⟩
  refine wpIn_rangeFunc_given (by omega) (gf := 127) (lb := #[.pointer (some ⟨w.heap.size + 1, 0, none⟩), .pointer (some ⟨w.heap.size + 1 + 1, 0, none⟩)]) rfl (enters_of Tryd.func127 (by kernel_rfl) rfl)
    (Z := fun b => b < W0.heap.size ∧ b ≠ w.heap.size) (fun b h => h.1)
    (iter_all 2 (by omega) w.heap.size (w.heap.size + 1) (w.heap.size + 1 + 1) nb node W0 (HST.out.below hb0) HID.out HSM.out c1 c2 ⟨hbs, hbt, hbm, HGI.out, HX.out⟩ (by omega) (by omega) (by omega) (by omega))
    (fun x => rfl)
    (fun pre W => ∃ v, W.cell? ⟨w.heap.size, 0, none⟩ = some v ∧ W.frozen? ⟨w.heap.size, 0, none⟩ = false ∧ OwnPodsR (Free (W0.heap.size + 2) v) (W0.heap.size + 2) W v (pre.map Prod.fst) ∧ Below w.heap.size w W)
    hIk ⟨_, c0, f0, OwnPodsR.nil _ _ _, hb0⟩
    (fun x a' W => ∃ Bx, W0.heap.size + 2 ≤ Bx ∧ Bx < W.heap.size ∧ PodCells W Bx 0 x.1 x.2 ∧ W.ownsRow (W0.heap.size + 2) 2 1 x.2 x.1.req.length (x.1.req.map (Value.int .i64)) ∧ a' = { tmps := #[.pointer (some ⟨m.bs, 0, none⟩), .func (.func 107) #[] #[], undef, undef, .slice none 0 0, .pointer (some ⟨w.heap.size, 0, none⟩), .pointer (some ⟨Bx, 0, none⟩), .pointer (some ⟨m.bs, 0, none⟩), .func (.func 107) #[] #[], .func (.func 127) #[] #[.pointer (some ⟨w.heap.size + 1, 0, none⟩), .pointer (some ⟨w.heap.size + 1 + 1, 0, none⟩)], podV x.1 x.2, undef, undef, undef, undef, undef], defers := [] })
    ?hax ?assign ?body ?done
  case hax =>
    rintro x a' A B ⟨Bx, h1, h2, h3, h4, h5⟩ hs
    obtain ⟨q0, q1, q2, q3, q4, q5, q6, q7, q8⟩ := h3
    have hap : Apart W0.heap.size Bx := ⟨by omega, by omega⟩
    exact ⟨Bx, h1, Nat.lt_of_lt_of_le h2 hs.size, ⟨hs.cell hap q0, hs.cell hap q1, hs.cell hap q2, hs.cell hap q3, hs.cell hap q4, hs.cell hap q5, hs.cell hap q6, hs.cell hap q7, hs.cell hap q8⟩, ownsRow_of_block h4 fun k hk => hs.block k (World.ownsRow.lt h4 k hk).2 ⟨by have := (World.ownsRow.lt h4 k hk).1; omega, by have := (World.ownsRow.lt h4 k hk).1; omega⟩, h5⟩
  case assign =>
    rintro l pre ⟨p, rv⟩ W K hlt hi hG hK
    have HK := Lib.hid hK; clear hK
    have HG := Lib.hid hG; clear hG
    clear hi hIk
    obtain ⟨ar, cr, er⟩ := ownsRow_shape HG.out
    change rv = .slice ar p.req.length cr at er
    subst er
    gi_wp2
    refine HK.out _ _ ((Below.refl _ W).alloc (Nat.le_refl _) _) ⟨W.heap.size, by omega, by simp, ⟨?_, ?_, ?_, ?_, ?_, ?_, ?_, ?_, ?_⟩, HG.out.alloc _, rfl⟩ <;> first | (simp only [Nat.zero_add]; go_simp; done) | go_simp
  case body =>
    rintro l pre ⟨p, rv⟩ a' W hlt ⟨v, h1, h2, h3, h4⟩ ⟨Bx, b1, b2, b3, b4, rfl⟩ hN
    change PodCells W Bx 0 p rv at b3
    change W.ownsRow (W0.heap.size + 2) 2 1 rv p.req.length (p.req.map (Value.int .i64)) at b4
    obtain ⟨q0, q1, q2, q3, q4, q5, q6, q7, q8⟩ := b3
    simp only [Nat.zero_add] at q1 q2 q3 q4 q5 q6 q7 q8
    obtain ⟨ar, cr, rfl⟩ := ownsRow_shape b4
    obtain ⟨av, cv, rfl⟩ := h3.shape
    have hnb : ∀ b, b < W0.heap.size + 2 → (Value.slice av (pre.map Prod.fst).length cv).ownBlock ≠ some b := fun b hb e => by
      obtain ⟨rvs, e1, e2, e3⟩ := h3
      have := (World.ownsRow.lt e2 _ e).1
      omega
    have hwW := cell_lt h1
    have hpl : (pre.map Prod.fst).length = pre.length := List.length_map ..
    have H3 := Lib.hid h3; clear h3
    have H4 := Lib.hid h4; clear h4
    have HB4 := Lib.hid b4; clear b4
    have HNB := Lib.hid hnb; clear hnb
    clear hIk
    obtain ⟨lr, hlr⟩ : ∃ lr, lr = p.req.length := ⟨_, rfl⟩
    obtain ⟨lv, hlv⟩ : ∃ lv, lv = (pre.map Prod.fst).length := ⟨_, rfl⟩
    rw [← hlr] at q4 HB4
    rw [← hlv] at h1 HNB H3
    have HLR := Lib.hid hlr; clear hlr
    rw [hpl] at hlv
    have hlv2 : lv < ps.length := by rw [hlv]; exact hN
    have HLV : Hid (lv = (pre.map Prod.fst).length) := by rw [hpl]; exact hlv
    clear hlv hpl
    have hbase : W0.heap.size + 2 ≤ W.heap.size := by omega
    have H3' : Hid (∀ o : Obj, OwnPodsR (Free (W0.heap.size + 2) (.slice av lv cv)) (W0.heap.size + 2) (W.alloc o) (.slice av lv cv) (pre.map Prod.fst)) := fun o => H3.out.stays (Y := fun _ => True) (Stays.of ((Below.refl _ W).alloc (Nat.le_refl _) o)) (fun _ _ => trivial) (fun _ _ => trivial)
    gi_wp2_with (gi_at_builtin; refine wpListIn_append_podR rfl (.tmp 11) (.tmp 13) rfl (W0.heap.size + 2) (.slice av lv cv) (pre.map Prod.fst) rfl (H3'.out _) W.heap.size p (.slice ar lr cr) rfl (cells9_of (by go_simp) (by go_simp) (by go_simp) (by go_simp) (by go_simp) (by go_simp) (by go_simp) (by go_simp) (by go_simp)) (by rw [← HLR.out]; exact HB4.out.alloc _) (by rw [← HLV.out]; omega) (by simp; omega) ?_; intro v' w1 hown' hgr; obtain ⟨a2, c2, rfl⟩ := hown'.shape; have HO := Lib.hid hown'; have HGR := Lib.hid hgr; have hst1 := Stays.grown (X := fun b => (Value.slice av lv cv).ownBlock ≠ some b) hgr (fun k hk hx => hx hk); have k1 := hst1.cell (HNB.out _ (by omega)) (keepl ((Below.refl _ W).alloc (Nat.le_refl _) _) h1); have k2 := (hst1.frozen (by simp; omega) (HNB.out _ (by omega))).trans ((((Below.refl _ W).alloc (Nat.le_refl _) _).frozen (p := ⟨w.heap.size, 0, none⟩) hwW).trans h2); have HST1 := Lib.hid hst1; clear hown' hgr hst1)
    have hel : (pre.map Prod.fst ++ [p]).length = pre.length + 1 := by simp
    have ho1 := HO.out
    rw [hel] at ho1
    refine ⟨((Stays.of ((Below.refl _ W).alloc (Nat.le_refl _) _)).trans (HST1.out.imp fun b _ hb => HNB.out b (by rcases hb with h | rfl | rfl <;> omega))).trans (Stays.setCell fun h => by rcases h with h | h | h <;> omega), .slice a2 (pre.length + 1) c2, World.cell?_setCell_same _ _ _ k1, by rw [World.frozen?_setCell]; exact k2, ?_, ?_⟩
    · rw [List.map_append]
      exact ho1.stays (Y := fun b => b ≠ w.heap.size) (Stays.setCell fun h => h rfl) (fun b hb => by omega) (fun b hb => by have := hb.1; omega)
    · refine H4.out.trans ?_
      have hz4 := H4.out.size
      refine (((Below.refl w.heap.size W).alloc hz4 _).grown HGR.out (by simp; omega) fun k hk => ?_).setCell (by show w.heap.size ≤ w.heap.size; omega) _
      rcases Nat.lt_or_ge k (W0.heap.size + 2) with hk1 | hk1
      · exact absurd hk (HNB.out k hk1)
      · omega
  case done =>
    rintro xs W hS ⟨v, h1, h2, h3, h4⟩ hD
    have hv0 := h3.shape
    obtain ⟨av, cv, rfl⟩ := hv0
    have H3 := Lib.hid h3; clear h3
    have H4 := Lib.hid h4; clear h4
    have HS := Lib.hid hS; clear hS
    clear hIk
    generalize (xs.map Prod.fst).length = lv at *
    gi_wp2
    have h3 := H3.out
    rw [HS.out] at h3
    refine ⟨by simp, .inl ⟨_, _, rfl, run_takeDeferred hD, ?_⟩⟩
    refine ⟨_, results_tmp rfl _ _ _, _, rfl, ((h3.stays (Y := fun b => b ≠ W0.heap.size) (Stays.putObj fun h => h rfl) (fun b hb => by omega) (fun b hb => by have := hb.1; omega)).low (by omega)).imp fun b hb => ⟨by have := hb.1; omega, hb.2⟩, ?_⟩
    exact H4.out.trans ((Stays.putObj (X := fun b => b ≠ W0.heap.size) fun h => h rfl).below H4.out.size fun b hb => by omega)

set_option maxRecDepth 100000 in
theorem sall_anyR {m : Mem} {B : Nat} {X : Nat → Prop} {size : Int} {ps : List Pod} (w : World) (hst : StoreAt m B X w size ps) (hok : PodsOk ps) : Calls Tryd.prog 61 #[.pointer (some ⟨m.bs, 0, none⟩)] w (RetPodsR w ps) := by
  have hl := list_allR 0 0 w hst.within hok.ids hok.small hok.few (fun b hb => hb.2) (by have := cell_lt hst.c0; omega)
  rw [List.filter_eq_self.2 (fun _ _ => rfl)] at hl
  have HL := Lib.hid hl; clear hl hst hok
  unfold RetPodsR at HL ⊢
  go_enter Tryd.func61, Tryd.ntmps61
  go_wp2_with fail
  refine HL.out.mono ?_
  rintro e w' ⟨v, rfl, h1, h2⟩
  obtain ⟨a, c, rfl⟩ := h1.shape
  have H1 := Lib.hid h1
  have H2 := Lib.hid h2
  clear h1 h2
  go_wp2
  go_ret
  exact ⟨_, rfl, H1.out, H2.out⟩
end Go.Proofs.YtcegipkhmibdeaaDoor
/- What the law PodKeeps keeps between its steps. -/
namespace Go.Proofs.YtcegipkhmibdeaaDoor
set_option linter.all false
open Go.RowKit

theorem Softens.of_none {w : World} : Softens none w w := Softens.refl _ _
/-- A row of numbers that may be written. -/
def SoftRow (X : Nat → Prop) (w : World) (rv : Value) (n : Nat) : Prop := ∃ a c, rv = .slice a n c ∧ (n = 0 ∨ ∃ g, a = some ⟨g, 0, none⟩ ∧ X g ∧ ∀ j, j < n → IntCell w g (0 + j))
theorem SoftRow.soft {X : Nat → Prop} {w w' : World} {rv : Value} {n : Nat} {r : Option Nat} (h : SoftRow X w rv n) (hs : Softens r w w') : SoftRow X w' rv n := by
  obtain ⟨a, c, rfl, h | ⟨g, rfl, h1, h2⟩⟩ := h
  · exact ⟨a, c, rfl, .inl h⟩
  · exact ⟨_, c, rfl, .inr ⟨g, rfl, h1, fun j hj => hs.ints _ _ (h2 j hj)⟩⟩
theorem IntCell.stays {Y : Nat → Prop} {w w' : World} {b o : Nat} (h : IntCell w b o) (hs : Stays Y w w') (hy : Y b) : IntCell w' b o := by
  obtain ⟨⟨z, hz⟩, hf⟩ := h
  exact ⟨⟨z, hs.cell hy hz⟩, by rw [hs.frozen (cell_lt hz) hy]; exact hf⟩
theorem SoftRow.stays {X Y : Nat → Prop} {w w' : World} {rv : Value} {n : Nat} (h : SoftRow X w rv n) (hs : Stays Y w w') (hxy : ∀ b, X b → Y b) : SoftRow X w' rv n := by
  obtain ⟨a, c, rfl, h | ⟨g, rfl, h1, h2⟩⟩ := h
  · exact ⟨a, c, rfl, .inl h⟩
  · exact ⟨_, c, rfl, .inr ⟨g, rfl, h1, fun j hj => (h2 j hj).stays hs (hxy g h1)⟩⟩
theorem SoftRow.of {base : Nat} {w : World} {rv : Value} {zs : List Int} (h : w.ownsRow base 2 1 rv zs.length (zs.map (Value.int .i64))) : SoftRow (fun b => rv.ownBlock = some b ∧ base ≤ b ∧ b < w.heap.size) w rv zs.length := by
  rcases h.2 with ⟨rfl, h0⟩ | ⟨g, cap, cur, rfl, hb, hg, hn, hc, hs, ht⟩
  · exact ⟨none, 0, by rw [h0], .inl h0⟩
  · refine ⟨_, cap, rfl, .inr ⟨g, rfl, ⟨rfl, hb, (Array.getElem?_eq_some_iff.1 hg).1⟩, fun j hj => ⟨⟨zs[j], ?_⟩, ?_⟩⟩⟩
    · have h1 := h.cells (g := g) rfl j (.int .i64 zs[j]) (by simp [hj])
      rw [add_mk] at h1
      exact h1
    · exact h.frozenAt (0 + j)
theorem SoftRow.imp {X Y : Nat → Prop} {w : World} {rv : Value} {n : Nat} (h : SoftRow X w rv n) (hxy : ∀ b, X b → Y b) : SoftRow Y w rv n := by
  obtain ⟨a, c, rfl, h | ⟨g, rfl, h1, h2⟩⟩ := h
  · exact ⟨a, c, rfl, .inl h⟩
  · exact ⟨_, c, rfl, .inr ⟨g, rfl, hxy g h1, h2⟩⟩
set_option maxRecDepth 100000 in
theorem spoil13_none (a : Option Addr) (c : Nat) (w : World) : Calls Tryd.prog 60 #[.slice a 0 c] w fun e w' => e = .returned (.tuple #[]) ∧ w = w' := by
  go_enter Tryd.func60, Tryd.ntmps60
  go_wp2
  refine wp_loop_rounds 1 ?_
  rw [rounds_succ]
  go_wp2
  go_end0
  exact ⟨rfl, rfl⟩
theorem spoil13_any {X : Nat → Prop} {w : World} {rv : Value} {n : Nat} (h : SoftRow X w rv n) (hn : n ≤ 1000) : Calls Tryd.prog 60 #[rv] w fun e w' => e = .returned (.tuple #[]) ∧ ∃ r, Softens r w w' ∧ ∀ b, r = some b → X b := by
  obtain ⟨a, c, rfl, rfl | ⟨g, rfl, h1, h2⟩⟩ := h
  · refine (spoil13_none a c w).mono ?_
    rintro e w' ⟨rfl, rfl⟩
    exact ⟨rfl, none, Softens.refl _ _, fun b hb => by cases hb⟩
  · refine (spoil13_some g 0 n c w hn h2).mono ?_
    rintro e w' ⟨rfl, hs⟩
    exact ⟨rfl, some g, hs, fun b hb => by injection hb with hb; rw [← hb]; exact h1⟩
structure Two13 (B bs bt bm g : Nat) (T : Mem) (k : Nat) (ps : List Pod) (v : Value) (w wr : World) : Prop where
  a : At13 B bs bt bm g (max 100 0) k ps v w wr
  t : StoreAt T B (fun _ => False) wr (max 100 0) []
  apart : (T.bs ≠ bs ∧ T.bs ≠ bm ∧ T.bs ≠ g) ∧ (T.bt ≠ bs ∧ T.bt ≠ bm ∧ T.bt ≠ g) ∧ (T.bm ≠ bs ∧ T.bm ≠ bm ∧ T.bm ≠ g)
theorem StoreAt.lts {m : Mem} {B : Nat} {X : Nat → Prop} {w : World} {size : Int} {ps : List Pod} (h : StoreAt m B X w size ps) : m.bs < w.heap.size ∧ m.bt < w.heap.size ∧ m.bm < w.heap.size := by
  obtain ⟨rvs, m1, _⟩ := h.map
  exact ⟨cell_lt h.c0, cell_lt h.t0, m1.lt⟩
theorem StoreAt.empty {m : Mem} {B : Nat} {X Y : Nat → Prop} {w : World} {size : Int} (h : StoreAt m B X w size []) : StoreAt m B Y w size [] := by
  obtain ⟨c0, t0, t1, ids, ⟨rvs, m1, m2⟩, f0, h1, h2, h3, h4⟩ := h
  exact ⟨c0, t0, t1, ids, ⟨rvs, m1, fun j hj => by simp at hj⟩, f0, h1, h2, h3, h4⟩
theorem Two13.round {B bs bt bm g g' c k : Nat} {T : Mem} {ps qs : List Pod} {v v2 : Value} {w wr V U U2 U3 U4 : World} {r1 r2 : Option Nat} {Y : Nat → Prop} (h : Two13 B bs bt bm g T k ps v w wr) (hV : Below wr.heap.size wr V)
    (hg : Good (max 100 0) (k + 1) qs) (h1 : StoreAt ⟨bs, bt, bm, g'⟩ B (fun b => (((B ≤ b ∧ b < wr.heap.size) ∧ b < V.heap.size) ∨ V.heap.size ≤ b) ∧ b < c) U (max 100 0) qs) (h3 : g' < c) (h3' : g' = g ∨ V.heap.size ≤ g') (h4 : V.heap.size ≤ c) (h5 : Stays (Off ⟨bs, bt, bm, g⟩) V U) (hcU : g' < U.heap.size)
    (hl : PodsX Y U2 v2 qs) (hY : ∀ b, b < U2.heap.size → Y b → Off ⟨bs, bt, bm, g'⟩ b ∧ (b < wr.heap.size ∨ U.heap.size ≤ b)) (hU2 : Below U.heap.size U U2)
    (hs1 : Softens r1 U2 U3) (hr1 : ∀ b, r1 = some b → wr.heap.size ≤ b ∧ b < V.heap.size) (hs2 : Softens r2 U3 U4) (hr2 : ∀ b, r2 = some b → c ≤ b ∧ b < U.heap.size) :
    Two13 B bs bt bm g' T (k + 1) qs v2 w U4 := by
  obtain ⟨l1, l2, l3⟩ := h.a.st.lts
  obtain ⟨m1, m2, m3⟩ := h.t.lts
  have hlt := h.a.lt
  have hVs := hV.size
  have hBw : B ≤ wr.heap.size := by have := h.a.st.bs; change B ≤ bs at this; change bs < _ at l1; omega
  change bs < _ at l1
  change bt < _ at l2
  change bm < _ at l3
  have hUs := h5.size
  have n1 : ∀ b, (b < wr.heap.size ∨ V.heap.size ≤ b) → r1 ≠ some b := fun b hb e => by have := hr1 b e; omega
  have n2 : ∀ b, (b < c ∨ U.heap.size ≤ b) → r2 ≠ some b := fun b hb e => by have := hr2 b e; omega
  have g1 : r1 ≠ some g' := n1 g' (by rcases h3' with rfl | h; exact .inl hlt; exact .inr h)
  have g2 : r2 ≠ some g' := n2 g' (.inl h3)
  have hstU2 := h1.below hU2
  have hst3 := hstU2.stays hs1.stays (n1 bs (.inl l1)) (n1 bt (.inl l2)) (n1 bm (.inl l3)) (fun _ => g1) (fun b _ hb => n1 b (by rcases hb.1 with h | h; exact .inl h.1.2; exact .inr h))
  have hst4 := hst3.stays hs2.stays (n2 bs (.inl (by omega))) (n2 bt (.inl (by omega))) (n2 bm (.inl (by omega))) (fun _ => g2) (fun b _ hb => n2 b (.inl hb.2))
  have hl2 := hl.imp hY
  have hl3 := hl2.stays hs1.stays fun b _ hy => n1 b (by rcases hy.2 with h | h; exact .inl h; exact .inr (by omega))
  have hsz3 := hs1.stays.size
  have hl4 := hl3.stays hs2.stays fun b _ hy => n2 b (by rcases hy.2 with h | h; exact .inl (by omega); exact .inr h)
  have htU := (h.t.below hV).stays h5 h.apart.1 h.apart.2.1 h.apart.2.2 (fun h => absurd h (by simp)) (fun _ _ h => h.elim)
  have ht3 := (htU.below hU2).stays hs1.stays (n1 _ (.inl m1)) (n1 _ (.inl m2)) (n1 _ (.inl m3)) (fun h => absurd h (by simp)) (fun _ _ h => h.elim)
  have ht4 := ht3.stays hs2.stays (n2 _ (.inl (by omega))) (n2 _ (.inl (by omega))) (n2 _ (.inl (by omega))) (fun h => absurd h (by simp)) (fun _ _ h => h.elim)
  have hsz4 := hs2.stays.size
  have hU2s := hU2.size
  refine ⟨⟨hst4.imp fun b _ hb => ?_, hg, ?_, by omega, ?_⟩, ht4, ?_⟩
  · rcases hb.1 with h | h
    · exact h.1.1
    · omega
  · exact hl4.imp fun b _ hb => hb.1
  · have b1 := h.a.below.trans (hV.mono hBw)
    have b2 := b1.trans (h5.below (by omega) fun b hb => ⟨by have := h.a.st.bs; change B ≤ bs at this; show b ≠ bs; omega, by have := h.a.st.bm; change B ≤ bm at this; show b ≠ bm; omega, by have := h.a.st.gi; change B ≤ g at this; show b ≠ g; omega⟩)
    have b3 := b2.trans (hU2.mono (by omega))
    have b4 := b3.trans (hs1.stays.below (by omega) fun b hb => n1 b (.inl (by omega)))
    exact b4.trans (hs2.stays.below (by omega) fun b hb => n2 b (.inl (by omega)))
  · have hgg : ∀ x, x < wr.heap.size → x ≠ g → x ≠ g' := fun x hx hne => by rcases h3' with h | h; rw [h]; exact hne; omega
    exact ⟨⟨h.apart.1.1, h.apart.1.2.1, hgg _ m1 h.apart.1.2.2⟩, ⟨h.apart.2.1.1, h.apart.2.1.2.1, hgg _ m2 h.apart.2.1.2.2⟩, ⟨h.apart.2.2.1, h.apart.2.2.2.1, hgg _ m3 h.apart.2.2.2.2⟩⟩
theorem Two13.keep {B bs bt bm g k : Nat} {T : Mem} {ps : List Pod} {v : Value} {w wr wr' : World} (h : Two13 B bs bt bm g T k ps v w wr) (hb : Below wr.heap.size wr wr') : Two13 B bs bt bm g T k ps v w wr' :=
  ⟨⟨h.a.st.below hb, h.a.good, (h.a.list.within.below hb (Nat.le_refl _)).imp fun b _ hb => hb.1, Nat.lt_of_lt_of_le h.a.lt hb.size, h.a.below.trans (hb.mono (by have h1 := h.a.st.bs; have h2 := cell_lt h.a.st.c0; omega))⟩, h.t.below hb, h.apart⟩
/-- A row of pods, the requests of which may be written. -/
structure Row13 (base : Nat) (a : Option Addr) (ps : List Pod) (w : World) : Prop where
  at_ : ∀ j, j < ps.length → ∃ ga rv, a = some ⟨ga, 0, none⟩ ∧ base ≤ ga ∧ w.cell? ⟨ga, j * 9, none⟩ = some (.int .i64 (podAt ps j).id) ∧ w.cell? ⟨ga, j * 9 + 4, none⟩ = some rv ∧ (∃ z, w.cell? ⟨ga, j * 9 + 6, none⟩ = some (.int .i64 z)) ∧ w.frozen? ⟨ga, j * 9 + 6, none⟩ = false ∧ SoftRow (fun b => base ≤ b ∧ b ≠ ga) w rv (podAt ps j).req.length
theorem Row13.of {base n c : Nat} {a : Option Addr} {ps : List Pod} {w : World} (h : OwnPodsR (Free base (.slice a n c)) base w (.slice a n c) ps) : Row13 base a ps w := by
  refine ⟨fun j hj => ?_⟩
  obtain ⟨rvs, hl, h2, h3⟩ := h
  rcases h2.2 with ⟨_, h0⟩ | ⟨g, cap, cur, hv, hb, hg, hn, hc, hs, ht⟩
  · omega
  · injection hv with hv hv2 hv3
    subst hv
    have key : ∀ f u, f < 9 → (cells9 (podAt ps j) (rvs.getD j undef))[f]? = some u → w.cell? ⟨g, j * 9 + f, none⟩ = some u := fun f u hf hu => by
      have h1 := h2.cells (g := g) rfl (j * 9 + f) u (by rw [podRow_get ps rvs j f hl hj hf]; exact hu)
      rw [add_mk, Nat.zero_add] at h1
      exact h1
    refine ⟨g, rvs.getD j undef, rfl, hb, key 0 _ (by omega) rfl, key 4 _ (by omega) rfl, ⟨_, key 6 _ (by omega) rfl⟩, ?_, ?_⟩
    · subst hv2
      exact h2.frozenAt _
    · exact (SoftRow.of (h3 j hj).row).imp fun b hb => ⟨hb.2.1, fun e => ((h3 j hj).blk b hb.1).2 (by rw [e]; rfl)⟩
theorem Row13.stays {Y : Nat → Prop} {base : Nat} {a : Option Addr} {ps : List Pod} {w w' : World} (h : Row13 base a ps w) (hs : Stays Y w w') (hy : ∀ b, base ≤ b → Y b) : Row13 base a ps w' := by
  refine ⟨fun j hj => ?_⟩
  obtain ⟨ga, rv, h1, h2, h3, h4, ⟨z, h5⟩, h6, h7⟩ := h.at_ j hj
  exact ⟨ga, rv, h1, h2, hs.cell (hy ga h2) h3, hs.cell (hy ga h2) h4, ⟨z, hs.cell (hy ga h2) h5⟩, (hs.frozen (cell_lt h5) (hy ga h2)).trans h6, h7.stays hs fun b hb => hy b hb.1⟩
theorem Row13.below {base : Nat} {a : Option Addr} {ps : List Pod} {w w' : World} (h : Row13 base a ps w) (hb : Below w.heap.size w w') : Row13 base a ps w' := h.stays (Y := fun _ => True) (Stays.of hb) fun _ _ => trivial
theorem Row13.soft {base : Nat} {a : Option Addr} {ps : List Pod} {w w' : World} {r : Option Nat} (h : Row13 base a ps w) (hs : Softens r w w') (hr : ∀ b, r = some b → a ≠ some ⟨b, 0, none⟩) : Row13 base a ps w' := by
  refine ⟨fun j hj => ?_⟩
  obtain ⟨ga, rv, h1, h2, h3, h4, ⟨z, h5⟩, h6, h7⟩ := h.at_ j hj
  have hy : r ≠ some ga := fun e => hr ga e h1
  exact ⟨ga, rv, h1, h2, hs.stays.cell hy h3, hs.stays.cell hy h4, ⟨z, hs.stays.cell hy h5⟩, (hs.stays.frozen (cell_lt h5) hy).trans h6, h7.soft hs⟩
theorem Row13.phase {base ga i : Nat} {ps : List Pod} {w : World} (h : Row13 base (some ⟨ga, 0, none⟩) ps w) (v : Int) : Row13 base (some ⟨ga, 0, none⟩) ps (w.setCell ⟨ga, i * 9 + 6, none⟩ (.int .i64 v)) := by
  refine ⟨fun j hj => ?_⟩
  obtain ⟨ga', rv, h1, h2, h3, h4, ⟨z, h5⟩, h6, h7⟩ := h.at_ j hj
  injection h1 with h1
  injection h1 with h1
  subst h1
  have ho : ∀ (o : Nat) (u : Value), o ≠ i * 9 + 6 → w.cell? ⟨ga, o, none⟩ = some u → (w.setCell ⟨ga, i * 9 + 6, none⟩ (.int .i64 v)).cell? ⟨ga, o, none⟩ = some u := fun o u hne hu => by
    rw [World.cell?_setCell_other]
    · exact hu
    · intro e; injection e with _ e2; exact hne e2.symm
  refine ⟨ga, rv, rfl, h2, ho _ _ (by omega) h3, ho _ _ (by omega) h4, ?_, by rw [World.frozen?_setCell]; exact h6, h7.stays (Y := fun b => b ≠ ga) (Stays.setCell (by simp)) fun b hb => hb.2⟩
  by_cases hji : j = i
  · subst hji
    exact ⟨v, World.cell?_setCell_same _ _ _ h5⟩
  · exact ⟨z, ho _ _ (by omega) h5⟩
end Go.Proofs.YtcegipkhmibdeaaDoor
/- hammocklaw13.PodKeeps returns true. -/
namespace Go.Proofs.YtcegipkhmibdeaaDoor
set_option linter.all false
open Go.RowKit

set_option maxHeartbeats 16000000 in
set_option maxRecDepth 100000 in
theorem podKeeps_walk (v : Value) (ps0 : List Pod) (w : World) (hE : ErrType w) (hx : ps0.length * 88 ≤ 140737488351232) (h : PodsAt w v ps0) :
    Calls Tryd.prog 13 #[v] w fun e w' => e = .returned (.bool true) ∧ Below w.heap.size w w' := by
  obtain ⟨a, cap, rfl, hcase⟩ := h
  have hE0 := hE
  have HPS : Hid (∀ k, k < ps0.length → ∃ b off, a = some ⟨b, off, none⟩ ∧ b < w.heap.size ∧ ∃ rv, PodCells w b (off + k * 9) (podAt ps0 k) rv ∧ IntsAt w rv (podAt ps0 k).req) := fun k hk => by
    rcases hcase with rfl | ⟨b, off, rfl, hlt, hc⟩
    · simp at hk
    · exact ⟨b, off, rfl, hlt, hc k hk⟩
  have HFEW : Hid (∀ W, Below w.heap.size w W → Calls Tryd.prog 58 #[.slice a ps0.length cap] W fun e w' => e = .returned (.bool (fewP ps0)) ∧ W = w') := fun W hW => few_any _ ps0 W hx (PodsAt.below ⟨a, cap, rfl, hcase⟩ hW)
  have HAW : Hid (∀ W, Below w.heap.size w W → Calls Tryd.prog 54 #[] W fun e w' => e = .returned (.bool true) ∧ Below W.heap.size W w') := fun W hW => awake13_any W (hE.below hW)
  have hnw := pnew_any 100 w (by omega) (by omega) w.heap.size (Nat.le_refl _)
  have HNW2 : Hid (∀ W, Below w.heap.size w W → Calls Tryd.prog 53 #[.int .i64 100] W fun e w' => e = .returned (.pointer (some ⟨W.heap.size + 2, 0, none⟩)) ∧ StoreAt (freshMem W.heap.size) w.heap.size (fun b => w.heap.size ≤ b) w' (max 100 0) [] ∧ Below W.heap.size W w') := fun W hW => (pnew_any 100 W (by omega) (by omega) w.heap.size hW.size).mono fun e w' ⟨h1, h2, h3, _⟩ => ⟨h1, h2, h3⟩
  have hbs0 : (freshMem w.heap.size).gi = (freshMem w.heap.size).bs := rfl
  generalize freshMem w.heap.size = m0 at hnw hbs0
  obtain ⟨bs, bt, bm, gi⟩ := m0
  change gi = bs at hbs0
  subst hbs0
  have HNW := Lib.hid hnw; clear hnw
  have HE := Lib.hid hE0; clear hE0 hE
  obtain ⟨l, hl⟩ : ∃ l, l = ps0.length := ⟨_, rfl⟩
  rw [← hl] at HFEW hx ⊢
  have HL := Lib.hid hl; clear hl
  clear hcase
  cases hf : fewP ps0
  · rw [hf] at HFEW
    go_enter Tryd.func13, Tryd.ntmps13
    go_wp2_with fail
    refine HNW.out.mono ?_
    rintro e V ⟨rfl, hst, hB, hsz⟩
    have HB := Lib.hid hB
    clear hB hst hsz
    go_wp2_with fail
    refine (HNW2.out _ HB.out).mono ?_
    rintro e V1 ⟨rfl, hst, hb⟩
    have HB := Lib.hid (HB.out.trans (hb.mono HB.out.size)); clear hb hst
    go_wp2_with fail
    refine (HAW.out _ HB.out).mono ?_
    rintro e V1 ⟨rfl, hb⟩
    have HB := Lib.hid (HB.out.trans (hb.mono HB.out.size)); clear hb
    go_wp2_with fail
    refine (HFEW.out _ HB.out).mono ?_
    rintro e V2 ⟨rfl, rfl⟩
    go_wp2_with fail
    refine (HAW.out _ HB.out).mono ?_
    rintro e V3 ⟨rfl, hb⟩
    have HB := Lib.hid (HB.out.trans (hb.mono HB.out.size)); clear hb
    go_wp2
    go_ret
    exact ⟨rfl, HB.out⟩
  · have HREQ : Hid (∀ k, k < ps0.length → (podAt ps0 k).req.length ≤ 20) := fun k hk => by
      unfold fewP at hf
      simp only [Bool.and_eq_true, List.all_eq_true] at hf
      have := hf.1 (podAt ps0 k) (by rw [podAt_get hk]; exact List.getElem_mem hk)
      simp [fewOne] at this
      omega
    have hl60 : l ≤ 100 := by
      rw [HL.out]
      unfold fewP at hf
      simp only [Bool.and_eq_true, decide_eq_true_eq] at hf
      exact hf.2
    rw [hf] at HFEW
    clear hf
    go_enter Tryd.func13, Tryd.ntmps13
    go_wp2_with fail
    refine HNW.out.mono ?_
    rintro e V ⟨rfl, hst, hB, hsz⟩
    have HB := Lib.hid hB
    have HST := Lib.hid hst
    clear hB hst hsz HNW
    go_wp2_with fail
    refine (HNW2.out _ HB.out).mono ?_
    rintro e V1 ⟨rfl, hst2, hb⟩
    have hap : ((V.heap.size + 2 ≠ gi ∧ V.heap.size + 2 ≠ bm ∧ V.heap.size + 2 ≠ gi) ∧ (V.heap.size + 1 ≠ gi ∧ V.heap.size + 1 ≠ bm ∧ V.heap.size + 1 ≠ gi) ∧ (V.heap.size ≠ gi ∧ V.heap.size ≠ bm ∧ V.heap.size ≠ gi)) := by
      obtain ⟨l1, l2, l3⟩ := HST.out.lts
      change gi < _ at l1
      change bm < _ at l3
      omega
    have hst2 : StoreAt ⟨V.heap.size + 2, V.heap.size + 1, V.heap.size, V.heap.size + 2⟩ w.heap.size (fun _ => False) V1 (max 100 0) [] := hst2.empty
    have HT0 : Hid (Two13 w.heap.size gi bt bm gi ⟨V.heap.size + 2, V.heap.size + 1, V.heap.size, V.heap.size + 2⟩ 0 [] (.slice none 0 0) w V1) := ⟨⟨HST.out.below hb, Good.nil (by omega), PodsX.nil _ _, Nat.lt_of_lt_of_le (cell_lt HST.out.c0) hb.size, HB.out.trans (hb.mono HB.out.size)⟩, hst2, hap⟩
    clear hap hst2 HB HST HNW2 hb
    generalize V.heap.size + 2 = tb at *
    generalize V.heap.size + 1 = tt at *
    generalize V.heap.size = tm at *
    go_wp2_with fail
    refine (HAW.out _ HT0.out.a.below).mono ?_
    rintro e V2 ⟨rfl, hb⟩
    have HT0 := Lib.hid (HT0.out.keep hb); clear hb
    go_wp2_with fail
    refine (HFEW.out _ HT0.out.a.below).mono ?_
    rintro e xx ⟨rfl, rfl⟩
    clear HAW HFEW
    go_wp2
    go_loopw [5, 6] (fun v i wr => ∃ (k : Nat) (ps : List Pod) (g : Nat) (al : Option Addr) (lp cl : Nat), k ≤ l ∧ i = .int .i64 k ∧ v = .slice al lp cl ∧ Hid (lp = ps.length) ∧ Hid (Two13 w.heap.size gi bt bm g ⟨tb, tt, tm, tb⟩ k ps (.slice al lp cl) w wr)) (fun _ i _ => l - (intOf i).toNat)
    case atStart => exact ⟨0, [], gi, none, 0, 0, Nat.zero_le _, rfl, rfl, rfl, HT0.out⟩
    case round =>
      obtain ⟨k, ps, g, al, lp, cl, hk, rfl, rfl, HLP, HA⟩ := hrel
      by_cases hlt : k < l
      · obtain ⟨b, off, rfl, hbl, rv, hcc, hri⟩ := HPS.out k (by rw [← HL.out]; exact hlt)
        have hreq := HREQ.out k (by rw [← HL.out]; exact hlt)
        generalize podAt ps0 k = x at *
        have HCC := Lib.hid hcc
        have hcr := hcc.below HA.out.a.below hbl
        have hir := hri.below HA.out.a.below
        have HRI := Lib.hid hri
        obtain ⟨ar, cr, rfl, -⟩ := id hri
        clear hcc hri
        obtain ⟨q0, q1, q2, q3, q4, q5, q6, q7, q8⟩ := hcr
        obtain ⟨id, prio, pre, grace, req, arr, ph, node, dead⟩ := x
        have hki : (0 : Int) ≤ (k : Int) := by omega
        have hkl : (k : Int) < (l : Int) := by omega
        change req.length ≤ 20 at hreq
        have HIR := Lib.hid hir
        clear hir
        have hbA : Below wr.heap.size wr ((wr.alloc (.cells #[.int .i64 id, .int .i64 prio, .bool pre, .int .i64 grace, .slice ar req.length cr, .int .i64 arr, .int .i64 ph, .int .i64 node, .int .i64 dead] 65)).alloc (.cells #[] 2)) := ((Below.refl _ _).alloc (Nat.le_refl _) _).alloc (by simp) _
        have hsA : ((wr.alloc (.cells #[.int .i64 id, .int .i64 prio, .bool pre, .int .i64 grace, .slice ar req.length cr, .int .i64 arr, .int .i64 ph, .int .i64 node, .int .i64 dead] 65)).alloc (.cells #[] 2)).heap.size = wr.heap.size + 2 := by simp
        have hmade : ((wr.alloc (.cells #[.int .i64 id, .int .i64 prio, .bool pre, .int .i64 grace, .slice ar req.length cr, .int .i64 arr, .int .i64 ph, .int .i64 node, .int .i64 dead] 65)).alloc (.cells #[] 2)).ownsRow (wr.heap.size + 1) 2 1 (.slice (some ⟨wr.heap.size + 1, 0, none⟩) 0 0) 0 [] := by
          have h := World.ownsRow_made (base := wr.heap.size + 1) (e := 2) (size := 1) (wr.alloc (.cells #[.int .i64 id, .int .i64 prio, .bool pre, .int .i64 grace, .slice ar req.length cr, .int .i64 arr, .int .i64 ph, .int .i64 node, .int .i64 dead] 65)) #[] 0 (by simp) (by decide) rfl
          rw [World.size_alloc] at h
          exact h
        have HCL : Hid (∀ w8, ((wr.alloc (.cells #[.int .i64 id, .int .i64 prio, .bool pre, .int .i64 grace, .slice ar req.length cr, .int .i64 arr, .int .i64 ph, .int .i64 node, .int .i64 dead] 65)).alloc (.cells #[] 2)).grownBy w8 (some (wr.heap.size + 1)) → (w8.cell? ⟨wr.heap.size, 0, none⟩ = some (.int .i64 id) ∧ w8.cell? ⟨wr.heap.size, 1, none⟩ = some (.int .i64 prio) ∧ w8.cell? ⟨wr.heap.size, 2, none⟩ = some (.bool pre) ∧ w8.cell? ⟨wr.heap.size, 3, none⟩ = some (.int .i64 grace) ∧ w8.cell? ⟨wr.heap.size, 4, none⟩ = some (.slice ar req.length cr) ∧ w8.cell? ⟨wr.heap.size, 5, none⟩ = some (.int .i64 arr) ∧ w8.cell? ⟨wr.heap.size, 6, none⟩ = some (.int .i64 ph) ∧ w8.cell? ⟨wr.heap.size, 7, none⟩ = some (.int .i64 node) ∧ w8.cell? ⟨wr.heap.size, 8, none⟩ = some (.int .i64 dead) ∧ w8.frozen? ⟨wr.heap.size, 4, none⟩ = false)) := fun w8 hg =>
          ⟨hg.cell (by go_simp) (by simp), hg.cell (by go_simp) (by simp), hg.cell (by go_simp) (by simp), hg.cell (by go_simp) (by simp), hg.cell (by go_simp) (by simp), hg.cell (by go_simp) (by simp), hg.cell (by go_simp) (by simp), hg.cell (by go_simp) (by simp), hg.cell (by go_simp) (by simp), (World.frozen?_of_block (hg.block _ (by rw [hsA]; show wr.heap.size < _; omega) (by simp))).trans (by go_simp)⟩
        have HAI : Hid (IntsAt ((wr.alloc (.cells #[.int .i64 id, .int .i64 prio, .bool pre, .int .i64 grace, .slice ar req.length cr, .int .i64 arr, .int .i64 ph, .int .i64 node, .int .i64 dead] 65)).alloc (.cells #[] 2)) (.slice ar req.length cr) req) := HIR.out.below hbA
        have hbase : wr.heap.size + 1 ≤ ((wr.alloc (.cells #[.int .i64 id, .int .i64 prio, .bool pre, .int .i64 grace, .slice ar req.length cr, .int .i64 arr, .int .i64 ph, .int .i64 node, .int .i64 dead] 65)).alloc (.cells #[] 2)).heap.size := by omega
        go_wp2_with (at_builtin; go_must (refine wpList_append_ints rfl _ _ rfl (wr.heap.size + 1) _ 0 [] rfl hmade _ req rfl HAI.out (by omega) hbase ?_; intro v8 w8 hown hgrow; rw [Nat.zero_add, List.nil_append] at hown; obtain ⟨a8, c8, rfl⟩ := ownsRow_shape hown; obtain ⟨p0, p1, p2, p3, p4, p5, p6, p7, p8, pf⟩ := HCL.out w8 hgrow))
        refine calls_named fun V hV => ?_
        have hbV : Below wr.heap.size wr V := by rw [hV]; exact (hbA.grown hgrow (by rw [hsA]; omega) (fun k e => by have e2 : wr.heap.size + 1 = k := Option.some.inj e; omega)).setCell (Nat.le_refl _) _
        have hownV : V.ownsRow (wr.heap.size + 1) 2 1 (.slice a8 req.length c8) req.length (req.map (Value.int .i64)) := ownsRow_of_block hown fun k hk => by
          rw [hV]
          have hk1 := World.ownsRow.lt hown k hk
          exact (Stays.setCell (X := fun b => b ≠ wr.heap.size) (by simp)).block k hk1.2 (by omega)
        have c4 : V.cell? ⟨wr.heap.size, 4, none⟩ = some (.slice a8 req.length c8) := by rw [hV]; exact World.cell?_setCell_same _ _ _ p4
        have hlt8 : wr.heap.size < V.heap.size := cell_lt c4
        have hglt := HA.out.a.lt
        have hBw : w.heap.size ≤ wr.heap.size := HA.out.a.below.size
        clear hV p0 p1 p2 p3 p4 p5 p6 p7 p8 pf hown hgrow HCL HAI hbase hmade hsA hbA HIR q0 q1 q2 q3 q4 q5 q6 q7 q8
        have hlen := HA.out.a.good.len
        have hfit := HA.out.a.good.fit
        have HSU := Lib.hid (ssub_any (m := ⟨gi, bt, bm, g⟩) 100 ⟨id, prio, pre, grace, req, arr, ph, node, dead⟩ (.slice a8 req.length c8) V rfl (by omega) hfit (by omega) (by show req.length * 8 ≤ _; omega) (HA.out.a.st.within.below hbV) (ownsRow_int hownV rfl).ints (HE.out.below (HA.out.a.below.trans (hbV.mono hBw))))
        have HGD := Lib.hid (HA.out.a.good.sub (n := 100) (p := ⟨id, prio, pre, grace, req, arr, ph, node, dead⟩) rfl hreq)
        obtain ⟨q, hq⟩ : ∃ q, q = (if (subR ps 100 ⟨id, prio, pre, grace, req, arr, ph, node, dead⟩).2 = 0 then newPod ps ⟨id, prio, pre, grace, req, arr, ph, node, dead⟩ else pod0) := ⟨_, rfl⟩
        have hqr : q.req.length ≤ 1000 := by
          rw [hq]
          split
          · show req.length ≤ 1000; omega
          · simp [pod0]
        rw [← hq] at HSU
        have href : ∀ (g' : Nat) (U1 : World), (∀ b, b < wr.heap.size → Off ⟨gi, bt, bm, g⟩ b → Off ⟨gi, bt, bm, g'⟩ b) → w.heap.size ≤ g' → PodsX (Off ⟨gi, bt, bm, g⟩) wr (.slice al lp cl) ps → PodsX (Lo (Off ⟨gi, bt, bm, g⟩) wr.heap.size) U1 (.slice al lp cl) ps → Below w.heap.size w U1 → Calls Tryd.prog 59 #[.slice al lp cl, .int .i64 100, podV ⟨id, prio, pre, grace, req, arr, ph, node, dead⟩ (.slice ar req.length cr)] U1 fun e w' => ∃ v', e = .returned (.tuple #[v', .int .i64 (subR ps 100 ⟨id, prio, pre, grace, req, arr, ph, node, dead⟩).2]) ∧ PodsX (fun b => (Off ⟨gi, bt, bm, g'⟩ b ∧ b < wr.heap.size) ∨ U1.heap.size ≤ b) w' v' (subR ps 100 ⟨id, prio, pre, grace, req, arr, ph, node, dead⟩).1 ∧ Below U1.heap.size U1 w' := fun g' U1 h1 h2 h3 h4 h5 =>
          refSubmit_any ⟨id, prio, pre, grace, req, arr, ph, node, dead⟩ (.slice ar req.length cr) (.slice al lp cl) ps 100 (fun b => Off ⟨gi, bt, bm, g'⟩ b ∧ b < wr.heap.size) U1 (by omega) (h4.imp fun b _ hb => ⟨h1 b hb.2 hb.1, hb.2⟩)
            ((HRI.out.any.within.below h5 (Nat.le_refl _)).imp fun b _ hb => ⟨by
              have g1 := HA.out.a.st.bs
              have g2 := HA.out.a.st.bm
              have g3 := hb.2
              change w.heap.size ≤ gi at g1
              change w.heap.size ≤ bm at g2
              exact ⟨by show b ≠ gi; omega, by show b ≠ bm; omega, by show b ≠ g'; omega⟩, by have := hb.2; omega⟩)
        have HREF := Lib.hid href
        clear href hq
        generalize subR ps 100 ⟨id, prio, pre, grace, req, arr, ph, node, dead⟩ = R at *
        refine HSU.out.mono ?_
        rintro e U ⟨g', aq, cq, c, rfl, s1, s2, s3, s4, s5, s6⟩
        generalize errV (if R.2 = 0 then none else some (.fault R.2 0)) = er
        have HS1 := Lib.hid s1
        have hgc : g' < c := s2 (by show g < _; omega)
        have hgU : g' < U.heap.size := by
          rcases s3 with h | ⟨_, h⟩
          · change g' = g at h; have := s5.size; omega
          · exact s1.giLt h
        have hg3 : g' = g ∨ V.heap.size ≤ g' := s3.imp (fun h => h) And.left
        have hoff8 : Off ⟨gi, bt, bm, g⟩ wr.heap.size := by
          obtain ⟨l1, l2, l3⟩ := HA.out.a.st.lts
          change gi < _ at l1
          change bm < _ at l3
          exact ⟨by show wr.heap.size ≠ gi; omega, by show wr.heap.size ≠ bm; omega, by show wr.heap.size ≠ g; omega⟩
        have c4 := s5.cell hoff8 c4
        have hUs := s5.size
        have hbU : Below w.heap.size w U := (HA.out.a.below.trans (hbV.mono hBw)).trans (s5.below (by omega) fun b hb => by
          have g1 := HA.out.a.st.bs
          have g2 := HA.out.a.st.bm
          have g3 := HA.out.a.st.gi
          change w.heap.size ≤ gi at g1
          change w.heap.size ≤ bm at g2
          change w.heap.size ≤ g at g3
          exact ⟨by show b ≠ gi; omega, by show b ≠ bm; omega, by show b ≠ g; omega⟩)
        obtain ⟨q0, q1, q2, q3, q4, q5, q6, q7, q8⟩ := HCC.out.below hbU hbl
        simp only at q0 q1 q2 q3 q4 q5 q6 q7 q8
        have hbl2 : b < U.heap.size := cell_lt q0
        have HS5 := Lib.hid s5
        have HS6 := Lib.hid s6
        have HBV := Lib.hid hbV
        have HOV := Lib.hid hownV
        have HBU := Lib.hid hbU
        clear s1 s2 s3 s5 s6 hbV hownV hbU HSU
        go_wp2_with fail
        refine calls_named fun U1 hU1 => ?_
        have hb1 : Below U.heap.size U U1 := by rw [hU1]; exact (Below.refl _ _).alloc (Nat.le_refl _) _
        have d4 : U1.cell? ⟨U.heap.size, 4, none⟩ = some (.slice aq q.req.length cq) := by rw [hU1]; go_simp
        clear hU1 q0 q1 q2 q3 q4 q5 q6 q7 q8
        have c4 := keepl hb1 c4
        have HB1 := Lib.hid hb1
        have hU1s := hb1.size
        have hUlt : U.heap.size < U1.heap.size := cell_lt d4
        have HRS := Lib.hid (HREF.out g' U1 (fun b hb ho => ⟨ho.1, ho.2.1, by rcases hg3 with h | h; rw [h]; exact ho.2.2; show b ≠ g'; omega⟩) (by
          have g3 := HA.out.a.st.gi
          change w.heap.size ≤ g at g3
          rcases hg3 with h | h <;> omega) HA.out.a.list (((HA.out.a.list.within.below HBV.out (Nat.le_refl _)).stays HS5.out fun b _ hb => hb.1).stays (X := fun _ => True) (Stays.of hb1) fun _ _ _ => trivial) (HBU.out.trans (hb1.mono (by have := HBU.out.size; omega))))
        clear hb1 HREF HRI HCC
        refine HRS.out.mono ?_
        rintro e U2 ⟨v2, rfl, hl2, hb2⟩
        obtain ⟨al2, cl2, rfl⟩ := hl2.pods.len
        have c4 := keepl hb2 c4
        have d4 := keepl hb2 d4
        have HL2 := Lib.hid hl2
        have hb12 := HB1.out.trans (hb2.mono hU1s)
        have HB12 := Lib.hid hb12
        have hU2s := hb12.size
        obtain ⟨lq, hlq⟩ : ∃ lq, lq = R.1.length := ⟨_, rfl⟩
        rw [← hlq] at HL2 ⊢
        have HLQ := Lib.hid hlq
        have hso1 : SoftRow (fun b => wr.heap.size ≤ b ∧ b < V.heap.size) U2 (.slice a8 req.length c8) req.length := (((SoftRow.of HOV.out).stays HS5.out (fun b hb => ⟨by
          obtain ⟨l1, l2, l3⟩ := HA.out.a.st.lts
          change gi < _ at l1
          show b ≠ gi
          have := hb.2.1; omega, by
          obtain ⟨l1, l2, l3⟩ := HA.out.a.st.lts
          change bm < _ at l3
          show b ≠ bm
          have := hb.2.1; omega, by show b ≠ g; have := hb.2.1; omega⟩)).stays (Y := fun _ => True) (Stays.of hb12) fun _ _ => trivial).imp fun b hb => ⟨by have := hb.2.1; omega, hb.2.2⟩
        have hso2 : SoftRow (fun b => c ≤ b ∧ b < U.heap.size) U2 (.slice aq q.req.length cq) q.req.length := ((SoftRow.of HS6.out).stays (Y := fun _ => True) (Stays.of hb12) fun _ _ => trivial).imp fun b hb => ⟨hb.2.1, hb.2.2⟩
        have HSO2 := Lib.hid hso2
        have HSP := Lib.hid (spoil13_any hso1 (by omega))
        clear hso1 hso2 hlq hb12 hl2 hb2 HRS HB1
        go_wp2_with fail
        refine HSP.out.mono ?_
        rintro e U3 ⟨rfl, r1, hs1, hr1⟩
        have hn1 : r1 ≠ some U.heap.size := fun e => by have := hr1 _ e; omega
        have d4 := hs1.stays.cell hn1 d4
        have HSP2 := Lib.hid (spoil13_any (HSO2.out.soft hs1) hqr)
        have HS1' := Lib.hid hs1
        clear HSP c4 hs1 HSO2
        go_wp2_with fail
        refine HSP2.out.mono ?_
        rintro e U4 ⟨rfl, r2, hs2, hr2⟩
        have hr2' : ∀ b, r2 = some b → c ≤ b ∧ b < U.heap.size := hr2
        have HA2 := Lib.hid (HA.out.round HBV.out HGD.out HS1.out hgc hg3 s4 HS5.out hgU (HLQ.out ▸ HL2.out) (fun b _ hb => by
          rcases hb with hb | hb
          · exact ⟨hb.1, .inl hb.2⟩
          · refine ⟨⟨?_, ?_, ?_⟩, .inr (by omega)⟩
            · obtain ⟨l1, l2, l3⟩ := HA.out.a.st.lts
              change gi < _ at l1
              show b ≠ gi; omega
            · obtain ⟨l1, l2, l3⟩ := HA.out.a.st.lts
              change bm < _ at l3
              show b ≠ bm; omega
            · show b ≠ g'; omega) HB12.out HS1'.out hr1 hs2 hr2')
        clear hr1 hr2 hr2' hs2 HSP2 HS1' d4 hn1
        go_wp2
        go_roundw
        case rel => exact ⟨k + 1, R.1, g', al2, lq, cl2, by omega, by go_num, rfl, HLQ.out, HLQ.out ▸ HA2.out⟩
        case measure => simp [intOf]; omega
      · obtain ⟨X, rfl⟩ : ∃ X, X = wr := ⟨_, rfl⟩
        have hkl : k = l := by omega
        subst hkl
        have HOK := Lib.hid (HA.out.a.good.ok (by omega))
        have hlp100 : lp ≤ 100 := by rw [HLP.out]; have := HA.out.a.good.len; omega
        have HAL := Lib.hid (sall_anyR (m := ⟨gi, bt, bm, g⟩) X HA.out.a.st HOK.out)
        unfold RetPodsR at HAL
        clear HPS HREQ HE
        go_wp2_with fail
        refine HAL.out.mono ?_
        rintro e w3 ⟨v3, rfl, o3, b3⟩
        obtain ⟨a3, c3, rfl⟩ := o3.shape
        have HR3 := Lib.hid (Row13.of o3)
        rw [← HLP.out]
        have HB3 := Lib.hid b3
        clear o3 b3 HAL
        go_wp2
        go_loopw [11] (fun i wr => ∃ j : Nat, j ≤ lp ∧ i = .int .i64 j ∧ Aside (Below X.heap.size X wr ∧ Row13 X.heap.size a3 ps wr)) (fun i _ => lp - (intOf i).toNat)
        case atStart => exact ⟨0, by omega, rfl, HB3.out, HR3.out⟩
        case round =>
          obtain ⟨j, hj, rfl, hbw⟩ := hrel
          by_cases hjl : j < lp
          · obtain ⟨ga, rv, hga, hgb, r0, r4, -, -, rs⟩ := hbw.out.2.at_ j (by rw [← HLP.out]; exact hjl)
            subst hga
            have hrq : (podAt ps j).req.length ≤ 1000 := by have := HA.out.a.good.req j (by rw [← HLP.out]; exact hjl); omega
            have HSP := Lib.hid (spoil13_any rs hrq)
            obtain ⟨pid, hpid⟩ : ∃ pid, pid = (podAt ps j).id := ⟨_, rfl⟩
            rw [← hpid] at r0
            have hj0 : (0 : Int) ≤ (j : Int) := by omega
            have hj1 : (j : Int) < (lp : Int) := by omega
            have hB := hbw.out.1
            have hR := hbw.out.2
            have hz := hB.size
            clear hbw rs hpid
            go_wp2_with fail
            refine HSP.out.mono ?_
            rintro e w5 ⟨rfl, r, hs, hr⟩
            have hne : r ≠ some ga := fun e => (hr ga e).2 rfl
            have r0 := hs.stays.cell hne r0
            have hB5 := hB.trans (hs.stays.below hz fun b hb e => by have := (hr b e).1; omega)
            have hR5 := hR.soft hs fun b e e2 => by injection e2 with e2; injection e2 with e2; exact (hr b e).2 e2.symm
            clear hB hR hs hr hz HSP r4
            have hgz : (getP ps pid).req.length ≤ 20 := by
              unfold getP
              by_cases hf : findI ps 0 pid < 0
              · rw [if_pos hf]; simp [pod0]
              · rw [if_neg hf]
                refine HA.out.a.good.req _ ?_
                rcases findI_bound ps 0 pid with h | h <;> omega
            have HGT := Lib.hid (sget_any (m := ⟨gi, bt, bm, g⟩) pid w5 (HA.out.a.st.below hB5) (by omega))
            unfold RetOwn at HGT
            obtain ⟨p, hp⟩ : ∃ p, p = getP ps pid := ⟨_, rfl⟩
            rw [← hp] at HGT hgz
            generalize hasP ps pid = hh at *
            clear hp
            have HB5 := Lib.hid hB5
            have HR5 := Lib.hid hR5
            have hg5 : ga < w5.heap.size := cell_lt r0
            have hz5 := hB5.size
            clear hB5 hR5
            go_wp2_with fail
            refine HGT.out.mono ?_
            rintro e w6 ⟨a6, c6, rfl, o6, b6⟩
            have HO6 := Lib.hid o6
            have HB6 := Lib.hid b6
            have hz6 := b6.size
            clear o6 b6 HGT r0
            go_wp2_with fail
            refine calls_named fun w7 hw7 => ?_
            have hb7 : Below w6.heap.size w6 w7 := by rw [hw7]; exact (Below.refl _ _).alloc (Nat.le_refl _) _
            clear hw7
            have hz7 := hb7.size
            have hso : SoftRow (fun b => w5.heap.size ≤ b) w7 (.slice a6 p.req.length c6) p.req.length := ((SoftRow.of HO6.out).stays (Y := fun _ => True) (Stays.of hb7) fun _ _ => trivial).imp fun b hb => hb.2.1
            have HSP := Lib.hid (spoil13_any hso (by omega))
            have HR7 := Lib.hid ((HR5.out.below HB6.out).below hb7)
            have HB7 := Lib.hid ((HB5.out.trans (HB6.out.mono hz5)).trans (hb7.mono (by omega)))
            clear hso hb7 HO6 HB6 HR5 HB5
            refine HSP.out.mono ?_
            rintro e w8 ⟨rfl, r2, hs, hr⟩
            have HR8 := Lib.hid (HR7.out.soft hs fun b e e2 => by injection e2 with e2; injection e2 with e2; have := hr b e; omega)
            have HB8 := Lib.hid (HB7.out.trans (hs.stays.below (by omega) fun b hb e => by have := hr b e; omega))
            obtain ⟨ga', rv', hga', -, -, -, ⟨z6, r6⟩, r6f, -⟩ := HR8.out.at_ j (by rw [← HLP.out]; exact hjl)
            injection hga' with hga'
            injection hga' with hga'
            subst hga'
            clear hs hr HSP HR7 HB7
            go_wp2
            go_roundw
            case rel => exact ⟨j + 1, by omega, by go_num, HB8.out.setCell hgb _, HR8.out.phase 9⟩
            case measure => simp [intOf]; omega
          · have HBX := Lib.hid hbw.out.1
            clear hbw
            have HAL := Lib.hid (sall_any (m := ⟨gi, bt, bm, g⟩) wr (HA.out.a.st.below HBX.out) HOK.out)
            unfold RetPods at HAL
            go_wp2_with fail
            refine HAL.out.mono ?_
            rintro e w9 ⟨v9, rfl, o9, b9⟩
            obtain ⟨a9, c9, rfl⟩ := o9.shape
            have hB9 := HBX.out.trans (b9.mono HBX.out.size)
            have HB9 := Lib.hid hB9
            rw [← HLP.out] at o9 ⊢
            have HSA : Hid (Calls Tryd.prog 63 #[.slice a9 lp c9, .slice al lp cl] w9 fun e w' => e = .returned (.bool true) ∧ Below w9.heap.size w9 w') := by
              have h := same06_any (.slice a9 lp c9) (.slice al lp cl) ps ps w9 HOK.out.small HOK.out.small o9.pods (HA.out.a.list.within.below hB9 (Nat.le_refl _)).pods
              rw [decide_eq_true rfl] at h
              exact h
            clear o9 b9 hB9 HAL
            go_wp2_with fail
            refine HSA.out.mono ?_
            rintro e w10 ⟨rfl, b10⟩
            have hB10 := HB9.out.trans (b10.mono HB9.out.size)
            have HLN := Lib.hid (slen_any (m := ⟨tb, tt, tm, tb⟩) w10 (HA.out.t.below hB10))
            have HB := Lib.hid (HA.out.a.below.trans (hB10.mono HA.out.a.below.size))
            clear b10 hB10 HSA
            go_wp2_with fail
            refine HLN.out.mono ?_
            rintro e xx ⟨rfl, rfl⟩
            go_wp2
            go_ret
            exact ⟨rfl, HB.out⟩
end Go.Proofs.YtcegipkhmibdeaaDoor
/- PodKeeps: for every input the law returns true and its arguments read behind the call as before: the row over whatever heap in which the listed variables hold their data, and the tied card. -/
namespace Go.Proofs.YtcegipkhmibdeaaDoor.podKeeps
set_option linter.all false
open Go.ChangeShapes Go.WideShapes Go.ChangeAt Go.WideMaps Go.WideElems Go.RowKit
open Go.ChangeMaps (open_string shut_string)
open Go.ChangeAt
set_option linter.unusedVariables false
theorem door_met (os : Os) (args : Array Value) : laidMetH Tryd.prog Rows.podKeepsRow.laid ((World.doorLaid Tryd.prog 46 os).forCall (fun _ _ => 0) ⟨#[], args, []⟩).memory :=
  laidMetH_of_parts3 (fuel := 8) (laidMet_of_run' 8 (by kernel_rfl) (by kernel_rfl)) (by kernel_rfl) (by kernel_rfl)
set_option maxRecDepth 100000 in
theorem lifted (os : Os) (started : os.Started) (H : Type) (enc : TypeId × Value → H) :
    ReturnsInHanded {} Tryd.checked os 13 .any (fun w args => (Rows.podKeepsSpec.pre enc Tryd.prog Tryd.f13 Rows.podKeepsRow.domain false w args ∧ laidMetH Tryd.prog Rows.podKeepsRow.laid w) ∧ sizedMet enc Tryd.prog Tryd.f13 (OpenSpec.ofChange Rows.podKeepsSpec) false w args)
      (Rows.podKeepsSpec.post enc Tryd.prog Tryd.f13 false true false false) := by
  refine returnsInHanded_of_change_and (C := Tryd.checked) (X := fun w _ => laidMetH Tryd.prog Rows.podKeepsRow.laid w) (fun _ _ _ hh h => h.of_heap hh) own started (by kernel_rfl) Tryd.func13
    (ChangeSpec.witness_shaped (enc := enc) (C := Tryd.checked) (os := os) (X := fun w _ => laidMetH Tryd.prog Rows.podKeepsRow.laid w) false (World.doorLaid Tryd.prog 46 os) #[.slice none 0 0] 8 rfl (World.shaped_of_RefB (by kernel_rfl) (by kernel_rfl)) (by kernel_rfl) (by kernel_rfl) (by kernel_rfl) (door_met os _)) ?_
  intro W base args ds gs before hval0 hW hcnd hsz0 hL _
  have hsz : (DataW.weightsEach Tryd.prog (Tryd.f13.params.toList ++ Rows.podKeepsSpec.plain.varTypes Tryd.prog) (ds ++ gs)).all (· ≤ reachBytes) = true := hsz0
  have hval : ∀ (j : Nat) t v, Tryd.f13.params[j]? = some t → args[j]? = some v → Value.okWide Tryd.prog W .any base t v := hval0
  have hW' := hW
  obtain ⟨p, q, hA0, hV, rfl, hfz, hnd⟩ := hW
  have hA : DataW.TrodAll enc Tryd.prog W 0 (fun _ => true) true Tryd.f13.params.toList args.toList ds p := hA0
  rw [Tryd.params13] at hA hval hsz
  obtain ⟨v0, vs0, d0, ds0, p0, q0, hargs, rfl, rfl, h0, r0⟩ := trodAll_cons hA
  obtain ⟨rfl, rfl, rfl⟩ := trodAll_nil r0
  obtain rfl : args = #[v0] := by cases args; simp_all
  obtain ⟨rfl, rfl⟩ := trodVars_none hV
  obtain ⟨a0, len0, cap0, rfl⟩ := okWide_slice Tryd.underlying72 (hval 0 72 v0 rfl rfl)
  have k0 := h0
  have lt0 : ∀ x ∈ p0, x.block < W.heap.size := by obtain ⟨m, hm⟩ := k0; exact DataW.trod_lt m _ _ _ hm
  have y0 := sized_any hsz (j := 0) (t := 72) rfl rfl Tryd.underlying72 bytesPod h0
  obtain ⟨z0, l0, h0⟩ : ∃ xs, xs.length = len0 ∧ PodsAt W (.slice a0 len0 cap0) xs := by obtain ⟨m, hm⟩ := h0; exact pods_of hm
  have hE : ErrType W := by
    have h0 : laidMet Tryd.prog [] W ∧ handlesMet Tryd.prog Rows.opPlainRow.laid W := hL
    exact errType_of_handles h0.2 (List.mem_singleton.2 rfl)
  clear hA0 hval0 hsz0 hsz
  refine (podKeeps_walk _ z0 W hE (by rw [l0]; omega) h0).mono fun e W' ⟨he, bel⟩ => ?_
  subst he
  exact ⟨_, rfl, _, _, _, [], _, [], hW', trodAll_mk1 (shut_bool Tryd.underlying4 _), (trodAll_cons_mk (Below.trod laidOut (by kernel_rfl) (of_decide_eq_true (by kernel_rfl)) k0 bel lt0) trodAll_mk0), rfl, bel.frame _, fun h => by cases h⟩
theorem named : Tryd.prog.funcNamed "hammock/hammocklaw13.PodKeeps" = some 13 := by kernel_rfl
set_option maxRecDepth 100000 in
set_option maxHeartbeats 40000000 in
theorem facts : joinedFacts Tryd.prog 13 Tryd.f13 Rows.podKeepsSpec Rows.podKeepsRow = true := by
  unfold joinedFacts
  rw [fLaidOut, fMapsRowed, fStops, fStopKnobs, fPlainKeys, fStopsHeard, fMay, fLifts, fMake]
  repeat' (with_reducible refine band ?_ ?_)
  all_goals (as_aux_lemma => kernel_rfl)
theorem instance_ : Tryd.f13.isInstance Tryd.prog Rows.podKeepsRow.origin Rows.podKeepsRow.targs := of_decide_eq_true (by kernel_rfl)
theorem wrapper_ : Tryd.f13.isWrapper Tryd.prog Rows.podKeepsRow.wrapper Rows.podKeepsRow.mainSum := by
  unfold Func.isWrapper; first | (rw [if_pos (by decide +kernel)]; kernel_rfl) | (rw [if_neg (by decide +kernel)]; exact ⟨rfl, rfl⟩)
theorem over : Rows.PodKeepsSaid :=
  OpenClaim.holds_of_wide 13 Tryd.f13 rfl rfl rfl rfl rfl rfl rfl ⟨rfl, rfl, rfl, rfl, rfl⟩ rfl rfl rfl rfl rfl named Tryd.func13 facts
    instance_ wrapper_ (fun os started H enc _ => lifted os started H enc)
theorem byText : Rows.podKeepsRow.wfByText (OpenSpec.ofChange Rows.podKeepsSpec) = true := by kernel_rfl
theorem looks_ : true = Tryd.prog.looks [] := by kernel_rfl
theorem goes_ : false = Rows.podKeepsRow.goesBy Tryd.prog := by kernel_rfl
theorem params_ : ([72].all fun u => !Tryd.prog.wantsStandIn u) = true := by kernel_rfl
theorem proved : Rows.PodKeepsCardSaid :=
  Claim7.holds_tied_plain_at .later [] [.handle] true (true, "25fb52c7a62141da201c992de07690019f706bfb1a8ff032f6eb55d89aef45fd") true
    over (fun _ h => by cases h) byText (fun _ h => by cases h) podKeeps_row_tie rfl ⟨rfl, rfl⟩ fMain rfl
    (fun f fn hf hfn => by
      obtain rfl : f = 13 := (Option.some.inj (named.symm.trans hf)).symm
      obtain rfl : fn = Tryd.f13 := (Option.some.inj (Tryd.func13.symm.trans hfn)).symm
      exact ⟨looks_, fun j t ht => by
        rw [Tryd.params13] at ht
        have hm : t ∈ [72] := by simpa using Array.mem_of_getElem? ht
        exact (show Tryd.prog.wantsStandIn t = false by simpa using List.all_eq_true.1 params_ t hm)⟩)
    goes_
#print axioms proved
end Go.Proofs.YtcegipkhmibdeaaDoor.podKeeps
namespace Go.Proofs.YtcegipkhmibdeaaDoor
/-- The card, under a short name. -/
theorem podKeeps_holds : Rows.PodKeepsCardSaid := podKeeps.proved
end Go.Proofs.YtcegipkhmibdeaaDoor
