/- Decisions compared; hammockref21.Same; hammockref24.About. -/
import Derived.Test.YtdclokpoeaehlaaGreatDoorLogE
import Derived.Deep.QuietTactic
import Derived.BigQuiet
import Derived.DeepKeys4
import Derived.Laws.StructEq
namespace Go.Proofs.YtdclokpoeaehlaaGreatDoor
set_option linter.all false
open Go.RowKit

def decB (p q : Dec) : Bool := p.kind == q.kind && p.id == q.id && p.node == q.node && p.at_ == q.at_
theorem decB_iff (p q : Dec) : decB p q = true ↔ p = q := by
  obtain ⟨a, b, c, d⟩ := p
  obtain ⟨a', b', c', d'⟩ := q
  simp [decB, and_assoc]
theorem dpart0 (x y z u : Int) (w : World) : (part 3 #[.int .i64 x, .int .i64 y, .int .i64 z, .int .i64 u] 0).run Tryz.prog w = .ok (.int .i64 x) w := by kernel_rfl
theorem dpart1 (x y z u : Int) (w : World) : (part 3 #[.int .i64 x, .int .i64 y, .int .i64 z, .int .i64 u] 1).run Tryz.prog w = .ok (.int .i64 y) w := by kernel_rfl
theorem dpart2 (x y z u : Int) (w : World) : (part 3 #[.int .i64 x, .int .i64 y, .int .i64 z, .int .i64 u] 2).run Tryz.prog w = .ok (.int .i64 z) w := by kernel_rfl
theorem dpart3 (x y z u : Int) (w : World) : (part 3 #[.int .i64 x, .int .i64 y, .int .i64 z, .int .i64 u] 3).run Tryz.prog w = .ok (.int .i64 u) w := by kernel_rfl
theorem equalDec (p q : Dec) (w : World) : (Op.equal 23 (decV p) (decV q)).run Tryz.prog w = .ok (decB p q) w := by
  have h : Tryz.prog.underlying 23 = some (.struct (Tryz.prog.fieldsOf 23)) := by kernel_rfl
  have hs : Tryz.prog.stoodInHeld 23 = false := by kernel_rfl
  unfold Op.equal Op.maxDepth decB
  rw [run_equalIn_struct w 9999 23 _ _ h hs]
  simp only [Program.fieldsOf, Tryz.underlying23, Op.eqFields, Sem.run_bind, Sem.run_ite, dpart0, dpart1, dpart2, dpart3, Result.andThen_ok, run_equalIn_int w 9998 3 .i64 .i64 _ _ Tryz.underlying3, Sem.run_pure]
  cases p.kind == q.kind <;> cases p.id == q.id <;> cases p.node == q.node <;> cases p.at_ == q.at_ <;> simp [Sem.run_pure, Op.eqFields, Result.andThen_ok]
theorem eqlDec (p q : Dec) (w : World) : (binOp .eql 23 (decV p) (decV q)).run Tryz.prog w = .ok (.bool (decB p q)) w := by
  simp [binOp, equalDec, Result.andThen_ok]
theorem neqDec (p q : Dec) (w : World) : (binOp .neq 23 (decV p) (decV q)).run Tryz.prog w = .ok (.bool (!decB p q)) w := by
  simp [binOp, equalDec, Result.andThen_ok]
/-- Are two lists the same, from k on? -/
def sameD (ps qs : List Dec) : Bool := decide (ps = qs)
theorem sameD_step {ps qs : List Dec} {k : Nat} (hp : k < ps.length) (hq : k < qs.length) : sameD (ps.drop k) (qs.drop k) = (decB (decAt ps k) (decAt qs k) && sameD (ps.drop (k + 1)) (qs.drop (k + 1))) := by
  have e1 : decAt ps k = ps[k] := by unfold decAt; rw [List.getD_eq_getElem?_getD, List.getElem?_eq_getElem hp]; rfl
  have e2 : decAt qs k = qs[k] := by unfold decAt; rw [List.getD_eq_getElem?_getD, List.getElem?_eq_getElem hq]; rfl
  rw [e1, e2, List.drop_eq_getElem_cons hp, List.drop_eq_getElem_cons hq]
  generalize ps[k] = x
  generalize qs[k] = y
  generalize ps.drop (k + 1) = r
  generalize qs.drop (k + 1) = s
  rw [Bool.eq_iff_iff]
  simp [sameD, decB_iff]
set_option maxHeartbeats 4000000 in
set_option maxRecDepth 100000 in
theorem sameD_some (b off cap b' off' cap' : Nat) (ps qs : List Dec) (w : World) (hx : ps.length * 32 ≤ 140737488351232) (hlen : ps.length = qs.length)
    (hc : ∀ j, j < ps.length → DecCells w b (off + j * 4) (decAt ps j)) (hc' : ∀ j, j < qs.length → DecCells w b' (off' + j * 4) (decAt qs j)) :
    Calls Tryz.prog 23 #[.slice (some ⟨b, off, none⟩) ps.length cap, .slice (some ⟨b', off', none⟩) qs.length cap'] w fun e w' => e = .returned (.bool (sameD ps qs)) ∧ Below w.heap.size w w' := by
  rw [← hlen] at hc' ⊢
  obtain ⟨l, hl⟩ : ∃ n, n = ps.length := ⟨_, rfl⟩
  rw [← hl] at hx hc' ⊢
  have HL := Lib.hid hl; clear hl
  have HL' : Hid (qs.length = l) := by rw [← hlen]; exact HL.out.symm
  have HC := Lib.hid hc; clear hc
  have HC' := Lib.hid hc'; clear hc' hlen
  go_enter Tryz.func23, Tryz.ntmps23
  go_wp2
  go_loopw [5] (fun i wr => ∃ k : Nat, k ≤ l ∧ i = .int .i64 k ∧ Hid (sameD ps qs = sameD (ps.drop k) (qs.drop k)) ∧ From w wr) (fun i _ => l - (intOf i).toNat)
  case atStart => exact ⟨0, Nat.zero_le _, rfl, rfl, From.refl _⟩
  case round =>
    obtain ⟨k, hk, rfl, hrun, hfw⟩ := hrel
    by_cases hlt : k < l
    · have hc1 := HC.out k (by rw [← HL.out]; exact hlt)
      have hc2 := HC'.out k hlt
      have hs := sameD_step (ps := ps) (qs := qs) (k := k) (by rw [← HL.out]; exact hlt) (by rw [HL'.out]; exact hlt)
      have HE := neqDec (decAt ps k) (decAt qs k)
      generalize decAt ps k = x at *
      generalize decAt qs k = y at *
      obtain ⟨p0, p1, p2, p3⟩ := hc1
      obtain ⟨q0, q1, q2, q3⟩ := hc2
      have p0' := hfw.cell p0
      have p1' := hfw.cell p1
      have p2' := hfw.cell p2
      have p3' := hfw.cell p3
      have q0' := hfw.cell q0
      have q1' := hfw.cell q1
      have q2' := hfw.cell q2
      have q3' := hfw.cell q3
      clear p0 p1 p2 p3 q0 q1 q2 q3
      have hki : (0 : Int) ≤ (k : Int) := by omega
      have hkl : (k : Int) < (l : Int) := by omega
      have hse : k * 4 + 4 ≤ 140737488351232 := by omega
      cases hd : decB x y
      · have hfin : Hid (sameD ps qs = false) := by rw [hrun.out, hs, hd]; rfl
        rw [hd] at HE
        clear hs hrun hd
        go_wp2
        go_quiet (fail)
        go_wp2
        go_ret
        exact ⟨by rw [hfin.out]; rfl, below_draws hfw.out _⟩
      · have hfin : Hid (sameD ps qs = sameD (ps.drop (k + 1)) (qs.drop (k + 1))) := by rw [hrun.out, hs, hd]; rfl
        rw [hd] at HE
        clear hs hrun hd
        go_wp2
        go_quiet (fail)
        go_wp2
        go_roundw
        case rel => exact ⟨k + 1, by omega, by go_num, hfin, hfw.drewN _⟩
        case measure => simp [intOf]; omega
    · have hfin : Hid (sameD ps qs = true) := by
        rw [hrun.out, List.drop_eq_nil_of_le (by rw [← HL.out]; omega), List.drop_eq_nil_of_le (by rw [HL'.out]; omega)]; rfl
      clear hrun
      go_wp2
      go_ret
      exact ⟨by rw [hfin.out]; rfl, hfw.out⟩
set_option maxRecDepth 100000 in
theorem sameD_none (a a' : Option Addr) (cap cap' : Nat) (w : World) :
    Calls Tryz.prog 23 #[.slice a 0 cap, .slice a' 0 cap'] w fun e w' => e = .returned (.bool true) ∧ w = w' := by
  go_enter Tryz.func23, Tryz.ntmps23
  go_wp2
  refine wp_loop_rounds 1 ?_
  rw [rounds_succ]
  go_wp2
  go_ret
  exact ⟨rfl, rfl⟩
set_option maxRecDepth 100000 in
theorem sameD_differ (a a' : Option Addr) (m n cap cap' : Nat) (w : World) (h : (((m : Nat) : Int) == ((n : Nat) : Int)) = false) (h' : (((m : Nat) : Int) != ((n : Nat) : Int)) = true) :
    Calls Tryz.prog 23 #[.slice a m cap, .slice a' n cap'] w fun e w' => e = .returned (.bool false) ∧ w = w' := by
  go_enter Tryz.func23, Tryz.ntmps23
  go_wp2
  go_ret
  exact ⟨rfl, rfl⟩
theorem sameD_any (v v' : Value) (ps qs : List Dec) (w : World) (hx : ps.length * 32 ≤ 140737488351232) (h : kDec.At w v ps) (h' : kDec.At w v' qs) :
    Calls Tryz.prog 23 #[v, v'] w fun e w' => e = .returned (.bool (sameD ps qs)) ∧ Below w.heap.size w w' := by
  obtain ⟨a, cap, rfl, h1⟩ := h
  obtain ⟨a', cap', rfl, h2⟩ := h'
  by_cases hl : ps.length = qs.length
  · rcases h1 with rfl | ⟨b, off, rfl, hlt, hc⟩
    · have : qs = [] := List.eq_nil_of_length_eq_zero hl.symm
      subst this
      exact (sameD_none a a' cap cap' w).mono fun e w' ⟨he, hw⟩ => ⟨he, hw ▸ Below.refl _ _⟩
    · rcases h2 with rfl | ⟨b', off', rfl, hlt', hc'⟩
      · have : ps = [] := List.eq_nil_of_length_eq_zero hl
        subst this
        exact (sameD_none _ a' cap cap' w).mono fun e w' ⟨he, hw⟩ => ⟨he, hw ▸ Below.refl _ _⟩
      · exact sameD_some b off cap b' off' cap' ps qs w hx hl (decs_cells hc) (decs_cells hc')
  · have e : sameD ps qs = false := by
      unfold sameD
      rw [decide_eq_false_iff_not]
      exact fun h => hl (by rw [h])
    rw [e]
    exact (sameD_differ a a' _ _ cap cap' w (by rw [beq_eq_false_iff_ne]; omega) (by rw [bne_iff_ne]; omega)).mono fun e w' ⟨he, hw⟩ => ⟨he, hw ▸ Below.refl _ _⟩
end Go.Proofs.YtdclokpoeaehlaaGreatDoor
