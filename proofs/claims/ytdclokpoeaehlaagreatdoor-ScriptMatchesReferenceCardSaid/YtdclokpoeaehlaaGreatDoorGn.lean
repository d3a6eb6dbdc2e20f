/- LogF, LogS, LogG, LogT, LogU, LogV: together in one text. -/
import Derived.Test.YtdclokpoeaehlaaGreatDoorGd
import Derived.Deep.QuietTactic
import Derived.BigQuiet
import Derived.DeepKeys4
import Derived.Laws.StructEq
import Derived.Test.YtdclokpoeaehlaaGreatDoorGk
/- Decisions compared; hammockref21.Same; hammockref24.About. -/
namespace Go.Proofs.YtdclokpoeaehlaaGreatDoor
set_option linter.all false
open Go.RowKit

def decB (p q : Dec) : Bool := p.kind == q.kind && p.id == q.id && p.node == q.node && p.at_ == q.at_
theorem decB_iff (p q : Dec) : decB p q = true ↔ p = q := by
  obtain ⟨a, b, c, d⟩ := p
  obtain ⟨a', b', c', d'⟩ := q
  simp [decB, and_assoc]
theorem dpart0 (x y z u : Int) (w : World) : (part 3 #[.int .i64 x, .int .i64 y, .int .i64 z, .int .i64 u] 0).run Tryz.prog w = .ok (.int .i64 x) w := by kernel_rfl
theorem dpart1 (x y z u : Int) (w : World) : (part 3 #[.int .i64 x, .int .i64 y, .int .i64 z, .int .i64 u] 1).run Tryz.prog w = .ok (.int .i64 y) w := by kernel_rfl
theorem dpart2 (x y z u : Int) (w : World) : (part 3 #[.int .i64 x, .int .i64 y, .int .i64 z, .int .i64 u] 2).run Tryz.prog w = .ok (.int .i64 z) w := by kernel_rfl
theorem dpart3 (x y z u : Int) (w : World) : (part 3 #[.int .i64 x, .int .i64 y, .int .i64 z, .int .i64 u] 3).run Tryz.prog w = .ok (.int .i64 u) w := by kernel_rfl
theorem equalDec (p q : Dec) (w : World) : (Op.equal 23 (decV p) (decV q)).run Tryz.prog w = .ok (decB p q) w := by
  have h : Tryz.prog.underlying 23 = some (.struct (Tryz.prog.fieldsOf 23)) := by kernel_rfl
  have hs : Tryz.prog.stoodInHeld 23 = false := by kernel_rfl
  unfold Op.equal Op.maxDepth decB
  rw [run_equalIn_struct w 9999 23 _ _ h hs]
  simp only [Program.fieldsOf, Tryz.underlying23, Op.eqFields, Sem.run_bind, Sem.run_ite, dpart0, dpart1, dpart2, dpart3, Result.andThen_ok, run_equalIn_int w 9998 3 .i64 .i64 _ _ Tryz.underlying3, Sem.run_pure]
  cases p.kind == q.kind <;> cases p.id == q.id <;> cases p.node == q.node <;> cases p.at_ == q.at_ <;> simp [Sem.run_pure, Op.eqFields, Result.andThen_ok]
theorem eqlDec (p q : Dec) (w : World) : (binOp .eql 23 (decV p) (decV q)).run Tryz.prog w = .ok (.bool (decB p q)) w := by
  simp [binOp, equalDec, Result.andThen_ok]
theorem neqDec (p q : Dec) (w : World) : (binOp .neq 23 (decV p) (decV q)).run Tryz.prog w = .ok (.bool (!decB p q)) w := by
  simp [binOp, equalDec, Result.andThen_ok]
/-- Are two lists the same, from k on? -/
def sameD (ps qs : List Dec) : Bool := decide (ps = qs)
theorem sameD_step {ps qs : List Dec} {k : Nat} (hp : k < ps.length) (hq : k < qs.length) : sameD (ps.drop k) (qs.drop k) = (decB (decAt ps k) (decAt qs k) && sameD (ps.drop (k + 1)) (qs.drop (k + 1))) := by
  have e1 : decAt ps k = ps[k] := by unfold decAt; rw [List.getD_eq_getElem?_getD, List.getElem?_eq_getElem hp]; rfl
  have e2 : decAt qs k = qs[k] := by unfold decAt; rw [List.getD_eq_getElem?_getD, List.getElem?_eq_getElem hq]; rfl
  rw [e1, e2, List.drop_eq_getElem_cons hp, List.drop_eq_getElem_cons hq]
  generalize ps[k] = x
  generalize qs[k] = y
  generalize ps.drop (k + 1) = r
  generalize qs.drop (k + 1) = s
  rw [Bool.eq_iff_iff]
  simp [sameD, decB_iff]
set_option maxHeartbeats 4000000 in
set_option maxRecDepth 100000 in
theorem sameD_some (b off cap b' off' cap' : Nat) (ps qs : List Dec) (w : World) (hx : ps.length * 32 ≤ 140737488351232) (hlen : ps.length = qs.length)
    (hc : ∀ j, j < ps.length → DecCells w b (off + j * 4) (decAt ps j)) (hc' : ∀ j, j < qs.length → DecCells w b' (off' + j * 4) (decAt qs j)) :
    Calls Tryz.prog 23 #[.slice (some ⟨b, off, none⟩) ps.length cap, .slice (some ⟨b', off', none⟩) qs.length cap'] w fun e w' => e = .returned (.bool (sameD ps qs)) ∧ Below w.heap.size w w' := by
  rw [← hlen] at hc' ⊢
  obtain ⟨l, hl⟩ : ∃ n, n = ps.length := ⟨_, rfl⟩
  rw [← hl] at hx hc' ⊢
  have HL := Lib.hid hl; clear hl
  have HL' : Hid (qs.length = l) := by rw [← hlen]; exact HL.out.symm
  have HC := Lib.hid hc; clear hc
  have HC' := Lib.hid hc'; clear hc' hlen
  go_enter Tryz.func23, Tryz.ntmps23
  go_wp2
  go_loopw [5] (fun i wr => ∃ k : Nat, k ≤ l ∧ i = .int .i64 k ∧ Hid (sameD ps qs = sameD (ps.drop k) (qs.drop k)) ∧ From w wr) (fun i _ => l - (intOf i).toNat)
  case atStart => exact ⟨0, Nat.zero_le _, rfl, rfl, From.refl _⟩
  case round =>
    obtain ⟨k, hk, rfl, hrun, hfw⟩ := hrel
    by_cases hlt : k < l
    · have hc1 := HC.out k (by rw [← HL.out]; exact hlt)
      have hc2 := HC'.out k hlt
      have hs := sameD_step (ps := ps) (qs := qs) (k := k) (by rw [← HL.out]; exact hlt) (by rw [HL'.out]; exact hlt)
      have HE := neqDec (decAt ps k) (decAt qs k)
      generalize decAt ps k = x at *
      generalize decAt qs k = y at *
      obtain ⟨p0, p1, p2, p3⟩ := hc1
      obtain ⟨q0, q1, q2, q3⟩ := hc2
      have p0' := hfw.cell p0
      have p1' := hfw.cell p1
      have p2' := hfw.cell p2
      have p3' := hfw.cell p3
      have q0' := hfw.cell q0
      have q1' := hfw.cell q1
      have q2' := hfw.cell q2
      have q3' := hfw.cell q3
      clear p0 p1 p2 p3 q0 q1 q2 q3
      have hki : (0 : Int) ≤ (k : Int) := by omega
      have hkl : (k : Int) < (l : Int) := by omega
      have hse : k * 4 + 4 ≤ 140737488351232 := by omega
      cases hd : decB x y
      · have hfin : Hid (sameD ps qs = false) := by rw [hrun.out, hs, hd]; rfl
        rw [hd] at HE
        clear hs hrun hd
        go_wp2
        go_quiet (fail)
        go_wp2
        go_ret
        exact ⟨by rw [hfin.out]; rfl, below_draws hfw.out _⟩
      · have hfin : Hid (sameD ps qs = sameD (ps.drop (k + 1)) (qs.drop (k + 1))) := by rw [hrun.out, hs, hd]; rfl
        rw [hd] at HE
        clear hs hrun hd
        go_wp2
        go_quiet (fail)
        go_wp2
        go_roundw
        case rel => exact ⟨k + 1, by omega, by go_num, hfin, hfw.drewN _⟩
        case measure => simp [intOf]; omega
    · have hfin : Hid (sameD ps qs = true) := by
        rw [hrun.out, List.drop_eq_nil_of_le (by rw [← HL.out]; omega), List.drop_eq_nil_of_le (by rw [HL'.out]; omega)]; rfl
      clear hrun
      go_wp2
      go_ret
      exact ⟨by rw [hfin.out]; rfl, hfw.out⟩
set_option maxRecDepth 100000 in
theorem sameD_none (a a' : Option Addr) (cap cap' : Nat) (w : World) :
    Calls Tryz.prog 23 #[.slice a 0 cap, .slice a' 0 cap'] w fun e w' => e = .returned (.bool true) ∧ w = w' := by
  go_enter Tryz.func23, Tryz.ntmps23
  go_wp2
  refine wp_loop_rounds 1 ?_
  rw [rounds_succ]
  go_wp2
  go_ret
  exact ⟨rfl, rfl⟩
set_option maxRecDepth 100000 in
theorem sameD_differ (a a' : Option Addr) (m n cap cap' : Nat) (w : World) (h : (((m : Nat) : Int) == ((n : Nat) : Int)) = false) (h' : (((m : Nat) : Int) != ((n : Nat) : Int)) = true) :
    Calls Tryz.prog 23 #[.slice a m cap, .slice a' n cap'] w fun e w' => e = .returned (.bool false) ∧ w = w' := by
  go_enter Tryz.func23, Tryz.ntmps23
  go_wp2
  go_ret
  exact ⟨rfl, rfl⟩
theorem sameD_any (v v' : Value) (ps qs : List Dec) (w : World) (hx : ps.length * 32 ≤ 140737488351232) (h : kDec.At w v ps) (h' : kDec.At w v' qs) :
    Calls Tryz.prog 23 #[v, v'] w fun e w' => e = .returned (.bool (sameD ps qs)) ∧ Below w.heap.size w w' := by
  obtain ⟨a, cap, rfl, h1⟩ := h
  obtain ⟨a', cap', rfl, h2⟩ := h'
  by_cases hl : ps.length = qs.length
  · rcases h1 with rfl | ⟨b, off, rfl, hlt, hc⟩
    · have : qs = [] := List.eq_nil_of_length_eq_zero hl.symm
      subst this
      exact (sameD_none a a' cap cap' w).mono fun e w' ⟨he, hw⟩ => ⟨he, hw ▸ Below.refl _ _⟩
    · rcases h2 with rfl | ⟨b', off', rfl, hlt', hc'⟩
      · have : ps = [] := List.eq_nil_of_length_eq_zero hl
        subst this
        exact (sameD_none _ a' cap cap' w).mono fun e w' ⟨he, hw⟩ => ⟨he, hw ▸ Below.refl _ _⟩
      · exact sameD_some b off cap b' off' cap' ps qs w hx hl (decs_cells hc) (decs_cells hc')
  · have e : sameD ps qs = false := by
      unfold sameD
      rw [decide_eq_false_iff_not]
      exact fun h => hl (by rw [h])
    rw [e]
    exact (sameD_differ a a' _ _ cap cap' w (by rw [beq_eq_false_iff_ne]; omega) (by rw [bne_iff_ne]; omega)).mono fun e w' ⟨he, hw⟩ => ⟨he, hw ▸ Below.refl _ _⟩
end Go.Proofs.YtdclokpoeaehlaaGreatDoor
/- hammocklaw24.awake. -/
namespace Go.Proofs.YtdclokpoeaehlaaGreatDoor
set_option linter.all false
open Go.RowKit

theorem itoa_one (d : Nat) (h : d < 10) : Lib.itoa (d : Int) = [UInt8.ofNat (48 + d)] := by rw [itoa_nat, decDigits_small h]
theorem line_1 : dline ⟨6, 1, 7, 15⟩ = [101, 118, 105, 99, 116, 115, 32, 49, 32, 55, 32, 49, 53] ∧ lined ⟨6, 1, 7, 15⟩ = true := by
  have h1 : Lib.itoa 1 = [49] := itoa_one 1 (by omega)
  have h7 : Lib.itoa 7 = [55] := itoa_one 7 (by omega)
  have h15 : Lib.itoa 15 = [49, 53] := by rw [show (15 : Int) = ((15 : Nat) : Int) from rfl, itoa_nat, decDigits_big (by omega), decDigits_small (by omega)]; rfl
  have hl : lined ⟨6, 1, 7, 15⟩ = true := by decide
  refine ⟨?_, hl⟩
  unfold dline
  rw [if_pos hl]
  simp only [dword]
  rw [if_neg (by decide), if_neg (by decide), if_neg (by decide), h1, h7, h15]
  decide
theorem line_2 : dline ⟨4, -1, -1, 3⟩ = [105, 100, 108, 101, 32, 45, 32, 45, 32, 51] ∧ lined ⟨4, -1, -1, 3⟩ = true := by
  have h3 : Lib.itoa 3 = [51] := itoa_one 3 (by omega)
  have hl : lined ⟨4, -1, -1, 3⟩ = true := by decide
  refine ⟨?_, hl⟩
  unfold dline
  rw [if_pos hl]
  simp only [dword]
  rw [if_pos (by decide), if_neg (by decide), h3]
  decide
theorem num_1 : num [49] = some 1 := by rw [← refNum_num]; decide +kernel
theorem num_2 : num [50] = some 2 := by rw [← refNum_num]; decide +kernel
theorem num_3 : num [51] = some 3 := by rw [← refNum_num]; decide +kernel
theorem num_m1 : num [45, 49] = some (-1) := by rw [← refNum_num]; decide +kernel
theorem dv_1 : dvalue [49] = some 1 := by unfold dvalue; rw [if_neg (by decide), num_1]; rfl
theorem dv_2 : dvalue [50] = some 2 := by unfold dvalue; rw [if_neg (by decide), num_2]; rfl
theorem dv_3 : dvalue [51] = some 3 := by unfold dvalue; rw [if_neg (by decide), num_3]; rfl
theorem dv_m1 : dvalue [45, 49] = none := by unfold dvalue; rw [if_neg (by decide), num_m1]; rfl
theorem parse_1 : dparse [105, 100, 108, 101, 32, 45, 32, 45, 32, 51] = some ⟨4, -1, -1, 3⟩ := by
  have h : Lib.split [105, 100, 108, 101, 32, 45, 32, 45, 32, 51] [32] = [[105, 100, 108, 101], [45], [45], [51]] := by decide +kernel
  rw [dparse_some h (by decide) dv_dash dv_dash dv_3]; decide
theorem parse_2 : dparse [105, 100, 108, 101, 32, 45, 49, 32, 45, 32, 51] = none := by
  have h : Lib.split [105, 100, 108, 101, 32, 45, 49, 32, 45, 32, 51] [32] = [105, 100, 108, 101] :: [[45, 49], [45], [51]] := by decide +kernel
  exact dparse_val h (j := 0) rfl dv_m1
theorem parse_3 : dparse [119, 97, 105, 116, 115, 32, 49, 32, 50, 32, 51] = some ⟨9, 1, 2, 3⟩ := by
  have h : Lib.split [119, 97, 105, 116, 115, 32, 49, 32, 50, 32, 51] [32] = [[119, 97, 105, 116, 115], [49], [50], [51]] := by decide +kernel
  rw [dparse_some h (by decide) dv_1 dv_2 dv_3]; decide
def readText : List UInt8 := [119, 97, 105, 116, 115, 32, 49, 32, 50, 32, 51, 44, 32, 105, 100, 108, 101, 32, 45, 32, 45, 32, 51]
theorem read_1 : dread readText = some [⟨9, 1, 2, 3⟩, ⟨4, -1, -1, 3⟩] := by
  have h : Lib.split readText [44, 32] = [[119, 97, 105, 116, 115, 32, 49, 32, 50, 32, 51], [105, 100, 108, 101, 32, 45, 32, 45, 32, 51]] := by decide +kernel
  unfold dread
  rw [if_neg (by decide), h]
  simp only [dparses, parse_1, parse_3]
  rfl
set_option maxHeartbeats 8000000 in
set_option maxRecDepth 100000 in
theorem awake24_any (w : World) (hW : LogW w) : Calls Tryz.prog 14 #[] w fun r w' => r = .returned (.bool true) ∧ Below w.heap.size w w' := by
  have H1 : Hid (∀ w', From w w' → Calls Tryz.prog 17 #[.agg #[.int .i64 6, .int .i64 1, .int .i64 7, .int .i64 15]] w' fun e w'' => e = .returned (.tuple #[.string ⟨#[101, 118, 105, 99, 116, 115, 32, 49, 32, 55, 32, 49, 53]⟩, .bool true]) ∧ Below w'.heap.size w' w'') := fun w' hf => by
    have h := line_any ⟨6, 1, 7, 15⟩ w' (hW.from_ hf).tabs (hW.from_ hf).names
    rw [line_1.1, line_1.2] at h; exact h
  have H2 : Hid (∀ w', From w w' → Calls Tryz.prog 17 #[.agg #[.int .i64 4, .int .i64 (-1), .int .i64 (-1), .int .i64 3]] w' fun e w'' => e = .returned (.tuple #[.string ⟨#[105, 100, 108, 101, 32, 45, 32, 45, 32, 51]⟩, .bool true]) ∧ Below w'.heap.size w' w'') := fun w' hf => by
    have h := line_any ⟨4, -1, -1, 3⟩ w' (hW.from_ hf).tabs (hW.from_ hf).names
    rw [line_2.1, line_2.2] at h; exact h
  have H3 : Hid (∀ w', From w w' → Calls Tryz.prog 19 #[.string ⟨#[105, 100, 108, 101, 32, 45, 32, 45, 32, 51]⟩] w' fun e w'' => e = .returned (.tuple #[.agg #[.int .i64 4, .int .i64 (-1), .int .i64 (-1), .int .i64 3], .bool true]) ∧ Below w'.heap.size w' w'') := fun w' hf => by
    have h := lparse_any ⟨#[105, 100, 108, 101, 32, 45, 32, 45, 32, 51]⟩ w' (by decide) (hW.from_ hf).tabs (hW.from_ hf).names
    have e := parse_some parse_1
    rw [show (⟨#[105, 100, 108, 101, 32, 45, 32, 45, 32, 51]⟩ : ByteArray).data.toList = [105, 100, 108, 101, 32, 45, 32, 45, 32, 51] from rfl, e.1, e.2] at h; exact h
  have H4 : Hid (∀ w', From w w' → Calls Tryz.prog 19 #[.string ⟨#[105, 100, 108, 101, 32, 45, 49, 32, 45, 32, 51]⟩] w' fun e w'' => e = .returned (.tuple #[.agg #[.int .i64 0, .int .i64 0, .int .i64 0, .int .i64 0], .bool false]) ∧ Below w'.heap.size w' w'') := fun w' hf => by
    have h := lparse_any ⟨#[105, 100, 108, 101, 32, 45, 49, 32, 45, 32, 51]⟩ w' (by decide) (hW.from_ hf).tabs (hW.from_ hf).names
    have e := parse_none parse_2
    rw [show (⟨#[105, 100, 108, 101, 32, 45, 49, 32, 45, 32, 51]⟩ : ByteArray).data.toList = [105, 100, 108, 101, 32, 45, 49, 32, 45, 32, 51] from rfl, e.1, e.2] at h; exact h
  have H5 : Hid (∀ w', From w w' → Calls Tryz.prog 21 #[.string ⟨#[119, 97, 105, 116, 115, 32, 49, 32, 50, 32, 51, 44, 32, 105, 100, 108, 101, 32, 45, 32, 45, 32, 51]⟩] w' fun e w'' => ∃ v, e = .returned (.tuple #[v, .bool true]) ∧ kDec.Own w'.heap.size w'' v [⟨9, 1, 2, 3⟩, ⟨4, -1, -1, 3⟩] ∧ Below w'.heap.size w' w'') := fun w' hf => by
    have h := lread_any (str readText) w' (by decide) (hW.from_ hf).tabs (hW.from_ hf).names
    have e : readD readText = [⟨9, 1, 2, 3⟩, ⟨4, -1, -1, 3⟩] ∧ readB readText = true := by unfold readD readB; rw [read_1]; exact ⟨rfl, rfl⟩
    rw [show (str readText).data.toList = readText from rfl, e.1, e.2] at h; exact h
  have H6 : Hid (∀ w', From w w' → Calls Tryz.prog 24 #[.slice none 0 0, .nilIface] w' fun e w'' => e = .returned (.string ⟨#[110, 111, 110, 101]⟩) ∧ Below w'.heap.size w' w'') := fun w' hf => lanswer_any (.slice none 0 0) [] w' (by simp) (Kin.Own.nil kDec 0 w').at_ (hW.from_ hf).tabs (hW.from_ hf).names
  have H7 : Hid (∀ w', From w w' → Calls Tryz.prog 24 #[.slice none 0 0, .iface 113 (.agg #[.int .i64 7, .int .i64 1])] w' fun e w'' => e = .returned (.string ⟨#[101, 114, 114, 111, 114, 32, 102, 117, 108, 108]⟩) ∧ Below w'.heap.size w' w'') := fun w' hf => lanswer_err (.slice none 0 0) (.fault 7 1) w' (hW.from_ hf).err (hW.from_ hf).codes
  have H8 : Hid (∀ w' v, kDec.At w' v [⟨9, 1, 2, 3⟩, ⟨4, -1, -1, 3⟩] → Calls Tryz.prog 26 #[v, .int .i64 4] w' fun e w'' => e = .returned (.int .i64 1) ∧ Below w'.heap.size w' w'') := fun w' v h => count_any v _ 4 w' (by simp) h
  have H9 : Hid (∀ w' v, kDec.At w' v [⟨9, 1, 2, 3⟩, ⟨4, -1, -1, 3⟩] → Calls Tryz.prog 27 #[v, .int .i64 1] w' fun e w'' => ∃ v', e = .returned v' ∧ kDec.Own w'.heap.size w'' v' [⟨9, 1, 2, 3⟩] ∧ Below w'.heap.size w' w'') := fun w' v h => about_any v _ 1 w' (by simp) h
  have H10 : Hid (∀ w', From w w' → Calls Tryz.prog 15 #[.int .i64 12] w' fun e w'' => e = .returned (.string ⟨#[]⟩) ∧ w' = w'') := fun w' hf => lname_any 12 w' (hW.from_ hf).names
  have HN := Lib.hid faultNew_any
  have HE := eqlDec ⟨4, -1, -1, 3⟩ ⟨4, -1, -1, 3⟩
  rw [show decB ⟨4, -1, -1, 3⟩ ⟨4, -1, -1, 3⟩ = true from rfl] at HE
  have F0 := From.refl w
  clear hW
  go_enter Tryz.func14, Tryz.ntmps14
  go_wp2_with fail
  refine (H1.out _ F0).mono ?_
  rintro e w1 ⟨rfl, hb⟩
  have F1 := F0.step hb
  clear hb
  go_wp2_with fail
  refine (H2.out _ F1).mono ?_
  rintro e w2 ⟨rfl, hb⟩
  have F2 := F1.step hb
  clear hb
  go_wp2_with fail
  refine (H3.out _ F2).mono ?_
  rintro e w3 ⟨rfl, hb⟩
  have F3 := F2.step hb
  clear hb
  go_wp2_with fail
  refine calls_named fun W3 hW3 => ?_
  have FA : From w W3 := by rw [hW3]; exact F3.alloc _
  have n0 : W3.cell? ⟨w3.heap.size, 0, none⟩ = some (.int .i64 4) := by rw [hW3]; go_simp
  have n1 : W3.cell? ⟨w3.heap.size, 1, none⟩ = some (.int .i64 (-1)) := by rw [hW3]; go_simp
  have n2 : W3.cell? ⟨w3.heap.size, 2, none⟩ = some (.int .i64 (-1)) := by rw [hW3]; go_simp
  have n3 : W3.cell? ⟨w3.heap.size, 3, none⟩ = some (.int .i64 3) := by rw [hW3]; go_simp
  clear hW3
  refine (H4.out _ FA).mono ?_
  rintro e w4 ⟨rfl, hb⟩
  have FB : From W3 w4 := ⟨hb⟩
  clear hb
  go_wp2_with fail
  refine calls_named fun W4 hW4 => ?_
  have FC : From W3 W4 := by rw [hW4]; exact FB.alloc _
  clear hW4
  refine (H5.out _ (FA.trans FC)).mono ?_
  rintro e w5 ⟨v, rfl, hown, hb⟩
  have FD : From W3 w5 := FC.step hb
  have m0 := FD.cell n0
  have m1 := FD.cell n1
  have m2 := FD.cell n2
  have m3 := FD.cell n3
  have hat := hown.at_
  have F5 := FA.trans FD
  obtain ⟨ao, co, rfl⟩ := hown.shape
  clear hb hown n0 n1 n2 n3
  have HA := Lib.hid hat
  clear hat
  simp only [List.length_cons, List.length_nil, Nat.zero_add, Nat.reduceAdd]
  go_wp2_with fail
  refine (H6.out _ F5).mono ?_
  rintro e w6 ⟨rfl, hb⟩
  have G6 : From w5 w6 := ⟨hb⟩
  clear hb
  go_wp2_with fail
  refine (HN.out 7 1 _).mono ?_
  rintro e w7 ⟨rfl, rfl⟩
  go_wp2_with fail
  refine (H7.out _ (F5.trans G6)).mono ?_
  rintro e w8 ⟨rfl, hb⟩
  have G8 := G6.step hb
  clear hb
  go_wp2_with fail
  refine (H8.out _ _ (HA.out.below G8.out)).mono ?_
  rintro e w9 ⟨rfl, hb⟩
  have G9 := G8.step hb
  clear hb
  go_wp2_with fail
  refine (H9.out _ _ (HA.out.below G9.out)).mono ?_
  rintro e w10 ⟨v', rfl, hown, hb⟩
  have G10 := G9.step hb
  obtain ⟨ao', co', rfl⟩ := hown.shape
  clear hb hown
  simp only [List.length_cons, List.length_nil, Nat.zero_add]
  go_wp2_with fail
  refine (H10.out _ (F5.trans G10)).mono ?_
  rintro e w11 ⟨rfl, rfl⟩
  go_wp2
  go_ret
  exact ⟨rfl, (F5.trans G10).out⟩
end Go.Proofs.YtdclokpoeaehlaaGreatDoor
/- hammockref24.About. -/
namespace Go.Proofs.YtdclokpoeaehlaaGreatDoor
set_option linter.all false
open Go.RowKit

def raboutB (id : Int) (d : Dec) : Bool := d.id == id && d.kind != 1 && d.kind != 4 && d.kind != 11
theorem raboutB_eq (id : Int) : raboutB id = aboutB id := by
  funext d
  unfold raboutB aboutB
  cases d.id == id <;> cases d.kind != 1 <;> cases d.kind != 4 <;> cases d.kind != 11 <;> rfl
set_option maxHeartbeats 4000000 in
set_option maxRecDepth 100000 in
theorem rabout_some (id : Int) (b off cap : Nat) (ds : List Dec) (w : World) (hx : ds.length * 32 ≤ 140737488351232) (hb : b < w.heap.size)
    (hc : ∀ j, j < ds.length → DecCells w b (off + j * 4) (decAt ds j)) :
    Calls Tryz.prog 28 #[.slice (some ⟨b, off, none⟩) ds.length cap, .int .i64 id] w fun e w' => ∃ v, e = .returned v ∧ kDec.Own w.heap.size w' v (ds.filter (raboutB id)) ∧ Below w.heap.size w w' := by
  obtain ⟨l, hl⟩ : ∃ n, n = ds.length := ⟨_, rfl⟩
  rw [← hl] at hx ⊢
  have HL := Lib.hid hl; clear hl
  have HC := Lib.hid hc; clear hc
  go_enter Tryz.func28, Tryz.ntmps28
  go_wp2
  go_loopw [5, 6] (fun v i wr => ∃ k : Nat, k ≤ l ∧ i = .int .i64 k ∧ kDec.Own w.heap.size wr v ((ds.take k).filter (raboutB id)) ∧ From w wr) (fun _ i _ => l - (intOf i).toNat)
  case atStart => exact ⟨0, Nat.zero_le _, rfl, Kin.Own.nil _ _ _, From.refl _⟩
  case round =>
    obtain ⟨k, hk, rfl, hown, hfw⟩ := hrel
    by_cases hlt : k < l
    · have hcc := (HC.out k (by rw [← HL.out]; exact hlt)).below hfw.out hb
      have hst := take_filt (ds := ds) (k := k) (raboutB id) (by rw [← HL.out]; exact hlt)
      have hle : ((ds.take k).filter (raboutB id)).length ≤ k := Nat.le_trans (List.length_filter_le _ _) (by simp; omega)
      generalize decAt ds k = x at *
      obtain ⟨p0, p1, p2, p3⟩ := hcc
      have hki : (0 : Int) ≤ (k : Int) := by omega
      have hkl : (k : Int) < (l : Int) := by omega
      have hsz := hfw.out.size
      obtain ⟨ao, co, rfl⟩ := hown.shape
      have HOWN := Lib.hid hown; clear hown
      generalize List.filter (raboutB id) (List.take k ds) = F at *
      cases hd0 : raboutB id x
      · have hst' : (ds.take (k + 1)).filter (raboutB id) = F := by rw [hst]; simp [hd0]
        have HST := Lib.hid hst'; clear hst hst'
        unfold raboutB at hd0
        cases h1 : (x.id == id)
        · clear hd0
          go_wp2
          go_roundw
          case rel => exact ⟨k + 1, by omega, by go_num, by rw [HST.out]; exact HOWN.out, hfw⟩
          case measure => simp [intOf]; omega
        · cases h2 : (x.kind != 1)
          · clear hd0
            go_wp2
            go_roundw
            case rel => exact ⟨k + 1, by omega, by go_num, by rw [HST.out]; exact HOWN.out, hfw⟩
            case measure => simp [intOf]; omega
          · cases h3 : (x.kind != 4)
            · clear hd0
              go_wp2
              go_roundw
              case rel => exact ⟨k + 1, by omega, by go_num, by rw [HST.out]; exact HOWN.out, hfw⟩
              case measure => simp [intOf]; omega
            · have h4 : (x.kind != 11) = false := by rw [h1, h2, h3] at hd0; simpa using hd0
              clear hd0
              go_wp2
              go_roundw
              case rel => exact ⟨k + 1, by omega, by go_num, by rw [HST.out]; exact HOWN.out, hfw⟩
              case measure => simp [intOf]; omega
      · have hst' : (ds.take (k + 1)).filter (raboutB id) = F ++ [x] := by rw [hst]; simp [hd0]
        have HST := Lib.hid hst'; clear hst hst'
        unfold raboutB at hd0
        simp only [Bool.and_eq_true] at hd0
        obtain ⟨⟨⟨h1, h2⟩, h3⟩, h4⟩ := hd0
        have hOW : kDec.Own w.heap.size (wr.alloc (.cells #[.int .i64 x.kind, .int .i64 x.id, .int .i64 x.node, .int .i64 x.at_] 23)) (.slice ao F.length co) F := HOWN.out.alloc _
        have HOW := Lib.hid hOW; clear hOW
        go_wp2_with (at_builtin; go_must (refine Kin.append1 kDec rfl _ _ rfl w.heap.size _ F rfl HOW.out wr.heap.size x rfl (cells4_of (by go_simp) (by go_simp) (by go_simp) (by go_simp)) (by unfold maxLen; omega) (by show _ * 32 ≤ _; omega) (by first | (simp; done) | (simp; omega)) ?_; intro v' w3 hown' hbel hgrow; obtain ⟨a2, c2, rfl⟩ := hown'.shape; have HO2 := Lib.hid hown'; clear hown'))
        go_roundw
        case rel => exact ⟨k + 1, by omega, by go_num, by rw [HST.out]; have h := HO2.out; rw [List.length_append] at h; exact h, ⟨hfw.out.trans (((Below.refl _ _).alloc (by omega) _).trans hbel)⟩⟩
        case measure => simp [intOf]; omega
    · have he : k = l := by omega
      have hfin : Hid ((ds.take k).filter (raboutB id) = ds.filter (raboutB id)) := by rw [he, HL.out, List.take_length]; rfl
      obtain ⟨ao, co, rfl⟩ := hown.shape
      have HOWN := Lib.hid hown; clear hown
      generalize (List.filter (raboutB id) (List.take k ds)).length = m at *
      go_wp2
      go_ret
      exact ⟨_, rfl, by rw [← hfin.out]; exact HOWN.out, hfw.out⟩
set_option maxRecDepth 100000 in
theorem rabout_none (id : Int) (a : Option Addr) (cap : Nat) (w : World) :
    Calls Tryz.prog 28 #[.slice a 0 cap, .int .i64 id] w fun e w' => e = .returned (.slice none 0 0) ∧ w = w' := by
  go_enter Tryz.func28, Tryz.ntmps28
  go_wp2
  refine wp_loop_rounds 1 ?_
  rw [rounds_succ]
  go_wp2
  go_ret
  exact ⟨rfl, rfl⟩
theorem rabout_any (v : Value) (ds : List Dec) (id : Int) (w : World) (hx : ds.length * 32 ≤ 140737488351232) (h : kDec.At w v ds) :
    Calls Tryz.prog 28 #[v, .int .i64 id] w fun e w' => ∃ v, e = .returned v ∧ kDec.Own w.heap.size w' v (ds.filter (aboutB id)) ∧ Below w.heap.size w w' := by
  rw [← raboutB_eq]
  obtain ⟨a, cap, rfl, rfl | ⟨b, off, rfl, hlt, hc⟩⟩ := h
  · exact (rabout_none id a cap w).mono fun e w' ⟨he, hw⟩ => ⟨_, he, Kin.Own.nil _ _ _, hw ▸ Below.refl _ _⟩
  · exact rabout_some id b off cap ds w hx hlt (decs_cells hc)
end Go.Proofs.YtdclokpoeaehlaaGreatDoor
/- LogCounts, LogParses, LogAnswers: the walks. -/
namespace Go.Proofs.YtdclokpoeaehlaaGreatDoor
set_option linter.all false
open Go.RowKit

theorem sameD_refl (ds : List Dec) : sameD ds ds = true := by unfold sameD; exact decide_eq_true rfl
set_option maxHeartbeats 4000000 in
set_option maxRecDepth 100000 in
theorem logCounts_walk (v : Value) (ds : List Dec) (kind id : Int) (w : World) (hx : ds.length * 32 ≤ 140737488351232) (h : kDec.At w v ds) (hW : LogW w) :
    Calls Tryz.prog 6 #[v, .int .i64 kind, .int .i64 id] w fun e w' => e = .returned (.bool true) ∧ Below w.heap.size w w' := by
  have HA : Hid (∀ w', From w w' → Calls Tryz.prog 14 #[] w' fun r w'' => r = .returned (.bool true) ∧ Below w'.heap.size w' w'') := fun w' hf => awake24_any w' (hW.from_ hf)
  have HCt : Hid (∀ w', From w w' → Calls Tryz.prog 26 #[v, .int .i64 kind] w' fun e w'' => e = .returned (.int .i64 ((ds.filter (countB kind)).length : Int)) ∧ Below w'.heap.size w' w'') := fun w' hf => count_any v ds kind w' hx (h.below hf.out)
  have HAb : Hid (∀ w', From w w' → Calls Tryz.prog 27 #[v, .int .i64 id] w' fun e w'' => ∃ v', e = .returned v' ∧ kDec.Own w'.heap.size w'' v' (ds.filter (aboutB id)) ∧ Below w'.heap.size w' w'') := fun w' hf => about_any v ds id w' hx (h.below hf.out)
  have HRa : Hid (∀ w', From w w' → Calls Tryz.prog 28 #[v, .int .i64 id] w' fun e w'' => ∃ v', e = .returned v' ∧ kDec.Own w'.heap.size w'' v' (ds.filter (aboutB id)) ∧ Below w'.heap.size w' w'') := fun w' hf => rabout_any v ds id w' hx (h.below hf.out)
  have hfl : (ds.filter (aboutB id)).length ≤ ds.length := List.length_filter_le _ _
  have HS : Hid (∀ w' u u', kDec.At w' u (ds.filter (aboutB id)) → kDec.At w' u' (ds.filter (aboutB id)) → Calls Tryz.prog 23 #[u, u'] w' fun e w'' => e = .returned (.bool true) ∧ Below w'.heap.size w' w'') := fun w' u u' h1 h2 => by
    have h3 := sameD_any u u' _ _ w' (by omega) h1 h2
    rw [sameD_refl] at h3; exact h3
  have F0 := From.refl w
  obtain ⟨a, cap, rfl, hcs⟩ := h
  have hfc : ∀ k, k ≤ ds.length → ((ds.take k).filter (countB kind)).length ≤ k := fun k hk => Nat.le_trans (List.length_filter_le _ _) (by simp; omega)
  have HFC := Lib.hid hfc
  clear hfc hW
  by_cases h100 : 100 < ds.length
  · obtain ⟨l, hl⟩ : ∃ n, n = ds.length := ⟨_, rfl⟩
    rw [← hl] at h100 hx ⊢
    clear hcs hl hfl HFC HCt HAb HRa HS
    go_enter Tryz.func6, Tryz.ntmps6
    go_wp2_with fail
    refine (HA.out _ F0).mono ?_
    rintro e w1 ⟨rfl, hb⟩
    have F1 := F0.step hb
    clear hb
    go_wp2_with fail
    refine (HA.out _ F1).mono ?_
    rintro e w2 ⟨rfl, hb⟩
    have F2 := F1.step hb
    clear hb
    go_wp2
    go_ret
    exact ⟨rfl, F2.out⟩
  have h100' : ds.length ≤ 100 := by omega
  clear h100
  have HD : Hid (∀ j, j < ds.length → ∃ b off, a = some ⟨b, off, none⟩ ∧ DecCells w b (off + j * 4) (decAt ds j)) := fun j hj => by
    rcases hcs with rfl | ⟨b, off, rfl, hlt, hc⟩
    · simp at hj
    · exact ⟨b, off, rfl, decs_cells hc j hj⟩
  clear hcs
  obtain ⟨l, hl⟩ : ∃ n, n = ds.length := ⟨_, rfl⟩
  rw [← hl] at h100' hx HCt HAb HRa hfl ⊢
  have HL := Lib.hid hl
  clear hl hfl
  go_enter Tryz.func6, Tryz.ntmps6
  go_wp2_with fail
  refine (HA.out _ F0).mono ?_
  rintro e w1 ⟨rfl, hb⟩
  have F1 := F0.step hb
  clear hb
  go_wp2
  go_loop [7, 8] (fun n i => ∃ k : Nat, k ≤ l ∧ i = .int .i64 k ∧ n = .int .i64 ((((ds.take k).filter (countB kind)).length : Nat) : Int)) (fun _ i => l - (intOf i).toNat)
  case atStart => exact ⟨0, Nat.zero_le _, rfl, rfl⟩
  case round =>
    obtain ⟨k, hk, rfl, rfl⟩ := hrel
    have hle := HFC.out k (by rw [← HL.out]; exact hk)
    by_cases hlt : k < l
    · obtain ⟨b, off, rfl, hcc⟩ := HD.out k (by rw [← HL.out]; exact hlt)
      have hst := congrArg List.length (take_filt (ds := ds) (k := k) (countB kind) (by rw [← HL.out]; exact hlt))
      rw [List.length_append] at hst
      generalize decAt ds k = x at *
      have p0 := F1.cell hcc.1
      clear hcc
      have hki : (0 : Int) ≤ (k : Int) := by omega
      have hkl : (k : Int) < (l : Int) := by omega
      generalize ((ds.take k).filter (countB kind)).length = m at *
      cases hd : (x.kind == kind)
      · have hst' : ((ds.take (k + 1)).filter (countB kind)).length = m := by
          rw [hst]; simp [countB, hd]
        have HST := Lib.hid hst'
        clear hst hst'
        go_wp2
        go_round
        case rel => exact ⟨k + 1, by omega, by go_num, by rw [HST.out]⟩
        case measure => simp [intOf]; omega
      · have hst' : ((ds.take (k + 1)).filter (countB kind)).length = m + 1 := by
          rw [hst]; simp [countB, hd]
        have HST := Lib.hid hst'
        clear hst hst'
        go_wp2
        go_round
        case rel => exact ⟨k + 1, by omega, by go_num, by rw [HST.out]; go_num⟩
        case measure => simp [intOf]; omega
    · have he : k = l := by omega
      have hfin : ((ds.take k).filter (countB kind)).length = (ds.filter (countB kind)).length := by rw [he, HL.out, List.take_length]
      rw [hfin]
      obtain ⟨m, hm⟩ : ∃ m : Nat, m = (ds.filter (countB kind)).length := ⟨_, rfl⟩
      rw [← hm] at HCt ⊢
      clear hfin hm he hle
      go_wp2_with fail
      refine (HCt.out _ F1).mono ?_
      rintro e w2 ⟨rfl, hb⟩
      have F2 := F1.step hb
      clear hb
      go_wp2_with fail
      refine (HAb.out _ F2).mono ?_
      rintro e w3 ⟨u, rfl, hown, hb⟩
      have F3 := F2.step hb
      have HO := Lib.hid hown.at_
      clear hb hown
      go_wp2_with fail
      refine (HRa.out _ F3).mono ?_
      rintro e w4 ⟨u', rfl, hown, hb⟩
      have F4 := F3.step hb
      have HO2 := Lib.hid hown.at_
      have HO3 := Lib.hid (HO.out.below hb)
      clear hb hown
      go_wp2_with fail
      refine (HS.out _ _ _ HO3.out HO2.out).mono ?_
      rintro e w5 ⟨rfl, hb⟩
      have F5 := F4.step hb
      clear hb
      go_wp2
      go_ret
      exact ⟨rfl, F5.out⟩
end Go.Proofs.YtdclokpoeaehlaaGreatDoor
/- LogParses, LogAnswers: the walks. -/
namespace Go.Proofs.YtdclokpoeaehlaaGreatDoor
set_option linter.all false
open Go.RowKit

theorem dparses_len : ∀ (xs : List (List UInt8)) (ds : List Dec), dparses xs = some ds → ds.length = xs.length
  | [], ds, h => by simp only [dparses, Option.some.injEq] at h; subst h; rfl
  | x :: r, ds, h => by
    simp only [dparses] at h
    split at h
    · cases hr : dparses r with
      | none => rw [hr] at h; cases h
      | some rs =>
        rw [hr] at h
        simp only [Option.map_some, Option.some.injEq] at h
        subst h
        simp [dparses_len r rs hr]
    · cases h
theorem read_len (s : ByteArray) (hs : s.size ≤ 1000) : (readD s.data.toList).length ≤ 1001 := by
  unfold readD dread
  split
  · simp
  · cases h : dparses (Lib.split s.data.toList [44, 32]) with
    | none => simp
    | some ds =>
      have h1 := dparses_len _ _ h
      have h2 := splits_len s [44, 32] (by simp)
      simp only [Option.getD_some]
      omega
set_option maxHeartbeats 4000000 in
set_option maxRecDepth 100000 in
theorem logParses_walk (s : ByteArray) (w : World) (hW : LogW w) :
    Calls Tryz.prog 4 #[.string s] w fun e w' => e = .returned (.bool true) ∧ Below w.heap.size w w' := by
  have HA : Hid (∀ w', From w w' → Calls Tryz.prog 14 #[] w' fun r w'' => r = .returned (.bool true) ∧ Below w'.heap.size w' w'') := fun w' hf => awake24_any w' (hW.from_ hf)
  have F0 := From.refl w
  by_cases h1000 : 1000 < s.size
  · clear hW
    go_enter Tryz.func4, Tryz.ntmps4
    go_wp2_with fail
    refine (HA.out _ F0).mono ?_
    rintro e w1 ⟨rfl, hb⟩
    have F1 := F0.step hb
    clear hb
    go_wp2_with fail
    refine (HA.out _ F1).mono ?_
    rintro e w2 ⟨rfl, hb⟩
    have F2 := F1.step hb
    clear hb
    go_wp2
    go_ret
    exact ⟨rfl, F2.out⟩
  have hs : s.size ≤ 1000 := by omega
  have H1 : Hid (∀ w', From w w' → Calls Tryz.prog 19 #[.string s] w' fun e w'' => e = .returned (.tuple #[decV (parseD s.data.toList), .bool (parseB s.data.toList)]) ∧ Below w'.heap.size w' w'') := fun w' hf => lparse_any s w' (by omega) (hW.from_ hf).tabs (hW.from_ hf).names
  have H2 : Hid (∀ w', Calls Tryz.prog 20 #[.string s] w' fun e w'' => e = .returned (.tuple #[decV (parseD s.data.toList), .bool (parseB s.data.toList)]) ∧ Below w'.heap.size w' w'') := fun w' => rparse_any s w' (by omega)
  have H3 : Hid (∀ w', From w w' → Calls Tryz.prog 21 #[.string s] w' fun e w'' => ∃ v, e = .returned (.tuple #[v, .bool (readB s.data.toList)]) ∧ kDec.Own w'.heap.size w'' v (readD s.data.toList) ∧ Below w'.heap.size w' w'') := fun w' hf => lread_any s w' (by omega) (hW.from_ hf).tabs (hW.from_ hf).names
  have H4 : Hid (∀ w', Calls Tryz.prog 22 #[.string s] w' fun e w'' => ∃ v, e = .returned (.tuple #[v, .bool (readB s.data.toList)]) ∧ kDec.Own w'.heap.size w'' v (readD s.data.toList) ∧ Below w'.heap.size w' w'') := fun w' => rread_any s w' (by omega)
  have hrl : (readD s.data.toList).length ≤ 1001 := read_len s hs
  have HS : Hid (∀ w' u u', kDec.At w' u (readD s.data.toList) → kDec.At w' u' (readD s.data.toList) → Calls Tryz.prog 23 #[u, u'] w' fun e w'' => e = .returned (.bool true) ∧ Below w'.heap.size w' w'') := fun w' u u' h1 h2 => by
    have h3 := sameD_any u u' _ _ w' (by omega) h1 h2
    rw [sameD_refl] at h3; exact h3
  have HE := eqlDec (parseD s.data.toList) (parseD s.data.toList)
  rw [(decB_iff _ _).2 rfl] at HE
  generalize parseD s.data.toList = d at *
  generalize parseB s.data.toList = pb at *
  generalize readD s.data.toList = rd at *
  generalize readB s.data.toList = rb at *
  clear hW h1000 hrl
  go_enter Tryz.func4, Tryz.ntmps4
  go_wp2_with fail
  refine (HA.out _ F0).mono ?_
  rintro e w1 ⟨rfl, hb⟩
  have F1 := F0.step hb
  clear hb
  go_wp2_with fail
  refine (H1.out _ F1).mono ?_
  rintro e w2 ⟨rfl, hb⟩
  have F2 := F1.step hb
  clear hb
  go_wp2_with fail
  refine calls_named fun W2 hW2 => ?_
  have G2 : From w W2 := by rw [hW2]; exact F2.alloc _
  have n0 : W2.cell? ⟨w2.heap.size, 0, none⟩ = some (.int .i64 d.kind) := by rw [hW2]; go_simp
  have n1 : W2.cell? ⟨w2.heap.size, 1, none⟩ = some (.int .i64 d.id) := by rw [hW2]; go_simp
  have n2 : W2.cell? ⟨w2.heap.size, 2, none⟩ = some (.int .i64 d.node) := by rw [hW2]; go_simp
  have n3 : W2.cell? ⟨w2.heap.size, 3, none⟩ = some (.int .i64 d.at_) := by rw [hW2]; go_simp
  clear hW2
  refine (H2.out W2).mono ?_
  rintro e w3 ⟨rfl, hb⟩
  have F3 : From W2 w3 := ⟨hb⟩
  clear hb
  go_wp2_with fail
  refine calls_named fun W3 hW3 => ?_
  have G3 : From W2 W3 := by rw [hW3]; exact F3.alloc _
  have p0 : W3.cell? ⟨w3.heap.size, 0, none⟩ = some (.int .i64 d.kind) := by rw [hW3]; go_simp
  have p1 : W3.cell? ⟨w3.heap.size, 1, none⟩ = some (.int .i64 d.id) := by rw [hW3]; go_simp
  have p2 : W3.cell? ⟨w3.heap.size, 2, none⟩ = some (.int .i64 d.node) := by rw [hW3]; go_simp
  have p3 : W3.cell? ⟨w3.heap.size, 3, none⟩ = some (.int .i64 d.at_) := by rw [hW3]; go_simp
  have m0 := G3.cell n0
  have m1 := G3.cell n1
  have m2 := G3.cell n2
  have m3 := G3.cell n3
  clear hW3 n0 n1 n2 n3
  refine (H3.out W3 (G2.trans G3)).mono ?_
  rintro e w4 ⟨u, rfl, hown, hb⟩
  have F4 : From W3 w4 := ⟨hb⟩
  have HO := Lib.hid hown.at_
  clear hb hown
  go_wp2_with fail
  refine (H4.out w4).mono ?_
  rintro e w5 ⟨u', rfl, hown, hb⟩
  have F5 := F4.step hb
  have HO2 := Lib.hid hown.at_
  have HO3 := Lib.hid (HO.out.below hb)
  have k0 := F5.cell m0
  have k1 := F5.cell m1
  have k2 := F5.cell m2
  have k3 := F5.cell m3
  have j0 := F5.cell p0
  have j1 := F5.cell p1
  have j2 := F5.cell p2
  have j3 := F5.cell p3
  clear hb hown m0 m1 m2 m3 p0 p1 p2 p3 HO
  go_wp2_with fail
  refine (HS.out _ _ _ HO3.out HO2.out).mono ?_
  rintro e w6 ⟨rfl, hb⟩
  have F6 := F5.step hb
  clear hb k0 k1 k2 k3 j0 j1 j2 j3
  go_wp2
  go_ret
  exact ⟨by simp, ((G2.trans G3).trans F6).out⟩
theorem danswer_len (ds : List Dec) (h : ds.length ≤ 100) : (danswer ds).length ≤ 20000 := by
  rw [danswer_lines]
  split
  · decide
  · refine Nat.le_trans (join_len _ 100 _ (linesOf_le _)) ?_
    have := Nat.mul_le_mul_right (100 + [44, 32].length (α := UInt8)) (linesOf_len ds)
    simp at this ⊢
    omega
set_option maxHeartbeats 4000000 in
set_option maxRecDepth 100000 in
theorem logAnswers_walk (v : Value) (ds : List Dec) (w : World) (hx : ds.length * 32 ≤ 140737488351232) (h : kDec.At w v ds) (hW : LogW w) :
    Calls Tryz.prog 5 #[v] w fun e w' => e = .returned (.bool true) ∧ Below w.heap.size w w' := by
  have HA : Hid (∀ w', From w w' → Calls Tryz.prog 14 #[] w' fun r w'' => r = .returned (.bool true) ∧ Below w'.heap.size w' w'') := fun w' hf => awake24_any w' (hW.from_ hf)
  have F0 := From.refl w
  by_cases h100 : 100 < ds.length
  · obtain ⟨a, cap, rfl, hcs⟩ := h
    obtain ⟨l, hl⟩ : ∃ n, n = ds.length := ⟨_, rfl⟩
    rw [← hl] at h100 hx ⊢
    clear hcs hl hW
    go_enter Tryz.func5, Tryz.ntmps5
    go_wp2_with fail
    refine (HA.out _ F0).mono ?_
    rintro e w1 ⟨rfl, hb⟩
    have F1 := F0.step hb
    clear hb
    go_wp2_with fail
    refine (HA.out _ F1).mono ?_
    rintro e w2 ⟨rfl, hb⟩
    have F2 := F1.step hb
    clear hb
    go_wp2
    go_ret
    exact ⟨rfl, F2.out⟩
  have h100' : ds.length ≤ 100 := by omega
  clear h100
  have HAn : Hid (∀ w', From w w' → Calls Tryz.prog 24 #[v, .nilIface] w' fun e w'' => e = .returned (.string (str (danswer ds))) ∧ Below w'.heap.size w' w'') := fun w' hf => lanswer_any v ds w' (by omega) (h.below hf.out) (hW.from_ hf).tabs (hW.from_ hf).names
  have HRn : Hid (∀ w', From w w' → Calls Tryz.prog 25 #[v] w' fun e w'' => e = .returned (.string (str (danswer ds))) ∧ Below w'.heap.size w' w'') := fun w' hf => ranswer_any v ds w' (by omega) (h.below hf.out)
  have hal := danswer_len ds h100'
  have HRd : Hid (∀ w', From w w' → Calls Tryz.prog 21 #[.string (str (danswer ds))] w' fun e w'' => ∃ v, e = .returned (.tuple #[v, .bool true]) ∧ kDec.Own w'.heap.size w'' v (ds.filter lined) ∧ Below w'.heap.size w' w'') := fun w' hf => by
    have h1 := lread_any (str (danswer ds)) w' (by rw [str_size]; omega) (hW.from_ hf).tabs (hW.from_ hf).names
    have e : readD (danswer ds) = ds.filter lined ∧ readB (danswer ds) = true := by unfold readD readB; rw [dread_answer]; exact ⟨rfl, rfl⟩
    rw [show (str (danswer ds)).data.toList = danswer ds from rfl, e.1, e.2] at h1; exact h1
  have hfl : (ds.filter lined).length ≤ ds.length := List.length_filter_le _ _
  have HS : Hid (∀ w' u u', kDec.At w' u (ds.filter lined) → kDec.At w' u' (ds.filter lined) → Calls Tryz.prog 23 #[u, u'] w' fun e w'' => e = .returned (.bool true) ∧ Below w'.heap.size w' w'') := fun w' u u' h1 h2 => by
    have h3 := sameD_any u u' _ _ w' (by omega) h1 h2
    rw [sameD_refl] at h3; exact h3
  obtain ⟨a, cap, rfl, hcs⟩ := h
  have HD : Hid (∀ j, j < ds.length → ∃ b off, a = some ⟨b, off, none⟩ ∧ DecCells w b (off + j * 4) (decAt ds j)) := fun j hj => by
    rcases hcs with rfl | ⟨b, off, rfl, hlt, hc⟩
    · simp at hj
    · exact ⟨b, off, rfl, decs_cells hc j hj⟩
  clear hcs hW
  generalize danswer ds = sa at *
  obtain ⟨l, hl⟩ : ∃ n, n = ds.length := ⟨_, rfl⟩
  rw [← hl] at h100' hx HAn HRn hfl ⊢
  have HL := Lib.hid hl
  clear hl hfl
  go_enter Tryz.func5, Tryz.ntmps5
  go_wp2_with fail
  refine (HA.out _ F0).mono ?_
  rintro e w1 ⟨rfl, hb⟩
  have F1 := F0.step hb
  clear hb
  go_wp2_with fail
  refine (HAn.out _ F1).mono ?_
  rintro e w2 ⟨rfl, hb⟩
  have F2 := F1.step hb
  clear hb F1
  go_wp2
  go_loopw [4, 5] (fun v i wr => ∃ k : Nat, k ≤ l ∧ i = .int .i64 k ∧ kDec.Own w2.heap.size wr v ((ds.take k).filter lined) ∧ From w2 wr) (fun _ i _ => l - (intOf i).toNat)
  case atStart => exact ⟨0, Nat.zero_le _, rfl, Kin.Own.nil _ _ _, From.refl _⟩
  case round =>
    obtain ⟨k, hk, rfl, hown, hfw⟩ := hrel
    have hsz := hfw.out.size
    by_cases hlt : k < l
    · obtain ⟨b, off, rfl, hcc⟩ := HD.out k (by rw [← HL.out]; exact hlt)
      have hst := take_filt (ds := ds) (k := k) lined (by rw [← HL.out]; exact hlt)
      have hle : ((ds.take k).filter lined).length ≤ k := Nat.le_trans (List.length_filter_le _ _) (by simp; omega)
      obtain ⟨x, hxx⟩ : ∃ x, x = decAt ds k := ⟨_, rfl⟩
      rw [← hxx] at hcc hst
      clear hxx
      have hF := F2.trans hfw
      have p0 := hF.cell hcc.1
      have p1 := hF.cell hcc.2.1
      have p2 := hF.cell hcc.2.2.1
      have p3 := hF.cell hcc.2.2.2
      clear hcc hF
      have hki : (0 : Int) ≤ (k : Int) := by omega
      have hkl : (k : Int) < (l : Int) := by omega
      obtain ⟨ao, co, rfl⟩ := hown.shape
      have HOWN := Lib.hid hown; clear hown
      have HLN : Hid (∀ w', Calls Tryz.prog 18 #[decV x] w' fun e w'' => e = .returned (.string (str (dline x))) ∧ Below w'.heap.size w' w'') := fun w' => rline_any x w'
      have hli := dline_iff x
      generalize List.filter lined (List.take k ds) = F at *
      generalize dline x = sx at *
      by_cases hsx : sx = []
      · have hd0 : lined x = false := by
          cases h : lined x with
          | false => rfl
          | true => exact absurd hsx (hli.1 h)
        have hst' : (ds.take (k + 1)).filter lined = F := by rw [hst, hd0]; simp
        have hem : (str sx).toList.isEmpty = true := by rw [str_isEmpty, hsx]; rfl
        have HST := Lib.hid hst'
        clear hst hst' hli hd0 hsx
        go_wp2_with fail
        refine (HLN.out _).mono ?_
        rintro e w3 ⟨rfl, hb3⟩
        have F3 : From wr w3 := ⟨hb3⟩
        clear hb3
        go_wp2
        go_roundw
        case rel => exact ⟨k + 1, by omega, by go_num, by rw [HST.out]; exact HOWN.out.below F3.out, hfw.trans F3⟩
        case measure => first | (simp [intOf]; omega) | omega
      · have hd0 : lined x = true := hli.2 hsx
        have hst' : (ds.take (k + 1)).filter lined = F ++ [x] := by rw [hst, hd0]; simp
        have hem : (str sx).toList.isEmpty = false := by rw [str_isEmpty]; cases sx with | nil => exact absurd rfl hsx | cons _ _ => rfl
        have HST := Lib.hid hst'
        clear hst hst' hli hd0 hsx
        go_wp2_with fail
        refine (HLN.out _).mono ?_
        rintro e w3 ⟨rfl, hb3⟩
        have F3 : From wr w3 := ⟨hb3⟩
        have p0' := F3.cell p0
        have p1' := F3.cell p1
        have p2' := F3.cell p2
        have p3' := F3.cell p3
        have hs3 := F3.out.size
        clear hb3 p0 p1 p2 p3
        have hOW : kDec.Own w2.heap.size (w3.alloc (.cells #[.int .i64 x.kind, .int .i64 x.id, .int .i64 x.node, .int .i64 x.at_] 23)) (.slice ao F.length co) F := (HOWN.out.below F3.out).alloc _
        have HOW := Lib.hid hOW; clear hOW
        go_wp2_with (at_builtin; go_must (refine Kin.append1 kDec rfl _ _ rfl w2.heap.size _ F rfl HOW.out w3.heap.size x rfl (cells4_of (by go_simp) (by go_simp) (by go_simp) (by go_simp)) (by unfold maxLen; omega) (by show _ * 32 ≤ _; omega) (by first | (simp; done) | (simp; omega)) ?_; intro v' w4 hown' hbel hgrow; obtain ⟨a2, c2, rfl⟩ := hown'.shape; have HO2 := Lib.hid hown'; clear hown'))
        go_roundw
        case rel => exact ⟨k + 1, by omega, by go_num, by rw [HST.out]; have h := HO2.out; rw [List.length_append] at h; exact h, ⟨(hfw.trans F3).out.trans (((Below.refl _ _).alloc (by omega) _).trans hbel)⟩⟩
        case measure => first | (simp [intOf]; omega) | omega
    · have he : k = l := by omega
      have hfin : (ds.take k).filter lined = ds.filter lined := by rw [he, HL.out, List.take_length]
      rw [hfin] at hown
      have HK := Lib.hid hown.at_
      obtain ⟨ao, co, rfl⟩ := hown.shape
      clear hown hfin he
      generalize (ds.filter lined).length = m at *
      have F3 := F2.trans hfw
      go_wp2_with fail
      refine (HRd.out _ F3).mono ?_
      rintro e w4 ⟨u, rfl, hown, hb⟩
      have F4 := F3.step hb
      have HO := Lib.hid hown.at_
      have HK2 := Lib.hid (HK.out.below hb)
      clear hb hown
      go_wp2_with fail
      refine (HRn.out _ F4).mono ?_
      rintro e w5 ⟨rfl, hb⟩
      have F5 := F4.step hb
      have HO2 := Lib.hid (HO.out.below hb)
      have HK3 := Lib.hid (HK2.out.below hb)
      clear hb
      go_wp2_with fail
      refine (HS.out _ _ _ HO2.out HK3.out).mono ?_
      rintro e w6 ⟨rfl, hb⟩
      have F6 := F5.step hb
      clear hb
      go_wp2
      go_ret
      exact ⟨by simp, F6.out⟩
end Go.Proofs.YtdclokpoeaehlaaGreatDoor
/- LogJoins: the walk. -/
namespace Go.Proofs.YtdclokpoeaehlaaGreatDoor
set_option linter.all false
open Go.RowKit

theorem run_append_none {P : Program} {w : World} {base : Nat} {t ty e : TypeId} {i : TypeInfo} {size c : Nat} (ht : P.underlying t = some (.slice e)) (hi : P.info? e = some i)
    (v : Value) (n : Nat) (xs : List Value) (hown : w.ownsRow base e size v n xs) :
    (Builtin.append_ #[t, t] ty #[v, .slice none 0 c]).run P w = .ok v w := by
  rcases hown.2 with ⟨rfl, rfl⟩ | ⟨g, cap, cur, rfl, _, _, hnc, _⟩
  · simp [Builtin.append_, run_underlying ht, sizeOf, typeInfo, hi, Builtin.lenOf, Builtin.firstCells]
  · simp [Builtin.append_, run_underlying ht, sizeOf, typeInfo, hi, Builtin.lenOf, Builtin.firstCells, hnc, storeCells]
theorem Kin.row_at {α : Type} (k : Kin α) : ∀ (ys : List α) (j : Nat) (u : Value), (k.row ys)[j]? = some u → ∃ q i x, ys[q]? = some x ∧ (k.enc x)[i]? = some u ∧ j = q * k.size + i
  | [], j, u, h => by simp [Kin.row] at h
  | y :: r, j, u, h => by
    simp only [Kin.row] at h
    rcases Nat.lt_or_ge j (k.enc y).length with hj | hj
    · rw [List.getElem?_append_left hj] at h
      exact ⟨0, j, y, rfl, h, by omega⟩
    · rw [List.getElem?_append_right hj] at h
      obtain ⟨q, i, x, h1, h2, h3⟩ := k.row_at r _ u h
      rw [k.len] at h3 hj
      exact ⟨q + 1, i, x, h1, h2, by rw [Nat.succ_mul]; omega⟩
/-- append of all elements of a slice that is read. -/
theorem Kin.appendAll {α : Type} (k : Kin α) {w : World} {ops : Array Oper} {rest : List Oper} {o : Oper} {a : Act} {Q : Exit → Act → World → Prop} (hgd : o.guard = none) (s x : Operand)
    (ho : o.op = .call { callee := .builtin .append, args := #[s, x], argTypes := #[k.t, k.t] }) (base : Nat)
    (v : Value) (xs : List α) (hs : a.eval s = v) (hown : k.Own base w v xs) (xv : Value) (ys : List α) (hx : a.eval x = xv) (hat : k.At w xv ys)
    (hn : xs.length + ys.length ≤ maxLen) (hby : (xs.length + ys.length) * k.bytes ≤ 140737488355328) (hbase : base ≤ w.heap.size)
    (h : ∀ v' w', k.Own base w' v' (xs ++ ys) → Below base w w' → wpList Tryz.prog ops Q rest (a.put o.dst v') w') : wpList Tryz.prog ops Q (o :: rest) a w := by
  obtain ⟨i0, hi, hz0, hz1, hz2⟩ := info_parts k.hi
  have hrowge : ∀ b, v.ownBlock = some b → base ≤ b := fun b hb => (World.ownsRow.lt hown b hb).1
  have hsome : ∀ ad cap, xv = .slice (some ad) ys.length cap → (∀ j u, (k.row ys)[j]? = some u → w.cell? (ad.add j) = some u) → wpList Tryz.prog ops Q (o :: rest) a w := by
    rintro ad cap rfl hc
    refine wpList_append_own w hgd s x k.t ho base k.e i0 k.zero k.size k.bytes k.ht hi hz0 hz1 hz2 k.hz k.pos v xs.length (k.row xs) hs hown ad ys.length cap (k.row ys) hx (k.row_length ys) hc (k.row_one ys) hn hby hbase (fun v' w' h1 h2 _ => ?_)
    refine h v' w' ?_ ((Below.refl _ _).grown h2 hbase hrowge)
    unfold Kin.Own
    rw [k.row_append, List.length_append]; exact h1
  obtain ⟨ax, cap, rfl, rfl | ⟨b, off, rfl, hlt, hc⟩⟩ := hat
  · cases ax with
    | some ad => exact hsome ad cap rfl (fun j u hu => by simp [Kin.row] at hu)
    | none =>
      have hrun := run_append_none (P := Tryz.prog) (w := w) (base := base) (t := k.t) (ty := o.type) (c := cap) k.ht hi v xs.length (k.row xs) hown
      refine wpList_plain hgd fun K hK => ?_
      unfold Oper.wp
      simp only [List.length_nil] at hx
      simp [execOp, ho, resolve, invoke, builtin, hs, hx, hrun, Result.andThen]
      exact hK _ _ (h v w (by rw [List.append_nil]; exact hown) (Below.refl _ _))
  · refine hsome _ cap rfl fun j u hu => ?_
    rw [add_mk]
    obtain ⟨q, i, x0, hx0, hi0, e⟩ := k.row_at ys j u hu
    rw [e, ← Nat.add_assoc]
    exact hc q x0 hx0 i u hi0
theorem joins_eq (a b : List Dec) : (danswer a = sNone → danswer (a ++ b) = danswer b) ∧ (danswer a ≠ sNone → danswer b = sNone → danswer (a ++ b) = danswer a) ∧ (danswer a ≠ sNone → danswer b ≠ sNone → danswer (a ++ b) = danswer a ++ [44, 32] ++ danswer b) := by
  rw [danswer_append]
  refine ⟨fun h => by rw [if_pos h], fun h h' => by rw [if_neg h, if_pos h'], fun h h' => by rw [if_neg h, if_neg h']⟩
theorem strNone (x : List UInt8) : ((str x).toList == [110, 111, 110, 101]) = decide (x = sNone) := by
  rw [ByteArray.toList_eq, Bool.eq_iff_iff, beq_iff_eq, decide_eq_true_eq]
  exact Iff.rfl
set_option maxHeartbeats 4000000 in
set_option maxRecDepth 100000 in
theorem logJoins_far (a b : Option Addr) (ca cb la lb : Nat) (w : World) (h0 : 50 < la ∨ (la ≤ 50 ∧ 50 < lb)) (HA : Hid (∀ w', From w w' → Calls Tryz.prog 14 #[] w' fun r w'' => r = .returned (.bool true) ∧ Below w'.heap.size w' w'')) :
    Calls Tryz.prog 7 #[.slice a la ca, .slice b lb cb] w fun e w' => e = .returned (.bool true) ∧ Below w.heap.size w w' := by
  have F0 := From.refl w
  rcases h0 with h0 | ⟨h0, h1⟩
  all_goals
    go_enter Tryz.func7, Tryz.ntmps7
    go_wp2_with fail
    refine (HA.out _ F0).mono ?_
    rintro e w1 ⟨rfl, hb⟩
    have F1 := F0.step hb
    clear hb
    go_wp2_with fail
    refine (HA.out _ F1).mono ?_
    rintro e w2 ⟨rfl, hb⟩
    have F2 := F1.step hb
    clear hb
    go_wp2
    go_ret
    exact ⟨rfl, F2.out⟩
set_option maxHeartbeats 4000000 in
set_option maxRecDepth 100000 in
theorem logJoins_walk (va vb : Value) (xs ys : List Dec) (w : World) (hx : xs.length * 32 ≤ 140737488351232) (hy : ys.length * 32 ≤ 140737488351232) (ha : kDec.At w va xs) (hb0 : kDec.At w vb ys) (hW : LogW w) :
    Calls Tryz.prog 7 #[va, vb] w fun e w' => e = .returned (.bool true) ∧ Below w.heap.size w w' := by
  have HA : Hid (∀ w', From w w' → Calls Tryz.prog 14 #[] w' fun r w'' => r = .returned (.bool true) ∧ Below w'.heap.size w' w'') := fun w' hf => awake24_any w' (hW.from_ hf)
  by_cases hfar : 50 < xs.length ∨ (xs.length ≤ 50 ∧ 50 < ys.length)
  · obtain ⟨a, ca, rfl, _⟩ := ha
    obtain ⟨b, cb, rfl, _⟩ := hb0
    exact logJoins_far a b ca cb _ _ w hfar HA
  have h50 : xs.length ≤ 50 := by omega
  have h51 : ys.length ≤ 50 := by omega
  have HA1 : Hid (∀ w', From w w' → Calls Tryz.prog 24 #[va, .nilIface] w' fun e w'' => e = .returned (.string (str (danswer xs))) ∧ Below w'.heap.size w' w'') := fun w' hf => lanswer_any va xs w' (by omega) (ha.below hf.out) (hW.from_ hf).tabs (hW.from_ hf).names
  have HA2 : Hid (∀ w', From w w' → Calls Tryz.prog 24 #[vb, .nilIface] w' fun e w'' => e = .returned (.string (str (danswer ys))) ∧ Below w'.heap.size w' w'') := fun w' hf => lanswer_any vb ys w' (by omega) (hb0.below hf.out) (hW.from_ hf).tabs (hW.from_ hf).names
  have HA3 : Hid (∀ w' u, From w w' → kDec.At w' u (xs ++ ys) → Calls Tryz.prog 24 #[u, .nilIface] w' fun e w'' => e = .returned (.string (str (danswer (xs ++ ys)))) ∧ Below w'.heap.size w' w'') := fun w' u hf h => lanswer_any u _ w' (by rw [List.length_append]; omega) h (hW.from_ hf).tabs (hW.from_ hf).names
  have hl1 := danswer_len xs (by omega)
  have hl2 := danswer_len ys (by omega)
  have J := joins_eq xs ys
  have e1 := strNone (danswer xs)
  have e2 := strNone (danswer ys)
  have HPa : Hid (∀ w', From w w' → kDec.At w' va xs) := fun w' hf => ha.below hf.out
  have HPb : Hid (∀ w', From w w' → kDec.At w' vb ys) := fun w' hf => hb0.below hf.out
  obtain ⟨a, ca, rfl, -⟩ := ha
  obtain ⟨b, cb, rfl, -⟩ := hb0
  generalize danswer xs = sa at *
  generalize danswer ys = sb at *
  generalize danswer (xs ++ ys) = sc at *
  have HLa : Hid (xs.length ≤ 50) := h50
  have HLb : Hid (ys.length ≤ 50) := h51
  have F0 := From.refl w
  obtain ⟨la, hla⟩ : ∃ n, n = xs.length := ⟨_, rfl⟩
  obtain ⟨lb, hlb⟩ : ∃ n, n = ys.length := ⟨_, rfl⟩
  rw [← hla] at h50 HA1 HPa ⊢
  rw [← hlb] at h51 HA2 HPb ⊢
  have HLA := Lib.hid hla
  have HLB := Lib.hid hlb
  clear hW hfar hla hlb hx hy
  have ht1 : (decide (sa = sNone)) = true ∨ (decide (sa = sNone)) = false := by cases decide (sa = sNone) <;> simp
  have HJ := Lib.hid J
  have E1 := Lib.hid e1
  have E2 := Lib.hid e2
  clear J e1 e2 ht1
  go_enter Tryz.func7, Tryz.ntmps7
  go_wp2_with fail
  refine (HA.out _ F0).mono ?_
  rintro e w1 ⟨rfl, hb⟩
  have F1 := F0.step hb
  clear hb
  go_wp2_with fail
  refine (HA1.out _ F1).mono ?_
  rintro e w2 ⟨rfl, hb⟩
  have F2 := F1.step hb
  clear hb
  go_wp2_with fail
  refine (HA2.out _ F2).mono ?_
  rintro e w3 ⟨rfl, hb⟩
  have F3 := F2.step hb
  have hs3 := F3.out.size
  clear hb
  have O1 : Hid (kDec.Own w3.heap.size (w3.alloc (.cells #[] 23)) (.slice (some ⟨w3.heap.size, 0, none⟩) 0 0) []) := World.ownsRow_made w3 #[] 0 (Nat.le_refl _) (by decide) rfl
  have G3 : From w (w3.alloc (.cells #[] 23)) := F3.alloc _
  have hmm : (2 : Nat) ^ 8 ≤ maxLen := by decide
  have hmx : 1000 ≤ maxLen := by unfold maxLen; omega
  go_wp2_with (first
    | (at_builtin; (refine Kin.appendAll kDec rfl _ _ rfl w3.heap.size _ [] rfl O1.out _ xs rfl (HPa.out _ G3) (by have := HLa.out; simp; omega) (by have := HLa.out; show _ * 32 ≤ _; simp; omega) (by simp) ?_); intro v4 w4 hown4 hb4; have HO4 := Lib.hid hown4; have G4 : From w w4 := ⟨(F3.out.alloc hs3 _).trans (hb4.mono hs3)⟩; have K4 : Hid (Below w3.heap.size w3 w4) := ((Below.refl _ w3).alloc (Nat.le_refl _) _).trans hb4; have hs4 := hb4.size; obtain ⟨a4, c4, rfl⟩ := hown4.shape; clear hown4 hb4)
    | (at_builtin; (refine Kin.appendAll kDec rfl _ _ rfl w3.heap.size _ ([] ++ xs) rfl HO4.out _ ys rfl (HPb.out _ G4) (by have := HLa.out; have := HLb.out; simp; omega) (by have := HLa.out; have := HLb.out; show _ * 32 ≤ _; simp; omega) (by simp at hs4; omega) ?_); intro v5 w5 hown5 hb5; have HO5 := Lib.hid hown5.at_; have G5 : From w w5 := ⟨G4.out.trans (hb5.mono hs3)⟩; obtain ⟨a5, c5, rfl⟩ := hown5.shape; clear hown5 hb5)
    | fail)
  have H6 := HO5.out
  rw [List.nil_append, List.length_append] at H6
  refine (HA3.out _ _ G5 H6).mono ?_
  rintro e w6 ⟨rfl, hb⟩
  have F6 := G5.step hb
  clear hb H6 HO5 HO4 O1 HA HA1 HA2 HA3 HPa HPb HLa HLb HLA HLB
  obtain ⟨J1, J2, J3⟩ := HJ.out
  have e1 := E1.out
  have e2 := E2.out
  clear HJ E1 E2
  have refl2 : ∀ x : List UInt8, ((str x).toList == (str x).toList) = true := fun x => by rw [beq_iff_eq]
  by_cases c1 : sa = sNone
  · obtain rfl := J1 c1
    have g1 : ((str sa).toList == [110, 111, 110, 101]) = true := by rw [e1, decide_eq_true c1]
    have g2 := refl2 sc
    clear e1 e2 J1 J2 J3 refl2 c1
    go_wp2
    go_ret
    exact ⟨rfl, F6.out⟩
  have g1 : ((str sa).toList == [110, 111, 110, 101]) = false := by rw [e1, decide_eq_false c1]
  by_cases c2 : sb = sNone
  · obtain rfl := J2 c1 c2
    have g3 : ((str sb).toList == [110, 111, 110, 101]) = true := by rw [e2, decide_eq_true c2]
    have g2 := refl2 sc
    clear e1 e2 J1 J2 J3 refl2 c1 c2
    go_wp2
    go_ret
    exact ⟨rfl, F6.out⟩
  have g3 : ((str sb).toList == [110, 111, 110, 101]) = false := by rw [e2, decide_eq_false c2]
  have g2 := refl2 (sa ++ 44 :: 32 :: sb)
  have hsc : sc = sa ++ 44 :: 32 :: sb := by rw [J3 c1 c2]; simp
  have ha1 : ∀ w, (Op.stringOp .add (str sa) ⟨#[44, 32]⟩).run Tryz.prog w = .ok (.string (str (sa ++ [44, 32]))) w := fun w => add_str w sa [44, 32] (by simp; omega)
  have ha2 : ∀ w, (Op.stringOp .add (str (sa ++ [44, 32])) (str sb)).run Tryz.prog w = .ok (.string (str (sa ++ 44 :: 32 :: sb))) w := fun w => by rw [add_str w _ sb (by simp; omega), List.append_assoc]; rfl
  subst hsc
  clear e1 e2 J1 J2 J3 refl2 c1 c2
  go_wp2
  go_ret
  exact ⟨by simp, F6.out⟩
end Go.Proofs.YtdclokpoeaehlaaGreatDoor
