/- Errors as plain values; the small functions that make them. -/
import Derived.Test.YtcegipkhmibdeaaDoorWrong01
namespace Go.Proofs.YtcegipkhmibdeaaDoor
set_option linter.all false
open Go.RowKit

/-- An error that this program can make: a code, a fault, another one, or one that is wrapped. -/
inductive EV where
  | code (c : Int)
  | fault (c at_ : Int)
  | other (a : Addr)
  | placed (k : Int) (e : EV)
def EV.val : EV → Value
  | .code c => .iface 94 (.int .i64 c)
  | .fault c a => .iface 106 (.agg #[.int .i64 c, .int .i64 a])
  | .other p => .iface 148 (.pointer (some p))
  | .placed k e => .iface 140 (.agg #[.int .i64 k, e.val])
def EV.depth : EV → Nat
  | .code _ => 0
  | .fault _ _ => 1
  | .other _ => 0
  | .placed _ e => e.depth + 1
/-- The code, the fault, the place that errors.As finds. -/
def EV.asC : EV → Option Int
  | .code c => some c
  | .fault c _ => some c
  | .other _ => none
  | .placed _ e => e.asC
def EV.asF : EV → Option (Int × Int)
  | .code _ => none
  | .fault c a => some (c, a)
  | .other _ => none
  | .placed _ e => e.asF
def EV.asP : EV → Option (Int × EV)
  | .placed k e => some (k, e)
  | _ => none
theorem EV.iface (e : EV) : ∃ t v, e.val = .iface t v := by cases e <;> exact ⟨_, _, rfl⟩
/-- An error or none. -/
def errV : Option EV → Value
  | none => .nilIface
  | some e => e.val
def idE (n at_ : Int) : Option EV := if n < 0 ∨ 1073741824 < n then some (.fault 2 at_) else none
def numberE (n least most : Int) : Option EV := if n < least ∨ most < n then some (.fault 4 0) else none
def amountsE (zs : List Int) (d : Int) : Option EV := if 0 ≤ wrongP zs d then some (.fault 3 (wrongP zs d)) else none
def firstE : List (Option EV) → Option EV
  | [] => none
  | none :: r => firstE r
  | some e :: _ => some e

set_option maxRecDepth 100000 in
theorem faultNew_any (c at_ : Int) (w : World) : Calls Tryd.prog 84 #[.int .i64 c, .int .i64 at_] w fun e w' => e = .returned (.iface 106 (.agg #[.int .i64 c, .int .i64 at_])) ∧ w = w' := by
  go_enter Tryd.func84, Tryd.ntmps84
  go_wp2
  go_ret
  exact ⟨rfl, rfl⟩
set_option maxRecDepth 100000 in
theorem faultIn_any (k : Int) (e : Option EV) (w : World) : Calls Tryd.prog 86 #[.int .i64 k, errV e] w fun x w' => x = .returned (errV (e.map (EV.placed k))) ∧ w = w' := by
  cases e with
  | none =>
    show Calls Tryd.prog 86 #[.int .i64 k, .nilIface] w _
    go_enter Tryd.func86, Tryd.ntmps86
    go_wp2
    go_ret
    exact ⟨rfl, rfl⟩
  | some e =>
    have hr : errV (Option.map (EV.placed k) (some e)) = .iface 140 (.agg #[.int .i64 k, e.val]) := rfl
    rw [hr]
    show Calls Tryd.prog 86 #[.int .i64 k, e.val] w _
    obtain ⟨t, v, he⟩ := e.iface
    rw [he]
    clear he hr
    go_enter Tryd.func86, Tryd.ntmps86
    go_wp2
    go_ret
    exact ⟨rfl, rfl⟩
set_option maxRecDepth 100000 in
theorem opId_any (n at_ : Int) (w : World) : Calls Tryd.prog 97 #[.int .i64 n, .int .i64 at_] w fun x w' => x = .returned (errV (idE n at_)) ∧ w = w' := by
  have hn := faultNew_any
  unfold idE
  by_cases h0 : n < 0
  · rw [if_pos (.inl h0)]
    go_enter Tryd.func97, Tryd.ntmps97
    go_wp2_with fail
    refine (hn _ _ _).mono ?_
    rintro e w1 ⟨rfl, rfl⟩
    go_wp2
    go_ret
    exact ⟨rfl, rfl⟩
  · by_cases h1 : 1073741824 < n
    · rw [if_pos (.inr h1)]
      go_enter Tryd.func97, Tryd.ntmps97
      go_wp2_with fail
      refine (hn _ _ _).mono ?_
      rintro e w1 ⟨rfl, rfl⟩
      go_wp2
      go_ret
      exact ⟨rfl, rfl⟩
    · rw [if_neg (by omega)]
      go_enter Tryd.func97, Tryd.ntmps97
      go_wp2
      go_ret
      exact ⟨rfl, rfl⟩
set_option maxRecDepth 100000 in
theorem opNumber_any (n least most : Int) (w : World) : Calls Tryd.prog 98 #[.int .i64 n, .int .i64 least, .int .i64 most] w fun x w' => x = .returned (errV (numberE n least most)) ∧ w = w' := by
  have hn := faultNew_any
  unfold numberE
  by_cases h0 : n < least
  · rw [if_pos (.inl h0)]
    go_enter Tryd.func98, Tryd.ntmps98
    go_wp2_with fail
    refine (hn _ _ _).mono ?_
    rintro e w1 ⟨rfl, rfl⟩
    go_wp2
    go_ret
    exact ⟨rfl, rfl⟩
  · by_cases h1 : most < n
    · rw [if_pos (.inr h1)]
      go_enter Tryd.func98, Tryd.ntmps98
      go_wp2_with fail
      refine (hn _ _ _).mono ?_
      rintro e w1 ⟨rfl, rfl⟩
      go_wp2
      go_ret
      exact ⟨rfl, rfl⟩
    · rw [if_neg (by omega)]
      go_enter Tryd.func98, Tryd.ntmps98
      go_wp2
      go_ret
      exact ⟨rfl, rfl⟩
set_option maxRecDepth 100000 in
theorem opAmounts_any (v : Value) (zs : List Int) (d : Int) (w : World) (hx : zs.length * 8 ≤ 140737488351232) (h : IntsAt w v zs) :
    Calls Tryd.prog 99 #[v, .int .i64 d] w fun x w' => x = .returned (errV (amountsE zs d)) ∧ Below w.heap.size w w' := by
  have hn := faultNew_any
  have hi := wrong_any v zs d
  obtain ⟨a, c, rfl, -⟩ := id h
  unfold amountsE
  generalize wrongP zs d = i at *
  have HI := Lib.hid hi; clear hi
  have HH := Lib.hid h; clear h
  have HX := Lib.hid hx; clear hx
  generalize zs.length = l at *
  by_cases h0 : 0 ≤ i
  · rw [if_pos h0]
    go_enter Tryd.func99, Tryd.ntmps99
    go_wp2_with fail
    refine (HI.out _ HX.out HH.out).mono ?_
    rintro e w1 ⟨rfl, hb⟩
    go_wp2_with fail
    refine (hn _ _ _).mono ?_
    rintro e w2 ⟨rfl, rfl⟩
    go_wp2
    go_ret
    exact ⟨rfl, hb⟩
  · rw [if_neg h0]
    go_enter Tryd.func99, Tryd.ntmps99
    go_wp2_with fail
    refine (HI.out _ HX.out HH.out).mono ?_
    rintro e w1 ⟨rfl, hb⟩
    go_wp2
    go_ret
    exact ⟨rfl, hb⟩
set_option maxRecDepth 100000 in
theorem outside_any (n least most : Int) (w : World) : Calls Tryd.prog 93 #[.int .i64 n, .int .i64 least, .int .i64 most] w fun x w' => x = .returned (.bool (decide (n < least ∨ most < n))) ∧ w = w' := by
  by_cases h0 : n < least
  · rw [decide_eq_true (.inl h0)]
    go_enter Tryd.func93, Tryd.ntmps93
    go_wp2
    go_ret
    exact ⟨rfl, rfl⟩
  · by_cases h1 : most < n
    · rw [decide_eq_true (.inr h1)]
      go_enter Tryd.func93, Tryd.ntmps93
      go_wp2
      go_ret
      exact ⟨rfl, rfl⟩
    · rw [decide_eq_false (by omega)]
      go_enter Tryd.func93, Tryd.ntmps93
      go_wp2
      go_ret
      exact ⟨rfl, rfl⟩
theorem firstE_step {es : List (Option EV)} {k : Nat} (h : k < es.length) : firstE (es.drop k) = match es.getD k none with | some e => some e | none => firstE (es.drop (k + 1)) := by
  rw [List.drop_eq_getElem_cons h, List.getD_eq_getElem?_getD, List.getElem?_eq_getElem h]
  show firstE (es[k] :: _) = match es[k] with | some e => some e | none => _
  cases es[k] <;> rfl
set_option maxHeartbeats 1000000 in
set_option maxRecDepth 100000 in
theorem opFirst_any (b cap : Nat) (es : List (Option EV)) (w : World) (hx : es.length ≤ 100)
    (hc : ∀ j, j < es.length → w.cell? ⟨b, j, none⟩ = some (errV (es.getD j none))) :
    Calls Tryd.prog 96 #[.slice (some ⟨b, 0, none⟩) es.length cap] w fun e w' => e = .returned (errV (firstE es)) ∧ Below w.heap.size w w' := by
  obtain ⟨l, hl⟩ : ∃ n, n = es.length := ⟨_, rfl⟩
  rw [← hl] at hx hc ⊢
  have HL := Lib.hid hl; clear hl
  have HC := Lib.hid hc; clear hc
  go_enter Tryd.func96, Tryd.ntmps96
  go_wp2
  go_loopg [4, 7] l (fun gg _ i wr => ∃ k : Nat, k ≤ l ∧ l - k ≤ gg ∧ i = .int .i64 k ∧ Hid (firstE es = firstE (es.drop k)) ∧ ∃ m, wr = w.drewN m)
  case atStart => exact ⟨0, Nat.zero_le _, by omega, rfl, rfl, 0, rfl⟩
  case round =>
    obtain ⟨k, hk, hg, rfl, hrun, m, rfl⟩ := hrel
    by_cases hlt : k < l
    · have h1 : w.cell? ⟨b, k, none⟩ = some (errV (es.getD k none)) := HC.out k hlt
      have hs := firstE_step (es := es) (k := k) (by rw [← HL.out]; exact hlt)
      have hki : (0 : Int) ≤ (k : Int) := by omega
      have hkl : (k : Int) < (l : Int) := by omega
      cases hx : es.getD k none with
      | some e =>
        rw [hx] at h1 hs
        have hfin : Hid (firstE es = some e) := by rw [hrun.out, hs]; rfl
        obtain ⟨t, v, he⟩ := e.iface
        have h1' : w.cell? ⟨b, k, none⟩ = some (.iface t v) := by rw [h1]; show some e.val = _; rw [he]
        have HE := Lib.hid he
        clear he hs hrun hx h1
        go_wp2
        go_ret
        exact ⟨by rw [hfin.out]; show _ = Ending.returned e.val; rw [HE.out]; rfl, below_drewN (Below.refl _ _) _⟩
      | none =>
        rw [hx] at h1 hs
        have hfin : Hid (firstE es = firstE (es.drop (k + 1))) := by rw [hrun.out, hs]; rfl
        have h1' : w.cell? ⟨b, k, none⟩ = some .nilIface := h1
        clear hs hrun hx h1
        go_wp2
        go_roundg (l - (k + 1))
        case measure => omega
        case rel => exact ⟨k + 1, by omega, by omega, by go_num, hfin, _, rfl⟩
    · have hfin : Hid (firstE es = none) := by rw [hrun.out, List.drop_eq_nil_of_le (by rw [← HL.out]; omega)]; rfl
      clear hrun
      go_wp2
      go_ret
      exact ⟨by rw [hfin.out]; rfl, below_drewN (Below.refl _ _) _⟩
end Go.Proofs.YtcegipkhmibdeaaDoor
