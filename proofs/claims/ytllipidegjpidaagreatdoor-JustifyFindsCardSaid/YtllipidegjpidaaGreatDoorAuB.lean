/- Slices of vectors; vec.sum of vectors whose elements are neither negative nor great. -/
import Derived.Test.YtllipidegjpidaaGreatDoorAuA
import Derived.Test.YtllipidegjpidaaGreatDoorRow
import Derived.Test.YtllipidegjpidaaGreatDoorInts
namespace Go.Proofs.YtllipidegjpidaaGreatDoor
set_option linter.all false
open Go.RowKit

/-- A vector as it lies in memory. -/
structure VecR where
  a : Option Addr
  l : Nat
  cp : Nat
/-- Vectors. -/
def kVec : Kin VecR where
  t := 226
  e := 35
  size := 1
  bytes := 24
  zero := .slice none 0 0
  enc := fun x => [.slice x.a x.l x.cp]
  ht := Tryz.underlying226
  hi := by kernel_rfl
  hz := rfl
  pos := by decide
  len := fun _ => rfl
  one := fun _ u h => by rw [List.mem_singleton.1 h]; rfl
def vAt (vs : List (List Int)) (j : Nat) : List Int := vs.getD j []
theorem vAt_get {vs : List (List Int)} {j : Nat} (h : j < vs.length) : vs[j]? = some (vAt vs j) := by unfold vAt; rw [List.getD_eq_getElem?_getD, List.getElem?_eq_getElem h]; rfl
def VecIs (w : World) (x : VecR) (z : List Int) : Prop := x.l = z.length ∧ IntsAt w (.slice x.a z.length x.cp) z
/-- A slice of vectors that is read. -/
def AtVecs (w : World) (v : Value) (vs : List (List Int)) : Prop :=
  ∃ xs : List VecR, kVec.At w v xs ∧ xs.length = vs.length ∧ ∀ (j : Nat) x z, xs[j]? = some x → vs[j]? = some z → VecIs w x z
theorem VecIs.below {w w' : World} {x : VecR} {z : List Int} (h : VecIs w x z) (hb : Below w.heap.size w w') : VecIs w' x z := ⟨h.1, h.2.below hb⟩
theorem AtVecs.below {w w' : World} {v : Value} {vs : List (List Int)} (h : AtVecs w v vs) (hb : Below w.heap.size w w') : AtVecs w' v vs := by
  obtain ⟨xs, h1, h2, h3⟩ := h
  exact ⟨xs, h1.below hb, h2, fun j x z hx hz => (h3 j x z hx hz).below hb⟩
theorem AtVecs.get {w : World} {v : Value} {vs : List (List Int)} (h : AtVecs w v vs) : ∃ a cap, v = .slice a vs.length cap ∧ ∀ j, j < vs.length → ∃ b off aa cc, a = some ⟨b, off, none⟩ ∧ b < w.heap.size ∧ w.cell? ⟨b, off + j, none⟩ = some (.slice aa (vAt vs j).length cc) ∧ IntsAt w (.slice aa (vAt vs j).length cc) (vAt vs j) := by
  obtain ⟨xs, ⟨a, cap, e, h1⟩, h2, h3⟩ := h
  refine ⟨a, cap, by rw [← h2]; exact e, fun j hj => ?_⟩
  rcases h1 with h1 | ⟨b, off, e1, hlt, hc⟩
  · subst h1; simp at h2; omega
  · have hj' : j < xs.length := by omega
    have hx : xs[j]? = some xs[j] := List.getElem?_eq_getElem hj'
    obtain ⟨hl, hi⟩ := h3 j _ _ hx (vAt_get hj)
    have q0 := hc j _ hx 0 _ rfl
    rw [hl] at q0
    exact ⟨b, off, xs[j].a, xs[j].cp, e1, hlt, by simpa [kVec] using q0, hi⟩
/-- The sum of the elements with one index. -/
def colsum (vs : List (List Int)) (i : Nat) : Int := (vs.map fun v => v.getD i 0).sum
theorem colsum_nil (i : Nat) : colsum [] i = 0 := rfl
theorem colsum_step {vs : List (List Int)} {k : Nat} (h : k < vs.length) (i : Nat) : colsum (vs.take (k + 1)) i = colsum (vs.take k) i + (vAt vs k).getD i 0 := by
  unfold colsum
  rw [List.take_succ, vAt_get h]
  simp
/-- All elements lie between 0 and 2^41. -/
def Mild (vs : List (List Int)) : Prop := ∀ j i, 0 ≤ (vAt vs j).getD i 0 ∧ (vAt vs j).getD i 0 ≤ 281474976710656
theorem colsum_le {vs : List (List Int)} (h : Mild vs) (i : Nat) : ∀ k, k ≤ vs.length → 0 ≤ colsum (vs.take k) i ∧ colsum (vs.take k) i ≤ (k : Int) * 281474976710656
  | 0, _ => by rw [List.take_zero, colsum_nil]; omega
  | k + 1, hk => by
    have ih := colsum_le h i k (by omega)
    have h1 := h k i
    rw [colsum_step (by omega)]
    constructor
    · omega
    · have : ((k + 1 : Nat) : Int) * 281474976710656 = (k : Int) * 281474976710656 + 281474976710656 := by rw [Int.natCast_add]; omega
      omega
set_option maxHeartbeats 4000000 in
set_option maxRecDepth 100000 in
theorem sum_any (v : Value) (vs : List (List Int)) (i : Nat) (w : World) (h : AtVecs w v vs) (hl : ∀ j, j < vs.length → i < (vAt vs j).length) (hn : vs.length ≤ 1000) (hm : Mild vs) (hil : i < 4294967296) :
    Calls Tryz.prog 167 #[v, .int .i64 i] w fun e w' => e = .returned (.tuple #[.int .i64 (colsum vs i), .bool true]) ∧ w = w' := by
  obtain ⟨a, cap, rfl, hget⟩ := h.get
  have HG := Lib.hid hget
  have HL := Lib.hid hl
  have HM := Lib.hid (colsum_le hm i)
  have HE := Lib.hid hm
  clear h hget hl hm
  obtain ⟨q, hq⟩ : ∃ q, q = vs.length := ⟨_, rfl⟩
  rw [← hq] at hn ⊢
  have HQ := Lib.hid hq
  clear hq
  go_enter Tryz.func167, Tryz.ntmps167
  go_wp2
  go_loop [6, 7, 14] (fun hi lo iv => ∃ k : Nat, k ≤ q ∧ iv = .int .i64 k ∧ hi = .int .u64 0 ∧ lo = .int .u64 (colsum (vs.take k) i)) (fun _ _ iv => q - (intOf iv).toNat)
  case atStart => exact ⟨0, Nat.zero_le _, rfl, rfl, rfl⟩
  case round =>
    obtain ⟨k, hk, rfl, rfl, rfl⟩ := hrel
    have hki : (0 : Int) ≤ (k : Int) := by omega
    have hii : (0 : Int) ≤ (i : Int) := by omega
    have hbd := HM.out k (by rw [← HQ.out]; exact hk)
    by_cases hlt : k < q
    · obtain ⟨b, off, aa, cc, rfl, hb, hc, hi⟩ := HG.out k (by rw [← HQ.out]; exact hlt)
      have hkl : (k : Int) < (q : Int) := by omega
      have hst := colsum_step (vs := vs) (k := k) (by rw [← HQ.out]; exact hlt) i
      have hx := HE.out k i
      have hlen := HL.out k (by rw [← HQ.out]; exact hlt)
      obtain ⟨a', cp', e, h0 | ⟨b2, off2, h1, hb2, hcs⟩⟩ := hi
      · rw [h0] at hlen; simp at hlen
      rw [Value.slice.injEq] at e
      obtain ⟨rfl, -, rfl⟩ := e
      subst h1
      have pc := hcs i hlen
      have HST := Lib.hid hst
      have hmx : (colsum (vs.take k) i) ≤ 281474976710656000 := by omega
      clear hcs hst
      generalize (vAt vs k).getD i 0 = x at *
      generalize (vAt vs k).length = m at *
      generalize colsum (vs.take k) i = s at *
      have hil2 : (i : Int) < (m : Int) := by omega
      have ha1 := add64_run s x (by omega) (by omega) (by omega)
      have ha2 := add64_run 0 0 (by omega) (by omega) (by omega)
      have hx63 : x / 9223372036854775808 = 0 := by omega
      have hx0 : 0 ≤ x := hx.1
      have hx1 : x ≤ 281474976710656 := hx.2
      go_wp2
      go_round
      case rel => exact ⟨k + 1, by omega, by go_num, rfl, by rw [HST.out]⟩
      case measure => simp [intOf]; omega
    · have he : k = q := by omega
      have hT : vs.take k = vs := List.take_of_length_le (by rw [he, HQ.out]; exact Nat.le_refl _)
      rw [hT] at hbd ⊢
      have hmx : (colsum vs i) ≤ 281474976710656000 := by omega
      obtain ⟨s, hs⟩ : ∃ s, s = colsum vs i := ⟨_, rfl⟩
      rw [← hs] at hbd hmx ⊢
      have HS := Lib.hid hs
      clear hs
      have hkl : ¬ ((k : Int) < (q : Int)) := by omega
      have hs63 : s / 9223372036854775808 = 0 := by omega
      clear he
      go_wp2
      go_ret2
      exact ⟨by rw [HS.out]; rfl, rfl⟩
end Go.Proofs.YtllipidegjpidaaGreatDoor
