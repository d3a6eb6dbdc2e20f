/- script.Number. -/
import Derived.Test.YtdclokpoeaehlaaGreatDoorLogB
import Derived.Lib.AtoiErrMem
namespace Go.Proofs.YtdclokpoeaehlaaGreatDoor
set_option linter.all false
open Go.RowKit

def numI (l : List UInt8) : Int := (num l).getD 0
def numB (l : List UInt8) : Bool := (num l).isSome
set_option maxHeartbeats 1000000 in
set_option maxRecDepth 100000 in
theorem number_any (l : List UInt8) (w : World) (hl : l.length ≤ 140737488351232) (ht : Tabs w) :
    Calls Tryz.prog 43 #[.string (str l)] w fun e w' => e = .returned (.tuple #[.int .i64 (numI l), .bool (numB l)]) ∧ Below w.heap.size w w' := by
  have hsz : (str l).size = l.length := str_size l
  cases ha : Lib.atoiAll l with
  | «syntax» =>
    have e : num l = none := by unfold num; rw [ha]
    obtain ⟨tp, p, hv⟩ := ht.syn
    have I := Lib.hid (Tryz.strconv_Atoi_syntax_var (str l) (by omega) ha tp p w hv)
    unfold numI numB
    rw [e]
    clear ha e hsz hl ht
    go_enter Tryz.func43, Tryz.ntmps43
    go_wp2_with fail
    refine I.out.mono ?_
    rintro e w1 ⟨g, rfl, -, -, hb⟩
    go_wp2
    go_ret2
    exact ⟨rfl, hb⟩
  | range =>
    have e : num l = none := by unfold num; rw [ha]
    obtain ⟨tp, p, hv⟩ := ht.rng
    have I := Lib.hid (Tryz.strconv_Atoi_range_var (str l) (by omega) ha tp p w hv)
    unfold numI numB
    rw [e]
    clear ha e hsz hl ht
    go_enter Tryz.func43, Tryz.ntmps43
    go_wp2_with fail
    refine I.out.mono ?_
    rintro e w1 ⟨g, rfl, -, -, hb⟩
    go_wp2
    go_ret2
    exact ⟨rfl, hb⟩
  | ok v =>
    obtain ⟨v0, v1⟩ := Lib.atoiAll_bounds ha
    have I0 : Calls Tryz.prog 78 #[.string (str l)] w fun e w' => e = .returned (.tuple #[.int .i64 v, .nilIface]) ∧ Below w.heap.size w w' := by
      refine (Tryz.strconv_Atoi_ok (str l) (by omega) v ha w).mono ?_
      rintro e w' ⟨he, rfl | ⟨t, rfl⟩⟩
      · exact ⟨he, Below.refl _ _⟩
      · exact ⟨he, Lib.bytesWorld_below w _ t⟩
    have I := Lib.hid I0
    clear I0
    have J := Lib.hid fun w' (hb : Below w.heap.size w w') => itoa_any v w' v0 v1 (ht.below hb)
    have en : num l = if Lib.itoa v = l ∧ -4611686018427387904 ≤ v ∧ v ≤ 4611686018427387904 then some v else none := by unfold num; rw [ha]
    unfold numI numB
    rw [en]
    generalize Lib.itoa v = sv at *
    clear ha
    have hstart : Calls Tryz.prog 43 #[.string (str l)] w fun e w' => e = .returned (.tuple #[.int .i64 ((if sv = l ∧ -4611686018427387904 ≤ v ∧ v ≤ 4611686018427387904 then some v else none : Option Int).getD 0), .bool (if sv = l ∧ -4611686018427387904 ≤ v ∧ v ≤ 4611686018427387904 then some v else none : Option Int).isSome]) ∧ Below w.heap.size w w' := by
      clear en
      by_cases h0 : sv = l
      · subst h0
        by_cases h1 : v < -4611686018427387904
        · rw [if_neg (by omega)]
          simp only [Option.getD_none, Option.isSome_none]
          go_enter Tryz.func43, Tryz.ntmps43
          go_wp2_with fail
          refine I.out.mono ?_
          rintro e w1 ⟨rfl, hb⟩
          have HB := Lib.hid hb
          go_wp2_with fail
          refine (J.out _ HB.out).mono ?_
          rintro e w2 ⟨rfl, hb2⟩
          have HB2 := Lib.hid hb2
          clear hb hb2
          go_wp2
          go_ret2
          exact ⟨rfl, HB.out.trans (HB2.out.mono HB.out.size)⟩
        · by_cases h2 : 4611686018427387904 < v
          · rw [if_neg (by omega)]
            simp only [Option.getD_none, Option.isSome_none]
            go_enter Tryz.func43, Tryz.ntmps43
            go_wp2_with fail
            refine I.out.mono ?_
            rintro e w1 ⟨rfl, hb⟩
            have HB := Lib.hid hb
            go_wp2_with fail
            refine (J.out _ HB.out).mono ?_
            rintro e w2 ⟨rfl, hb2⟩
            have HB2 := Lib.hid hb2
            clear hb hb2
            go_wp2
            go_ret2
            exact ⟨rfl, HB.out.trans (HB2.out.mono HB.out.size)⟩
          · have h3 : -4611686018427387904 ≤ v := by omega
            have h4 : v ≤ 4611686018427387904 := by omega
            rw [if_pos ⟨rfl, h3, h4⟩]
            simp only [Option.getD_some, Option.isSome_some]
            clear h1 h2
            go_enter Tryz.func43, Tryz.ntmps43
            go_wp2_with fail
            refine I.out.mono ?_
            rintro e w1 ⟨rfl, hb⟩
            have HB := Lib.hid hb
            go_wp2_with fail
            refine (J.out _ HB.out).mono ?_
            rintro e w2 ⟨rfl, hb2⟩
            have HB2 := Lib.hid hb2
            clear hb hb2
            go_wp2
            go_ret2
            exact ⟨rfl, HB.out.trans (HB2.out.mono HB.out.size)⟩
      · have hne : ¬ (str sv).toList = (str l).toList := fun e => h0 (str_inj (by rw [ByteArray.toList_eq, ByteArray.toList_eq] at e; exact ByteArray.ext (Array.toList_inj.1 e)))
        rw [if_neg (fun h => h0 h.1)]
        simp only [Option.getD_none, Option.isSome_none]
        clear h0
        go_enter Tryz.func43, Tryz.ntmps43
        go_wp2_with fail
        refine I.out.mono ?_
        rintro e w1 ⟨rfl, hb⟩
        have HB := Lib.hid hb
        go_wp2_with fail
        refine (J.out _ HB.out).mono ?_
        rintro e w2 ⟨rfl, hb2⟩
        have HB2 := Lib.hid hb2
        clear hb hb2
        go_wp2
        go_ret2
        exact ⟨rfl, HB.out.trans (HB2.out.mono HB.out.size)⟩
    exact hstart
end Go.Proofs.YtdclokpoeaehlaaGreatDoor
