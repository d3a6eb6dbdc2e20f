/- hammocklaw03.OpMakes: the walk. -/
import Derived.Test.YtcegipkhmibdeaaDoorAwake03
namespace Go.Proofs.YtcegipkhmibdeaaDoor
set_option linter.all false
open Go.RowKit

theorem eqOp_self (k i c n : Int) (f : Bool) (zs : List Int) : eqOp k i c n f zs k i c n f zs = true := by simp [eqOp]
theorem refEq_self (k i c n : Int) (f : Bool) (a : Option Addr) (cp : Nat) (a' : Option Addr) (cp' : Nat) (zs : List Int) (w : World) (hx : zs.length * 8 ≤ 140737488351232) (h : IntsAt w (.slice a zs.length cp) zs) (h' : IntsAt w (.slice a' zs.length cp') zs) :
    Calls Tryd.prog 38 #[opV k i c n f (.slice a zs.length cp), opV k i c n f (.slice a' zs.length cp')] w fun e w' => e = .returned (.bool true) ∧ Below w.heap.size w w' := by
  have := refEqual_any k i c n f (.slice a zs.length cp) zs k i c n f (.slice a' zs.length cp') zs w hx hx h h'
  rwa [eqOp_self] at this
theorem nilInts (w : World) : IntsAt w (.slice none 0 0) [] := ⟨_, _, rfl, .inl rfl⟩
theorem refEq_nil (k i c n : Int) (f : Bool) (w : World) :
    Calls Tryd.prog 38 #[opV k i c n f (.slice none 0 0), opV k i c n f (.slice none 0 0)] w fun e w' => e = .returned (.bool true) ∧ Below w.heap.size w w' :=
  refEq_self k i c n f none 0 none 0 [] w (by decide) (nilInts w) (nilInts w)
set_option maxHeartbeats 2000000 in
set_option maxRecDepth 100000 in
theorem opMakes_walk (i c n : Int) (f : Bool) (am : Value) (zs : List Int) (w : World) (hE : ErrType w) (hz : zs.length * 8 ≤ 140737488351232) (h : IntsAt w am zs) :
    Calls Tryd.prog 11 #[.int .i64 i, .int .i64 c, .int .i64 n, .bool f, am] w fun r w' => r = .returned (.bool true) ∧ Below w.heap.size w w' := by
  obtain ⟨a, cp, rfl, -⟩ := id h
  by_cases hlen : (100 : Int) < (zs.length : Int)
  · have HZ := Lib.hid hz; clear hz
    generalize zs.length = l at *
    go_enter Tryd.func11, Tryd.ntmps11
    go_wp2_with fail
    refine (awake03_any _ hE).mono ?_
    rintro e w1 ⟨rfl, B1⟩
    have hE1 := hE.below B1
    go_wp2_with fail
    refine (awake03_any _ hE1).mono ?_
    rintro e w2 ⟨rfl, B2⟩
    go_wp2
    go_ret
    exact ⟨rfl, B1.trans (B2.mono B1.size)⟩
  · have HN := Lib.hid (make_node i (.slice a zs.length cp) zs)
    have HP := Lib.hid (make_pod i c n (.slice a zs.length cp) zs)
    have HE2 := Lib.hid (fun a' cp' w => refEq_self 2 i 0 0 false a' cp' a cp zs w hz)
    have HE4 := Lib.hid (fun a' cp' w => refEq_self 4 i c n false a' cp' a cp zs w hz)
    have hlen' : ¬ (100 : Int) < (zs.length : Int) := hlen
    go_enter Tryd.func11, Tryd.ntmps11
    go_wp2_with (first
      | (go_at_call 35; (with_reducible refine (awake03_any _ hE).mono ?_); rintro e w1 ⟨rfl, hb⟩; have B1 : Below w.heap.size w w1 := hb; clear hb)
      | (go_at_call 48; (with_reducible refine (make_class i n f _).mono ?_); rintro e w2 ⟨rfl, hb⟩; have B2 : Below w.heap.size w w2 := B1.trans (hb.mono B1.size); clear hb)
      | (go_at_call 38; (with_reducible refine (refEq_nil 1 i 0 n f _).mono ?_); rintro e w3 ⟨rfl, hb⟩; have B3 : Below w.heap.size w w3 := B2.trans (hb.mono B2.size); clear hb)
      | (go_at_call 45; (with_reducible refine (HN.out _ hz (h.below B3)).mono ?_); rintro e w4 ⟨a2, c2, rfl, hown, hb⟩; have B4 : Below w.heap.size w w4 := B3.trans (hb.mono B3.size); clear hb; have i2 := ints_of_row hown; clear hown)
      | (go_at_call 38; (with_reducible refine (HE2.out _ _ _ i2 (h.below B4)).mono ?_); rintro e w5 ⟨rfl, hb⟩; have B5 : Below w.heap.size w w5 := B4.trans (hb.mono B4.size); clear hb)
      | (go_at_call 49; (with_reducible refine (make_drop i _).mono ?_); rintro e w6 ⟨rfl, hb⟩; have B6 : Below w.heap.size w w6 := B5.trans (hb.mono B5.size); clear hb)
      | (go_at_call 38; (with_reducible refine (refEq_nil 3 i 0 0 false _).mono ?_); rintro e w7 ⟨rfl, hb⟩; have B7 : Below w.heap.size w w7 := B6.trans (hb.mono B6.size); clear hb)
      | (go_at_call 46; (with_reducible refine (HP.out _ hz (h.below B7)).mono ?_); rintro e w8 ⟨a4, c4, rfl, hown, hb⟩; have B8 : Below w.heap.size w w8 := B7.trans (hb.mono B7.size); clear hb; have i4 := ints_of_row hown; clear hown)
      | (go_at_call 38; (with_reducible refine (HE4.out _ _ _ i4 (h.below B8)).mono ?_); rintro e w9 ⟨rfl, hb⟩; have B9 : Below w.heap.size w w9 := B8.trans (hb.mono B8.size); clear hb)
      | (go_at_call 50; (with_reducible refine (make_delete i _).mono ?_); rintro e w10 ⟨rfl, hb⟩; have B10 : Below w.heap.size w w10 := B9.trans (hb.mono B9.size); clear hb)
      | (go_at_call 38; (with_reducible refine (refEq_nil 5 i 0 0 false _).mono ?_); rintro e w11 ⟨rfl, hb⟩; have B11 : Below w.heap.size w w11 := B10.trans (hb.mono B10.size); clear hb)
      | (go_at_call 51; (with_reducible refine (make_tick n _).mono ?_); rintro e w12 ⟨rfl, hb⟩; have B12 : Below w.heap.size w w12 := B11.trans (hb.mono B11.size); clear hb)
      | (go_at_call 38; (with_reducible refine (refEq_nil 6 0 0 n false _).mono ?_); rintro e w13 ⟨rfl, hb⟩; have B13 : Below w.heap.size w w13 := B12.trans (hb.mono B12.size); clear hb)
      | (go_at_call 52; (with_reducible refine (make_cycle _).mono ?_); rintro e w14 ⟨rfl, hb⟩; have B14 : Below w.heap.size w w14 := B13.trans (hb.mono B13.size); clear hb)
      | (go_at_call 38; (with_reducible refine (refEq_nil 7 0 0 0 false _).mono ?_); rintro e w15 ⟨rfl, hb⟩; have B15 : Below w.heap.size w w15 := B14.trans (hb.mono B14.size); clear hb))
    go_ret
    exact ⟨rfl, B15⟩
end Go.Proofs.YtcegipkhmibdeaaDoor
