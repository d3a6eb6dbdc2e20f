/- hammockref03.Equal: all fields of two operations are compared. -/
import Derived.Test.YtcegipkhmibdeaaDoorOpRef
import Derived.Test.YtcegipkhmibdeaaDoorVec
namespace Go.Proofs.YtcegipkhmibdeaaDoor
set_option linter.all false
open Go.RowKit

def eqOp (k i c n : Int) (f : Bool) (zs : List Int) (k' i' c' n' : Int) (f' : Bool) (zs' : List Int) : Bool := (((((k == k') && (i == i')) && (c == c')) && (n == n')) && (f == f')) && (zs == zs')
set_option maxRecDepth 100000 in
theorem refEqual_0 (k i c n : Int) (f : Bool) (am : Value) (zs : List Int) (k' i' c' n' : Int) (f' : Bool) (am' : Value) (zs' : List Int) (w : World) (hx : zs.length * 8 ≤ 140737488351232) (hy : zs'.length * 8 ≤ 140737488351232) (h : IntsAt w am zs) (h' : IntsAt w am' zs') (h0 : (k == k') = false) :
    Calls Tryd.prog 38 #[opV k i c n f am, opV k' i' c' n' f' am'] w fun e w' => e = .returned (.bool false) ∧ Below w.heap.size w w' := by
  go_enter Tryd.func38, Tryd.ntmps38
  go_wp2
  go_ret
  exact ⟨rfl, (by repeat (first | exact Below.refl _ _ | refine Below.drew ?_ | refine Below.alloc ?_ (by first | omega | (simp; done) | (simp; omega)) _))⟩
set_option maxRecDepth 100000 in
theorem refEqual_1 (k i c n : Int) (f : Bool) (am : Value) (zs : List Int) (k' i' c' n' : Int) (f' : Bool) (am' : Value) (zs' : List Int) (w : World) (hx : zs.length * 8 ≤ 140737488351232) (hy : zs'.length * 8 ≤ 140737488351232) (h : IntsAt w am zs) (h' : IntsAt w am' zs') (h0 : (k == k') = true) (h1 : (i == i') = false) :
    Calls Tryd.prog 38 #[opV k i c n f am, opV k' i' c' n' f' am'] w fun e w' => e = .returned (.bool false) ∧ Below w.heap.size w w' := by
  go_enter Tryd.func38, Tryd.ntmps38
  go_wp2
  go_ret
  exact ⟨rfl, (by repeat (first | exact Below.refl _ _ | refine Below.drew ?_ | refine Below.alloc ?_ (by first | omega | (simp; done) | (simp; omega)) _))⟩
set_option maxRecDepth 100000 in
theorem refEqual_2 (k i c n : Int) (f : Bool) (am : Value) (zs : List Int) (k' i' c' n' : Int) (f' : Bool) (am' : Value) (zs' : List Int) (w : World) (hx : zs.length * 8 ≤ 140737488351232) (hy : zs'.length * 8 ≤ 140737488351232) (h : IntsAt w am zs) (h' : IntsAt w am' zs') (h0 : (k == k') = true) (h1 : (i == i') = true) (h2 : (c == c') = false) :
    Calls Tryd.prog 38 #[opV k i c n f am, opV k' i' c' n' f' am'] w fun e w' => e = .returned (.bool false) ∧ Below w.heap.size w w' := by
  go_enter Tryd.func38, Tryd.ntmps38
  go_wp2
  go_ret
  exact ⟨rfl, (by repeat (first | exact Below.refl _ _ | refine Below.drew ?_ | refine Below.alloc ?_ (by first | omega | (simp; done) | (simp; omega)) _))⟩
set_option maxRecDepth 100000 in
theorem refEqual_3 (k i c n : Int) (f : Bool) (am : Value) (zs : List Int) (k' i' c' n' : Int) (f' : Bool) (am' : Value) (zs' : List Int) (w : World) (hx : zs.length * 8 ≤ 140737488351232) (hy : zs'.length * 8 ≤ 140737488351232) (h : IntsAt w am zs) (h' : IntsAt w am' zs') (h0 : (k == k') = true) (h1 : (i == i') = true) (h2 : (c == c') = true) (h3 : (n == n') = false) :
    Calls Tryd.prog 38 #[opV k i c n f am, opV k' i' c' n' f' am'] w fun e w' => e = .returned (.bool false) ∧ Below w.heap.size w w' := by
  go_enter Tryd.func38, Tryd.ntmps38
  go_wp2
  go_ret
  exact ⟨rfl, (by repeat (first | exact Below.refl _ _ | refine Below.drew ?_ | refine Below.alloc ?_ (by first | omega | (simp; done) | (simp; omega)) _))⟩
set_option maxRecDepth 100000 in
theorem refEqual_4 (k i c n : Int) (f : Bool) (am : Value) (zs : List Int) (k' i' c' n' : Int) (f' : Bool) (am' : Value) (zs' : List Int) (w : World) (hx : zs.length * 8 ≤ 140737488351232) (hy : zs'.length * 8 ≤ 140737488351232) (h : IntsAt w am zs) (h' : IntsAt w am' zs') (h0 : (k == k') = true) (h1 : (i == i') = true) (h2 : (c == c') = true) (h3 : (n == n') = true) (h4 : (f == f') = false) :
    Calls Tryd.prog 38 #[opV k i c n f am, opV k' i' c' n' f' am'] w fun e w' => e = .returned (.bool false) ∧ Below w.heap.size w w' := by
  go_enter Tryd.func38, Tryd.ntmps38
  go_wp2
  go_ret
  exact ⟨rfl, (by repeat (first | exact Below.refl _ _ | refine Below.drew ?_ | refine Below.alloc ?_ (by first | omega | (simp; done) | (simp; omega)) _))⟩
set_option maxRecDepth 100000 in
theorem refEqual_5 (k i c n : Int) (f : Bool) (am : Value) (zs : List Int) (k' i' c' n' : Int) (f' : Bool) (am' : Value) (zs' : List Int) (w : World) (hx : zs.length * 8 ≤ 140737488351232) (hy : zs'.length * 8 ≤ 140737488351232) (h : IntsAt w am zs) (h' : IntsAt w am' zs') (h0 : (k == k') = true) (h1 : (i == i') = true) (h2 : (c == c') = true) (h3 : (n == n') = true) (h4 : (f == f') = true) :
    Calls Tryd.prog 38 #[opV k i c n f am, opV k' i' c' n' f' am'] w fun e w' => e = .returned (.bool (zs == zs')) ∧ Below w.heap.size w w' := by
  go_enter Tryd.func38, Tryd.ntmps38
  go_wp2_with fail
  refine (same01_any am am' zs zs' _ hx hy (h.below (by repeat (first | exact Below.refl _ _ | refine Below.drew ?_ | refine Below.alloc ?_ (by first | omega | (simp; done) | (simp; omega)) _))) (h'.below (by repeat (first | exact Below.refl _ _ | refine Below.drew ?_ | refine Below.alloc ?_ (by first | omega | (simp; done) | (simp; omega)) _)))).mono ?_
  rintro e w1 ⟨rfl, B1⟩
  go_wp2
  go_ret
  exact ⟨rfl, Below.trans (by repeat (first | exact Below.refl _ _ | refine Below.drew ?_ | refine Below.alloc ?_ (by first | omega | (simp; done) | (simp; omega)) _)) (B1.mono (by first | omega | (simp; done) | (simp; omega)))⟩
theorem refEqual_any (k i c n : Int) (f : Bool) (am : Value) (zs : List Int) (k' i' c' n' : Int) (f' : Bool) (am' : Value) (zs' : List Int) (w : World) (hx : zs.length * 8 ≤ 140737488351232) (hy : zs'.length * 8 ≤ 140737488351232) (h : IntsAt w am zs) (h' : IntsAt w am' zs') :
    Calls Tryd.prog 38 #[opV k i c n f am, opV k' i' c' n' f' am'] w fun e w' => e = .returned (.bool (eqOp k i c n f zs k' i' c' n' f' zs')) ∧ Below w.heap.size w w' := by
  unfold eqOp
  cases h0 : k == k'
  · exact refEqual_0 k i c n f am zs k' i' c' n' f' am' zs' w hx hy h h' h0
  cases h1 : i == i'
  · exact refEqual_1 k i c n f am zs k' i' c' n' f' am' zs' w hx hy h h' h0 h1
  cases h2 : c == c'
  · exact refEqual_2 k i c n f am zs k' i' c' n' f' am' zs' w hx hy h h' h0 h1 h2
  cases h3 : n == n'
  · exact refEqual_3 k i c n f am zs k' i' c' n' f' am' zs' w hx hy h h' h0 h1 h2 h3
  cases h4 : f == f'
  · exact refEqual_4 k i c n f am zs k' i' c' n' f' am' zs' w hx hy h h' h0 h1 h2 h3 h4
  exact refEqual_5 k i c n f am zs k' i' c' n' f' am' zs' w hx hy h h' h0 h1 h2 h3 h4
end Go.Proofs.YtcegipkhmibdeaaDoor
