/- op.Plain: the operation with the fields that matter. -/
import Derived.Test.YtcegipkhmibdeaaDoorOp
import Derived.Deep.QuietTactic
import Derived.BigQuiet
namespace Go.Proofs.YtcegipkhmibdeaaDoor
set_option linter.all false
open Go.RowKit

set_option maxRecDepth 100000 in
theorem plain_4 (i c n : Int) (f : Bool) (am : Value) (zs : List Int) (w : World) (hz : zs.length * 8 ≤ 140737488351232) (h : IntsAt w am zs) :
    Calls Tryd.prog 36 #[opV 4 i c n f am] w (RetOp w 4 i c n false zs) := by
  go_enter Tryd.func36, Tryd.ntmps36
  go_wp2_with fail
  go_region
  go_wp2_with fail
  refine (clone_any _ zs _ hz (h.below (by repeat (first | exact Below.refl _ _ | refine Below.drew ?_ | refine Below.alloc ?_ (by first | omega | (simp; done) | (simp; omega)) _)))).mono ?_
  rintro e w' ⟨a', c', rfl, hown, hb⟩
  obtain ⟨hc, hf⟩ := bcell hb
  have hsz := hb.size
  have hown' : w'.ownsRow (w.heap.size + 1 + 1 + 1) 2 1 (.slice a' zs.length c') zs.length (zs.map (Value.int .i64)) := by simpa using hown
  have hb0 : Below w.heap.size w w' := Below.trans (by repeat (first | exact Below.refl _ _ | refine Below.drew ?_ | refine Below.alloc ?_ (by first | omega | (simp; done) | (simp; omega)) _)) (hb.mono (by first | omega | (simp; done) | (simp; omega)))
  clear hown
  go_wp2
  refine bodyPost_ret (v := opV 4 i c n false (.slice a' zs.length c')) ?_ rfl ⟨a', c', rfl, ?_, ?_⟩
  · simp only [results, Tryd.results36]
    go_simp
  · refine ownsRow_low ?_ (show w.heap.size ≤ w.heap.size + 1 + 1 + 1 by omega)
    repeat (first | (with_reducible exact hown') | refine ownsRow_setCell_below ?_ (by show _ < _; simp only []; omega) _)
  · repeat (first | (with_reducible exact hb0) | refine Below.setCell ?_ (by show _ ≤ _; simp only []; omega) _)
set_option maxRecDepth 100000 in
theorem plain_2 (i c n : Int) (f : Bool) (am : Value) (zs : List Int) (w : World) (hz : zs.length * 8 ≤ 140737488351232) (h : IntsAt w am zs) :
    Calls Tryd.prog 36 #[opV 2 i c n f am] w (RetOp w 2 i 0 0 false zs) := by
  go_enter Tryd.func36, Tryd.ntmps36
  go_wp2_with fail
  refine (clone_any _ zs _ hz (h.below (by repeat (first | exact Below.refl _ _ | refine Below.drew ?_ | refine Below.alloc ?_ (by first | omega | (simp; done) | (simp; omega)) _)))).mono ?_
  rintro e w' ⟨a', c', rfl, hown, hb⟩
  obtain ⟨hc, hf⟩ := bcell hb
  have hsz := hb.size
  have hown' : w'.ownsRow (w.heap.size + 1 + 1 + 1) 2 1 (.slice a' zs.length c') zs.length (zs.map (Value.int .i64)) := by simpa using hown
  have hb0 : Below w.heap.size w w' := Below.trans (by repeat (first | exact Below.refl _ _ | refine Below.drew ?_ | refine Below.alloc ?_ (by first | omega | (simp; done) | (simp; omega)) _)) (hb.mono (by first | omega | (simp; done) | (simp; omega)))
  clear hown
  go_wp2
  refine bodyPost_ret (v := opV 2 i 0 0 false (.slice a' zs.length c')) ?_ rfl ⟨a', c', rfl, ?_, ?_⟩
  · simp only [results, Tryd.results36]
    go_simp
  · refine ownsRow_low ?_ (show w.heap.size ≤ w.heap.size + 1 + 1 + 1 by omega)
    repeat (first | (with_reducible exact hown') | refine ownsRow_setCell_below ?_ (by show _ < _; simp only []; omega) _)
  · repeat (first | (with_reducible exact hb0) | refine Below.setCell ?_ (by show _ ≤ _; simp only []; omega) _)
set_option maxRecDepth 100000 in
theorem plain_3 (i c n : Int) (f : Bool) (am : Value) (w : World) :
    Calls Tryd.prog 36 #[opV 3 i c n f am] w (RetOp w 3 i 0 0 false []) := by
  go_enter Tryd.func36, Tryd.ntmps36
  go_wp2
  refine bodyPost_ret (v := opV 3 i 0 0 false (.slice none 0 0)) ?_ rfl ⟨none, 0, rfl, World.ownsRow_nil _ _ _ _, ?_⟩
  · simp only [results, Tryd.results36]
    go_simp
  · repeat (first | exact Below.refl _ _ | refine Below.drew ?_ | refine Below.alloc ?_ (by first | omega | (simp; done) | (simp; omega)) _)
set_option maxRecDepth 100000 in
theorem plain_5 (i c n : Int) (f : Bool) (am : Value) (w : World) :
    Calls Tryd.prog 36 #[opV 5 i c n f am] w (RetOp w 5 i 0 0 false []) := by
  go_enter Tryd.func36, Tryd.ntmps36
  go_wp2
  refine bodyPost_ret (v := opV 5 i 0 0 false (.slice none 0 0)) ?_ rfl ⟨none, 0, rfl, World.ownsRow_nil _ _ _ _, ?_⟩
  · simp only [results, Tryd.results36]
    go_simp
  · repeat (first | exact Below.refl _ _ | refine Below.drew ?_ | refine Below.alloc ?_ (by first | omega | (simp; done) | (simp; omega)) _)
set_option maxRecDepth 100000 in
theorem plain_1 (i c n : Int) (f : Bool) (am : Value) (w : World) :
    Calls Tryd.prog 36 #[opV 1 i c n f am] w (RetOp w 1 i 0 n f []) := by
  go_enter Tryd.func36, Tryd.ntmps36
  go_wp2
  go_region
  go_wp2
  refine bodyPost_ret (v := opV 1 i 0 n f (.slice none 0 0)) ?_ rfl ⟨none, 0, rfl, World.ownsRow_nil _ _ _ _, ?_⟩
  · simp only [results, Tryd.results36]
    go_simp
  · repeat (first | exact Below.refl _ _ | refine Below.drew ?_ | refine Below.alloc ?_ (by first | omega | (simp; done) | (simp; omega)) _)
set_option maxRecDepth 100000 in
theorem plain_6 (i c n : Int) (f : Bool) (am : Value) (w : World) :
    Calls Tryd.prog 36 #[opV 6 i c n f am] w (RetOp w 6 0 0 n false []) := by
  go_enter Tryd.func36, Tryd.ntmps36
  go_wp2
  refine bodyPost_ret (v := opV 6 0 0 n false (.slice none 0 0)) ?_ rfl ⟨none, 0, rfl, World.ownsRow_nil _ _ _ _, ?_⟩
  · simp only [results, Tryd.results36]
    go_simp
  · repeat (first | exact Below.refl _ _ | refine Below.drew ?_ | refine Below.alloc ?_ (by first | omega | (simp; done) | (simp; omega)) _)
set_option maxRecDepth 100000 in
theorem plain_x (k : Int) (hk : k < 1 ∨ 6 < k) (i c n : Int) (f : Bool) (am : Value) (w : World) :
    Calls Tryd.prog 36 #[opV k i c n f am] w (RetOp w k 0 0 0 false []) := by
  have h1 : (k == 1) = false := by simp; omega
  have h2 : (k == 2) = false := by simp; omega
  have h3 : (k == 3) = false := by simp; omega
  have h4 : (k == 4) = false := by simp; omega
  have h5 : (k == 5) = false := by simp; omega
  have h6 : (k == 6) = false := by simp; omega
  go_enter Tryd.func36, Tryd.ntmps36
  go_wp2
  refine bodyPost_ret (v := opV k 0 0 0 false (.slice none 0 0)) ?_ rfl ⟨none, 0, rfl, World.ownsRow_nil _ _ _ _, ?_⟩
  · simp only [results, Tryd.results36]
    go_simp
  · repeat (first | exact Below.refl _ _ | refine Below.drew ?_ | refine Below.alloc ?_ (by first | omega | (simp; done) | (simp; omega)) _)
end Go.Proofs.YtcegipkhmibdeaaDoor
