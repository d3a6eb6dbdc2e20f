/- OpPlain, OpRef: together in one text. -/
import Derived.Test.YtdclokpoeaehlaaGreatDoorGl
import Derived.Deep.QuietTactic
import Derived.BigQuiet
/- op.Plain: the operation with the fields that matter. -/
namespace Go.Proofs.YtdclokpoeaehlaaGreatDoor
set_option linter.all false
open Go.RowKit

set_option maxRecDepth 100000 in
theorem plain_4 (i c n : Int) (f : Bool) (am : Value) (zs : List Int) (w : World) (hz : zs.length * 8 ≤ 140737488351232) (h : IntsAt w am zs) :
    Calls Tryz.prog 75 #[opV 4 i c n f am] w (RetOp w 4 i c n false zs) := by
  go_enter Tryz.func75, Tryz.ntmps75
  go_wp2_with fail
  go_region
  go_wp2_with fail
  refine (clone_any _ zs _ hz (h.below (by repeat (first | exact Below.refl _ _ | refine Below.drew ?_ | refine Below.alloc ?_ (by first | omega | (simp; done) | (simp; omega)) _)))).mono ?_
  rintro e w' ⟨a', c', rfl, hown, hb⟩
  obtain ⟨hc, hf⟩ := bcell hb
  have hsz := hb.size
  have hown' : w'.ownsRow (w.heap.size + 1 + 1 + 1) 2 1 (.slice a' zs.length c') zs.length (zs.map (Value.int .i64)) := by simpa using hown
  have hb0 : Below w.heap.size w w' := Below.trans (by repeat (first | exact Below.refl _ _ | refine Below.drew ?_ | refine Below.alloc ?_ (by first | omega | (simp; done) | (simp; omega)) _)) (hb.mono (by first | omega | (simp; done) | (simp; omega)))
  clear hown
  go_wp2
  refine bodyPost_ret (v := opV 4 i c n false (.slice a' zs.length c')) ?_ rfl ⟨a', c', rfl, ?_, ?_⟩
  · simp only [results, Tryz.results75]
    go_simp
  · refine ownsRow_low ?_ (show w.heap.size ≤ w.heap.size + 1 + 1 + 1 by omega)
    repeat (first | (with_reducible exact hown') | refine ownsRow_setCell_below ?_ (by show _ < _; simp only []; omega) _)
  · repeat (first | (with_reducible exact hb0) | refine Below.setCell ?_ (by show _ ≤ _; simp only []; omega) _)
set_option maxRecDepth 100000 in
theorem plain_2 (i c n : Int) (f : Bool) (am : Value) (zs : List Int) (w : World) (hz : zs.length * 8 ≤ 140737488351232) (h : IntsAt w am zs) :
    Calls Tryz.prog 75 #[opV 2 i c n f am] w (RetOp w 2 i 0 0 false zs) := by
  go_enter Tryz.func75, Tryz.ntmps75
  go_wp2_with fail
  refine (clone_any _ zs _ hz (h.below (by repeat (first | exact Below.refl _ _ | refine Below.drew ?_ | refine Below.alloc ?_ (by first | omega | (simp; done) | (simp; omega)) _)))).mono ?_
  rintro e w' ⟨a', c', rfl, hown, hb⟩
  obtain ⟨hc, hf⟩ := bcell hb
  have hsz := hb.size
  have hown' : w'.ownsRow (w.heap.size + 1 + 1 + 1) 2 1 (.slice a' zs.length c') zs.length (zs.map (Value.int .i64)) := by simpa using hown
  have hb0 : Below w.heap.size w w' := Below.trans (by repeat (first | exact Below.refl _ _ | refine Below.drew ?_ | refine Below.alloc ?_ (by first | omega | (simp; done) | (simp; omega)) _)) (hb.mono (by first | omega | (simp; done) | (simp; omega)))
  clear hown
  go_wp2
  refine bodyPost_ret (v := opV 2 i 0 0 false (.slice a' zs.length c')) ?_ rfl ⟨a', c', rfl, ?_, ?_⟩
  · simp only [results, Tryz.results75]
    go_simp
  · refine ownsRow_low ?_ (show w.heap.size ≤ w.heap.size + 1 + 1 + 1 by omega)
    repeat (first | (with_reducible exact hown') | refine ownsRow_setCell_below ?_ (by show _ < _; simp only []; omega) _)
  · repeat (first | (with_reducible exact hb0) | refine Below.setCell ?_ (by show _ ≤ _; simp only []; omega) _)
set_option maxRecDepth 100000 in
theorem plain_3 (i c n : Int) (f : Bool) (am : Value) (w : World) :
    Calls Tryz.prog 75 #[opV 3 i c n f am] w (RetOp w 3 i 0 0 false []) := by
  go_enter Tryz.func75, Tryz.ntmps75
  go_wp2
  refine bodyPost_ret (v := opV 3 i 0 0 false (.slice none 0 0)) ?_ rfl ⟨none, 0, rfl, World.ownsRow_nil _ _ _ _, ?_⟩
  · simp only [results, Tryz.results75]
    go_simp
  · repeat (first | exact Below.refl _ _ | refine Below.drew ?_ | refine Below.alloc ?_ (by first | omega | (simp; done) | (simp; omega)) _)
set_option maxRecDepth 100000 in
theorem plain_5 (i c n : Int) (f : Bool) (am : Value) (w : World) :
    Calls Tryz.prog 75 #[opV 5 i c n f am] w (RetOp w 5 i 0 0 false []) := by
  go_enter Tryz.func75, Tryz.ntmps75
  go_wp2
  refine bodyPost_ret (v := opV 5 i 0 0 false (.slice none 0 0)) ?_ rfl ⟨none, 0, rfl, World.ownsRow_nil _ _ _ _, ?_⟩
  · simp only [results, Tryz.results75]
    go_simp
  · repeat (first | exact Below.refl _ _ | refine Below.drew ?_ | refine Below.alloc ?_ (by first | omega | (simp; done) | (simp; omega)) _)
set_option maxRecDepth 100000 in
theorem plain_1 (i c n : Int) (f : Bool) (am : Value) (w : World) :
    Calls Tryz.prog 75 #[opV 1 i c n f am] w (RetOp w 1 i 0 n f []) := by
  go_enter Tryz.func75, Tryz.ntmps75
  go_wp2
  go_region
  go_wp2
  refine bodyPost_ret (v := opV 1 i 0 n f (.slice none 0 0)) ?_ rfl ⟨none, 0, rfl, World.ownsRow_nil _ _ _ _, ?_⟩
  · simp only [results, Tryz.results75]
    go_simp
  · repeat (first | exact Below.refl _ _ | refine Below.drew ?_ | refine Below.alloc ?_ (by first | omega | (simp; done) | (simp; omega)) _)
set_option maxRecDepth 100000 in
theorem plain_6 (i c n : Int) (f : Bool) (am : Value) (w : World) :
    Calls Tryz.prog 75 #[opV 6 i c n f am] w (RetOp w 6 0 0 n false []) := by
  go_enter Tryz.func75, Tryz.ntmps75
  go_wp2
  refine bodyPost_ret (v := opV 6 0 0 n false (.slice none 0 0)) ?_ rfl ⟨none, 0, rfl, World.ownsRow_nil _ _ _ _, ?_⟩
  · simp only [results, Tryz.results75]
    go_simp
  · repeat (first | exact Below.refl _ _ | refine Below.drew ?_ | refine Below.alloc ?_ (by first | omega | (simp; done) | (simp; omega)) _)
set_option maxRecDepth 100000 in
theorem plain_x (k : Int) (hk : k < 1 ∨ 6 < k) (i c n : Int) (f : Bool) (am : Value) (w : World) :
    Calls Tryz.prog 75 #[opV k i c n f am] w (RetOp w k 0 0 0 false []) := by
  have h1 : (k == 1) = false := by simp; omega
  have h2 : (k == 2) = false := by simp; omega
  have h3 : (k == 3) = false := by simp; omega
  have h4 : (k == 4) = false := by simp; omega
  have h5 : (k == 5) = false := by simp; omega
  have h6 : (k == 6) = false := by simp; omega
  go_enter Tryz.func75, Tryz.ntmps75
  go_wp2
  refine bodyPost_ret (v := opV k 0 0 0 false (.slice none 0 0)) ?_ rfl ⟨none, 0, rfl, World.ownsRow_nil _ _ _ _, ?_⟩
  · simp only [results, Tryz.results75]
    go_simp
  · repeat (first | exact Below.refl _ _ | refine Below.drew ?_ | refine Below.alloc ?_ (by first | omega | (simp; done) | (simp; omega)) _)
end Go.Proofs.YtdclokpoeaehlaaGreatDoor
/- hammockref03.Plain, and both plain operations for any kind. -/
namespace Go.Proofs.YtdclokpoeaehlaaGreatDoor
set_option linter.all false
open Go.RowKit

/-- A result that is an operation with given amounts. -/
def RetOpR (W : World) (k i c n : Int) (f : Bool) (am : Value) (e : Ending) (w' : World) : Prop := e = .returned (opV k i c n f am) ∧ Below W.heap.size W w'
def pI (k i : Int) : Int := if 1 ≤ k ∧ k ≤ 5 then i else 0
def pC (k c : Int) : Int := if k = 4 then c else 0
def pN (k n : Int) : Int := if k = 1 ∨ k = 4 ∨ k = 6 then n else 0
def pF (k : Int) (f : Bool) : Bool := if k = 1 then f else false
def pZ (k : Int) (zs : List Int) : List Int := if k = 2 ∨ k = 4 then zs else []
def pA (k : Int) (am : Value) : Value := if k = 2 ∨ k = 4 then am else .slice none 0 0

theorem kinds (k : Int) : k = 1 ∨ k = 2 ∨ k = 3 ∨ k = 4 ∨ k = 5 ∨ k = 6 ∨ (k < 1 ∨ 6 < k) := by omega
theorem plain_any (k i c n : Int) (f : Bool) (am : Value) (zs : List Int) (w : World) (hz : zs.length * 8 ≤ 140737488351232) (h : IntsAt w am zs) :
    Calls Tryz.prog 75 #[opV k i c n f am] w (RetOp w k (pI k i) (pC k c) (pN k n) (pF k f) (pZ k zs)) := by
  rcases kinds k with rfl | rfl | rfl | rfl | rfl | rfl | hk
  · exact plain_1 i c n f am w
  · exact plain_2 i c n f am zs w hz h
  · exact plain_3 i c n f am w
  · exact plain_4 i c n f am zs w hz h
  · exact plain_5 i c n f am w
  · exact plain_6 i c n f am w
  · have e1 : pI k i = 0 := by unfold pI; rw [if_neg (by omega)]
    have e2 : pC k c = 0 := by unfold pC; rw [if_neg (by omega)]
    have e3 : pN k n = 0 := by unfold pN; rw [if_neg (by omega)]
    have e4 : pF k f = false := by unfold pF; rw [if_neg (by omega)]
    have e5 : pZ k zs = [] := by unfold pZ; rw [if_neg (by omega)]
    rw [e1, e2, e3, e4, e5]
    exact plain_x k hk i c n f am w
set_option maxRecDepth 100000 in
theorem rplain_1 (i c n : Int) (f : Bool) (a : Option Addr) (l cp : Nat) (w : World) : Calls Tryz.prog 40 #[opV 1 i c n f (.slice a l cp)] w (RetOpR w 1 i 0 n f (.slice none 0 0)) := by
  go_enter Tryz.func40, Tryz.ntmps40
  go_wp2
  refine bodyPost_ret (v := opV 1 i 0 n f (.slice none 0 0)) ?_ rfl ⟨rfl, ?_⟩
  · simp only [results, Tryz.results40]
    go_simp
  · repeat (first | exact Below.refl _ _ | refine Below.drew ?_ | refine Below.alloc ?_ (by first | omega | (simp; done) | (simp; omega)) _)
set_option maxRecDepth 100000 in
theorem rplain_2 (i c n : Int) (f : Bool) (a : Option Addr) (l cp : Nat) (w : World) : Calls Tryz.prog 40 #[opV 2 i c n f (.slice a l cp)] w (RetOpR w 2 i 0 0 false (.slice a l cp)) := by
  go_enter Tryz.func40, Tryz.ntmps40
  go_wp2
  refine bodyPost_ret (v := opV 2 i 0 0 false (.slice a l cp)) ?_ rfl ⟨rfl, ?_⟩
  · simp only [results, Tryz.results40]
    go_simp
  · repeat (first | exact Below.refl _ _ | refine Below.drew ?_ | refine Below.alloc ?_ (by first | omega | (simp; done) | (simp; omega)) _)
set_option maxRecDepth 100000 in
theorem rplain_3 (i c n : Int) (f : Bool) (a : Option Addr) (l cp : Nat) (w : World) : Calls Tryz.prog 40 #[opV 3 i c n f (.slice a l cp)] w (RetOpR w 3 i 0 0 false (.slice none 0 0)) := by
  go_enter Tryz.func40, Tryz.ntmps40
  go_wp2
  refine bodyPost_ret (v := opV 3 i 0 0 false (.slice none 0 0)) ?_ rfl ⟨rfl, ?_⟩
  · simp only [results, Tryz.results40]
    go_simp
  · repeat (first | exact Below.refl _ _ | refine Below.drew ?_ | refine Below.alloc ?_ (by first | omega | (simp; done) | (simp; omega)) _)
set_option maxRecDepth 100000 in
theorem rplain_4 (i c n : Int) (f : Bool) (a : Option Addr) (l cp : Nat) (w : World) : Calls Tryz.prog 40 #[opV 4 i c n f (.slice a l cp)] w (RetOpR w 4 i c n false (.slice a l cp)) := by
  go_enter Tryz.func40, Tryz.ntmps40
  go_wp2
  refine bodyPost_ret (v := opV 4 i c n false (.slice a l cp)) ?_ rfl ⟨rfl, ?_⟩
  · simp only [results, Tryz.results40]
    go_simp
  · repeat (first | exact Below.refl _ _ | refine Below.drew ?_ | refine Below.alloc ?_ (by first | omega | (simp; done) | (simp; omega)) _)
set_option maxRecDepth 100000 in
theorem rplain_5 (i c n : Int) (f : Bool) (a : Option Addr) (l cp : Nat) (w : World) : Calls Tryz.prog 40 #[opV 5 i c n f (.slice a l cp)] w (RetOpR w 5 i 0 0 false (.slice none 0 0)) := by
  go_enter Tryz.func40, Tryz.ntmps40
  go_wp2
  refine bodyPost_ret (v := opV 5 i 0 0 false (.slice none 0 0)) ?_ rfl ⟨rfl, ?_⟩
  · simp only [results, Tryz.results40]
    go_simp
  · repeat (first | exact Below.refl _ _ | refine Below.drew ?_ | refine Below.alloc ?_ (by first | omega | (simp; done) | (simp; omega)) _)
set_option maxRecDepth 100000 in
theorem rplain_6 (i c n : Int) (f : Bool) (a : Option Addr) (l cp : Nat) (w : World) : Calls Tryz.prog 40 #[opV 6 i c n f (.slice a l cp)] w (RetOpR w 6 0 0 n false (.slice none 0 0)) := by
  go_enter Tryz.func40, Tryz.ntmps40
  go_wp2
  refine bodyPost_ret (v := opV 6 0 0 n false (.slice none 0 0)) ?_ rfl ⟨rfl, ?_⟩
  · simp only [results, Tryz.results40]
    go_simp
  · repeat (first | exact Below.refl _ _ | refine Below.drew ?_ | refine Below.alloc ?_ (by first | omega | (simp; done) | (simp; omega)) _)
set_option maxRecDepth 100000 in
theorem rplain_l (k : Int) (hk : k < 1) (i c n : Int) (f : Bool) (a : Option Addr) (l cp : Nat) (w : World) : Calls Tryz.prog 40 #[opV k i c n f (.slice a l cp)] w (RetOpR w k 0 0 0 false (.slice none 0 0)) := by
  have h1 : (k == 1) = false := by simp; omega
  have h2 : (k == 2) = false := by simp; omega
  have h3 : (k == 3) = false := by simp; omega
  have h4 : (k == 4) = false := by simp; omega
  have h5 : (k == 5) = false := by simp; omega
  have h6 : (k == 6) = false := by simp; omega
  go_enter Tryz.func40, Tryz.ntmps40
  go_wp2
  refine bodyPost_ret (v := opV k 0 0 0 false (.slice none 0 0)) ?_ rfl ⟨rfl, ?_⟩
  · simp only [results, Tryz.results40]
    go_simp
  · repeat (first | exact Below.refl _ _ | refine Below.drew ?_ | refine Below.alloc ?_ (by first | omega | (simp; done) | (simp; omega)) _)
set_option maxRecDepth 100000 in
theorem rplain_g (k : Int) (hk : 6 < k) (i c n : Int) (f : Bool) (a : Option Addr) (l cp : Nat) (w : World) : Calls Tryz.prog 40 #[opV k i c n f (.slice a l cp)] w (RetOpR w k 0 0 0 false (.slice none 0 0)) := by
  have h1 : (k == 1) = false := by simp; omega
  have h2 : (k == 2) = false := by simp; omega
  have h3 : (k == 3) = false := by simp; omega
  have h4 : (k == 4) = false := by simp; omega
  have h5 : (k == 5) = false := by simp; omega
  have h6 : (k == 6) = false := by simp; omega
  go_enter Tryz.func40, Tryz.ntmps40
  go_wp2
  refine bodyPost_ret (v := opV k 0 0 0 false (.slice none 0 0)) ?_ rfl ⟨rfl, ?_⟩
  · simp only [results, Tryz.results40]
    go_simp
  · repeat (first | exact Below.refl _ _ | refine Below.drew ?_ | refine Below.alloc ?_ (by first | omega | (simp; done) | (simp; omega)) _)
theorem rplain_any (k i c n : Int) (f : Bool) (am : Value) (zs : List Int) (w : World) (h : IntsAt w am zs) :
    Calls Tryz.prog 40 #[opV k i c n f am] w (RetOpR w k (pI k i) (pC k c) (pN k n) (pF k f) (pA k am)) := by
  obtain ⟨a, cp, rfl, -⟩ := h
  obtain ⟨l, hl⟩ : ∃ l, l = zs.length := ⟨_, rfl⟩
  rw [← hl]
  rcases kinds k with rfl | rfl | rfl | rfl | rfl | rfl | hk
  · exact rplain_1 i c n f a l cp w
  · exact rplain_2 i c n f a l cp w
  · exact rplain_3 i c n f a l cp w
  · exact rplain_4 i c n f a l cp w
  · exact rplain_5 i c n f a l cp w
  · exact rplain_6 i c n f a l cp w
  · have e1 : pI k i = 0 := by unfold pI; rw [if_neg (by omega)]
    have e2 : pC k c = 0 := by unfold pC; rw [if_neg (by omega)]
    have e3 : pN k n = 0 := by unfold pN; rw [if_neg (by omega)]
    have e4 : pF k f = false := by unfold pF; rw [if_neg (by omega)]
    have e5 : pA k (.slice a l cp) = .slice none 0 0 := by unfold pA; rw [if_neg (by omega)]
    rw [e1, e2, e3, e4, e5]
    rcases hk with hk | hk
    · exact rplain_l k hk i c n f a l cp w
    · exact rplain_g k hk i c n f a l cp w
end Go.Proofs.YtdclokpoeaehlaaGreatDoor
