/- maps.Keys of a map of one entry: what it hands on. -/
import Derived.Test.YtllipidegjpidaaGreatDoorJP
import Derived.RangeFuncNested
import Derived.RangeFuncBound
import Derived.RangeFuncCalls
import Derived.RangeFuncLeaves
import Derived.Shelf.Abstract
import Derived.OwnWalkIn
import Derived.TacticsInMore
import Derived.LoopNIn
import Derived.LoopIn
namespace Go.Proofs.YtllipidegjpidaaGreatDoor
set_option linter.all false
open Go.RowKit
attribute [local go_sem] Oper.semAt_some

theorem grown_set {w : World} {r : Nat} {o : Obj} : w.grownBy { w with heap := w.heap.setIfInBounds r o } (some r) :=
  ⟨rfl, rfl, rfl, by simp, fun k _ hk => by
    have : r ≠ k := fun e => hk (by rw [e])
    simp [Array.getElem?_setIfInBounds, this]⟩
theorem set_same {w : World} {r : Nat} {o : Obj} (h : r < w.heap.size) : ({ w with heap := w.heap.setIfInBounds r o } : World).heap[r]? = some o := by simp [Array.getElem?_setIfInBounds, h]
theorem set_other {w : World} {r m : Nat} {o : Obj} (h : r ≠ m) : ({ w with heap := w.heap.setIfInBounds r o } : World).heap[m]? = w.heap[m]? := by simp [Array.getElem?_setIfInBounds, h]
set_option maxHeartbeats 4000000 in
set_option maxRecDepth 100000 in
/-- The iterator of maps.Keys over a map whose one key is 7. -/
theorem keys_stops (n : Nat) (hn : 1 ≤ n) (kb m : Nat) (v : Value) (w : World) (hk : w.cell? ⟨kb, 0, none⟩ = some (.map (some m))) (hm : MapI w m [(7, v)]) :
    SeqStopsK Fence.wide n Tryz.prog 187 #[.pointer (some ⟨kb, 0, none⟩)] (fun _ : Unit => #[.int .i64 7]) KeepsWalks (fun xs => xs = [()]) (fun xs => xs = [()]) 1 w := by
  intro l J Jx W hW hJ hJx hY h0
  obtain ⟨e, c, hb, hkey, hval, hborn⟩ := mapI_one hm
  have hbW : W.heap[m]? = some (.map #[e] c) := (hW.block m (Array.getElem?_eq_some_iff.1 hb).1).trans hb
  have hkW := keepl hW hk
  have hml := (Array.getElem?_eq_some_iff.1 hbW).1
  -- the iterator's block
  have hr1 := range_one hbW
  obtain ⟨V, hV⟩ : ∃ V, V = W.alloc (.mapIter (some m) c #[] c) := ⟨_, rfl⟩
  have hrV : V.heap[W.heap.size]? = some (.mapIter (some m) c #[] c) := by rw [hV]; exact World.alloc_heap_new W _
  have hmV : V.heap[m]? = some (.map #[e] c) := by rw [hV]; exact (Below.heap_alloc _ _ _ hml).trans hbW
  have hJV : J [] V := by rw [hV]; exact hJ [] W _ none h0 (World.grownBy_alloc W _ none) (fun r e => by cases e)
  rw [← hV] at hr1
  have hn1 := fun ty => next_one (ty := ty) hrV hmV hborn
  obtain ⟨U, hU⟩ : ∃ U : World, U = { V with heap := V.heap.setIfInBounds W.heap.size (.mapIter (some m) c #[e.born] c) } := ⟨_, rfl⟩
  have hlV := (Array.getElem?_eq_some_iff.1 hrV).1
  have hrU : U.heap[W.heap.size]? = some (.mapIter (some m) c #[e.born] c) := by rw [hU]; exact set_same hlV
  have hmU : U.heap[m]? = some (.map #[e] c) := by rw [hU]; exact (set_other (by omega)).trans hmV
  have hJU : J [] U := by rw [hU]; exact hJ [] V _ (some W.heap.size) hJV grown_set (fun r e => by cases e; exact ⟨Nat.le_refl _, _, hrV, rfl⟩)
  rw [← hU] at hn1
  have he1 := entry_one hrU hmU
  rw [hkey] at hn1 he1
  rw [hval] at hn1 he1
  obtain ⟨fn, tmps, assign, body, hy, hR⟩ := hY [] () U hJU (by simp)
  dsimp only at hy
  have HR := Lib.hid hR
  have HE : Hid (∀ W', KeepsWalks U W' → ∀ ty, (Instr.next (.pointer (some ⟨W.heap.size, 0, none⟩)) false ty).run Tryz.prog W' = .ok (.tuple #[.bool false]) W') := fun W' hk ty => next_end (hk.same _ _ hrU rfl) (hk.same _ _ hmU rfl) hborn
  clear hR hJU hJV h0 hY hJ hJx hrU hmU hrV hmV hU hV hb hbW hW hk hm
  refine callsIn_of_wp Tryz.func187 rfl trivial ?_ rfl
  simp only [Tryz.ntmps187, List.size_toArray, List.length_cons, List.length_nil, Nat.reduceAdd, Nat.reduceSub, Array.replicate_succ, Array.replicate_zero, List.push_toArray, List.append_toArray, List.nil_append, List.cons_append]
  gi_wp2
  refine wpIn_loop_rounds 2 ?_
  rw [roundsIn_succ]
  gi_wp2
  refine HR.out.mono ?_
  rintro e W' (⟨rfl, hJ', hk⟩ | ⟨rfl, hJx'⟩)
  · have hn2 := HE.out W' hk
    have HJ := Lib.hid hJ'
    clear hJ'
    gi_wp2
    rw [roundsIn_succ]
    gi_wp2
    go_end0
    exact ⟨⟨_, rfl⟩, .inl ⟨[()], rfl, HJ.out⟩⟩
  · have HJ := Lib.hid hJx'
    clear hJx'
    gi_wp2
    refine bodyPost_ret (v := .tuple #[]) (by simp only [results, Tryz.results187]; first | rfl | (go_simp; done) | (go_simp; rfl)) rfl ⟨⟨_, rfl⟩, .inr ⟨[()], rfl, HJ.out⟩⟩
set_option maxRecDepth 100000 in
theorem keysMk_any (m : Nat) (w : World) : Calls Tryz.prog 178 #[.map (some m)] w fun e w' => e = .returned (.func (Fn.func 187) #[] #[.pointer (some ⟨w.heap.size, 0, none⟩)]) ∧ w' = w.alloc (.cells #[.map (some m)] 140) := by
  go_enter Tryz.func178, Tryz.ntmps178
  go_wp2
  go_ret
  exact ⟨rfl, rfl⟩
end Go.Proofs.YtllipidegjpidaaGreatDoor
