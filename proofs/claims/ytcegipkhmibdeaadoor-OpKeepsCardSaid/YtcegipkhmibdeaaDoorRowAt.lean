/- Rows of whole numbers that the call made: where they lie, what a loop that writes one of them leaves of the others; append onto a new slice. -/
import Derived.Test.YtcegipkhmibdeaaDoorOp
import Derived.Test.YtcegipkhmibdeaaDoorNamed
import Derived.Laws.OwnMore
namespace Go.Proofs.YtcegipkhmibdeaaDoor
set_option linter.all false
open Go.RowKit

/-- A statement goes on in a world that gets a name. -/
theorem wp_named {c : Code} {P : Program} {Q : Exit → Act → World → Prop} {a : Act} {X : World} (h : ∀ W, W = X → c.wp P Q a W) : c.wp P Q a X := h X rfl
theorem setCell_ne {w : World} {b o b' o' : Nat} {v : Value} (h : b ≠ b' ∨ o ≠ o') : (w.setCell ⟨b, o, none⟩ v).cell? ⟨b', o', none⟩ = w.cell? ⟨b', o', none⟩ := by
  refine World.cell?_setCell_other _ _ _ _ ?_
  intro e
  injection e with e1 e2
  rcases h with h | h
  · exact h e1
  · exact h e2
/-- Only block g (if n is not 0) differs. -/
structure Only (g n : Nat) (w w' : World) : Prop where
  cell : ∀ b o, (0 < n → b ≠ g) → w'.cell? ⟨b, o, none⟩ = w.cell? ⟨b, o, none⟩
  frozen : ∀ b o, (0 < n → b ≠ g) → w'.frozen? ⟨b, o, none⟩ = w.frozen? ⟨b, o, none⟩
  size : w'.heap.size = w.heap.size
theorem Only.refl (g n : Nat) (w : World) : Only g n w w := ⟨fun _ _ _ => rfl, fun _ _ _ => rfl, rfl⟩
theorem Only.drew {g n : Nat} {w w' : World} (h : Only g n w w') : Only g n w w'.drew := ⟨fun b o hb => by rw [World.cell?_drew]; exact h.cell b o hb, fun b o hb => by rw [World.frozen?_drew]; exact h.frozen b o hb, by simpa using h.size⟩
theorem Only.set {g n j : Nat} {w w' : World} {v : Value} (h : Only g n w w') (hn : 0 < n) : Only g n w (w'.setCell ⟨g, j, none⟩ v) :=
  ⟨fun b o hb => by
    rw [setCell_ne (.inl (Ne.symm (hb hn)))]
    exact h.cell b o hb, fun b o hb => by rw [World.frozen?_setCell]; exact h.frozen b o hb, by simpa using h.size⟩
/-- Numbers in a block of their own, from its first cell on. -/
structure RowAt (w : World) (g : Nat) (a : Option Addr) (zs : List Int) : Prop where
  addr : 0 < zs.length → a = some ⟨g, 0, none⟩
  lt : 0 < zs.length → g < w.heap.size
  cells : ∀ j, j < zs.length → w.cell? ⟨g, j, none⟩ = some (.int .i64 (zs.getD j 0))
  free : 0 < zs.length → ∀ j, j < zs.length → w.frozen? ⟨g, j, none⟩ = false
theorem RowAt.ints {w : World} {g : Nat} {a : Option Addr} {zs : List Int} (h : RowAt w g a zs) (cap : Nat) : IntsAt w (.slice a zs.length cap) zs := by
  refine ⟨a, cap, rfl, ?_⟩
  rcases Nat.eq_zero_or_pos zs.length with h0 | h0
  · exact .inl (List.eq_nil_of_length_eq_zero h0)
  · exact .inr ⟨g, 0, h.addr h0, h.lt h0, fun j hj => by rw [Nat.zero_add]; exact h.cells j hj⟩
theorem RowAt.only {w w' : World} {g g' n : Nat} {a : Option Addr} {zs : List Int} (h : RowAt w g a zs) (ho : Only g' n w w') (hne : 0 < zs.length → 0 < n → g ≠ g') : RowAt w' g a zs :=
  ⟨h.addr, fun h0 => by rw [ho.size]; exact h.lt h0, fun j hj => by rw [ho.cell g j (hne (by omega))]; exact h.cells j hj, fun h0 j hj => by rw [ho.frozen g j (hne (by omega))]; exact h.free h0 j hj⟩
theorem RowAt.below {w w' : World} {g m : Nat} {a : Option Addr} {zs : List Int} (h : RowAt w g a zs) (hb : Below m w w') (hm : w.heap.size ≤ m) : RowAt w' g a zs :=
  ⟨h.addr, fun h0 => by have := h.lt h0; have := hb.size; omega, fun j hj => by rw [hb.cell (p := ⟨g, j, none⟩) (by have := h.lt (by omega); show g < m; omega)]; exact h.cells j hj,
    fun h0 j hj => by rw [hb.frozen (p := ⟨g, j, none⟩) (by have := h.lt (by omega); show g < m; omega)]; exact h.free h0 j hj⟩
theorem RowAt.set {w : World} {g k : Nat} {a : Option Addr} {zs : List Int} (h : RowAt w g a zs) (hk : k < zs.length) (x : Int) : RowAt (w.setCell ⟨g, k, none⟩ (.int .i64 x)) g a (zs.set k x) := by
  refine ⟨fun h0 => h.addr (by simpa using h0), fun h0 => by simpa using h.lt (by simpa using h0), fun j hj => ?_, fun h0 j hj => by rw [World.frozen?_setCell]; exact h.free (by omega) j (by simpa using hj)⟩
  rw [List.length_set] at hj
  by_cases hjk : j = k
  · subst hjk
    rw [World.cell?_setCell_same' _ _ _ (by rw [h.cells j hj]; rfl)]
    simp [hj]
  · rw [setCell_ne (.inr (Ne.symm hjk))]
    rw [h.cells j hj]
    simp [List.getD_eq_getElem?_getD, List.getElem?_set, Ne.symm hjk]
theorem row_at {w : World} {base n : Nat} {E : TypeId} {v : Value} {zs : List Int} (h : w.ownsRow base E 1 v n (zs.map (Value.int .i64))) (hn : n = zs.length) : ∃ a cap g, v = .slice a zs.length cap ∧ (0 < zs.length → base ≤ g) ∧ RowAt w g a zs := by
  subst hn
  rcases h.2 with ⟨rfl, h0⟩ | ⟨g, cap, cur, rfl, hb, hg, hn, hc, hs, ht⟩
  · refine ⟨none, 0, 0, by rw [h0], fun h1 => by omega, ?_⟩
    exact ⟨fun h1 => by omega, fun h1 => by omega, fun j hj => by omega, fun h1 => by omega⟩
  · refine ⟨_, cap, g, rfl, fun _ => hb, fun _ => rfl, fun _ => (Array.getElem?_eq_some_iff.1 hg).1, fun j hj => ?_, fun _ j hj => ?_⟩
    · have h1 := h.cells (g := g) rfl j (.int .i64 (zs.getD j 0)) (by rw [List.getElem?_map, List.getElem?_eq_getElem hj, List.getD_eq_getElem?_getD, List.getElem?_eq_getElem hj]; rfl)
      rw [add_mk, Nat.zero_add] at h1
      exact h1
    · exact h.frozenAt j
/-- A slice that came in lies below what a loop writes. -/
theorem IntsAt.only {w w' : World} {B g n : Nat} {v : Value} {zs : List Int} (h : ∃ a cap, v = .slice a zs.length cap ∧ (zs = [] ∨ ∃ b off, a = some ⟨b, off, none⟩ ∧ b < B ∧ ∀ j, j < zs.length → w.cell? ⟨b, off + j, none⟩ = some (.int .i64 (zs.getD j 0))))
    (ho : Only g n w w') (hg : 0 < n → B ≤ g) : ∃ a cap, v = .slice a zs.length cap ∧ (zs = [] ∨ ∃ b off, a = some ⟨b, off, none⟩ ∧ b < B ∧ ∀ j, j < zs.length → w'.cell? ⟨b, off + j, none⟩ = some (.int .i64 (zs.getD j 0))) := by
  obtain ⟨a, cap, rfl, h | ⟨b, off, rfl, hlt, hc⟩⟩ := h
  · exact ⟨a, cap, rfl, .inl h⟩
  · exact ⟨_, cap, rfl, .inr ⟨b, off, rfl, hlt, fun j hj => by rw [ho.cell b _ (fun h0 => by have := hg h0; omega)]; exact hc j hj⟩⟩
theorem run_append_none {P : Program} {w : World} {base : Nat} {t ty e : TypeId} {i : TypeInfo} {size c : Nat} (ht : P.underlying t = some (.slice e)) (hi : P.info? e = some i)
    (v : Value) (n : Nat) (xs : List Value) (hown : w.ownsRow base e size v n xs) :
    (Builtin.append_ #[t, t] ty #[v, .slice none 0 c]).run P w = .ok v w := by
  rcases hown.2 with ⟨rfl, rfl⟩ | ⟨g, cap, cur, rfl, _, _, hnc, _⟩
  · simp [Builtin.append_, run_underlying ht, sizeOf, typeInfo, hi, Builtin.lenOf, Builtin.firstCells]
  · simp [Builtin.append_, run_underlying ht, sizeOf, typeInfo, hi, Builtin.lenOf, Builtin.firstCells, hnc, storeCells]
/-- append of numbers that lie anywhere, onto a slice of the call's own. -/
theorem wpList_append_ints {w : World} {ops : Array Oper} {rest : List Oper} {o : Oper} {a : Act} {Q : Exit → Act → World → Prop} (hgd : o.guard = none) (s x : Operand)
    (ho : o.op = .call { callee := .builtin .append, args := #[s, x], argTypes := #[39, 39] }) (base : Nat)
    (v : Value) (n : Nat) (xs : List Value) (hs : a.eval s = v) (hown : w.ownsRow base 2 1 v n xs) (xv : Value) (zs : List Int) (hx : a.eval x = xv) (hI : IntsAt w xv zs)
    (hb : (n + zs.length) * 8 ≤ 140737488351232) (hbase : base ≤ w.heap.size)
    (h : ∀ v' w', w'.ownsRow base 2 1 v' (n + zs.length) (xs ++ zs.map (Value.int .i64)) → w.grownBy w' v.ownBlock → wpList Tryd.prog ops Q rest (a.put o.dst v') w') : wpList Tryd.prog ops Q (o :: rest) a w := by
  obtain ⟨i0, hi, hz0, hz1, hz2⟩ := info_parts info64
  obtain ⟨ax, cap, rfl, hI⟩ := hI
  have hsome : ∀ ad, ax = some ad → (∀ j u, (zs.map (Value.int .i64))[j]? = some u → w.cell? (ad.add j) = some u) → wpList Tryd.prog ops Q (o :: rest) a w := by
    rintro ad rfl hc
    exact wpList_append_own_at w hgd s x 39 ho base 2 i0 (.int .i64 0) 1 8 Tryd.underlying39 hi hz0 hz1 hz2 rfl (by decide) v n xs hs hown ad zs.length cap (zs.map (Value.int .i64)) hx (by simp) hc
      (by intro u hu; obtain ⟨y, _, rfl⟩ := List.mem_map.1 hu; rfl) (by unfold maxLen; omega) (by omega) hbase (fun v' w' h1 h2 _ _ => h v' w' h1 h2)
  rcases hI with rfl | ⟨b, off, rfl, hlt, hc⟩
  · cases ax with
    | some ad => exact hsome ad rfl (fun j u hu => by simp at hu)
    | none =>
      refine wpList_plain hgd fun K hK => ?_
      have hrun := run_append_none (P := Tryd.prog) (w := w) (base := base) (t := 39) (ty := o.type) (c := cap) Tryd.underlying39 hi v n xs hown
      unfold Oper.wp
      simp [execOp, ho, resolve, invoke, builtin, hs, hx, hrun, Result.andThen]
      exact hK _ _ (h v w (by simpa using hown) ⟨rfl, rfl, rfl, Nat.le_refl _, fun _ _ _ => rfl⟩)
  · refine hsome _ rfl fun j u hu => ?_
    have hj : j < zs.length := by
      rcases Nat.lt_or_ge j zs.length with h | h
      · exact h
      · simp [List.getElem?_eq_none h] at hu
    rw [add_mk, hc j hj]
    simp only [List.getElem?_map, List.getElem?_eq_getElem hj, Option.map_some, Option.some.injEq] at hu
    rw [List.getD_eq_getElem?_getD, List.getElem?_eq_getElem hj, ← hu]; rfl
end Go.Proofs.YtcegipkhmibdeaaDoor
