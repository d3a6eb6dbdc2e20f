/- Decisions: their cells, `==` of them; what the law finds. -/
import Derived.Test.YtllipidegjpidaaGreatDoorRow
import Derived.DeepKeys4
import Derived.Laws.StructEq
namespace Go.Proofs.YtllipidegjpidaaGreatDoor
set_option linter.all false
open Go.RowKit

/-- A decision. -/
structure Dec where
  kind : Int
  id : Int
  node : Int
  at_ : Int
/-- Decisions. -/
def kDec : Kin Dec where
  t := 22
  e := 26
  size := 4
  bytes := 32
  zero := .agg #[.int .i64 0, .int .i64 0, .int .i64 0, .int .i64 0]
  enc := fun d => [.int .i64 d.kind, .int .i64 d.id, .int .i64 d.node, .int .i64 d.at_]
  ht := Tryz.underlying22
  hi := by kernel_rfl
  hz := rfl
  pos := by decide
  len := fun _ => rfl
  one := fun _ u h => by
    simp only [List.mem_cons, List.not_mem_nil, or_false] at h
    rcases h with rfl | rfl | rfl | rfl <;> rfl
/-- Whole numbers. -/
def kInt : Kin Int where
  t := 31
  e := 3
  size := 1
  bytes := 8
  zero := .int .i64 0
  enc := fun x => [.int .i64 x]
  ht := Tryz.underlying31
  hi := by kernel_rfl
  hz := rfl
  pos := by decide
  len := fun _ => rfl
  one := fun _ u h => by rw [List.mem_singleton.1 h]; rfl
abbrev decV (d : Dec) : Value := .agg #[.int .i64 d.kind, .int .i64 d.id, .int .i64 d.node, .int .i64 d.at_]
/-- A decision's four cells. -/
def DecCells (w : World) (b o : Nat) (d : Dec) : Prop :=
  w.cell? ⟨b, o, none⟩ = some (.int .i64 d.kind) ∧ w.cell? ⟨b, o + 1, none⟩ = some (.int .i64 d.id) ∧ w.cell? ⟨b, o + 2, none⟩ = some (.int .i64 d.node) ∧ w.cell? ⟨b, o + 3, none⟩ = some (.int .i64 d.at_)
theorem DecCells.from_ {w w' : World} {b o : Nat} {d : Dec} (h : DecCells w b o d) (f : From w w') : DecCells w' b o d :=
  ⟨f.cell h.1, f.cell h.2.1, f.cell h.2.2.1, f.cell h.2.2.2⟩
def decAt (ds : List Dec) (j : Nat) : Dec := ds.getD j ⟨0, 0, 0, 0⟩
theorem decAt_get {ds : List Dec} {j : Nat} (h : j < ds.length) : ds[j]? = some (decAt ds j) := by unfold decAt; rw [List.getD_eq_getElem?_getD, List.getElem?_eq_getElem h]; rfl
theorem cells1i_of {w : World} {g : Nat} {x : Int} (h0 : w.cell? ⟨g, 0, none⟩ = some (.int .i64 x)) : ∀ j u, (kInt.enc x)[j]? = some u → w.cell? ⟨g, j, none⟩ = some u
  | 0, _, h => by cases h; exact h0
  | _ + 1, _, h => by cases h
/-- A slice of decisions that is read: its value, and where its elements lie. -/
theorem kDec_get {w : World} {v : Value} {ds : List Dec} (h : kDec.At w v ds) : ∃ a cap, v = .slice a ds.length cap ∧ ∀ j, j < ds.length → ∃ b off, a = some ⟨b, off, none⟩ ∧ b < w.heap.size ∧ DecCells w b (off + j * 4) (decAt ds j) := by
  obtain ⟨a, cap, e, h1⟩ := h
  refine ⟨a, cap, e, fun j hj => ?_⟩
  rcases h1 with h1 | ⟨b, off, e1, hlt, hc⟩
  · subst h1; simp at hj
  · exact ⟨b, off, e1, hlt, hc j _ (decAt_get hj) 0 _ rfl, hc j _ (decAt_get hj) 1 _ rfl, hc j _ (decAt_get hj) 2 _ rfl, hc j _ (decAt_get hj) 3 _ rfl⟩
def decB (p q : Dec) : Bool := p.kind == q.kind && p.id == q.id && p.node == q.node && p.at_ == q.at_
theorem decB_refl (p : Dec) : decB p p = true := by simp [decB]
theorem dpart0 (x y z u : Int) (w : World) : (part 3 #[.int .i64 x, .int .i64 y, .int .i64 z, .int .i64 u] 0).run Tryz.prog w = .ok (.int .i64 x) w := by kernel_rfl
theorem dpart1 (x y z u : Int) (w : World) : (part 3 #[.int .i64 x, .int .i64 y, .int .i64 z, .int .i64 u] 1).run Tryz.prog w = .ok (.int .i64 y) w := by kernel_rfl
theorem dpart2 (x y z u : Int) (w : World) : (part 3 #[.int .i64 x, .int .i64 y, .int .i64 z, .int .i64 u] 2).run Tryz.prog w = .ok (.int .i64 z) w := by kernel_rfl
theorem dpart3 (x y z u : Int) (w : World) : (part 3 #[.int .i64 x, .int .i64 y, .int .i64 z, .int .i64 u] 3).run Tryz.prog w = .ok (.int .i64 u) w := by kernel_rfl
theorem equalDec (p q : Dec) (w : World) : (Op.equal 26 (decV p) (decV q)).run Tryz.prog w = .ok (decB p q) w := by
  have h : Tryz.prog.underlying 26 = some (.struct (Tryz.prog.fieldsOf 26)) := by kernel_rfl
  have hs : Tryz.prog.stoodInHeld 26 = false := by kernel_rfl
  unfold Op.equal Op.maxDepth decB
  rw [run_equalIn_struct w 9999 26 _ _ h hs]
  simp only [Program.fieldsOf, Tryz.underlying26, Op.eqFields, Sem.run_bind, Sem.run_ite, dpart0, dpart1, dpart2, dpart3, Result.andThen_ok, run_equalIn_int w 9998 3 .i64 .i64 _ _ Tryz.underlying3, Sem.run_pure]
  cases p.kind == q.kind <;> cases p.id == q.id <;> cases p.node == q.node <;> cases p.at_ == q.at_ <;> simp [Sem.run_pure, Op.eqFields, Result.andThen_ok]
theorem neqDec (p q : Dec) (w : World) : (binOp .neq 26 (decV p) (decV q)).run Tryz.prog w = .ok (.bool (!decB p q)) w := by
  simp [binOp, equalDec, Result.andThen_ok]
/-- Is a decision of this kind and id? -/
def isD (kind id : Int) (d : Dec) : Bool := d.kind == kind && d.id == id
/-- Where the first such decision stands. -/
def findD (kind id : Int) (ds : List Dec) : Int := match ds.findIdx? (isD kind id) with | some i => i | none => -1
theorem findD_hit {kind id : Int} {ds : List Dec} {k : Nat} (hk : k < ds.length) (h : isD kind id (decAt ds k) = true) (hb : ∀ j, j < k → isD kind id (decAt ds j) = false) : findD kind id ds = k := by
  have : ds.findIdx? (isD kind id) = some k := by
    rw [List.findIdx?_eq_some_iff_getElem]
    have e : ∀ j (hj : j < ds.length), decAt ds j = ds[j] := fun j hj => by unfold decAt; rw [List.getD_eq_getElem?_getD, List.getElem?_eq_getElem hj]; rfl
    refine ⟨hk, by rw [← e k hk]; exact h, fun j hj => ?_⟩
    rw [← e j (by omega), hb j hj]; simp
  unfold findD; rw [this]
theorem findD_none {kind id : Int} {ds : List Dec} (hb : ∀ j, j < ds.length → isD kind id (decAt ds j) = false) : findD kind id ds = -1 := by
  have : ds.findIdx? (isD kind id) = none := by
    rw [List.findIdx?_eq_none_iff]
    intro x hx
    obtain ⟨j, hj, rfl⟩ := List.getElem_of_mem hx
    have e : decAt ds j = ds[j] := by unfold decAt; rw [List.getD_eq_getElem?_getD, List.getElem?_eq_getElem hj]; rfl
    rw [← e]; exact hb j hj
  unfold findD; rw [this]
/-- The ids of the pods that are evicted. -/
def victimsD (ds : List Dec) : List Int := (ds.filter fun d => d.kind == 6).map (·.id)
theorem victimsD_step {ds : List Dec} {k : Nat} (h : k < ds.length) : victimsD (ds.take (k + 1)) = victimsD (ds.take k) ++ (if (decAt ds k).kind == 6 then [(decAt ds k).id] else []) := by
  unfold victimsD
  rw [List.take_succ, decAt_get h]
  simp only [Option.toList_some, List.filter_append, List.map_append]
  congr 1
  by_cases hc : ((decAt ds k).kind == 6) = true
  · rw [if_pos hc]; simp [hc]
  · rw [if_neg hc]; simp [hc]
theorem victimsD_len (ds : List Dec) : (victimsD ds).length ≤ ds.length := by
  unfold victimsD
  rw [List.length_map]
  exact List.length_filter_le _ _
end Go.Proofs.YtllipidegjpidaaGreatDoor
