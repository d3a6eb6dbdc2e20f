/- ScrD0, ScrD, ScrE: together in one text. -/
import Derived.Test.YtdclokpoeaehlaaGreatDoorGm
import Derived.Test.YtdclokpoeaehlaaGreatDoorGn
import Derived.Maps.AppendAt
import Derived.Lib.ConvBytes
/- script.Line: the state of its loop; append that tells of blocks. -/
namespace Go.Proofs.YtdclokpoeaehlaaGreatDoor
set_option linter.all false
open Go.RowKit

/-- append of all elements of a slice that is read; where the result lies. -/
theorem Kin.appendAt {α : Type} (k : Kin α) {w : World} {ops : Array Oper} {rest : List Oper} {o : Oper} {a : Act} {Q : Exit → Act → World → Prop} (hgd : o.guard = none) (s x : Operand)
    (ho : o.op = .call { callee := .builtin .append, args := #[s, x], argTypes := #[k.t, k.t] }) (base : Nat)
    (v : Value) (xs : List α) (hs : a.eval s = v) (hown : k.Own base w v xs) (xv : Value) (ys : List α) (hx : a.eval x = xv) (hat : k.At w xv ys)
    (hn : xs.length + ys.length ≤ maxLen) (hby : (xs.length + ys.length) * k.bytes ≤ 140737488355328) (hbase : base ≤ w.heap.size)
    (h : ∀ v' w', k.Own base w' v' (xs ++ ys) → w.grownBy w' v.ownBlock → (v'.ownBlock = v.ownBlock ∨ v'.ownBlock = some w.heap.size) → wpList Tryz.prog ops Q rest (a.put o.dst v') w') : wpList Tryz.prog ops Q (o :: rest) a w := by
  obtain ⟨i0, hi, hz0, hz1, hz2⟩ := info_parts k.hi
  have hrefl : w.grownBy w v.ownBlock := ⟨rfl, rfl, rfl, Nat.le_refl _, fun _ _ _ => rfl⟩
  have hsome : ∀ ad cap, xv = .slice (some ad) ys.length cap → (∀ j u, (k.row ys)[j]? = some u → w.cell? (ad.add j) = some u) → wpList Tryz.prog ops Q (o :: rest) a w := by
    rintro ad cap rfl hc
    refine wpList_append_own_at w hgd s x k.t ho base k.e i0 k.zero k.size k.bytes k.ht hi hz0 hz1 hz2 k.hz k.pos v xs.length (k.row xs) hs hown ad ys.length cap (k.row ys) hx (k.row_length ys) hc (k.row_one ys) hn hby hbase (fun v' w' h1 h2 _ h4 => ?_)
    refine h v' w' ?_ h2 h4
    unfold Kin.Own
    rw [k.row_append, List.length_append]; exact h1
  obtain ⟨ax, cap, rfl, rfl | ⟨b, off, rfl, hlt, hc⟩⟩ := hat
  · cases ax with
    | some ad => exact hsome ad cap rfl (fun j u hu => by simp [Kin.row] at hu)
    | none =>
      have hrun := run_append_none (P := Tryz.prog) (w := w) (base := base) (t := k.t) (ty := o.type) (c := cap) k.ht hi v xs.length (k.row xs) hown
      refine wpList_plain hgd fun K hK => ?_
      unfold Oper.wp
      simp only [List.length_nil] at hx
      simp [execOp, ho, resolve, invoke, builtin, hs, hx, hrun, Result.andThen]
      exact hK _ _ (h v w (by rw [List.append_nil]; exact hown) hrefl (.inl rfl))
  · refine hsome _ cap rfl fun j u hu => ?_
    rw [add_mk]
    obtain ⟨q, i, x0, hx0, hi0, e⟩ := k.row_at ys j u hu
    rw [e, ← Nat.add_assoc]
    exact hc q x0 hx0 i u hi0
/-- A boxed operation. -/
structure Box6 (w : World) (g : Nat) (k i c n : Int) (f : Bool) (am : Value) : Prop where
  c0 : w.cell? ⟨g, 0, none⟩ = some (.int .i64 k)
  c1 : w.cell? ⟨g, 1, none⟩ = some (.int .i64 i)
  c2 : w.cell? ⟨g, 2, none⟩ = some (.int .i64 c)
  c3 : w.cell? ⟨g, 3, none⟩ = some (.int .i64 n)
  c4 : w.cell? ⟨g, 4, none⟩ = some (.bool f)
  c5 : w.cell? ⟨g, 5, none⟩ = some am
theorem Box6.from_ {w w' : World} {g : Nat} {k i c n : Int} {f : Bool} {am : Value} (h : Box6 w g k i c n f am) (hf : From w w') : Box6 w' g k i c n f am := ⟨hf.cell h.c0, hf.cell h.c1, hf.cell h.c2, hf.cell h.c3, hf.cell h.c4, hf.cell h.c5⟩
theorem Box6.below {w w' : World} {g B : Nat} {k i c n : Int} {f : Bool} {am : Value} (h : Box6 w g k i c n f am) (hb : Below B w w') (hg : g < B) : Box6 w' g k i c n f am := ⟨keepc hb hg h.c0, keepc hb hg h.c1, keepc hb hg h.c2, keepc hb hg h.c3, keepc hb hg h.c4, keepc hb hg h.c5⟩
def u8s (L : List UInt8) : List Value := L.map fun b => .int .u8 (b.toNat : Int)
/-- The loop of script.Line: the boxed operation in block g, the letters in block g1, the words so far; a0: the world that it began in. -/
structure LineSt (a0 : World) (base g g1 : Nat) (k i c n : Int) (f : Bool) (am : Value) (L : List UInt8) (w : World) (v : Value) (F : List (List UInt8)) : Prop where
  own : kStr.Own base w v F
  far : v.ownBlock ≠ some g1
  bytes : ∀ j u, (u8s L)[j]? = some u → w.cell? ⟨g1, j, none⟩ = some u
  lt1 : g1 < w.heap.size
  box : Box6 w g k i c n f am
  lt : g < base
  le : base ≤ w.heap.size
  below : Below base a0 w
theorem LineSt.step {a0 : World} {base g g1 : Nat} {k i c n : Int} {f : Bool} {am : Value} {L : List UInt8} {w w' : World} {v : Value} {F : List (List UInt8)} (h : LineSt a0 base g g1 k i c n f am L w v F) (hb : Below w.heap.size w w') : LineSt a0 base g g1 k i c n f am L w' v F :=
  ⟨h.own.below hb, h.far, fun j u hu => keepc hb h.lt1 (h.bytes j u hu), Nat.lt_of_lt_of_le h.lt1 hb.size, h.box.below hb (Nat.lt_of_lt_of_le h.lt h.le), h.lt, Nat.le_trans h.le hb.size, h.below.trans (hb.mono h.le)⟩
theorem LineSt.append {a0 : World} {base g g1 : Nat} {k i c n : Int} {f : Bool} {am : Value} {L : List UInt8} {w w' : World} {v v' : Value} {F F' : List (List UInt8)} (h : LineSt a0 base g g1 k i c n f am L w v F)
    (ho : kStr.Own base w' v' F') (hg : w.grownBy w' v.ownBlock) (hw : v'.ownBlock = v.ownBlock ∨ v'.ownBlock = some w.heap.size) : LineSt a0 base g g1 k i c n f am L w' v' F' := by
  have hrow : ∀ b, v.ownBlock = some b → base ≤ b := fun b hb => (World.ownsRow.lt (show w.ownsRow base kStr.e kStr.size v F.length (kStr.row F) from h.own) b hb).1
  have hb : Below base w w' := (Below.refl _ _).grown hg h.le hrow
  refine ⟨ho, ?_, fun j u hu => ?_, Nat.lt_of_lt_of_le h.lt1 hg.size, h.box.below hb h.lt, h.lt, Nat.le_trans h.le hg.size, h.below.trans hb⟩
  · rcases hw with e | e
    · rw [e]; exact h.far
    · rw [e]; intro e'; injection e' with e'; have := h.lt1; omega
  · exact (World.cell?_of_block (a := ⟨g1, j, none⟩) (hg.block g1 h.lt1 (fun e => h.far e.symm))).trans (h.bytes j u hu)
/-- The tables and the type of errors. -/
structure TabW (w : World) : Prop where
  tabs : Tabs w
  err : ErrType w
theorem TabW.from_ {w w' : World} (h : TabW w) (hf : From w w') : TabW w' := ⟨h.tabs.from_ hf, h.err.below hf.out⟩
/-- What the laws on scripts need of the world. -/
structure ScrW (w : World) : Prop where
  log : TabW w
  kinds : KindsAt w
  fields : FieldsAt w
  flags : FlagsAt w
theorem ScrW.from_ {w w' : World} (h : ScrW w) (hf : From w w') : ScrW w' := ⟨h.log.from_ hf, h.kinds.from_ hf, h.fields.from_ hf, h.flags.from_ hf⟩
theorem flag_at {w : World} (h : FlagsAt w) (f : Bool) : kStr.At w (if f then .slice (some ⟨2, 1, none⟩) 1 1 else .slice (some ⟨2, 0, none⟩) 1 2) [flagWord f] := by
  have hlt := cell_lt h.1
  cases f
  · refine ⟨_, 2, rfl, .inr ⟨_, 0, rfl, hlt, fun q x hq i u hu => ?_⟩⟩
    match q, hq with
    | 0, hq =>
      cases hq
      match i, hu with
      | 0, hu => cases hu; exact h.1
  · refine ⟨_, 1, rfl, .inr ⟨_, 1, rfl, hlt, fun q x hq i u hu => ?_⟩⟩
    match q, hq with
    | 0, hq =>
      cases hq
      match i, hu with
      | 0, hu => cases hu; exact h.2
theorem own_one (w : World) (x : List UInt8) : kStr.Own w.heap.size (w.alloc (.cells #[.string (str x)] 9)) (.slice (some ⟨w.heap.size, 0, none⟩) 1 1) [x] :=
  ⟨rfl, .inr ⟨w.heap.size, 1, #[.string (str x)], rfl, Nat.le_refl _, heap_alloc_new w _, Nat.le_refl 1, by decide, rfl, rfl⟩⟩
theorem from_bytes {a w : World} (h : From a w) (e : TypeId) (s : ByteArray) : From a (Lib.bytesWorld w e s) :=
  h.step ⟨rfl, rfl, rfl, by rw [Lib.bytesWorld_size]; omega, fun k hk => Lib.bytesWorld_at_old w e s k hk⟩
theorem bytes_at (w : World) (e : TypeId) (L : List UInt8) : ∀ j u, (u8s L)[j]? = some u → (Lib.bytesWorld w e (str L)).cell? ⟨w.heap.size, j, none⟩ = some u := by
  intro j u hu
  unfold u8s at hu
  rw [List.getElem?_map] at hu
  cases hq : L[j]? with
  | none => rw [hq] at hu; cases hu
  | some b =>
    rw [hq] at hu
    have hj : j < L.length := (List.getElem?_eq_some_iff.1 hq).1
    rw [Lib.bytesWorld_cell w e (str L) j hj, str_toList, List.getD_eq_getElem?_getD, hq]
    exact hu
end Go.Proofs.YtdclokpoeaehlaaGreatDoor
/- script.Line. -/
namespace Go.Proofs.YtdclokpoeaehlaaGreatDoor
set_option linter.all false
open Go.RowKit

def lineRet (o : OpS) (W : World) (e : Ending) (w' : World) : Prop := e = .returned (.tuple #[.string (str (oline o)), .bool (olined o)]) ∧ Below W.heap.size W w'
theorem oline_good {o : OpS} (hk : 1 ≤ o.kind ∧ o.kind ≤ 7) (h : ∀ x ∈ onums o, inR x) : oline o = Lib.join (owords o) [32] ∧ olined o = true := by
  have e : olined o = true := olined_iff.2 ⟨hk, h⟩
  exact ⟨by unfold oline; rw [if_pos e], e⟩
theorem oline_bad {o : OpS} (h : ¬ ∀ x ∈ onums o, inR x) : oline o = [] ∧ olined o = false := by
  have e : olined o = false := by
    cases hh : olined o with
    | false => rfl
    | true => exact absurd (olined_iff.1 hh).2 h
  exact ⟨by unfold oline; rw [e]; rfl, e⟩
theorem oline_kind {o : OpS} (h : oname o.kind = []) : oline o = [] ∧ olined o = false := by
  have e : olined o = false := by
    cases hh : olined o with
    | false => rfl
    | true => exact absurd h ((oname_iff o.kind).2 (olined_iff.1 hh).1)
  exact ⟨by unfold oline; rw [e]; rfl, e⟩
theorem digits_len (u : Nat) (h : u < 10000000000000000000) : (Lib.decDigits u).length ≤ 19 := by
  have key : ∀ (n u : Nat), u < 10 ^ (n + 1) → (Lib.decDigits u).length ≤ n + 1 := by
    intro n
    induction n with
    | zero => intro u h; rw [Lib.decDigits, dif_pos (by omega)]; simp
    | succ n ih =>
      intro u h
      rw [Lib.decDigits]
      by_cases h1 : u < 10
      · rw [dif_pos h1]; simp
      · rw [dif_neg h1, List.length_append]
        have := ih (u / 10) (by rw [Nat.pow_succ] at h; omega)
        simp; omega
  exact key 18 u (by omega)
theorem itoa_le20 {n : Int} (h : inR n) : (Lib.itoa n).length ≤ 20 := by
  unfold inR at h
  unfold Lib.itoa
  split
  · have := digits_len n.natAbs (by omega)
    simp; omega
  · have := digits_len n.toNat (by omega)
    omega
theorem owords_le {o : OpS} (hk : 1 ≤ o.kind ∧ o.kind ≤ 7) (h : ∀ x ∈ onums o, inR x) : ∀ x ∈ owords o, x.length ≤ 20 := by
  intro x hx
  rcases List.mem_cons.1 hx with rfl | hx
  · rcases kinds17 hk with e | e | e | e | e | e | e <;> rw [e] <;> decide
  · rcases List.mem_append.1 hx with hx | hx
    · obtain ⟨n, hn, rfl⟩ := List.mem_map.1 hx
      exact itoa_le20 (h n hn)
    · unfold otail at hx
      by_cases h1 : o.kind = 1
      · rw [if_pos h1, List.mem_singleton] at hx
        subst hx
        cases o.flag <;> decide
      · rw [if_neg h1] at hx; simp at hx
set_option maxHeartbeats 4000000 in
set_option maxRecDepth 100000 in
theorem sline_1 (i c n : Int) (f : Bool) (a : Option Addr) (l cp : Nat) (zs : List Int) (w : World) (hl : l = zs.length) (hz : zs.length ≤ 1000) (hi : IntsAt w (.slice a l cp) zs) (hW : ScrW w) :
    Calls Tryz.prog 37 #[opV 1 i c n f (.slice a l cp)] w (lineRet ⟨1, i, c, n, f, zs⟩ w) := by
  have HK : Hid (∀ w', From w w' → Calls Tryz.prog 67 #[.int .i64 1] w' fun e w'' => e = .returned (.string ⟨#[99, 108, 97, 115, 115]⟩) ∧ w' = w'') := fun w' hf => kindName_any 1 w' (hW.from_ hf).kinds
  have Gi : Hid (∀ w', From w w' → inR i → Calls Tryz.prog 68 #[opV 1 i c n f (.slice a l cp), .int .u8 105] w' fun e w'' => ∃ v, e = .returned (.tuple #[v, .bool true]) ∧ kStr.Own w'.heap.size w'' v [Lib.itoa i] ∧ Below w'.heap.size w' w'') := fun w' hf hr => field_one 105 1 i c n f a l cp i w' (.inl ⟨rfl, rfl⟩) (hW.from_ hf).log.tabs hr
  have Bi : Hid (∀ w', ¬ inR i → Calls Tryz.prog 68 #[opV 1 i c n f (.slice a l cp), .int .u8 105] w' fun e w'' => e = .returned (.tuple #[.slice none 0 0, .bool false]) ∧ Below w'.heap.size w' w'') := fun w' hr => field_one_bad 105 1 i c n f a l cp i w' (.inl ⟨rfl, rfl⟩) hr
  have Gn : Hid (∀ w', From w w' → inR n → Calls Tryz.prog 68 #[opV 1 i c n f (.slice a l cp), .int .u8 110] w' fun e w'' => ∃ v, e = .returned (.tuple #[v, .bool true]) ∧ kStr.Own w'.heap.size w'' v [Lib.itoa n] ∧ Below w'.heap.size w' w'') := fun w' hf hr => field_one 110 1 i c n f a l cp n w' (.inr (.inr ⟨rfl, rfl⟩)) (hW.from_ hf).log.tabs hr
  have Bn : Hid (∀ w', ¬ inR n → Calls Tryz.prog 68 #[opV 1 i c n f (.slice a l cp), .int .u8 110] w' fun e w'' => e = .returned (.tuple #[.slice none 0 0, .bool false]) ∧ Below w'.heap.size w' w'') := fun w' hr => field_one_bad 110 1 i c n f a l cp n w' (.inr (.inr ⟨rfl, rfl⟩)) hr
  have Gf : Hid (∀ w', From w w' → Calls Tryz.prog 68 #[opV 1 i c n f (.slice a l cp), .int .u8 102] w' fun e w'' => ∃ v, e = .returned (.tuple #[v, .bool true]) ∧ kStr.At w'' v [flagWord f] ∧ Below w'.heap.size w' w'') := fun w' hf => (field_flag 1 i c n f a l cp w').mono fun e w'' ⟨he, hb⟩ => ⟨_, he, flag_at (hW.from_ (hf.step hb)).flags f, hb⟩
  have HFl : Hid (∀ w', From w w' → w'.cell? ⟨1, 1, none⟩ = some (.string ⟨#[105, 110, 102]⟩)) := fun w' hf => (hW.from_ hf).fields 1 (by decide)
  have hlw : 1 < w.heap.size := cell_lt (hW.fields 0 (by decide))
  have HG : Hid ((∀ x ∈ onums ⟨1, i, c, n, f, zs⟩, inR x) → oline ⟨1, i, c, n, f, zs⟩ = Lib.join (owords ⟨1, i, c, n, f, zs⟩) [32] ∧ olined ⟨1, i, c, n, f, zs⟩ = true ∧ (Lib.join (owords ⟨1, i, c, n, f, zs⟩) [32]).length ≤ 140737488355328 ∧ (owords ⟨1, i, c, n, f, zs⟩).length ≤ 140737488355328) := fun h => by
    have hk : (1 : Int) ≤ 1 ∧ (1 : Int) ≤ 7 := by decide
    have e := oline_good (o := ⟨1, i, c, n, f, zs⟩) hk h
    have hn : (owords ⟨1, i, c, n, f, zs⟩).length ≤ 1010 := by simp only [owords, onums, otail, List.length_cons, List.length_append, List.length_map]; simp only [Int.reduceEq, if_true, if_false, List.length_cons, List.length_nil]; omega
    refine ⟨e.1, e.2, Nat.le_trans (join_len _ 20 _ (owords_le hk h)) ?_, by omega⟩
    simp only [List.length_cons, List.length_nil]; omega
  have HB : Hid ((¬ ∀ x ∈ onums ⟨1, i, c, n, f, zs⟩, inR x) → oline ⟨1, i, c, n, f, zs⟩ = [] ∧ olined ⟨1, i, c, n, f, zs⟩ = false) := fun h => oline_bad h
  have F0 := From.refl w
  have HZ : Hid (zs.length ≤ 1000) := hz
  have hmx : 3000 ≤ maxLen := by unfold maxLen; omega
  clear hW hi hl hz
  unfold lineRet
  go_enter Tryz.func37, Tryz.ntmps37
  go_wp2_with fail
  refine calls_named fun W hW => ?_
  have FW : From w W := by rw [hW]; exact F0.alloc _
  have hWs1 : W.heap.size ≤ w.heap.size + 1 := by rw [hW]; simp
  have hWs2 : w.heap.size + 1 ≤ W.heap.size := by rw [hW]; simp
  have HBx : Hid (Box6 W w.heap.size 1 i c n f (.slice a l cp)) := by rw [hW]; exact ⟨by go_simp, by go_simp, by go_simp, by go_simp, by go_simp, by go_simp⟩
  clear hW
  obtain ⟨x0, -, -, -, -, -⟩ := HBx.out
  refine (HK.out _ FW).mono ?_
  rintro e w1 ⟨rfl, rfl⟩
  go_wp2_with fail
  refine (HK.out _ FW).mono ?_
  rintro e w1 ⟨rfl, rfl⟩
  have p0 := HFl.out _ FW
  have hlW : ¬ 1 = W.heap.size := by omega
  have hlW' : ¬ w.heap.size = W.heap.size := by omega
  have hlV : ¬ W.heap.size = 1 := by omega
  have hlV' : ¬ W.heap.size = w.heap.size := by omega
  have hlt0 : w.heap.size < W.heap.size := by omega
  have hlt1 : 1 < W.heap.size := by omega
  have hcv : ∀ w, (convert 9 98 (.string ⟨#[105, 110, 102]⟩)).run Tryz.prog w = .ok (.slice (some ⟨w.heap.size, 0, none⟩) 3 (grownCap w 3 0 5)) (Lib.bytesWorld w 5 ⟨#[105, 110, 102]⟩) := fun w => Lib.run_convert_string_bytes w 9 98 5 ⟨#[105, 110, 102]⟩ Tryz.underlying9 Tryz.underlying98 Tryz.underlying5
  go_wp2
  refine wp_named fun X hX => ?_
  have hXs : X.heap.size = W.heap.size + 2 := by rw [hX, Lib.bytesWorld_size]; simp
  have FX : From W X := by rw [hX]; exact from_bytes ((From.refl W).alloc _) _ _
  have S0 : LineSt W W.heap.size w.heap.size (W.heap.size + 1) 1 i c n f (.slice a l cp) [105, 110, 102] X (.slice (some ⟨W.heap.size, 0, none⟩) 1 1) [[99, 108, 97, 115, 115]] := by
    refine ⟨?_, ?_, ?_, by omega, HBx.out.from_ FX, by omega, by omega, FX.out⟩
    · rw [hX]
      exact (own_one W [99, 108, 97, 115, 115]).below (from_bytes (From.refl _) _ _).out
    · intro e; simp [Value.ownBlock] at e
    · intro j u hu
      rw [hX]
      have h := bytes_at (W.alloc (.cells #[.string ⟨#[99, 108, 97, 115, 115]⟩] 9)) 5 [105, 110, 102] j u hu
      rw [show (W.alloc (.cells #[.string ⟨#[99, 108, 97, 115, 115]⟩] 9)).heap.size = W.heap.size + 1 by simp] at h
      exact h
  clear hX p0 x0
  refine wp_loop_rounds 6 ?_
  rw [rounds_succ]
  have b0 := S0.bytes 0 _ rfl
  obtain ⟨x0, x1, x2, x3, x4, x5⟩ := S0.box
  have FC0 : From w X := FW.trans ⟨(S0.below)⟩
  have HS0 := Lib.hid S0
  by_cases r0 : inR i
  case neg =>
    have SB0 := HS0.out
    clear S0
    go_wp2_with fail
    refine (Bi.out _ r0).mono ?_
    rintro e wb ⟨rfl, hb⟩
    have SB := SB0.step hb
    clear hb
    have hbad : ¬ ∀ x ∈ onums ⟨1, i, c, n, f, zs⟩, inR x := fun h => r0 (h i (by simp [onums]))
    clear SB0
    go_wp2
    go_ret2
    exact ⟨by rw [(HB.out hbad).1, (HB.out hbad).2]; rfl, FW.out.trans ((SB.below).mono (by omega))⟩
  clear S0
  go_wp2_with fail
  refine (Gi.out _ FC0 r0).mono ?_
  rintro e wc0 ⟨vl, rfl, hown, hb⟩
  have T0 := Lib.hid (HS0.out.step hb)
  have hat := Lib.hid hown.at_
  obtain ⟨al, cl, rfl⟩ := hown.shape
  clear hb hown b0 x0 x1 x2 x3 x4 x5
  go_wp2_with (at_builtin; go_must (refine Kin.appendAt kStr rfl _ _ rfl W.heap.size _ ([[99, 108, 97, 115, 115]]) rfl T0.out.own _ ([Lib.itoa i]) rfl hat.out (by have := HZ.out; first | (simp; done) | (simp; omega)) (by have := HZ.out; show _ * 16 ≤ _; first | (simp; done) | (simp; omega)) T0.out.le ?_; intro v' wd0 hown' hgr hwh; have HN0 := Lib.hid (T0.out.append hown' hgr hwh); obtain ⟨a0, c0, rfl⟩ := hown'.shape; clear hown' hgr hwh))
  have S1 := HN0.out
  clear hat T0 HS0
  rw [rounds_succ]
  have b0 := S1.bytes 1 _ rfl
  obtain ⟨x0, x1, x2, x3, x4, x5⟩ := S1.box
  have FC1 : From w wd0 := FW.trans ⟨(S1.below)⟩
  have HS1 := Lib.hid S1
  by_cases r1 : inR n
  case neg =>
    have SB0 := HS1.out
    clear S1
    go_wp2_with fail
    refine (Bn.out _ r1).mono ?_
    rintro e wb ⟨rfl, hb⟩
    have SB := SB0.step hb
    clear hb
    have hbad : ¬ ∀ x ∈ onums ⟨1, i, c, n, f, zs⟩, inR x := fun h => r1 (h n (by simp [onums]))
    clear SB0
    go_wp2
    go_ret2
    exact ⟨by rw [(HB.out hbad).1, (HB.out hbad).2]; rfl, FW.out.trans ((SB.below).mono (by omega))⟩
  clear S1
  go_wp2_with fail
  refine (Gn.out _ FC1 r1).mono ?_
  rintro e wc1 ⟨vl, rfl, hown, hb⟩
  have T1 := Lib.hid (HS1.out.step hb)
  have hat := Lib.hid hown.at_
  obtain ⟨al, cl, rfl⟩ := hown.shape
  clear hb hown b0 x0 x1 x2 x3 x4 x5
  go_wp2_with (at_builtin; go_must (refine Kin.appendAt kStr rfl _ _ rfl W.heap.size _ ([[99, 108, 97, 115, 115], Lib.itoa i]) rfl T1.out.own _ ([Lib.itoa n]) rfl hat.out (by have := HZ.out; first | (simp; done) | (simp; omega)) (by have := HZ.out; show _ * 16 ≤ _; first | (simp; done) | (simp; omega)) T1.out.le ?_; intro v' wd1 hown' hgr hwh; have HN1 := Lib.hid (T1.out.append hown' hgr hwh); obtain ⟨a1, c1, rfl⟩ := hown'.shape; clear hown' hgr hwh))
  have S2 := HN1.out
  clear hat T1 HS1
  rw [rounds_succ]
  have b0 := S2.bytes 2 _ rfl
  obtain ⟨x0, x1, x2, x3, x4, x5⟩ := S2.box
  have FC2 : From w wd1 := FW.trans ⟨(S2.below)⟩
  have HS2 := Lib.hid S2
  clear S2
  go_wp2_with fail
  refine (Gf.out _ FC2).mono ?_
  rintro e wc2 ⟨vl, rfl, hat0, hb⟩
  have T2 := Lib.hid (HS2.out.step hb)
  have hat := Lib.hid hat0
  obtain ⟨al, cl, rfl, -⟩ := hat0
  clear hb b0 x0 x1 x2 x3 x4 x5
  go_wp2_with (at_builtin; go_must (refine Kin.appendAt kStr rfl _ _ rfl W.heap.size _ ([[99, 108, 97, 115, 115], Lib.itoa i, Lib.itoa n]) rfl T2.out.own _ ([flagWord f]) rfl hat.out (by have := HZ.out; first | (simp; done) | (simp; omega)) (by have := HZ.out; show _ * 16 ≤ _; first | (simp; done) | (simp; omega)) T2.out.le ?_; intro v' wd2 hown' hgr hwh; have HN2 := Lib.hid (T2.out.append hown' hgr hwh); obtain ⟨a2, c2, rfl⟩ := hown'.shape; clear hown' hgr hwh))
  have S3 := HN2.out
  clear hat T2 HS2
  rw [rounds_succ]
  have hgood : ∀ x ∈ onums ⟨1, i, c, n, f, zs⟩, inR x := by
    intro x hx
    simp [onums] at hx
    rcases hx with rfl | rfl
    · assumption
    · assumption
  obtain ⟨g1, g2, g3, g4⟩ := HG.out hgood
  have how : owords ⟨1, i, c, n, f, zs⟩ = [[99, 108, 97, 115, 115], Lib.itoa i, Lib.itoa n, flagWord f] := by rfl
  rw [how] at g3 g4
  have HJ0 := join_any _ ([[99, 108, 97, 115, 115], Lib.itoa i, Lib.itoa n, flagWord f]) [32] _ S3.own.at_ S3.own.cap g4 g3
  rw [← how] at HJ0
  have HJ := Lib.hid HJ0
  have SF := Lib.hid S3
  clear S3 hgood g3 g4 HJ0 how
  go_wp2_with fail
  refine HJ.out.mono ?_
  rintro e w9 ⟨rfl, hb⟩
  have FN := FW.out.trans ((SF.out.step hb).below.mono (by omega))
  clear hb
  go_wp2
  go_ret2
  exact ⟨by rw [g1, g2]; rfl, FN⟩
set_option maxHeartbeats 4000000 in
set_option maxRecDepth 100000 in
theorem sline_2 (i c n : Int) (f : Bool) (a : Option Addr) (l cp : Nat) (zs : List Int) (w : World) (hl : l = zs.length) (hz : zs.length ≤ 1000) (hi : IntsAt w (.slice a l cp) zs) (hW : ScrW w) :
    Calls Tryz.prog 37 #[opV 2 i c n f (.slice a l cp)] w (lineRet ⟨2, i, c, n, f, zs⟩ w) := by
  have HK : Hid (∀ w', From w w' → Calls Tryz.prog 67 #[.int .i64 2] w' fun e w'' => e = .returned (.string ⟨#[110, 111, 100, 101]⟩) ∧ w' = w'') := fun w' hf => kindName_any 2 w' (hW.from_ hf).kinds
  have Gi : Hid (∀ w', From w w' → inR i → Calls Tryz.prog 68 #[opV 2 i c n f (.slice a l cp), .int .u8 105] w' fun e w'' => ∃ v, e = .returned (.tuple #[v, .bool true]) ∧ kStr.Own w'.heap.size w'' v [Lib.itoa i] ∧ Below w'.heap.size w' w'') := fun w' hf hr => field_one 105 2 i c n f a l cp i w' (.inl ⟨rfl, rfl⟩) (hW.from_ hf).log.tabs hr
  have Bi : Hid (∀ w', ¬ inR i → Calls Tryz.prog 68 #[opV 2 i c n f (.slice a l cp), .int .u8 105] w' fun e w'' => e = .returned (.tuple #[.slice none 0 0, .bool false]) ∧ Below w'.heap.size w' w'') := fun w' hr => field_one_bad 105 2 i c n f a l cp i w' (.inl ⟨rfl, rfl⟩) hr
  have Ga : Hid (∀ w', From w w' → Calls Tryz.prog 68 #[opV 2 i c n f (.slice a l cp), .int .u8 97] w' (RetWords w' zs)) := fun w' hf => field_ints 2 i c n f _ zs w' hz (hW.from_ hf).log.tabs (hi.from_ hf)
  have HFl : Hid (∀ w', From w w' → w'.cell? ⟨1, 2, none⟩ = some (.string ⟨#[105, 97]⟩)) := fun w' hf => (hW.from_ hf).fields 2 (by decide)
  have hlw : 1 < w.heap.size := cell_lt (hW.fields 0 (by decide))
  have HG : Hid ((∀ x ∈ onums ⟨2, i, c, n, f, zs⟩, inR x) → oline ⟨2, i, c, n, f, zs⟩ = Lib.join (owords ⟨2, i, c, n, f, zs⟩) [32] ∧ olined ⟨2, i, c, n, f, zs⟩ = true ∧ (Lib.join (owords ⟨2, i, c, n, f, zs⟩) [32]).length ≤ 140737488355328 ∧ (owords ⟨2, i, c, n, f, zs⟩).length ≤ 140737488355328) := fun h => by
    have hk : (1 : Int) ≤ 2 ∧ (2 : Int) ≤ 7 := by decide
    have e := oline_good (o := ⟨2, i, c, n, f, zs⟩) hk h
    have hn : (owords ⟨2, i, c, n, f, zs⟩).length ≤ 1010 := by simp only [owords, onums, otail, List.length_cons, List.length_append, List.length_map]; simp only [Int.reduceEq, if_true, if_false, List.length_cons, List.length_nil]; omega
    refine ⟨e.1, e.2, Nat.le_trans (join_len _ 20 _ (owords_le hk h)) ?_, by omega⟩
    simp only [List.length_cons, List.length_nil]; omega
  have HB : Hid ((¬ ∀ x ∈ onums ⟨2, i, c, n, f, zs⟩, inR x) → oline ⟨2, i, c, n, f, zs⟩ = [] ∧ olined ⟨2, i, c, n, f, zs⟩ = false) := fun h => oline_bad h
  have F0 := From.refl w
  have HZ : Hid (zs.length ≤ 1000) := hz
  have hmx : 3000 ≤ maxLen := by unfold maxLen; omega
  clear hW hi hl hz
  unfold lineRet
  go_enter Tryz.func37, Tryz.ntmps37
  go_wp2_with fail
  refine calls_named fun W hW => ?_
  have FW : From w W := by rw [hW]; exact F0.alloc _
  have hWs1 : W.heap.size ≤ w.heap.size + 1 := by rw [hW]; simp
  have hWs2 : w.heap.size + 1 ≤ W.heap.size := by rw [hW]; simp
  have HBx : Hid (Box6 W w.heap.size 2 i c n f (.slice a l cp)) := by rw [hW]; exact ⟨by go_simp, by go_simp, by go_simp, by go_simp, by go_simp, by go_simp⟩
  clear hW
  obtain ⟨x0, -, -, -, -, -⟩ := HBx.out
  refine (HK.out _ FW).mono ?_
  rintro e w1 ⟨rfl, rfl⟩
  go_wp2_with fail
  refine (HK.out _ FW).mono ?_
  rintro e w1 ⟨rfl, rfl⟩
  have p0 := HFl.out _ FW
  have hlW : ¬ 1 = W.heap.size := by omega
  have hlW' : ¬ w.heap.size = W.heap.size := by omega
  have hlV : ¬ W.heap.size = 1 := by omega
  have hlV' : ¬ W.heap.size = w.heap.size := by omega
  have hlt0 : w.heap.size < W.heap.size := by omega
  have hlt1 : 1 < W.heap.size := by omega
  have hcv : ∀ w, (convert 9 98 (.string ⟨#[105, 97]⟩)).run Tryz.prog w = .ok (.slice (some ⟨w.heap.size, 0, none⟩) 2 (grownCap w 2 0 5)) (Lib.bytesWorld w 5 ⟨#[105, 97]⟩) := fun w => Lib.run_convert_string_bytes w 9 98 5 ⟨#[105, 97]⟩ Tryz.underlying9 Tryz.underlying98 Tryz.underlying5
  go_wp2
  refine wp_named fun X hX => ?_
  have hXs : X.heap.size = W.heap.size + 2 := by rw [hX, Lib.bytesWorld_size]; simp
  have FX : From W X := by rw [hX]; exact from_bytes ((From.refl W).alloc _) _ _
  have S0 : LineSt W W.heap.size w.heap.size (W.heap.size + 1) 2 i c n f (.slice a l cp) [105, 97] X (.slice (some ⟨W.heap.size, 0, none⟩) 1 1) [[110, 111, 100, 101]] := by
    refine ⟨?_, ?_, ?_, by omega, HBx.out.from_ FX, by omega, by omega, FX.out⟩
    · rw [hX]
      exact (own_one W [110, 111, 100, 101]).below (from_bytes (From.refl _) _ _).out
    · intro e; simp [Value.ownBlock] at e
    · intro j u hu
      rw [hX]
      have h := bytes_at (W.alloc (.cells #[.string ⟨#[110, 111, 100, 101]⟩] 9)) 5 [105, 97] j u hu
      rw [show (W.alloc (.cells #[.string ⟨#[110, 111, 100, 101]⟩] 9)).heap.size = W.heap.size + 1 by simp] at h
      exact h
  clear hX p0 x0
  refine wp_loop_rounds 6 ?_
  rw [rounds_succ]
  have b0 := S0.bytes 0 _ rfl
  obtain ⟨x0, x1, x2, x3, x4, x5⟩ := S0.box
  have FC0 : From w X := FW.trans ⟨(S0.below)⟩
  have HS0 := Lib.hid S0
  by_cases r0 : inR i
  case neg =>
    have SB0 := HS0.out
    clear S0
    go_wp2_with fail
    refine (Bi.out _ r0).mono ?_
    rintro e wb ⟨rfl, hb⟩
    have SB := SB0.step hb
    clear hb
    have hbad : ¬ ∀ x ∈ onums ⟨2, i, c, n, f, zs⟩, inR x := fun h => r0 (h i (by simp [onums]))
    clear SB0
    go_wp2
    go_ret2
    exact ⟨by rw [(HB.out hbad).1, (HB.out hbad).2]; rfl, FW.out.trans ((SB.below).mono (by omega))⟩
  clear S0
  go_wp2_with fail
  refine (Gi.out _ FC0 r0).mono ?_
  rintro e wc0 ⟨vl, rfl, hown, hb⟩
  have T0 := Lib.hid (HS0.out.step hb)
  have hat := Lib.hid hown.at_
  obtain ⟨al, cl, rfl⟩ := hown.shape
  clear hb hown b0 x0 x1 x2 x3 x4 x5
  go_wp2_with (at_builtin; go_must (refine Kin.appendAt kStr rfl _ _ rfl W.heap.size _ ([[110, 111, 100, 101]]) rfl T0.out.own _ ([Lib.itoa i]) rfl hat.out (by have := HZ.out; first | (simp; done) | (simp; omega)) (by have := HZ.out; show _ * 16 ≤ _; first | (simp; done) | (simp; omega)) T0.out.le ?_; intro v' wd0 hown' hgr hwh; have HN0 := Lib.hid (T0.out.append hown' hgr hwh); obtain ⟨a0, c0, rfl⟩ := hown'.shape; clear hown' hgr hwh))
  have S1 := HN0.out
  clear hat T0 HS0
  rw [rounds_succ]
  have b0 := S1.bytes 1 _ rfl
  obtain ⟨x0, x1, x2, x3, x4, x5⟩ := S1.box
  have FC1 : From w wd0 := FW.trans ⟨(S1.below)⟩
  have HS1 := Lib.hid S1
  clear S1
  go_wp2_with fail
  refine (Ga.out _ FC1).mono ?_
  rintro e wc1 ⟨hb, ⟨r1, vl, rfl, hown⟩ | ⟨r1, rfl⟩⟩
  case inr =>
    have SB := HS1.out.step hb
    have hbad : ¬ ∀ x ∈ onums ⟨2, i, c, n, f, zs⟩, inR x := fun h => by
      have : allR zs = true := allR_iff.2 fun x hx => h x (by simp [onums, hx])
      rw [r1] at this; cases this
    clear hb
    go_wp2
    go_ret2
    exact ⟨by rw [(HB.out hbad).1, (HB.out hbad).2]; rfl, FW.out.trans ((SB.below).mono (by omega))⟩
  have T1 := Lib.hid (HS1.out.step hb)
  have hat1 := hown.at_
  obtain ⟨al, cl, rfl⟩ := hown.shape
  rw [List.length_map] at hat1
  have hat := Lib.hid hat1
  clear hb hown hat1 b0 x0 x1 x2 x3 x4 x5
  go_wp2_with (at_builtin; go_must (refine Kin.appendAt kStr rfl _ _ rfl W.heap.size _ ([[110, 111, 100, 101], Lib.itoa i]) rfl T1.out.own _ (zs.map Lib.itoa) rfl hat.out (by have := HZ.out; first | (simp; done) | (simp; omega)) (by have := HZ.out; show _ * 16 ≤ _; first | (simp; done) | (simp; omega)) T1.out.le ?_; intro v' wd1 hown' hgr hwh; have HN1 := Lib.hid (T1.out.append hown' hgr hwh); obtain ⟨a1, c1, rfl⟩ := hown'.shape; clear hown' hgr hwh))
  have S2 := HN1.out
  clear hat T1 HS1
  rw [rounds_succ]
  have hgood : ∀ x ∈ onums ⟨2, i, c, n, f, zs⟩, inR x := by
    intro x hx
    simp [onums] at hx
    rcases hx with rfl | hx
    · assumption
    · exact allR_iff.1 r1 x hx
  obtain ⟨g1, g2, g3, g4⟩ := HG.out hgood
  have how : owords ⟨2, i, c, n, f, zs⟩ = [[110, 111, 100, 101], Lib.itoa i] ++ zs.map Lib.itoa := by show oname 2 :: ((onums ⟨2, i, c, n, f, zs⟩).map Lib.itoa ++ otail ⟨2, i, c, n, f, zs⟩) = _; rw [show otail ⟨2, i, c, n, f, zs⟩ = [] from rfl, List.append_nil]; rfl
  rw [how] at g3 g4
  have HJ0 := join_any _ ([[110, 111, 100, 101], Lib.itoa i] ++ zs.map Lib.itoa) [32] _ S2.own.at_ S2.own.cap g4 g3
  simp only [List.cons_append, List.nil_append, List.length_map, List.length_cons] at HJ0 how
  rw [← how] at HJ0
  have HJ := Lib.hid HJ0
  have SF := Lib.hid S2
  clear S2 hgood g3 g4 HJ0 how
  go_wp2_with fail
  refine HJ.out.mono ?_
  rintro e w9 ⟨rfl, hb⟩
  have FN := FW.out.trans ((SF.out.step hb).below.mono (by omega))
  clear hb
  go_wp2
  go_ret2
  exact ⟨by rw [g1, g2]; rfl, FN⟩
set_option maxHeartbeats 4000000 in
set_option maxRecDepth 100000 in
theorem sline_3 (i c n : Int) (f : Bool) (a : Option Addr) (l cp : Nat) (zs : List Int) (w : World) (hl : l = zs.length) (hz : zs.length ≤ 1000) (hi : IntsAt w (.slice a l cp) zs) (hW : ScrW w) :
    Calls Tryz.prog 37 #[opV 3 i c n f (.slice a l cp)] w (lineRet ⟨3, i, c, n, f, zs⟩ w) := by
  have HK : Hid (∀ w', From w w' → Calls Tryz.prog 67 #[.int .i64 3] w' fun e w'' => e = .returned (.string ⟨#[100, 114, 111, 112]⟩) ∧ w' = w'') := fun w' hf => kindName_any 3 w' (hW.from_ hf).kinds
  have Gi : Hid (∀ w', From w w' → inR i → Calls Tryz.prog 68 #[opV 3 i c n f (.slice a l cp), .int .u8 105] w' fun e w'' => ∃ v, e = .returned (.tuple #[v, .bool true]) ∧ kStr.Own w'.heap.size w'' v [Lib.itoa i] ∧ Below w'.heap.size w' w'') := fun w' hf hr => field_one 105 3 i c n f a l cp i w' (.inl ⟨rfl, rfl⟩) (hW.from_ hf).log.tabs hr
  have Bi : Hid (∀ w', ¬ inR i → Calls Tryz.prog 68 #[opV 3 i c n f (.slice a l cp), .int .u8 105] w' fun e w'' => e = .returned (.tuple #[.slice none 0 0, .bool false]) ∧ Below w'.heap.size w' w'') := fun w' hr => field_one_bad 105 3 i c n f a l cp i w' (.inl ⟨rfl, rfl⟩) hr
  have HFl : Hid (∀ w', From w w' → w'.cell? ⟨1, 3, none⟩ = some (.string ⟨#[105]⟩)) := fun w' hf => (hW.from_ hf).fields 3 (by decide)
  have hlw : 1 < w.heap.size := cell_lt (hW.fields 0 (by decide))
  have HG : Hid ((∀ x ∈ onums ⟨3, i, c, n, f, zs⟩, inR x) → oline ⟨3, i, c, n, f, zs⟩ = Lib.join (owords ⟨3, i, c, n, f, zs⟩) [32] ∧ olined ⟨3, i, c, n, f, zs⟩ = true ∧ (Lib.join (owords ⟨3, i, c, n, f, zs⟩) [32]).length ≤ 140737488355328 ∧ (owords ⟨3, i, c, n, f, zs⟩).length ≤ 140737488355328) := fun h => by
    have hk : (1 : Int) ≤ 3 ∧ (3 : Int) ≤ 7 := by decide
    have e := oline_good (o := ⟨3, i, c, n, f, zs⟩) hk h
    have hn : (owords ⟨3, i, c, n, f, zs⟩).length ≤ 1010 := by simp only [owords, onums, otail, List.length_cons, List.length_append, List.length_map]; simp only [Int.reduceEq, if_true, if_false, List.length_cons, List.length_nil]; omega
    refine ⟨e.1, e.2, Nat.le_trans (join_len _ 20 _ (owords_le hk h)) ?_, by omega⟩
    simp only [List.length_cons, List.length_nil]; omega
  have HB : Hid ((¬ ∀ x ∈ onums ⟨3, i, c, n, f, zs⟩, inR x) → oline ⟨3, i, c, n, f, zs⟩ = [] ∧ olined ⟨3, i, c, n, f, zs⟩ = false) := fun h => oline_bad h
  have F0 := From.refl w
  have HZ : Hid (zs.length ≤ 1000) := hz
  have hmx : 3000 ≤ maxLen := by unfold maxLen; omega
  clear hW hi hl hz
  unfold lineRet
  go_enter Tryz.func37, Tryz.ntmps37
  go_wp2_with fail
  refine calls_named fun W hW => ?_
  have FW : From w W := by rw [hW]; exact F0.alloc _
  have hWs1 : W.heap.size ≤ w.heap.size + 1 := by rw [hW]; simp
  have hWs2 : w.heap.size + 1 ≤ W.heap.size := by rw [hW]; simp
  have HBx : Hid (Box6 W w.heap.size 3 i c n f (.slice a l cp)) := by rw [hW]; exact ⟨by go_simp, by go_simp, by go_simp, by go_simp, by go_simp, by go_simp⟩
  clear hW
  obtain ⟨x0, -, -, -, -, -⟩ := HBx.out
  refine (HK.out _ FW).mono ?_
  rintro e w1 ⟨rfl, rfl⟩
  go_wp2_with fail
  refine (HK.out _ FW).mono ?_
  rintro e w1 ⟨rfl, rfl⟩
  have p0 := HFl.out _ FW
  have hlW : ¬ 1 = W.heap.size := by omega
  have hlW' : ¬ w.heap.size = W.heap.size := by omega
  have hlV : ¬ W.heap.size = 1 := by omega
  have hlV' : ¬ W.heap.size = w.heap.size := by omega
  have hlt0 : w.heap.size < W.heap.size := by omega
  have hlt1 : 1 < W.heap.size := by omega
  have hcv : ∀ w, (convert 9 98 (.string ⟨#[105]⟩)).run Tryz.prog w = .ok (.slice (some ⟨w.heap.size, 0, none⟩) 1 (grownCap w 1 0 5)) (Lib.bytesWorld w 5 ⟨#[105]⟩) := fun w => Lib.run_convert_string_bytes w 9 98 5 ⟨#[105]⟩ Tryz.underlying9 Tryz.underlying98 Tryz.underlying5
  go_wp2
  refine wp_named fun X hX => ?_
  have hXs : X.heap.size = W.heap.size + 2 := by rw [hX, Lib.bytesWorld_size]; simp
  have FX : From W X := by rw [hX]; exact from_bytes ((From.refl W).alloc _) _ _
  have S0 : LineSt W W.heap.size w.heap.size (W.heap.size + 1) 3 i c n f (.slice a l cp) [105] X (.slice (some ⟨W.heap.size, 0, none⟩) 1 1) [[100, 114, 111, 112]] := by
    refine ⟨?_, ?_, ?_, by omega, HBx.out.from_ FX, by omega, by omega, FX.out⟩
    · rw [hX]
      exact (own_one W [100, 114, 111, 112]).below (from_bytes (From.refl _) _ _).out
    · intro e; simp [Value.ownBlock] at e
    · intro j u hu
      rw [hX]
      have h := bytes_at (W.alloc (.cells #[.string ⟨#[100, 114, 111, 112]⟩] 9)) 5 [105] j u hu
      rw [show (W.alloc (.cells #[.string ⟨#[100, 114, 111, 112]⟩] 9)).heap.size = W.heap.size + 1 by simp] at h
      exact h
  clear hX p0 x0
  refine wp_loop_rounds 6 ?_
  rw [rounds_succ]
  have b0 := S0.bytes 0 _ rfl
  obtain ⟨x0, x1, x2, x3, x4, x5⟩ := S0.box
  have FC0 : From w X := FW.trans ⟨(S0.below)⟩
  have HS0 := Lib.hid S0
  by_cases r0 : inR i
  case neg =>
    have SB0 := HS0.out
    clear S0
    go_wp2_with fail
    refine (Bi.out _ r0).mono ?_
    rintro e wb ⟨rfl, hb⟩
    have SB := SB0.step hb
    clear hb
    have hbad : ¬ ∀ x ∈ onums ⟨3, i, c, n, f, zs⟩, inR x := fun h => r0 (h i (by simp [onums]))
    clear SB0
    go_wp2
    go_ret2
    exact ⟨by rw [(HB.out hbad).1, (HB.out hbad).2]; rfl, FW.out.trans ((SB.below).mono (by omega))⟩
  clear S0
  go_wp2_with fail
  refine (Gi.out _ FC0 r0).mono ?_
  rintro e wc0 ⟨vl, rfl, hown, hb⟩
  have T0 := Lib.hid (HS0.out.step hb)
  have hat := Lib.hid hown.at_
  obtain ⟨al, cl, rfl⟩ := hown.shape
  clear hb hown b0 x0 x1 x2 x3 x4 x5
  go_wp2_with (at_builtin; go_must (refine Kin.appendAt kStr rfl _ _ rfl W.heap.size _ ([[100, 114, 111, 112]]) rfl T0.out.own _ ([Lib.itoa i]) rfl hat.out (by have := HZ.out; first | (simp; done) | (simp; omega)) (by have := HZ.out; show _ * 16 ≤ _; first | (simp; done) | (simp; omega)) T0.out.le ?_; intro v' wd0 hown' hgr hwh; have HN0 := Lib.hid (T0.out.append hown' hgr hwh); obtain ⟨a0, c0, rfl⟩ := hown'.shape; clear hown' hgr hwh))
  have S1 := HN0.out
  clear hat T0 HS0
  rw [rounds_succ]
  have hgood : ∀ x ∈ onums ⟨3, i, c, n, f, zs⟩, inR x := by
    intro x hx
    simp [onums] at hx
    rcases hx with rfl
    · assumption
  obtain ⟨g1, g2, g3, g4⟩ := HG.out hgood
  have how : owords ⟨3, i, c, n, f, zs⟩ = [[100, 114, 111, 112], Lib.itoa i] := by rfl
  rw [how] at g3 g4
  have HJ0 := join_any _ ([[100, 114, 111, 112], Lib.itoa i]) [32] _ S1.own.at_ S1.own.cap g4 g3
  rw [← how] at HJ0
  have HJ := Lib.hid HJ0
  have SF := Lib.hid S1
  clear S1 hgood g3 g4 HJ0 how
  go_wp2_with fail
  refine HJ.out.mono ?_
  rintro e w9 ⟨rfl, hb⟩
  have FN := FW.out.trans ((SF.out.step hb).below.mono (by omega))
  clear hb
  go_wp2
  go_ret2
  exact ⟨by rw [g1, g2]; rfl, FN⟩
set_option maxHeartbeats 4000000 in
set_option maxRecDepth 100000 in
theorem sline_4 (i c n : Int) (f : Bool) (a : Option Addr) (l cp : Nat) (zs : List Int) (w : World) (hl : l = zs.length) (hz : zs.length ≤ 1000) (hi : IntsAt w (.slice a l cp) zs) (hW : ScrW w) :
    Calls Tryz.prog 37 #[opV 4 i c n f (.slice a l cp)] w (lineRet ⟨4, i, c, n, f, zs⟩ w) := by
  have HK : Hid (∀ w', From w w' → Calls Tryz.prog 67 #[.int .i64 4] w' fun e w'' => e = .returned (.string ⟨#[112, 111, 100]⟩) ∧ w' = w'') := fun w' hf => kindName_any 4 w' (hW.from_ hf).kinds
  have Gi : Hid (∀ w', From w w' → inR i → Calls Tryz.prog 68 #[opV 4 i c n f (.slice a l cp), .int .u8 105] w' fun e w'' => ∃ v, e = .returned (.tuple #[v, .bool true]) ∧ kStr.Own w'.heap.size w'' v [Lib.itoa i] ∧ Below w'.heap.size w' w'') := fun w' hf hr => field_one 105 4 i c n f a l cp i w' (.inl ⟨rfl, rfl⟩) (hW.from_ hf).log.tabs hr
  have Bi : Hid (∀ w', ¬ inR i → Calls Tryz.prog 68 #[opV 4 i c n f (.slice a l cp), .int .u8 105] w' fun e w'' => e = .returned (.tuple #[.slice none 0 0, .bool false]) ∧ Below w'.heap.size w' w'') := fun w' hr => field_one_bad 105 4 i c n f a l cp i w' (.inl ⟨rfl, rfl⟩) hr
  have Gc : Hid (∀ w', From w w' → inR c → Calls Tryz.prog 68 #[opV 4 i c n f (.slice a l cp), .int .u8 99] w' fun e w'' => ∃ v, e = .returned (.tuple #[v, .bool true]) ∧ kStr.Own w'.heap.size w'' v [Lib.itoa c] ∧ Below w'.heap.size w' w'') := fun w' hf hr => field_one 99 4 i c n f a l cp c w' (.inr (.inl ⟨rfl, rfl⟩)) (hW.from_ hf).log.tabs hr
  have Bc : Hid (∀ w', ¬ inR c → Calls Tryz.prog 68 #[opV 4 i c n f (.slice a l cp), .int .u8 99] w' fun e w'' => e = .returned (.tuple #[.slice none 0 0, .bool false]) ∧ Below w'.heap.size w' w'') := fun w' hr => field_one_bad 99 4 i c n f a l cp c w' (.inr (.inl ⟨rfl, rfl⟩)) hr
  have Gn : Hid (∀ w', From w w' → inR n → Calls Tryz.prog 68 #[opV 4 i c n f (.slice a l cp), .int .u8 110] w' fun e w'' => ∃ v, e = .returned (.tuple #[v, .bool true]) ∧ kStr.Own w'.heap.size w'' v [Lib.itoa n] ∧ Below w'.heap.size w' w'') := fun w' hf hr => field_one 110 4 i c n f a l cp n w' (.inr (.inr ⟨rfl, rfl⟩)) (hW.from_ hf).log.tabs hr
  have Bn : Hid (∀ w', ¬ inR n → Calls Tryz.prog 68 #[opV 4 i c n f (.slice a l cp), .int .u8 110] w' fun e w'' => e = .returned (.tuple #[.slice none 0 0, .bool false]) ∧ Below w'.heap.size w' w'') := fun w' hr => field_one_bad 110 4 i c n f a l cp n w' (.inr (.inr ⟨rfl, rfl⟩)) hr
  have Ga : Hid (∀ w', From w w' → Calls Tryz.prog 68 #[opV 4 i c n f (.slice a l cp), .int .u8 97] w' (RetWords w' zs)) := fun w' hf => field_ints 4 i c n f _ zs w' hz (hW.from_ hf).log.tabs (hi.from_ hf)
  have HFl : Hid (∀ w', From w w' → w'.cell? ⟨1, 4, none⟩ = some (.string ⟨#[105, 99, 110, 97]⟩)) := fun w' hf => (hW.from_ hf).fields 4 (by decide)
  have hlw : 1 < w.heap.size := cell_lt (hW.fields 0 (by decide))
  have HG : Hid ((∀ x ∈ onums ⟨4, i, c, n, f, zs⟩, inR x) → oline ⟨4, i, c, n, f, zs⟩ = Lib.join (owords ⟨4, i, c, n, f, zs⟩) [32] ∧ olined ⟨4, i, c, n, f, zs⟩ = true ∧ (Lib.join (owords ⟨4, i, c, n, f, zs⟩) [32]).length ≤ 140737488355328 ∧ (owords ⟨4, i, c, n, f, zs⟩).length ≤ 140737488355328) := fun h => by
    have hk : (1 : Int) ≤ 4 ∧ (4 : Int) ≤ 7 := by decide
    have e := oline_good (o := ⟨4, i, c, n, f, zs⟩) hk h
    have hn : (owords ⟨4, i, c, n, f, zs⟩).length ≤ 1010 := by simp only [owords, onums, otail, List.length_cons, List.length_append, List.length_map]; simp only [Int.reduceEq, if_true, if_false, List.length_cons, List.length_nil]; omega
    refine ⟨e.1, e.2, Nat.le_trans (join_len _ 20 _ (owords_le hk h)) ?_, by omega⟩
    simp only [List.length_cons, List.length_nil]; omega
  have HB : Hid ((¬ ∀ x ∈ onums ⟨4, i, c, n, f, zs⟩, inR x) → oline ⟨4, i, c, n, f, zs⟩ = [] ∧ olined ⟨4, i, c, n, f, zs⟩ = false) := fun h => oline_bad h
  have F0 := From.refl w
  have HZ : Hid (zs.length ≤ 1000) := hz
  have hmx : 3000 ≤ maxLen := by unfold maxLen; omega
  clear hW hi hl hz
  unfold lineRet
  go_enter Tryz.func37, Tryz.ntmps37
  go_wp2_with fail
  refine calls_named fun W hW => ?_
  have FW : From w W := by rw [hW]; exact F0.alloc _
  have hWs1 : W.heap.size ≤ w.heap.size + 1 := by rw [hW]; simp
  have hWs2 : w.heap.size + 1 ≤ W.heap.size := by rw [hW]; simp
  have HBx : Hid (Box6 W w.heap.size 4 i c n f (.slice a l cp)) := by rw [hW]; exact ⟨by go_simp, by go_simp, by go_simp, by go_simp, by go_simp, by go_simp⟩
  clear hW
  obtain ⟨x0, -, -, -, -, -⟩ := HBx.out
  refine (HK.out _ FW).mono ?_
  rintro e w1 ⟨rfl, rfl⟩
  go_wp2_with fail
  refine (HK.out _ FW).mono ?_
  rintro e w1 ⟨rfl, rfl⟩
  have p0 := HFl.out _ FW
  have hlW : ¬ 1 = W.heap.size := by omega
  have hlW' : ¬ w.heap.size = W.heap.size := by omega
  have hlV : ¬ W.heap.size = 1 := by omega
  have hlV' : ¬ W.heap.size = w.heap.size := by omega
  have hlt0 : w.heap.size < W.heap.size := by omega
  have hlt1 : 1 < W.heap.size := by omega
  have hcv : ∀ w, (convert 9 98 (.string ⟨#[105, 99, 110, 97]⟩)).run Tryz.prog w = .ok (.slice (some ⟨w.heap.size, 0, none⟩) 4 (grownCap w 4 0 5)) (Lib.bytesWorld w 5 ⟨#[105, 99, 110, 97]⟩) := fun w => Lib.run_convert_string_bytes w 9 98 5 ⟨#[105, 99, 110, 97]⟩ Tryz.underlying9 Tryz.underlying98 Tryz.underlying5
  go_wp2
  refine wp_named fun X hX => ?_
  have hXs : X.heap.size = W.heap.size + 2 := by rw [hX, Lib.bytesWorld_size]; simp
  have FX : From W X := by rw [hX]; exact from_bytes ((From.refl W).alloc _) _ _
  have S0 : LineSt W W.heap.size w.heap.size (W.heap.size + 1) 4 i c n f (.slice a l cp) [105, 99, 110, 97] X (.slice (some ⟨W.heap.size, 0, none⟩) 1 1) [[112, 111, 100]] := by
    refine ⟨?_, ?_, ?_, by omega, HBx.out.from_ FX, by omega, by omega, FX.out⟩
    · rw [hX]
      exact (own_one W [112, 111, 100]).below (from_bytes (From.refl _) _ _).out
    · intro e; simp [Value.ownBlock] at e
    · intro j u hu
      rw [hX]
      have h := bytes_at (W.alloc (.cells #[.string ⟨#[112, 111, 100]⟩] 9)) 5 [105, 99, 110, 97] j u hu
      rw [show (W.alloc (.cells #[.string ⟨#[112, 111, 100]⟩] 9)).heap.size = W.heap.size + 1 by simp] at h
      exact h
  clear hX p0 x0
  refine wp_loop_rounds 6 ?_
  rw [rounds_succ]
  have b0 := S0.bytes 0 _ rfl
  obtain ⟨x0, x1, x2, x3, x4, x5⟩ := S0.box
  have FC0 : From w X := FW.trans ⟨(S0.below)⟩
  have HS0 := Lib.hid S0
  by_cases r0 : inR i
  case neg =>
    have SB0 := HS0.out
    clear S0
    go_wp2_with fail
    refine (Bi.out _ r0).mono ?_
    rintro e wb ⟨rfl, hb⟩
    have SB := SB0.step hb
    clear hb
    have hbad : ¬ ∀ x ∈ onums ⟨4, i, c, n, f, zs⟩, inR x := fun h => r0 (h i (by simp [onums]))
    clear SB0
    go_wp2
    go_ret2
    exact ⟨by rw [(HB.out hbad).1, (HB.out hbad).2]; rfl, FW.out.trans ((SB.below).mono (by omega))⟩
  clear S0
  go_wp2_with fail
  refine (Gi.out _ FC0 r0).mono ?_
  rintro e wc0 ⟨vl, rfl, hown, hb⟩
  have T0 := Lib.hid (HS0.out.step hb)
  have hat := Lib.hid hown.at_
  obtain ⟨al, cl, rfl⟩ := hown.shape
  clear hb hown b0 x0 x1 x2 x3 x4 x5
  go_wp2_with (at_builtin; go_must (refine Kin.appendAt kStr rfl _ _ rfl W.heap.size _ ([[112, 111, 100]]) rfl T0.out.own _ ([Lib.itoa i]) rfl hat.out (by have := HZ.out; first | (simp; done) | (simp; omega)) (by have := HZ.out; show _ * 16 ≤ _; first | (simp; done) | (simp; omega)) T0.out.le ?_; intro v' wd0 hown' hgr hwh; have HN0 := Lib.hid (T0.out.append hown' hgr hwh); obtain ⟨a0, c0, rfl⟩ := hown'.shape; clear hown' hgr hwh))
  have S1 := HN0.out
  clear hat T0 HS0
  rw [rounds_succ]
  have b0 := S1.bytes 1 _ rfl
  obtain ⟨x0, x1, x2, x3, x4, x5⟩ := S1.box
  have FC1 : From w wd0 := FW.trans ⟨(S1.below)⟩
  have HS1 := Lib.hid S1
  by_cases r1 : inR c
  case neg =>
    have SB0 := HS1.out
    clear S1
    go_wp2_with fail
    refine (Bc.out _ r1).mono ?_
    rintro e wb ⟨rfl, hb⟩
    have SB := SB0.step hb
    clear hb
    have hbad : ¬ ∀ x ∈ onums ⟨4, i, c, n, f, zs⟩, inR x := fun h => r1 (h c (by simp [onums]))
    clear SB0
    go_wp2
    go_ret2
    exact ⟨by rw [(HB.out hbad).1, (HB.out hbad).2]; rfl, FW.out.trans ((SB.below).mono (by omega))⟩
  clear S1
  go_wp2_with fail
  refine (Gc.out _ FC1 r1).mono ?_
  rintro e wc1 ⟨vl, rfl, hown, hb⟩
  have T1 := Lib.hid (HS1.out.step hb)
  have hat := Lib.hid hown.at_
  obtain ⟨al, cl, rfl⟩ := hown.shape
  clear hb hown b0 x0 x1 x2 x3 x4 x5
  go_wp2_with (at_builtin; go_must (refine Kin.appendAt kStr rfl _ _ rfl W.heap.size _ ([[112, 111, 100], Lib.itoa i]) rfl T1.out.own _ ([Lib.itoa c]) rfl hat.out (by have := HZ.out; first | (simp; done) | (simp; omega)) (by have := HZ.out; show _ * 16 ≤ _; first | (simp; done) | (simp; omega)) T1.out.le ?_; intro v' wd1 hown' hgr hwh; have HN1 := Lib.hid (T1.out.append hown' hgr hwh); obtain ⟨a1, c1, rfl⟩ := hown'.shape; clear hown' hgr hwh))
  have S2 := HN1.out
  clear hat T1 HS1
  rw [rounds_succ]
  have b0 := S2.bytes 2 _ rfl
  obtain ⟨x0, x1, x2, x3, x4, x5⟩ := S2.box
  have FC2 : From w wd1 := FW.trans ⟨(S2.below)⟩
  have HS2 := Lib.hid S2
  by_cases r2 : inR n
  case neg =>
    have SB0 := HS2.out
    clear S2
    go_wp2_with fail
    refine (Bn.out _ r2).mono ?_
    rintro e wb ⟨rfl, hb⟩
    have SB := SB0.step hb
    clear hb
    have hbad : ¬ ∀ x ∈ onums ⟨4, i, c, n, f, zs⟩, inR x := fun h => r2 (h n (by simp [onums]))
    clear SB0
    go_wp2
    go_ret2
    exact ⟨by rw [(HB.out hbad).1, (HB.out hbad).2]; rfl, FW.out.trans ((SB.below).mono (by omega))⟩
  clear S2
  go_wp2_with fail
  refine (Gn.out _ FC2 r2).mono ?_
  rintro e wc2 ⟨vl, rfl, hown, hb⟩
  have T2 := Lib.hid (HS2.out.step hb)
  have hat := Lib.hid hown.at_
  obtain ⟨al, cl, rfl⟩ := hown.shape
  clear hb hown b0 x0 x1 x2 x3 x4 x5
  go_wp2_with (at_builtin; go_must (refine Kin.appendAt kStr rfl _ _ rfl W.heap.size _ ([[112, 111, 100], Lib.itoa i, Lib.itoa c]) rfl T2.out.own _ ([Lib.itoa n]) rfl hat.out (by have := HZ.out; first | (simp; done) | (simp; omega)) (by have := HZ.out; show _ * 16 ≤ _; first | (simp; done) | (simp; omega)) T2.out.le ?_; intro v' wd2 hown' hgr hwh; have HN2 := Lib.hid (T2.out.append hown' hgr hwh); obtain ⟨a2, c2, rfl⟩ := hown'.shape; clear hown' hgr hwh))
  have S3 := HN2.out
  clear hat T2 HS2
  rw [rounds_succ]
  have b0 := S3.bytes 3 _ rfl
  obtain ⟨x0, x1, x2, x3, x4, x5⟩ := S3.box
  have FC3 : From w wd2 := FW.trans ⟨(S3.below)⟩
  have HS3 := Lib.hid S3
  clear S3
  go_wp2_with fail
  refine (Ga.out _ FC3).mono ?_
  rintro e wc3 ⟨hb, ⟨r3, vl, rfl, hown⟩ | ⟨r3, rfl⟩⟩
  case inr =>
    have SB := HS3.out.step hb
    have hbad : ¬ ∀ x ∈ onums ⟨4, i, c, n, f, zs⟩, inR x := fun h => by
      have : allR zs = true := allR_iff.2 fun x hx => h x (by simp [onums, hx])
      rw [r3] at this; cases this
    clear hb
    go_wp2
    go_ret2
    exact ⟨by rw [(HB.out hbad).1, (HB.out hbad).2]; rfl, FW.out.trans ((SB.below).mono (by omega))⟩
  have T3 := Lib.hid (HS3.out.step hb)
  have hat1 := hown.at_
  obtain ⟨al, cl, rfl⟩ := hown.shape
  rw [List.length_map] at hat1
  have hat := Lib.hid hat1
  clear hb hown hat1 b0 x0 x1 x2 x3 x4 x5
  go_wp2_with (at_builtin; go_must (refine Kin.appendAt kStr rfl _ _ rfl W.heap.size _ ([[112, 111, 100], Lib.itoa i, Lib.itoa c, Lib.itoa n]) rfl T3.out.own _ (zs.map Lib.itoa) rfl hat.out (by have := HZ.out; first | (simp; done) | (simp; omega)) (by have := HZ.out; show _ * 16 ≤ _; first | (simp; done) | (simp; omega)) T3.out.le ?_; intro v' wd3 hown' hgr hwh; have HN3 := Lib.hid (T3.out.append hown' hgr hwh); obtain ⟨a3, c3, rfl⟩ := hown'.shape; clear hown' hgr hwh))
  have S4 := HN3.out
  clear hat T3 HS3
  rw [rounds_succ]
  have hgood : ∀ x ∈ onums ⟨4, i, c, n, f, zs⟩, inR x := by
    intro x hx
    simp [onums] at hx
    rcases hx with rfl | rfl | rfl | hx
    · assumption
    · assumption
    · assumption
    · exact allR_iff.1 r3 x hx
  obtain ⟨g1, g2, g3, g4⟩ := HG.out hgood
  have how : owords ⟨4, i, c, n, f, zs⟩ = [[112, 111, 100], Lib.itoa i, Lib.itoa c, Lib.itoa n] ++ zs.map Lib.itoa := by show oname 4 :: ((onums ⟨4, i, c, n, f, zs⟩).map Lib.itoa ++ otail ⟨4, i, c, n, f, zs⟩) = _; rw [show otail ⟨4, i, c, n, f, zs⟩ = [] from rfl, List.append_nil]; rfl
  rw [how] at g3 g4
  have HJ0 := join_any _ ([[112, 111, 100], Lib.itoa i, Lib.itoa c, Lib.itoa n] ++ zs.map Lib.itoa) [32] _ S4.own.at_ S4.own.cap g4 g3
  simp only [List.cons_append, List.nil_append, List.length_map, List.length_cons] at HJ0 how
  rw [← how] at HJ0
  have HJ := Lib.hid HJ0
  have SF := Lib.hid S4
  clear S4 hgood g3 g4 HJ0 how
  go_wp2_with fail
  refine HJ.out.mono ?_
  rintro e w9 ⟨rfl, hb⟩
  have FN := FW.out.trans ((SF.out.step hb).below.mono (by omega))
  clear hb
  go_wp2
  go_ret2
  exact ⟨by rw [g1, g2]; rfl, FN⟩
set_option maxHeartbeats 4000000 in
set_option maxRecDepth 100000 in
theorem sline_5 (i c n : Int) (f : Bool) (a : Option Addr) (l cp : Nat) (zs : List Int) (w : World) (hl : l = zs.length) (hz : zs.length ≤ 1000) (hi : IntsAt w (.slice a l cp) zs) (hW : ScrW w) :
    Calls Tryz.prog 37 #[opV 5 i c n f (.slice a l cp)] w (lineRet ⟨5, i, c, n, f, zs⟩ w) := by
  have HK : Hid (∀ w', From w w' → Calls Tryz.prog 67 #[.int .i64 5] w' fun e w'' => e = .returned (.string ⟨#[100, 101, 108, 101, 116, 101]⟩) ∧ w' = w'') := fun w' hf => kindName_any 5 w' (hW.from_ hf).kinds
  have Gi : Hid (∀ w', From w w' → inR i → Calls Tryz.prog 68 #[opV 5 i c n f (.slice a l cp), .int .u8 105] w' fun e w'' => ∃ v, e = .returned (.tuple #[v, .bool true]) ∧ kStr.Own w'.heap.size w'' v [Lib.itoa i] ∧ Below w'.heap.size w' w'') := fun w' hf hr => field_one 105 5 i c n f a l cp i w' (.inl ⟨rfl, rfl⟩) (hW.from_ hf).log.tabs hr
  have Bi : Hid (∀ w', ¬ inR i → Calls Tryz.prog 68 #[opV 5 i c n f (.slice a l cp), .int .u8 105] w' fun e w'' => e = .returned (.tuple #[.slice none 0 0, .bool false]) ∧ Below w'.heap.size w' w'') := fun w' hr => field_one_bad 105 5 i c n f a l cp i w' (.inl ⟨rfl, rfl⟩) hr
  have HFl : Hid (∀ w', From w w' → w'.cell? ⟨1, 5, none⟩ = some (.string ⟨#[105]⟩)) := fun w' hf => (hW.from_ hf).fields 5 (by decide)
  have hlw : 1 < w.heap.size := cell_lt (hW.fields 0 (by decide))
  have HG : Hid ((∀ x ∈ onums ⟨5, i, c, n, f, zs⟩, inR x) → oline ⟨5, i, c, n, f, zs⟩ = Lib.join (owords ⟨5, i, c, n, f, zs⟩) [32] ∧ olined ⟨5, i, c, n, f, zs⟩ = true ∧ (Lib.join (owords ⟨5, i, c, n, f, zs⟩) [32]).length ≤ 140737488355328 ∧ (owords ⟨5, i, c, n, f, zs⟩).length ≤ 140737488355328) := fun h => by
    have hk : (1 : Int) ≤ 5 ∧ (5 : Int) ≤ 7 := by decide
    have e := oline_good (o := ⟨5, i, c, n, f, zs⟩) hk h
    have hn : (owords ⟨5, i, c, n, f, zs⟩).length ≤ 1010 := by simp only [owords, onums, otail, List.length_cons, List.length_append, List.length_map]; simp only [Int.reduceEq, if_true, if_false, List.length_cons, List.length_nil]; omega
    refine ⟨e.1, e.2, Nat.le_trans (join_len _ 20 _ (owords_le hk h)) ?_, by omega⟩
    simp only [List.length_cons, List.length_nil]; omega
  have HB : Hid ((¬ ∀ x ∈ onums ⟨5, i, c, n, f, zs⟩, inR x) → oline ⟨5, i, c, n, f, zs⟩ = [] ∧ olined ⟨5, i, c, n, f, zs⟩ = false) := fun h => oline_bad h
  have F0 := From.refl w
  have HZ : Hid (zs.length ≤ 1000) := hz
  have hmx : 3000 ≤ maxLen := by unfold maxLen; omega
  clear hW hi hl hz
  unfold lineRet
  go_enter Tryz.func37, Tryz.ntmps37
  go_wp2_with fail
  refine calls_named fun W hW => ?_
  have FW : From w W := by rw [hW]; exact F0.alloc _
  have hWs1 : W.heap.size ≤ w.heap.size + 1 := by rw [hW]; simp
  have hWs2 : w.heap.size + 1 ≤ W.heap.size := by rw [hW]; simp
  have HBx : Hid (Box6 W w.heap.size 5 i c n f (.slice a l cp)) := by rw [hW]; exact ⟨by go_simp, by go_simp, by go_simp, by go_simp, by go_simp, by go_simp⟩
  clear hW
  obtain ⟨x0, -, -, -, -, -⟩ := HBx.out
  refine (HK.out _ FW).mono ?_
  rintro e w1 ⟨rfl, rfl⟩
  go_wp2_with fail
  refine (HK.out _ FW).mono ?_
  rintro e w1 ⟨rfl, rfl⟩
  have p0 := HFl.out _ FW
  have hlW : ¬ 1 = W.heap.size := by omega
  have hlW' : ¬ w.heap.size = W.heap.size := by omega
  have hlV : ¬ W.heap.size = 1 := by omega
  have hlV' : ¬ W.heap.size = w.heap.size := by omega
  have hlt0 : w.heap.size < W.heap.size := by omega
  have hlt1 : 1 < W.heap.size := by omega
  have hcv : ∀ w, (convert 9 98 (.string ⟨#[105]⟩)).run Tryz.prog w = .ok (.slice (some ⟨w.heap.size, 0, none⟩) 1 (grownCap w 1 0 5)) (Lib.bytesWorld w 5 ⟨#[105]⟩) := fun w => Lib.run_convert_string_bytes w 9 98 5 ⟨#[105]⟩ Tryz.underlying9 Tryz.underlying98 Tryz.underlying5
  go_wp2
  refine wp_named fun X hX => ?_
  have hXs : X.heap.size = W.heap.size + 2 := by rw [hX, Lib.bytesWorld_size]; simp
  have FX : From W X := by rw [hX]; exact from_bytes ((From.refl W).alloc _) _ _
  have S0 : LineSt W W.heap.size w.heap.size (W.heap.size + 1) 5 i c n f (.slice a l cp) [105] X (.slice (some ⟨W.heap.size, 0, none⟩) 1 1) [[100, 101, 108, 101, 116, 101]] := by
    refine ⟨?_, ?_, ?_, by omega, HBx.out.from_ FX, by omega, by omega, FX.out⟩
    · rw [hX]
      exact (own_one W [100, 101, 108, 101, 116, 101]).below (from_bytes (From.refl _) _ _).out
    · intro e; simp [Value.ownBlock] at e
    · intro j u hu
      rw [hX]
      have h := bytes_at (W.alloc (.cells #[.string ⟨#[100, 101, 108, 101, 116, 101]⟩] 9)) 5 [105] j u hu
      rw [show (W.alloc (.cells #[.string ⟨#[100, 101, 108, 101, 116, 101]⟩] 9)).heap.size = W.heap.size + 1 by simp] at h
      exact h
  clear hX p0 x0
  refine wp_loop_rounds 6 ?_
  rw [rounds_succ]
  have b0 := S0.bytes 0 _ rfl
  obtain ⟨x0, x1, x2, x3, x4, x5⟩ := S0.box
  have FC0 : From w X := FW.trans ⟨(S0.below)⟩
  have HS0 := Lib.hid S0
  by_cases r0 : inR i
  case neg =>
    have SB0 := HS0.out
    clear S0
    go_wp2_with fail
    refine (Bi.out _ r0).mono ?_
    rintro e wb ⟨rfl, hb⟩
    have SB := SB0.step hb
    clear hb
    have hbad : ¬ ∀ x ∈ onums ⟨5, i, c, n, f, zs⟩, inR x := fun h => r0 (h i (by simp [onums]))
    clear SB0
    go_wp2
    go_ret2
    exact ⟨by rw [(HB.out hbad).1, (HB.out hbad).2]; rfl, FW.out.trans ((SB.below).mono (by omega))⟩
  clear S0
  go_wp2_with fail
  refine (Gi.out _ FC0 r0).mono ?_
  rintro e wc0 ⟨vl, rfl, hown, hb⟩
  have T0 := Lib.hid (HS0.out.step hb)
  have hat := Lib.hid hown.at_
  obtain ⟨al, cl, rfl⟩ := hown.shape
  clear hb hown b0 x0 x1 x2 x3 x4 x5
  go_wp2_with (at_builtin; go_must (refine Kin.appendAt kStr rfl _ _ rfl W.heap.size _ ([[100, 101, 108, 101, 116, 101]]) rfl T0.out.own _ ([Lib.itoa i]) rfl hat.out (by have := HZ.out; first | (simp; done) | (simp; omega)) (by have := HZ.out; show _ * 16 ≤ _; first | (simp; done) | (simp; omega)) T0.out.le ?_; intro v' wd0 hown' hgr hwh; have HN0 := Lib.hid (T0.out.append hown' hgr hwh); obtain ⟨a0, c0, rfl⟩ := hown'.shape; clear hown' hgr hwh))
  have S1 := HN0.out
  clear hat T0 HS0
  rw [rounds_succ]
  have hgood : ∀ x ∈ onums ⟨5, i, c, n, f, zs⟩, inR x := by
    intro x hx
    simp [onums] at hx
    rcases hx with rfl
    · assumption
  obtain ⟨g1, g2, g3, g4⟩ := HG.out hgood
  have how : owords ⟨5, i, c, n, f, zs⟩ = [[100, 101, 108, 101, 116, 101], Lib.itoa i] := by rfl
  rw [how] at g3 g4
  have HJ0 := join_any _ ([[100, 101, 108, 101, 116, 101], Lib.itoa i]) [32] _ S1.own.at_ S1.own.cap g4 g3
  rw [← how] at HJ0
  have HJ := Lib.hid HJ0
  have SF := Lib.hid S1
  clear S1 hgood g3 g4 HJ0 how
  go_wp2_with fail
  refine HJ.out.mono ?_
  rintro e w9 ⟨rfl, hb⟩
  have FN := FW.out.trans ((SF.out.step hb).below.mono (by omega))
  clear hb
  go_wp2
  go_ret2
  exact ⟨by rw [g1, g2]; rfl, FN⟩
set_option maxHeartbeats 4000000 in
set_option maxRecDepth 100000 in
theorem sline_6 (i c n : Int) (f : Bool) (a : Option Addr) (l cp : Nat) (zs : List Int) (w : World) (hl : l = zs.length) (hz : zs.length ≤ 1000) (hi : IntsAt w (.slice a l cp) zs) (hW : ScrW w) :
    Calls Tryz.prog 37 #[opV 6 i c n f (.slice a l cp)] w (lineRet ⟨6, i, c, n, f, zs⟩ w) := by
  have HK : Hid (∀ w', From w w' → Calls Tryz.prog 67 #[.int .i64 6] w' fun e w'' => e = .returned (.string ⟨#[116, 105, 99, 107]⟩) ∧ w' = w'') := fun w' hf => kindName_any 6 w' (hW.from_ hf).kinds
  have Gn : Hid (∀ w', From w w' → inR n → Calls Tryz.prog 68 #[opV 6 i c n f (.slice a l cp), .int .u8 110] w' fun e w'' => ∃ v, e = .returned (.tuple #[v, .bool true]) ∧ kStr.Own w'.heap.size w'' v [Lib.itoa n] ∧ Below w'.heap.size w' w'') := fun w' hf hr => field_one 110 6 i c n f a l cp n w' (.inr (.inr ⟨rfl, rfl⟩)) (hW.from_ hf).log.tabs hr
  have Bn : Hid (∀ w', ¬ inR n → Calls Tryz.prog 68 #[opV 6 i c n f (.slice a l cp), .int .u8 110] w' fun e w'' => e = .returned (.tuple #[.slice none 0 0, .bool false]) ∧ Below w'.heap.size w' w'') := fun w' hr => field_one_bad 110 6 i c n f a l cp n w' (.inr (.inr ⟨rfl, rfl⟩)) hr
  have HFl : Hid (∀ w', From w w' → w'.cell? ⟨1, 6, none⟩ = some (.string ⟨#[110]⟩)) := fun w' hf => (hW.from_ hf).fields 6 (by decide)
  have hlw : 1 < w.heap.size := cell_lt (hW.fields 0 (by decide))
  have HG : Hid ((∀ x ∈ onums ⟨6, i, c, n, f, zs⟩, inR x) → oline ⟨6, i, c, n, f, zs⟩ = Lib.join (owords ⟨6, i, c, n, f, zs⟩) [32] ∧ olined ⟨6, i, c, n, f, zs⟩ = true ∧ (Lib.join (owords ⟨6, i, c, n, f, zs⟩) [32]).length ≤ 140737488355328 ∧ (owords ⟨6, i, c, n, f, zs⟩).length ≤ 140737488355328) := fun h => by
    have hk : (1 : Int) ≤ 6 ∧ (6 : Int) ≤ 7 := by decide
    have e := oline_good (o := ⟨6, i, c, n, f, zs⟩) hk h
    have hn : (owords ⟨6, i, c, n, f, zs⟩).length ≤ 1010 := by simp only [owords, onums, otail, List.length_cons, List.length_append, List.length_map]; simp only [Int.reduceEq, if_true, if_false, List.length_cons, List.length_nil]; omega
    refine ⟨e.1, e.2, Nat.le_trans (join_len _ 20 _ (owords_le hk h)) ?_, by omega⟩
    simp only [List.length_cons, List.length_nil]; omega
  have HB : Hid ((¬ ∀ x ∈ onums ⟨6, i, c, n, f, zs⟩, inR x) → oline ⟨6, i, c, n, f, zs⟩ = [] ∧ olined ⟨6, i, c, n, f, zs⟩ = false) := fun h => oline_bad h
  have F0 := From.refl w
  have HZ : Hid (zs.length ≤ 1000) := hz
  have hmx : 3000 ≤ maxLen := by unfold maxLen; omega
  clear hW hi hl hz
  unfold lineRet
  go_enter Tryz.func37, Tryz.ntmps37
  go_wp2_with fail
  refine calls_named fun W hW => ?_
  have FW : From w W := by rw [hW]; exact F0.alloc _
  have hWs1 : W.heap.size ≤ w.heap.size + 1 := by rw [hW]; simp
  have hWs2 : w.heap.size + 1 ≤ W.heap.size := by rw [hW]; simp
  have HBx : Hid (Box6 W w.heap.size 6 i c n f (.slice a l cp)) := by rw [hW]; exact ⟨by go_simp, by go_simp, by go_simp, by go_simp, by go_simp, by go_simp⟩
  clear hW
  obtain ⟨x0, -, -, -, -, -⟩ := HBx.out
  refine (HK.out _ FW).mono ?_
  rintro e w1 ⟨rfl, rfl⟩
  go_wp2_with fail
  refine (HK.out _ FW).mono ?_
  rintro e w1 ⟨rfl, rfl⟩
  have p0 := HFl.out _ FW
  have hlW : ¬ 1 = W.heap.size := by omega
  have hlW' : ¬ w.heap.size = W.heap.size := by omega
  have hlV : ¬ W.heap.size = 1 := by omega
  have hlV' : ¬ W.heap.size = w.heap.size := by omega
  have hlt0 : w.heap.size < W.heap.size := by omega
  have hlt1 : 1 < W.heap.size := by omega
  have hcv : ∀ w, (convert 9 98 (.string ⟨#[110]⟩)).run Tryz.prog w = .ok (.slice (some ⟨w.heap.size, 0, none⟩) 1 (grownCap w 1 0 5)) (Lib.bytesWorld w 5 ⟨#[110]⟩) := fun w => Lib.run_convert_string_bytes w 9 98 5 ⟨#[110]⟩ Tryz.underlying9 Tryz.underlying98 Tryz.underlying5
  go_wp2
  refine wp_named fun X hX => ?_
  have hXs : X.heap.size = W.heap.size + 2 := by rw [hX, Lib.bytesWorld_size]; simp
  have FX : From W X := by rw [hX]; exact from_bytes ((From.refl W).alloc _) _ _
  have S0 : LineSt W W.heap.size w.heap.size (W.heap.size + 1) 6 i c n f (.slice a l cp) [110] X (.slice (some ⟨W.heap.size, 0, none⟩) 1 1) [[116, 105, 99, 107]] := by
    refine ⟨?_, ?_, ?_, by omega, HBx.out.from_ FX, by omega, by omega, FX.out⟩
    · rw [hX]
      exact (own_one W [116, 105, 99, 107]).below (from_bytes (From.refl _) _ _).out
    · intro e; simp [Value.ownBlock] at e
    · intro j u hu
      rw [hX]
      have h := bytes_at (W.alloc (.cells #[.string ⟨#[116, 105, 99, 107]⟩] 9)) 5 [110] j u hu
      rw [show (W.alloc (.cells #[.string ⟨#[116, 105, 99, 107]⟩] 9)).heap.size = W.heap.size + 1 by simp] at h
      exact h
  clear hX p0 x0
  refine wp_loop_rounds 6 ?_
  rw [rounds_succ]
  have b0 := S0.bytes 0 _ rfl
  obtain ⟨x0, x1, x2, x3, x4, x5⟩ := S0.box
  have FC0 : From w X := FW.trans ⟨(S0.below)⟩
  have HS0 := Lib.hid S0
  by_cases r0 : inR n
  case neg =>
    have SB0 := HS0.out
    clear S0
    go_wp2_with fail
    refine (Bn.out _ r0).mono ?_
    rintro e wb ⟨rfl, hb⟩
    have SB := SB0.step hb
    clear hb
    have hbad : ¬ ∀ x ∈ onums ⟨6, i, c, n, f, zs⟩, inR x := fun h => r0 (h n (by simp [onums]))
    clear SB0
    go_wp2
    go_ret2
    exact ⟨by rw [(HB.out hbad).1, (HB.out hbad).2]; rfl, FW.out.trans ((SB.below).mono (by omega))⟩
  clear S0
  go_wp2_with fail
  refine (Gn.out _ FC0 r0).mono ?_
  rintro e wc0 ⟨vl, rfl, hown, hb⟩
  have T0 := Lib.hid (HS0.out.step hb)
  have hat := Lib.hid hown.at_
  obtain ⟨al, cl, rfl⟩ := hown.shape
  clear hb hown b0 x0 x1 x2 x3 x4 x5
  go_wp2_with (at_builtin; go_must (refine Kin.appendAt kStr rfl _ _ rfl W.heap.size _ ([[116, 105, 99, 107]]) rfl T0.out.own _ ([Lib.itoa n]) rfl hat.out (by have := HZ.out; first | (simp; done) | (simp; omega)) (by have := HZ.out; show _ * 16 ≤ _; first | (simp; done) | (simp; omega)) T0.out.le ?_; intro v' wd0 hown' hgr hwh; have HN0 := Lib.hid (T0.out.append hown' hgr hwh); obtain ⟨a0, c0, rfl⟩ := hown'.shape; clear hown' hgr hwh))
  have S1 := HN0.out
  clear hat T0 HS0
  rw [rounds_succ]
  have hgood : ∀ x ∈ onums ⟨6, i, c, n, f, zs⟩, inR x := by
    intro x hx
    simp [onums] at hx
    rcases hx with rfl
    · assumption
  obtain ⟨g1, g2, g3, g4⟩ := HG.out hgood
  have how : owords ⟨6, i, c, n, f, zs⟩ = [[116, 105, 99, 107], Lib.itoa n] := by rfl
  rw [how] at g3 g4
  have HJ0 := join_any _ ([[116, 105, 99, 107], Lib.itoa n]) [32] _ S1.own.at_ S1.own.cap g4 g3
  rw [← how] at HJ0
  have HJ := Lib.hid HJ0
  have SF := Lib.hid S1
  clear S1 hgood g3 g4 HJ0 how
  go_wp2_with fail
  refine HJ.out.mono ?_
  rintro e w9 ⟨rfl, hb⟩
  have FN := FW.out.trans ((SF.out.step hb).below.mono (by omega))
  clear hb
  go_wp2
  go_ret2
  exact ⟨by rw [g1, g2]; rfl, FN⟩
set_option maxHeartbeats 4000000 in
set_option maxRecDepth 100000 in
theorem sline_7 (i c n : Int) (f : Bool) (a : Option Addr) (l cp : Nat) (zs : List Int) (w : World) (hl : l = zs.length) (hz : zs.length ≤ 1000) (hi : IntsAt w (.slice a l cp) zs) (hW : ScrW w) :
    Calls Tryz.prog 37 #[opV 7 i c n f (.slice a l cp)] w (lineRet ⟨7, i, c, n, f, zs⟩ w) := by
  have HK : Hid (∀ w', From w w' → Calls Tryz.prog 67 #[.int .i64 7] w' fun e w'' => e = .returned (.string ⟨#[99, 121, 99, 108, 101]⟩) ∧ w' = w'') := fun w' hf => kindName_any 7 w' (hW.from_ hf).kinds
  have HFl : Hid (∀ w', From w w' → w'.cell? ⟨1, 7, none⟩ = some (.string ⟨#[]⟩)) := fun w' hf => (hW.from_ hf).fields 7 (by decide)
  have hlw : 1 < w.heap.size := cell_lt (hW.fields 0 (by decide))
  have HG : Hid ((∀ x ∈ onums ⟨7, i, c, n, f, zs⟩, inR x) → oline ⟨7, i, c, n, f, zs⟩ = Lib.join (owords ⟨7, i, c, n, f, zs⟩) [32] ∧ olined ⟨7, i, c, n, f, zs⟩ = true ∧ (Lib.join (owords ⟨7, i, c, n, f, zs⟩) [32]).length ≤ 140737488355328 ∧ (owords ⟨7, i, c, n, f, zs⟩).length ≤ 140737488355328) := fun h => by
    have hk : (1 : Int) ≤ 7 ∧ (7 : Int) ≤ 7 := by decide
    have e := oline_good (o := ⟨7, i, c, n, f, zs⟩) hk h
    have hn : (owords ⟨7, i, c, n, f, zs⟩).length ≤ 1010 := by simp only [owords, onums, otail, List.length_cons, List.length_append, List.length_map]; simp only [Int.reduceEq, if_true, if_false, List.length_cons, List.length_nil]; omega
    refine ⟨e.1, e.2, Nat.le_trans (join_len _ 20 _ (owords_le hk h)) ?_, by omega⟩
    simp only [List.length_cons, List.length_nil]; omega
  have HB : Hid ((¬ ∀ x ∈ onums ⟨7, i, c, n, f, zs⟩, inR x) → oline ⟨7, i, c, n, f, zs⟩ = [] ∧ olined ⟨7, i, c, n, f, zs⟩ = false) := fun h => oline_bad h
  have F0 := From.refl w
  have HZ : Hid (zs.length ≤ 1000) := hz
  have hmx : 3000 ≤ maxLen := by unfold maxLen; omega
  clear hW hi hl hz
  unfold lineRet
  go_enter Tryz.func37, Tryz.ntmps37
  go_wp2_with fail
  refine calls_named fun W hW => ?_
  have FW : From w W := by rw [hW]; exact F0.alloc _
  have hWs1 : W.heap.size ≤ w.heap.size + 1 := by rw [hW]; simp
  have hWs2 : w.heap.size + 1 ≤ W.heap.size := by rw [hW]; simp
  have HBx : Hid (Box6 W w.heap.size 7 i c n f (.slice a l cp)) := by rw [hW]; exact ⟨by go_simp, by go_simp, by go_simp, by go_simp, by go_simp, by go_simp⟩
  clear hW
  obtain ⟨x0, -, -, -, -, -⟩ := HBx.out
  refine (HK.out _ FW).mono ?_
  rintro e w1 ⟨rfl, rfl⟩
  go_wp2_with fail
  refine (HK.out _ FW).mono ?_
  rintro e w1 ⟨rfl, rfl⟩
  have p0 := HFl.out _ FW
  have hlW : ¬ 1 = W.heap.size := by omega
  have hlW' : ¬ w.heap.size = W.heap.size := by omega
  have hlV : ¬ W.heap.size = 1 := by omega
  have hlV' : ¬ W.heap.size = w.heap.size := by omega
  have hlt0 : w.heap.size < W.heap.size := by omega
  have hlt1 : 1 < W.heap.size := by omega
  have hcv : ∀ w, (convert 9 98 (.string ⟨#[]⟩)).run Tryz.prog w = .ok (.slice (some ⟨w.heap.size, 0, none⟩) 0 (grownCap w 0 0 5)) (Lib.bytesWorld w 5 ⟨#[]⟩) := fun w => Lib.run_convert_string_bytes w 9 98 5 ⟨#[]⟩ Tryz.underlying9 Tryz.underlying98 Tryz.underlying5
  go_wp2
  refine wp_named fun X hX => ?_
  have hXs : X.heap.size = W.heap.size + 2 := by rw [hX, Lib.bytesWorld_size]; simp
  have FX : From W X := by rw [hX]; exact from_bytes ((From.refl W).alloc _) _ _
  have S0 : LineSt W W.heap.size w.heap.size (W.heap.size + 1) 7 i c n f (.slice a l cp) [] X (.slice (some ⟨W.heap.size, 0, none⟩) 1 1) [[99, 121, 99, 108, 101]] := by
    refine ⟨?_, ?_, ?_, by omega, HBx.out.from_ FX, by omega, by omega, FX.out⟩
    · rw [hX]
      exact (own_one W [99, 121, 99, 108, 101]).below (from_bytes (From.refl _) _ _).out
    · intro e; simp [Value.ownBlock] at e
    · intro j u hu
      rw [hX]
      have h := bytes_at (W.alloc (.cells #[.string ⟨#[99, 121, 99, 108, 101]⟩] 9)) 5 [] j u hu
      rw [show (W.alloc (.cells #[.string ⟨#[99, 121, 99, 108, 101]⟩] 9)).heap.size = W.heap.size + 1 by simp] at h
      exact h
  clear hX p0 x0
  refine wp_loop_rounds 6 ?_
  rw [rounds_succ]
  have hgood : ∀ x ∈ onums ⟨7, i, c, n, f, zs⟩, inR x := by
    intro x hx
    simp [onums] at hx

  obtain ⟨g1, g2, g3, g4⟩ := HG.out hgood
  have how : owords ⟨7, i, c, n, f, zs⟩ = [[99, 121, 99, 108, 101]] := by rfl
  rw [how] at g3 g4
  have HJ0 := join_any _ ([[99, 121, 99, 108, 101]]) [32] _ S0.own.at_ S0.own.cap g4 g3
  rw [← how] at HJ0
  have HJ := Lib.hid HJ0
  have SF := Lib.hid S0
  clear S0 hgood g3 g4 HJ0 how
  go_wp2_with fail
  refine HJ.out.mono ?_
  rintro e w9 ⟨rfl, hb⟩
  have FN := FW.out.trans ((SF.out.step hb).below.mono (by omega))
  clear hb
  go_wp2
  go_ret2
  exact ⟨by rw [g1, g2]; rfl, FN⟩
end Go.Proofs.YtdclokpoeaehlaaGreatDoor
/- script.Line of any operation. -/
namespace Go.Proofs.YtdclokpoeaehlaaGreatDoor
set_option linter.all false
open Go.RowKit

set_option maxHeartbeats 4000000 in
set_option maxRecDepth 100000 in
theorem sline_x (k i c n : Int) (f : Bool) (a : Option Addr) (l cp : Nat) (zs : List Int) (w : World) (hk : oname k = []) (hW : ScrW w) :
    Calls Tryz.prog 37 #[opV k i c n f (.slice a l cp)] w (lineRet ⟨k, i, c, n, f, zs⟩ w) := by
  have HK : Hid (∀ w', From w w' → Calls Tryz.prog 67 #[.int .i64 k] w' fun e w'' => e = .returned (.string ⟨#[]⟩) ∧ w' = w'') := fun w' hf => by
    have h := kindName_any k w' (hW.from_ hf).kinds
    rw [hk] at h; exact h
  have F0 := From.refl w
  obtain ⟨e1, e2⟩ := oline_kind (o := ⟨k, i, c, n, f, zs⟩) hk
  unfold lineRet
  rw [e1, e2]
  clear hW hk e1 e2
  go_enter Tryz.func37, Tryz.ntmps37
  go_wp2_with fail
  refine (HK.out _ (F0.alloc _)).mono ?_
  rintro e w1 ⟨rfl, rfl⟩
  go_wp2
  go_ret2
  exact ⟨rfl, (F0.alloc _).out⟩
/-- script.Line. -/
theorem sline_any (k i c n : Int) (f : Bool) (am : Value) (zs : List Int) (w : World) (hz : zs.length ≤ 1000) (hi : IntsAt w am zs) (hW : ScrW w) :
    Calls Tryz.prog 37 #[opV k i c n f am] w (lineRet ⟨k, i, c, n, f, zs⟩ w) := by
  have hi' := hi
  obtain ⟨a, cap, rfl, -⟩ := hi'
  by_cases hk : 1 ≤ k ∧ k ≤ 7
  · rcases kinds17 hk with rfl | rfl | rfl | rfl | rfl | rfl | rfl
    · exact sline_1 i c n f a _ cap zs w rfl hz hi hW
    · exact sline_2 i c n f a _ cap zs w rfl hz hi hW
    · exact sline_3 i c n f a _ cap zs w rfl hz hi hW
    · exact sline_4 i c n f a _ cap zs w rfl hz hi hW
    · exact sline_5 i c n f a _ cap zs w rfl hz hi hW
    · exact sline_6 i c n f a _ cap zs w rfl hz hi hW
    · exact sline_7 i c n f a _ cap zs w rfl hz hi hW
  · refine sline_x k i c n f a _ cap zs w ?_ hW
    cases h : oname k with
    | nil => rfl
    | cons x r => exact absurd ((oname_iff k).1 (by rw [h]; simp)) hk
end Go.Proofs.YtdclokpoeaehlaaGreatDoor
