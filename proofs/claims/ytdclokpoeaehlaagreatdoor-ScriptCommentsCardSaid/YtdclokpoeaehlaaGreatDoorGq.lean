/- ScrF, ScrG, ScrH, OpsR, ScrFlag, ScrG2, ScrG3: together in one text. -/
import Derived.Test.YtdclokpoeaehlaaGreatDoorGo
import Derived.Test.YtdclokpoeaehlaaGreatDoorSLogO
import Derived.Test.YtdclokpoeaehlaaGreatDoorGp
import Derived.Test.YtdclokpoeaehlaaGreatDoorGl
import Derived.Test.YtdclokpoeaehlaaGreatDoorGa
import Derived.Test.YtdclokpoeaehlaaGreatDoorGb
/- script.Parse$1: the next number. -/
namespace Go.Proofs.YtdclokpoeaehlaaGreatDoor
set_option linter.all false
open Go.RowKit

/-- The words that are left: a slice in block gw, whose elements lie in block b. -/
structure Ws (w : World) (gw b off cap : Nat) (xs : List (List UInt8)) : Prop where
  cell : w.cell? ⟨gw, 0, none⟩ = some (.slice (some ⟨b, off, none⟩) xs.length cap)
  free : w.frozen? ⟨gw, 0, none⟩ = false
  le : xs.length ≤ cap
  at_ : ∀ j x, xs[j]? = some x → w.cell? ⟨b, off + j, none⟩ = some (.string (str x))
  ne : b ≠ gw
  lt : b < w.heap.size
theorem Ws.below {w w' : World} {gw b off cap : Nat} {xs : List (List UInt8)} (h : Ws w gw b off cap xs) (hb : Below w.heap.size w w') : Ws w' gw b off cap xs :=
  ⟨keepl hb h.cell, (hb.frozen (p := ⟨gw, 0, none⟩) (cell_lt h.cell)).trans h.free, h.le, fun j x hx => keepl hb (h.at_ j x hx), h.ne, Nat.lt_of_lt_of_le h.lt hb.size⟩
set_option maxHeartbeats 4000000 in
set_option maxRecDepth 100000 in
theorem next_nil (gw b off cap : Nat) (w : World) (h : Ws w gw b off cap []) :
    Calls Tryz.prog 73 #[.pointer (some ⟨gw, 0, none⟩)] w fun e w' => e = .returned (.tuple #[.int .i64 0, .bool false]) ∧ w = w' := by
  have hc : w.cell? ⟨gw, 0, none⟩ = some (.slice (some ⟨b, off, none⟩) 0 cap) := h.cell
  clear h
  go_enter Tryz.func73, Tryz.ntmps73
  go_wp2
  go_ret2
  exact ⟨rfl, rfl⟩
set_option maxHeartbeats 4000000 in
set_option maxRecDepth 100000 in
theorem next_cons (gw b off cap : Nat) (x : List UInt8) (r : List (List UInt8)) (w : World) (h : Ws w gw b off cap (x :: r)) (hx : x.length ≤ 140737488351232) (hr : r.length ≤ 140737488351232) (ht : Tabs w) :
    Calls Tryz.prog 73 #[.pointer (some ⟨gw, 0, none⟩)] w fun e w' => e = .returned (.tuple #[.int .i64 (numI x), .bool (numB x)]) ∧ Mut gw w w' ∧ ∃ off', Ws w' gw b off' (cap - 1) r := by
  have hc : w.cell? ⟨gw, 0, none⟩ = some (.slice (some ⟨b, off, none⟩) (r.length + 1) cap) := h.cell
  have h0 : w.cell? ⟨b, off, none⟩ = some (.string (str x)) := h.at_ 0 x rfl
  have hle : r.length + 1 ≤ cap := h.le
  have HN := Lib.hid (number_any x w hx ht)
  have HF := Lib.hid h.free
  have HW := Lib.hid h
  have hgl := cell_lt hc
  clear h hx ht
  generalize numI x = n at *
  generalize numB x = q at *
  obtain ⟨m, hm⟩ : ∃ m, m = r.length := ⟨_, rfl⟩
  rw [← hm] at hc hle hr
  have HM := Lib.hid hm
  clear hm
  have hm0 : ((m : Int) + 1 == 0) = false := by rw [beq_eq_false_iff_ne]; omega
  have hset : ∀ (w1 : World) (v : Value), Ws w1 gw b off cap (x :: r) → (w1.setCell ⟨gw, 0, none⟩ v).frozen? ⟨gw, 0, none⟩ = false ∧ (w1.setCell ⟨gw, 0, none⟩ v).cell? ⟨gw, 0, none⟩ = some v ∧ b < (w1.setCell ⟨gw, 0, none⟩ v).heap.size := fun w1 v h1 => by
    have h2 := h1.cell
    have h3 := h1.lt
    exact ⟨by rw [World.frozen?_setCell]; exact h1.free, by go_simp, by simpa using h3⟩
  have HS := Lib.hid hset
  clear hset
  by_cases hc1 : cap = 1
  · subst hc1
    obtain rfl : m = 0 := by omega
    go_enter Tryz.func73, Tryz.ntmps73
    go_wp2_with fail
    refine HN.out.mono ?_
    rintro e w1 ⟨rfl, hb⟩
    have c1 := keepl hb hc
    have f1 : w1.frozen? ⟨gw, 0, none⟩ = false := (hb.frozen (p := ⟨gw, 0, none⟩) hgl).trans HF.out
    have M1 := Mut.of_below (g := gw) hb
    have W1 := Lib.hid (HW.out.below hb)
    clear hb
    go_wp2
    have h1 := W1.out
    obtain ⟨q1, q2, q3⟩ := HS.out w1 (.slice (some ⟨b, off, none⟩) 0 0) h1
    have hr0 : r = [] := List.eq_nil_of_length_eq_zero HM.out.symm
    subst hr0
    clear HS HM
    go_ret2
    refine ⟨rfl, M1.set _, off, ?_⟩
    exact ⟨q2, q1, Nat.le_refl _, fun j x hx => by simp at hx, h1.ne, q3⟩
  · go_enter Tryz.func73, Tryz.ntmps73
    go_wp2_with fail
    refine HN.out.mono ?_
    rintro e w1 ⟨rfl, hb⟩
    have c1 := keepl hb hc
    have f1 : w1.frozen? ⟨gw, 0, none⟩ = false := (hb.frozen (p := ⟨gw, 0, none⟩) hgl).trans HF.out
    have M1 := Mut.of_below (g := gw) hb
    have W1 := Lib.hid (HW.out.below hb)
    clear hb
    go_wp2
    have h1 := W1.out
    obtain ⟨q1, q2, q3⟩ := HS.out w1 (.slice (some ⟨b, off + 1, none⟩) m (cap - 1)) h1
    go_ret2
    refine ⟨rfl, M1.set _, off + 1, ?_⟩
    refine ⟨by rw [← HM.out]; exact q2, q1, by rw [← HM.out]; omega, fun j x hx => ?_, h1.ne, q3⟩
    rw [setCell_ne (.inl (Ne.symm h1.ne)), show off + 1 + j = off + (j + 1) by omega]
    exact h1.at_ (j + 1) x hx
end Go.Proofs.YtdclokpoeaehlaaGreatDoor
/- script.Parse: the state of its loop. -/
namespace Go.Proofs.YtdclokpoeaehlaaGreatDoor
set_option linter.all false
open Go.RowKit

/-- An operation in a block that may be written. -/
structure OpB (w : World) (g : Nat) (k i c n : Int) (f : Bool) (am : Value) : Prop where
  box : Box6 w g k i c n f am
  free : ∀ j, j < 6 → w.frozen? ⟨g, j, none⟩ = false
theorem OpB.lt {w : World} {g : Nat} {k i c n : Int} {f : Bool} {am : Value} (h : OpB w g k i c n f am) : g < w.heap.size := cell_lt h.box.c0
theorem OpB.mut {w w' : World} {g g' : Nat} {k i c n : Int} {f : Bool} {am : Value} (h : OpB w g k i c n f am) (hm : Mut g' w w') (hne : g ≠ g') : OpB w' g k i c n f am :=
  ⟨⟨hm.cell hne h.box.c0, hm.cell hne h.box.c1, hm.cell hne h.box.c2, hm.cell hne h.box.c3, hm.cell hne h.box.c4, hm.cell hne h.box.c5⟩, fun j hj => (hm.frozen hne h.lt).trans (h.free j hj)⟩
theorem OpB.from_ {w w' : World} {g : Nat} {k i c n : Int} {f : Bool} {am : Value} (h : OpB w g k i c n f am) (hf : From w w') : OpB w' g k i c n f am :=
  ⟨h.box.from_ hf, fun j hj => (hf.out.frozen (p := ⟨g, j, none⟩) h.lt).trans (h.free j hj)⟩
/-- The loop of script.Parse: the result's block gz, the words (in b, held by gw), the operation in go, the letters in g1. -/
structure PSt (a0 : World) (gz b gw go g1 : Nat) (k i c n : Int) (f : Bool) (am : Value) (L : List UInt8) (xs : List (List UInt8)) (w : World) : Prop where
  zero : OpB w gz 0 0 0 0 false (.slice none 0 0)
  op : OpB w go k i c n f am
  ws : ∃ off cap, Ws w gw b off cap xs
  bytes : ∀ j u, (u8s L)[j]? = some u → w.cell? ⟨g1, j, none⟩ = some u
  lt1 : g1 < w.heap.size
  z1 : gz < b
  z2 : b < gw
  z3 : gw < go
  z4 : go < g1
  lo : a0.heap.size ≤ gz
  below : Below a0.heap.size a0 w
theorem PSt.from_ {a0 w w' : World} {gz b gw go g1 : Nat} {k i c n : Int} {f : Bool} {am : Value} {L : List UInt8} {xs : List (List UInt8)} (h : PSt a0 gz b gw go g1 k i c n f am L xs w) (hf : From w w') : PSt a0 gz b gw go g1 k i c n f am L xs w' := by
  obtain ⟨off, cap, hw⟩ := h.ws
  exact ⟨h.zero.from_ hf, h.op.from_ hf, ⟨off, cap, hw.below hf.out⟩, fun j u hu => hf.cell (h.bytes j u hu), Nat.lt_of_lt_of_le h.lt1 hf.out.size, h.z1, h.z2, h.z3, h.z4, h.lo, h.below.trans (hf.out.mono h.below.size)⟩
/-- The next word was taken. -/
theorem PSt.next {a0 w w' : World} {gz b gw go g1 : Nat} {k i c n : Int} {f : Bool} {am : Value} {L : List UInt8} {xs xs' : List (List UInt8)} (h : PSt a0 gz b gw go g1 k i c n f am L xs w) (hm : Mut gw w w') (hw : ∃ off cap, Ws w' gw b off cap xs') : PSt a0 gz b gw go g1 k i c n f am L xs' w' := by
  have z1 := h.z1; have z2 := h.z2; have z3 := h.z3; have z4 := h.z4; have lo := h.lo
  refine ⟨h.zero.mut hm (by omega), h.op.mut hm (by omega), hw, fun j u hu => hm.cell (by omega) (h.bytes j u hu), Nat.lt_of_lt_of_le h.lt1 hm.size, z1, z2, z3, z4, lo, hm.below h.below h.below.size (by omega)⟩
/-- A store into the operation. -/
theorem OpB.set {w : World} {g j : Nat} {k i c n : Int} {f : Bool} {am : Value} {k' i' c' n' : Int} {f' : Bool} {am' : Value} (h : OpB w g k i c n f am) (v : Value) (hb : Box6 (w.setCell ⟨g, j, none⟩ v) g k' i' c' n' f' am') : OpB (w.setCell ⟨g, j, none⟩ v) g k' i' c' n' f' am' :=
  ⟨hb, fun q hq => by rw [World.frozen?_setCell]; exact h.free q hq⟩
theorem PSt.store {a0 w : World} {gz b gw go g1 j : Nat} {k i c n : Int} {f : Bool} {am : Value} {L : List UInt8} {xs : List (List UInt8)} (h : PSt a0 gz b gw go g1 k i c n f am L xs w) (v : Value) {k' i' c' n' : Int} {f' : Bool} {am' : Value} (hb : Box6 (w.setCell ⟨go, j, none⟩ v) go k' i' c' n' f' am') :
    PSt a0 gz b gw go g1 k' i' c' n' f' am' L xs (w.setCell ⟨go, j, none⟩ v) := by
  have z1 := h.z1; have z2 := h.z2; have z3 := h.z3; have z4 := h.z4; have lo := h.lo
  obtain ⟨off, cap, hw⟩ := h.ws
  have hM : Mut go w (w.setCell ⟨go, j, none⟩ v) := (Mut.refl go w).set v
  have hgw : gw < w.heap.size := cell_lt hw.cell
  refine ⟨h.zero.mut hM (by omega), h.op.set v hb, ⟨off, cap, ⟨hM.cell (by omega) hw.cell, (hM.frozen (by omega) hgw).trans hw.free, hw.le, fun q x hx => hM.cell (by omega) (hw.at_ q x hx), hw.ne, Nat.lt_of_lt_of_le hw.lt hM.size⟩⟩,
    fun q u hu => hM.cell (by omega) (h.bytes q u hu), Nat.lt_of_lt_of_le h.lt1 hM.size, z1, z2, z3, z4, lo, hM.below h.below h.below.size (by omega)⟩
theorem Box6.set0 {w : World} {g : Nat} {k i c n : Int} {f : Bool} {am : Value} (h : Box6 w g k i c n f am) (x : Int) : Box6 (w.setCell ⟨g, 1, none⟩ (.int .i64 x)) g k x c n f am := by
  obtain ⟨c0, c1, c2, c3, c4, c5⟩ := h
  exact ⟨by go_simp, by go_simp, by go_simp, by go_simp, by go_simp, by go_simp⟩
theorem Box6.set2 {w : World} {g : Nat} {k i c n : Int} {f : Bool} {am : Value} (h : Box6 w g k i c n f am) (x : Int) : Box6 (w.setCell ⟨g, 2, none⟩ (.int .i64 x)) g k i x n f am := by
  obtain ⟨c0, c1, c2, c3, c4, c5⟩ := h
  exact ⟨by go_simp, by go_simp, by go_simp, by go_simp, by go_simp, by go_simp⟩
theorem Box6.set3 {w : World} {g : Nat} {k i c n : Int} {f : Bool} {am : Value} (h : Box6 w g k i c n f am) (x : Int) : Box6 (w.setCell ⟨g, 3, none⟩ (.int .i64 x)) g k i c x f am := by
  obtain ⟨c0, c1, c2, c3, c4, c5⟩ := h
  exact ⟨by go_simp, by go_simp, by go_simp, by go_simp, by go_simp, by go_simp⟩
theorem Box6.set4 {w : World} {g : Nat} {k i c n : Int} {f : Bool} {am : Value} (h : Box6 w g k i c n f am) (x : Bool) : Box6 (w.setCell ⟨g, 4, none⟩ (.bool x)) g k i c n x am := by
  obtain ⟨c0, c1, c2, c3, c4, c5⟩ := h
  exact ⟨by go_simp, by go_simp, by go_simp, by go_simp, by go_simp, by go_simp⟩
theorem Box6.set5 {w : World} {g : Nat} {k i c n : Int} {f : Bool} {am : Value} (h : Box6 w g k i c n f am) (a : Option Addr) (l cp : Nat) : Box6 (w.setCell ⟨g, 5, none⟩ (.slice a l cp)) g k i c n f (.slice a l cp) := by
  obtain ⟨c0, c1, c2, c3, c4, c5⟩ := h
  exact ⟨by go_simp, by go_simp, by go_simp, by go_simp, by go_simp, by go_simp⟩
end Go.Proofs.YtdclokpoeaehlaaGreatDoor
/- script.Parse: up to its loop. -/
namespace Go.Proofs.YtdclokpoeaehlaaGreatDoor
set_option linter.all false
open Go.RowKit

theorem split_cap (s : ByteArray) (sep : List UInt8) (w : World) (hs : s.size < 4294967281) (hsep : 1 ≤ sep.length) (ht : Tabs w) :
    Calls Tryz.prog 49 #[.string s, .string (str sep)] w fun e w' => ∃ b, e = .returned (.slice (some ⟨b, 0, none⟩) (Lib.split s.data.toList sep).length (Lib.split s.data.toList sep).length) ∧ w.heap.size ≤ b ∧ b < w'.heap.size ∧ (∀ j, j < (Lib.split s.data.toList sep).length → w'.cell? ⟨b, j, none⟩ = some (.string (str (strAt (Lib.split s.data.toList sep) j)))) ∧ Below w.heap.size w w' := by
  obtain ⟨m, hm⟩ := ht.len
  refine (Tryz.strings_Split s (str sep) m w hs hm (by rw [str_size]; exact hsep)).mono ?_
  rintro e w' ⟨rfl, rfl⟩
  have h1 : 1 ≤ (str sep).size := by rw [str_size]; exact hsep
  have hn := count_split s (str sep) h1
  have hx := splitB_split (str sep) h1 s.size s (Nat.le_refl _)
  rw [str_toList] at hn hx
  refine ⟨w.heap.size, by rw [hn], Nat.le_refl _, by simp, fun j hj => ?_, (Below.refl _ _).alloc (Nat.le_refl _) _⟩
  rw [hx]
  have h2 : ((((Lib.split s.data.toList sep).map str).map Value.string).toArray)[j]? = some (.string (str (strAt (Lib.split s.data.toList sep) j))) := by
    simp only [List.map_map, List.getElem?_toArray, List.getElem?_map]
    rw [strAt_get hj]
    rfl
  rw [cell_new, h2]
end Go.Proofs.YtdclokpoeaehlaaGreatDoor
/- Slices of operations: as they are read, and in a row of the call's own. -/
namespace Go.Proofs.YtdclokpoeaehlaaGreatDoor
set_option linter.all false
open Go.RowKit

/-- An operation as it lies in memory. -/
structure OpR where
  kind : Int
  id : Int
  cls : Int
  n : Int
  flag : Bool
  a : Option Addr
  l : Nat
  cp : Nat
/-- Operations. -/
def kOp : Kin OpR where
  t := 49
  e := 58
  size := 6
  bytes := 64
  zero := .agg #[.int .i64 0, .int .i64 0, .int .i64 0, .int .i64 0, .bool false, .slice none 0 0]
  enc := fun o => [.int .i64 o.kind, .int .i64 o.id, .int .i64 o.cls, .int .i64 o.n, .bool o.flag, .slice o.a o.l o.cp]
  ht := Tryz.underlying49
  hi := by kernel_rfl
  hz := rfl
  pos := by decide
  len := fun _ => rfl
  one := fun _ u h => by
    simp only [List.mem_cons, List.not_mem_nil, or_false] at h
    rcases h with rfl | rfl | rfl | rfl | rfl | rfl <;> rfl
/-- Amounts. -/
def kI64 : Kin Int where
  t := 56
  e := 2
  size := 1
  bytes := 8
  zero := .int .i64 0
  enc := fun x => [.int .i64 x]
  ht := Tryz.underlying56
  hi := by kernel_rfl
  hz := rfl
  pos := by decide
  len := fun _ => rfl
  one := fun _ u h => by rw [List.mem_singleton.1 h]; rfl
/-- The slice's elements, in a block from B on. -/
def IntsNew (B : Nat) (w : World) (v : Value) (zs : List Int) : Prop :=
  ∃ a cap, v = .slice a zs.length cap ∧ (zs = [] ∨ ∃ b off, a = some ⟨b, off, none⟩ ∧ B ≤ b ∧ b < w.heap.size ∧ ∀ j, j < zs.length → w.cell? ⟨b, off + j, none⟩ = some (.int .i64 (zs.getD j 0)))
theorem IntsNew.at_ {B : Nat} {w : World} {v : Value} {zs : List Int} (h : IntsNew B w v zs) : IntsAt w v zs := by
  obtain ⟨a, cap, rfl, h | ⟨b, off, h1, _, h2, h3⟩⟩ := h
  · exact ⟨a, cap, rfl, .inl h⟩
  · exact ⟨a, cap, rfl, .inr ⟨b, off, h1, h2, h3⟩⟩
theorem IntsNew.below {B : Nat} {w w' : World} {v : Value} {zs : List Int} (h : IntsNew B w v zs) (hb : Below w.heap.size w w') : IntsNew B w' v zs := by
  obtain ⟨a, cap, rfl, h | ⟨b, off, rfl, h0, hlt, hc⟩⟩ := h
  · exact ⟨a, cap, rfl, .inl h⟩
  · exact ⟨_, cap, rfl, .inr ⟨b, off, rfl, h0, Nat.lt_of_lt_of_le hlt hb.size, fun j hj => (hb.cell (p := ⟨b, off + j, none⟩) hlt).trans (hc j hj)⟩⟩
theorem IntsNew.nil {B : Nat} {w : World} (a : Option Addr) (cp : Nat) : IntsNew B w (.slice a 0 cp) [] := ⟨a, cp, rfl, .inl rfl⟩
theorem new_of_row {w : World} {base : Nat} {E : TypeId} {v : Value} {zs : List Int} (h : w.ownsRow base E 1 v zs.length (zs.map (Value.int .i64))) : IntsNew base w v zs := by
  rcases h.2 with ⟨rfl, h0⟩ | ⟨g, cap, cur, rfl, hb, hg, hn, hc, hs, ht⟩
  · exact ⟨_, _, by rw [h0], .inl (List.eq_nil_of_length_eq_zero h0)⟩
  · refine ⟨_, cap, rfl, .inr ⟨g, 0, rfl, hb, (Array.getElem?_eq_some_iff.1 hg).1, fun j hj => ?_⟩⟩
    have h1 := h.cells (g := g) rfl j (.int .i64 (zs.getD j 0)) (by rw [List.getElem?_map, List.getElem?_eq_getElem hj, List.getD_eq_getElem?_getD, List.getElem?_eq_getElem hj]; rfl)
    rw [add_mk] at h1
    exact h1
theorem kI64_row (zs : List Int) : kI64.row zs = zs.map (Value.int .i64) := by
  induction zs with
  | nil => rfl
  | cons x r ih => simp only [Kin.row, ih, List.map_cons]; rfl
theorem IntsNew.own {base : Nat} {w : World} {v : Value} {zs : List Int} (h : kI64.Own base w v zs) : IntsNew base w v zs := by
  refine new_of_row (E := 2) ?_
  rw [← kI64_row]; exact h
/-- What lies in memory is this operation; its amounts do not lie in block ob. -/
structure OpIs (w : World) (ob : Option Nat) (x : OpR) (o : OpS) : Prop where
  kind : x.kind = o.kind
  id : x.id = o.id
  cls : x.cls = o.cls
  n : x.n = o.n
  flag : x.flag = o.flag
  l : x.l = o.am.length
  am : o.am = [] ∨ ∃ b off, x.a = some ⟨b, off, none⟩ ∧ b < w.heap.size ∧ ob ≠ some b ∧ ∀ j, j < o.am.length → w.cell? ⟨b, off + j, none⟩ = some (.int .i64 (o.am.getD j 0))
theorem OpIs.ints {w : World} {ob : Option Nat} {x : OpR} {o : OpS} (h : OpIs w ob x o) : IntsAt w (.slice x.a o.am.length x.cp) o.am :=
  ⟨x.a, x.cp, rfl, by
    rcases h.am with h | ⟨b, off, h1, h2, _, h3⟩
    · exact .inl h
    · exact .inr ⟨b, off, h1, h2, h3⟩⟩
theorem OpIs.bare {w : World} {ob : Option Nat} {x : OpR} {o : OpS} (h : OpIs w ob x o) : OpIs w none x o :=
  ⟨h.kind, h.id, h.cls, h.n, h.flag, h.l, by
    rcases h.am with h | ⟨b, off, h1, h2, _, h3⟩
    · exact .inl h
    · exact .inr ⟨b, off, h1, h2, by simp, h3⟩⟩
theorem OpIs.below {w w' : World} {ob : Option Nat} {x : OpR} {o : OpS} (h : OpIs w ob x o) (hb : Below w.heap.size w w') : OpIs w' ob x o :=
  ⟨h.kind, h.id, h.cls, h.n, h.flag, h.l, by
    rcases h.am with h | ⟨b, off, h1, h2, h4, h3⟩
    · exact .inl h
    · exact .inr ⟨b, off, h1, Nat.lt_of_lt_of_le h2 hb.size, h4, fun j hj => keepc hb h2 (h3 j hj)⟩⟩
theorem OpIs.grown {w w' : World} {ob ob' : Option Nat} {x : OpR} {o : OpS} (h : OpIs w ob x o) (hg : w.grownBy w' ob) (hw : ob' = ob ∨ ob' = some w.heap.size) : OpIs w' ob' x o :=
  ⟨h.kind, h.id, h.cls, h.n, h.flag, h.l, by
    rcases h.am with h | ⟨b, off, h1, h2, h4, h3⟩
    · exact .inl h
    · refine .inr ⟨b, off, h1, Nat.lt_of_lt_of_le h2 hg.size, ?_, fun j hj => ?_⟩
      · rcases hw with e | e
        · rw [e]; exact h4
        · rw [e]; intro e'; injection e' with e'; omega
      · exact (World.cell?_of_block (a := ⟨b, off + j, none⟩) (hg.block b h2 (fun e => h4 e.symm))).trans (h3 j hj)⟩
theorem OpIs.new {w : World} {ob : Option Nat} {o : OpS} {a : Option Addr} {cp B : Nat} (h : IntsNew B w (.slice a o.am.length cp) o.am) (hob : ∀ b, ob = some b → b < B) : OpIs w ob ⟨o.kind, o.id, o.cls, o.n, o.flag, a, o.am.length, cp⟩ o :=
  ⟨rfl, rfl, rfl, rfl, rfl, rfl, by
    obtain ⟨a', cp', e, h | ⟨b, off, h1, h2, h3, h4⟩⟩ := h
    · exact .inl h
    · cases e
      exact .inr ⟨b, off, h1, h3, fun e => by have := hob b e; omega, h4⟩⟩
theorem OpIs.of {w : World} {o : OpS} {a : Option Addr} {cp : Nat} (h : IntsAt w (.slice a o.am.length cp) o.am) : OpIs w none ⟨o.kind, o.id, o.cls, o.n, o.flag, a, o.am.length, cp⟩ o :=
  ⟨rfl, rfl, rfl, rfl, rfl, rfl, by
    obtain ⟨a', cp', e, h | ⟨b, off, h1, h3, h4⟩⟩ := h
    · exact .inl h
    · cases e
      exact .inr ⟨b, off, h1, h3, by simp, h4⟩⟩
/-- A slice of operations in a row of the call's own; the amounts lie elsewhere. -/
def OwnOps (base : Nat) (w : World) (v : Value) (os : List OpS) : Prop :=
  ∃ xs : List OpR, kOp.Own base w v xs ∧ xs.length = os.length ∧ ∀ (j : Nat) x o, xs[j]? = some x → os[j]? = some o → OpIs w v.ownBlock x o
/-- A slice of operations that is read. -/
def AtOps (w : World) (v : Value) (os : List OpS) : Prop :=
  ∃ xs : List OpR, kOp.At w v xs ∧ xs.length = os.length ∧ ∀ (j : Nat) x o, xs[j]? = some x → os[j]? = some o → OpIs w none x o
theorem OwnOps.at_ {base : Nat} {w : World} {v : Value} {os : List OpS} (h : OwnOps base w v os) : AtOps w v os := by
  obtain ⟨xs, h1, h2, h3⟩ := h
  exact ⟨xs, h1.at_, h2, fun j x o hx ho => (h3 j x o hx ho).bare⟩
theorem OwnOps.nil (base : Nat) (w : World) : OwnOps base w (.slice none 0 0) [] := ⟨[], Kin.Own.nil _ _ _, rfl, fun j x o hx => by simp at hx⟩
theorem OwnOps.shape {base : Nat} {w : World} {v : Value} {os : List OpS} (h : OwnOps base w v os) : ∃ a cap, v = .slice a os.length cap := by
  obtain ⟨xs, h1, h2, _⟩ := h
  rw [← h2]; exact h1.shape
theorem AtOps.shape {w : World} {v : Value} {os : List OpS} (h : AtOps w v os) : ∃ a cap, v = .slice a os.length cap := by
  obtain ⟨xs, ⟨a, cap, e, _⟩, h2, _⟩ := h
  rw [← h2]; exact ⟨a, cap, e⟩
theorem OwnOps.below {base : Nat} {w w' : World} {v : Value} {os : List OpS} (h : OwnOps base w v os) (hb : Below w.heap.size w w') : OwnOps base w' v os := by
  obtain ⟨xs, h1, h2, h3⟩ := h
  exact ⟨xs, h1.below hb, h2, fun j x o hx ho => (h3 j x o hx ho).below hb⟩
theorem AtOps.below {w w' : World} {v : Value} {os : List OpS} (h : AtOps w v os) (hb : Below w.heap.size w w') : AtOps w' v os := by
  obtain ⟨xs, h1, h2, h3⟩ := h
  exact ⟨xs, h1.below hb, h2, fun j x o hx ho => (h3 j x o hx ho).below hb⟩
theorem OwnOps.low {base base' : Nat} {w : World} {v : Value} {os : List OpS} (h : OwnOps base w v os) (hb : base' ≤ base) : OwnOps base' w v os := by
  obtain ⟨xs, h1, h2, h3⟩ := h
  exact ⟨xs, h1.low hb, h2, h3⟩
theorem OwnOps.push {base : Nat} {w w' : World} {v v' : Value} {xs : List OpR} {y : OpR} {os : List OpS} {o : OpS} (hl : xs.length = os.length) (hi : ∀ (j : Nat) x o, xs[j]? = some x → os[j]? = some o → OpIs w v.ownBlock x o)
    (ho : kOp.Own base w' v' (xs ++ [y])) (hg : w.grownBy w' v.ownBlock) (hw : v'.ownBlock = v.ownBlock ∨ v'.ownBlock = some w.heap.size) (hy : OpIs w v.ownBlock y o) : OwnOps base w' v' (os ++ [o]) := by
  refine ⟨xs ++ [y], ho, by simp [hl], fun j x o' hx ho' => ?_⟩
  rcases Nat.lt_or_ge j xs.length with h | h
  · rw [List.getElem?_append_left h] at hx
    rw [List.getElem?_append_left (by omega)] at ho'
    exact (hi j x o' hx ho').grown hg hw
  · rw [List.getElem?_append_right h] at hx
    rw [List.getElem?_append_right (by omega), ← hl] at ho'
    match hj : j - xs.length, hx, ho' with
    | 0, hx, ho' => cases hx; cases ho'; exact hy.grown hg hw
/-- One operation in a block of its own. -/
theorem kOp_one {w : World} {g : Nat} {y : OpR} (h0 : w.cell? ⟨g, 0, none⟩ = some (.int .i64 y.kind)) (h1 : w.cell? ⟨g, 1, none⟩ = some (.int .i64 y.id)) (h2 : w.cell? ⟨g, 2, none⟩ = some (.int .i64 y.cls)) (h3 : w.cell? ⟨g, 3, none⟩ = some (.int .i64 y.n)) (h4 : w.cell? ⟨g, 4, none⟩ = some (.bool y.flag)) (h5 : w.cell? ⟨g, 5, none⟩ = some (.slice y.a y.l y.cp)) :
    kOp.At w (.slice (some ⟨g, 0, none⟩) 1 1) [y] := by
  refine ⟨_, 1, rfl, .inr ⟨g, 0, rfl, cell_lt h0, fun j x hx i u hu => ?_⟩⟩
  match j, hx with
  | 0, hx =>
    cases hx
    rw [show 0 + 0 * kOp.size + i = i by omega]
    match i, hu with
    | 0, hu => cases hu; exact h0
    | 1, hu => cases hu; exact h1
    | 2, hu => cases hu; exact h2
    | 3, hu => cases hu; exact h3
    | 4, hu => cases hu; exact h4
    | 5, hu => cases hu; exact h5
def opAt (os : List OpS) (j : Nat) : OpS := os.getD j ⟨0, 0, 0, 0, false, []⟩
theorem opAt_get {os : List OpS} {j : Nat} (h : j < os.length) : os[j]? = some (opAt os j) := by unfold opAt; rw [List.getD_eq_getElem?_getD, List.getElem?_eq_getElem h]; rfl
/-- The six cells of an operation. -/
structure OpCells (w : World) (b q : Nat) (o : OpS) (am : Value) : Prop where
  c0 : w.cell? ⟨b, q, none⟩ = some (.int .i64 o.kind)
  c1 : w.cell? ⟨b, q + 1, none⟩ = some (.int .i64 o.id)
  c2 : w.cell? ⟨b, q + 2, none⟩ = some (.int .i64 o.cls)
  c3 : w.cell? ⟨b, q + 3, none⟩ = some (.int .i64 o.n)
  c4 : w.cell? ⟨b, q + 4, none⟩ = some (.bool o.flag)
  c5 : w.cell? ⟨b, q + 5, none⟩ = some am
/-- Where the elements of a slice of operations lie. -/
theorem AtOps.get {w : World} {v : Value} {os : List OpS} (h : AtOps w v os) : ∃ a cap, v = .slice a os.length cap ∧ ∀ j, j < os.length → ∃ b off aa cc, a = some ⟨b, off, none⟩ ∧ b < w.heap.size ∧ OpCells w b (off + j * 6) (opAt os j) (.slice aa (opAt os j).am.length cc) ∧ IntsAt w (.slice aa (opAt os j).am.length cc) (opAt os j).am := by
  obtain ⟨xs, ⟨a, cap, e, h1⟩, h2, h3⟩ := h
  refine ⟨a, cap, by rw [← h2]; exact e, fun j hj => ?_⟩
  rcases h1 with h1 | ⟨b, off, e1, hlt, hc⟩
  · subst h1; simp at h2; omega
  · have hj' : j < xs.length := by omega
    have hx : xs[j]? = some xs[j] := List.getElem?_eq_getElem hj'
    have hi := h3 j _ _ hx (opAt_get hj)
    have hcc := hc j _ hx
    refine ⟨b, off, xs[j].a, xs[j].cp, e1, hlt, ?_, hi.ints⟩
    have q0 := hcc 0 _ rfl
    have q1 := hcc 1 _ rfl
    have q2 := hcc 2 _ rfl
    have q3 := hcc 3 _ rfl
    have q4 := hcc 4 _ rfl
    have q5 := hcc 5 _ rfl
    rw [hi.kind] at q0
    rw [hi.id] at q1
    rw [hi.cls] at q2
    rw [hi.n] at q3
    rw [hi.flag] at q4
    rw [hi.l] at q5
    exact ⟨q0, q1, q2, q3, q4, q5⟩
end Go.Proofs.YtdclokpoeaehlaaGreatDoor
/- The word of a flag: plain facts for script.Parse of a class. -/
namespace Go.Proofs.YtdclokpoeaehlaaGreatDoor
set_option linter.all false

theorem flags_no {y : List UInt8} (h : Lib.containsS ([⟨#[110, 111]⟩, ⟨#[121, 101, 115]⟩].take 2) (str y) = false) : ¬ (y = sYes ∨ y = sNo) := by
  rintro (rfl | rfl)
  · exact absurd h (by decide)
  · exact absurd h (by decide)
theorem flags_yes {y : List UInt8} (h : Lib.containsS ([⟨#[110, 111]⟩, ⟨#[121, 101, 115]⟩].take 2) (str y) = true) : y = sYes ∨ y = sNo := by
  rw [Lib.containsS_iff] at h
  simp only [List.take_succ_cons, List.take_zero, List.mem_cons, List.not_mem_nil, or_false] at h
  rcases h with h | h
  · exact .inr (str_inj (b := sNo) h)
  · exact .inl (str_inj (b := sYes) h)
theorem oargs1_f {y y2 y3 : List UInt8} {r : List (List UInt8)} {a b : Int} (h1 : num y = some a) (h2 : num y2 = some b) (h : ¬ (y3 = sYes ∨ y3 = sNo)) : oargs 1 (y :: y2 :: y3 :: r) = none := by
  unfold oargs
  rw [if_pos rfl]
  rcases r with _ | ⟨g, t⟩
  · simp only [h1, h2]; rw [if_neg h]
  · rfl
theorem oargs1_g {y y2 y3 : List UInt8} {a b : Int} (h1 : num y = some a) (h2 : num y2 = some b) (h : y3 = sYes ∨ y3 = sNo) : oargs 1 [y, y2, y3] = some ⟨1, a, 0, b, decide (y3 = sYes), []⟩ := by
  unfold oargs
  rw [if_pos rfl]
  simp only [h1, h2]
  rw [if_pos h]
theorem oargs1_l {y y2 y3 y4 : List UInt8} {r : List (List UInt8)} : oargs 1 (y :: y2 :: y3 :: y4 :: r) = none := rfl
end Go.Proofs.YtdclokpoeaehlaaGreatDoor
/- script.Parse: the loop over amounts. -/
namespace Go.Proofs.YtdclokpoeaehlaaGreatDoor
set_option linter.all false
open Go.RowKit

theorem PSt.low {a0 w w' : World} {B gz b gw go g1 : Nat} {k i c n : Int} {f : Bool} {am : Value} {L : List UInt8} {xs : List (List UInt8)} (h : PSt a0 gz b gw go g1 k i c n f am L xs w) (hB : g1 < B) (hb : Below B w w') : PSt a0 gz b gw go g1 k i c n f am L xs w' := by
  have z1 := h.z1; have z2 := h.z2; have z3 := h.z3; have z4 := h.z4; have lo := h.lo
  obtain ⟨off, cap, hw⟩ := h.ws
  have keep : ∀ {g k i c n f am}, g < B → OpB w g k i c n f am → OpB w' g k i c n f am := fun hg h => ⟨h.box.below hb hg, fun j hj => (hb.frozen (p := ⟨_, j, none⟩) hg).trans (h.free j hj)⟩
  exact ⟨keep (by omega) h.zero, keep (by omega) h.op, ⟨off, cap, ⟨keepc hb (by omega) hw.cell, (hb.frozen (p := ⟨gw, 0, none⟩) (by show gw < B; omega)).trans hw.free, hw.le, fun j x hx => keepc hb (by omega) (hw.at_ j x hx), hw.ne, Nat.lt_of_lt_of_le hw.lt hb.size⟩⟩,
    fun j u hu => keepc hb hB (h.bytes j u hu), Nat.lt_of_lt_of_le h.lt1 hb.size, z1, z2, z3, z4, lo, h.below.trans (hb.mono (by omega))⟩
theorem Kin.Own.mut {α : Type} {k : Kin α} {base g : Nat} {w w' : World} {v : Value} {xs : List α} (h : k.Own base w v xs) (hm : Mut g w w') (hg : g < base) : k.Own base w' v xs := by
  have h' : w.ownsRow base k.e k.size v xs.length (k.row xs) := h
  refine ⟨h'.1, ?_⟩
  rcases h'.2 with h2 | ⟨q, cap, cur, hv, hq, hh, r⟩
  · exact .inl h2
  · exact .inr ⟨q, cap, cur, hv, hq, by rw [hm.block q (Array.getElem?_eq_some_iff.1 hh).1 (by omega)]; exact hh, r⟩
theorem Kin.Own.ge {α : Type} {k : Kin α} {base : Nat} {w : World} {v : Value} {xs : List α} (h : k.Own base w v xs) : ∀ b, v.ownBlock = some b → base ≤ b :=
  fun b hb => (World.ownsRow.lt (show w.ownsRow base k.e k.size v xs.length (k.row xs) from h) b hb).1
/-- How many words are left. -/
def wordsLeft (w : World) (g : Nat) : Nat := match w.cell? ⟨g, 0, none⟩ with
  | some (.slice _ n _) => n
  | _ => 0
theorem wordsLeft_of {w : World} {gw b off cap : Nat} {xs : List (List UInt8)} (h : Ws w gw b off cap xs) : wordsLeft w gw = xs.length := by
  unfold wordsLeft
  rw [h.cell]
theorem PSt.left {a0 w : World} {gz b gw go g1 : Nat} {k i c n : Int} {f : Bool} {am : Value} {L : List UInt8} {xs : List (List UInt8)} (h : PSt a0 gz b gw go g1 k i c n f am L xs w) : wordsLeft w gw = xs.length := by
  obtain ⟨off, cap, hw⟩ := h.ws
  exact wordsLeft_of hw
/-- The numbers so far. -/
def NumsAt (r rest : List (List UInt8)) (ns : List Int) : Prop := onumbers r = (onumbers rest).map (ns ++ ·)
theorem NumsAt.start (r : List (List UInt8)) : NumsAt r r [] := by
  unfold NumsAt
  cases onumbers r <;> simp
theorem NumsAt.good {r rest : List (List UInt8)} {z : List UInt8} {ns : List Int} {v : Int} (h : NumsAt r (z :: rest) ns) (hz : num z = some v) : NumsAt r rest (ns ++ [v]) := by
  unfold NumsAt at h ⊢
  rw [h]
  simp only [onumbers, hz]
  cases onumbers rest <;> simp
theorem NumsAt.bad {r rest : List (List UInt8)} {z : List UInt8} {ns : List Int} (h : NumsAt r (z :: rest) ns) (hz : num z = none) : onumbers r = none := by
  unfold NumsAt at h
  rw [h]
  simp only [onumbers, hz]
  rfl
theorem NumsAt.done {r : List (List UInt8)} {ns : List Int} (h : NumsAt r [] ns) : onumbers r = some ns := by
  unfold NumsAt at h
  rw [h]
  simp [onumbers]
theorem oargs2_ok {y : List UInt8} {r : List (List UInt8)} {i : Int} {ns : List Int} (h0 : num y = some i) (h : onumbers r = some ns) : oargs 2 (y :: r) = some ⟨2, i, 0, 0, false, ns⟩ := by
  unfold oargs
  rw [if_neg (by decide)]
  simp only [onumbers, h0, h, Option.map_some]
  rfl
theorem oargs2_bad {y : List UInt8} {r : List (List UInt8)} (h : num y = none ∨ onumbers r = none) : oargs 2 (y :: r) = none := by
  unfold oargs
  rw [if_neg (by decide)]
  rcases h with h | h
  · simp only [onumbers, h]; rfl
  · simp only [onumbers, h]; cases num y <;> rfl
theorem oargs4_ok {y y2 y3 : List UInt8} {r : List (List UInt8)} {i c n : Int} {ns : List Int} (h0 : num y = some i) (h1 : num y2 = some c) (h2 : num y3 = some n) (h : onumbers r = some ns) : oargs 4 (y :: y2 :: y3 :: r) = some ⟨4, i, c, n, false, ns⟩ := by
  unfold oargs
  rw [if_neg (by decide)]
  simp only [onumbers, h0, h1, h2, h, Option.map_some]
  rfl
theorem oargs4_bad {y y2 y3 : List UInt8} {r : List (List UInt8)} (h : num y = none ∨ num y2 = none ∨ num y3 = none ∨ onumbers r = none) : oargs 4 (y :: y2 :: y3 :: r) = none := by
  unfold oargs
  rw [if_neg (by decide)]
  rcases h with h | h | h | h
  · simp only [onumbers, h]; rfl
  · simp only [onumbers, h]; cases num y <;> rfl
  · simp only [onumbers, h]; cases num y <;> cases num y2 <;> rfl
  · simp only [onumbers, h]; cases num y <;> cases num y2 <;> cases num y3 <;> rfl
theorem oargs4_a {y : List UInt8} {r : List (List UInt8)} (h : num y = none) : oargs 4 (y :: r) = none := by
  unfold oargs
  rw [if_neg (by decide)]
  simp only [onumbers, h]; rfl
theorem oargs4_b {y y2 : List UInt8} {r : List (List UInt8)} (h : num y2 = none) : oargs 4 (y :: y2 :: r) = none := by
  unfold oargs
  rw [if_neg (by decide)]
  simp only [onumbers, h]; cases num y <;> rfl
theorem oargs4_0 : oargs 4 [] = none := rfl
theorem oargs4_1 {y : List UInt8} : oargs 4 [y] = none := by
  unfold oargs
  rw [if_neg (by decide)]
  simp only [onumbers]; cases num y <;> rfl
theorem oargs4_2 {y y2 : List UInt8} : oargs 4 [y, y2] = none := by
  unfold oargs
  rw [if_neg (by decide)]
  simp only [onumbers]; cases num y <;> cases num y2 <;> rfl
theorem IntsNew.low {B B' : Nat} {w : World} {v : Value} {zs : List Int} (h : IntsNew B w v zs) (hb : B' ≤ B) : IntsNew B' w v zs := by
  obtain ⟨a, cap, rfl, h | ⟨b, off, h1, h2, h3⟩⟩ := h
  · exact ⟨a, cap, rfl, .inl h⟩
  · exact ⟨a, cap, rfl, .inr ⟨b, off, h1, by omega, h3⟩⟩
theorem IntsNew.set {B g o : Nat} {w : World} {v u : Value} {zs : List Int} (h : IntsNew B w v zs) (hg : g < B) : IntsNew B (w.setCell ⟨g, o, none⟩ u) v zs := by
  obtain ⟨a, cap, rfl, h | ⟨b, off, h1, h0, h2, h3⟩⟩ := h
  · exact ⟨a, cap, rfl, .inl h⟩
  · exact ⟨a, cap, rfl, .inr ⟨b, off, h1, h0, by simpa using h2, fun j hj => by rw [setCell_ne (.inl (by omega))]; exact h3 j hj⟩⟩
end Go.Proofs.YtdclokpoeaehlaaGreatDoor
/- script.Parse: a word taken without its number. -/
namespace Go.Proofs.YtdclokpoeaehlaaGreatDoor
set_option linter.all false
open Go.RowKit

theorem Ws.mut {w w' : World} {g gw b off cap : Nat} {xs : List (List UInt8)} (h : Ws w gw b off cap xs) (hm : Mut g w w') (h1 : gw ≠ g) (h2 : b ≠ g) : Ws w' gw b off cap xs :=
  ⟨hm.cell h1 h.cell, (hm.frozen h1 (cell_lt h.cell)).trans h.free, h.le, fun j x hx => hm.cell h2 (h.at_ j x hx), h.ne, Nat.lt_of_lt_of_le h.lt hm.size⟩
/-- A word was taken without its number. -/
theorem PSt.take {a0 w : World} {gz b gw go g1 off cap : Nat} {k i c n : Int} {f : Bool} {am : Value} {L y : List UInt8} {r : List (List UInt8)} (h : PSt a0 gz b gw go g1 k i c n f am L (y :: r) w) (hw : Ws w gw b off cap (y :: r)) :
    PSt a0 gz b gw go g1 k i c n f am L r (w.setCell ⟨gw, 0, none⟩ (.slice (if cap = 1 then some ⟨b, off, none⟩ else some ⟨b, off + 1, none⟩) r.length (cap - 1))) := by
  have hle : r.length + 1 ≤ cap := hw.le
  have hne := hw.ne
  have c0 := hw.cell
  refine h.next ((Mut.refl gw w).set _) ⟨if cap = 1 then off else off + 1, cap - 1, ?_, ?_, by omega, ?_, hne, by simpa using hw.lt⟩
  · rw [show (some ⟨b, if cap = 1 then off else off + 1, none⟩ : Option Addr) = if cap = 1 then some ⟨b, off, none⟩ else some ⟨b, off + 1, none⟩ by split <;> rfl]
    go_simp
  · rw [World.frozen?_setCell]; exact hw.free
  · intro j x hx
    rw [setCell_ne (.inl (Ne.symm hne))]
    have hj : j < r.length := (List.getElem?_eq_some_iff.1 hx).1
    rw [if_neg (by omega), show off + 1 + j = off + (j + 1) by omega]
    exact hw.at_ (j + 1) x hx
end Go.Proofs.YtdclokpoeaehlaaGreatDoor
