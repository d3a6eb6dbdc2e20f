/- ScrAny, ScrSp2, ScrJ, ScrBld, ScrK, ScrAwk: together in one text. -/
import Derived.Test.YtdclokpoeaehlaaGreatDoorSScrI
import Derived.Test.YtdclokpoeaehlaaGreatDoorGr
import Derived.Test.YtdclokpoeaehlaaGreatDoorSScrI2
import Derived.Test.YtdclokpoeaehlaaGreatDoorSScrI4
import Derived.Test.YtdclokpoeaehlaaGreatDoorGa
import Derived.Test.YtdclokpoeaehlaaGreatDoorGq
import Derived.Test.YtdclokpoeaehlaaGreatDoorGh
import Derived.Test.YtdclokpoeaehlaaGreatDoorGb
import Derived.Test.YtdclokpoeaehlaaGreatDoorGo
import Derived.Test.YtdclokpoeaehlaaGreatDoorGn
/- script.Parse of any line. -/
namespace Go.Proofs.YtdclokpoeaehlaaGreatDoor
set_option linter.all false
open Go.RowKit

theorem sparse_any (s : ByteArray) (w : World) (hs : s.size ≤ 100000) (hW : ScrW w) :
    Calls Tryz.prog 39 #[.string s] w (ParseRet s.data.toList w) := by
  obtain ⟨x0, r, hsp⟩ : ∃ x0 r, Lib.split s.data.toList [32] = x0 :: r := by
    cases h : Lib.split s.data.toList [32] with
    | nil => exact absurd h (split_ne _ _)
    | cons a b => exact ⟨a, b, rfl⟩
  have hle := opKind_le x0
  have : opKind x0 = 0 ∨ opKind x0 = 1 ∨ opKind x0 = 2 ∨ opKind x0 = 3 ∨ opKind x0 = 4 ∨ opKind x0 = 5 ∨ opKind x0 = 6 ∨ opKind x0 = 7 := by omega
  rcases this with h | h | h | h | h | h | h | h
  · exact sparse_0 s x0 r w hs hsp h hW
  · exact sparse_1 s x0 r w hs hsp h hW
  · exact sparse_2 s x0 r w hs hsp h hW
  · exact sparse_3 s x0 r w hs hsp h hW
  · exact sparse_4 s x0 r w hs hsp h hW
  · exact sparse_5 s x0 r w hs hsp h hW
  · exact sparse_6 s x0 r w hs hsp h hW
  · exact sparse_7 s x0 r w hs hsp h hW
end Go.Proofs.YtdclokpoeaehlaaGreatDoor
/- Reading and writing scripts, step by step. Plain: no program. -/
namespace Go.Proofs.YtdclokpoeaehlaaGreatDoor
set_option linter.all false

theorem oreads_step {xs : List (List UInt8)} {k : Nat} (h : k < xs.length) : oreads k (xs.drop k) = if oskip (strAt xs k) then oreads (k + 1) (xs.drop (k + 1)) else match oparse (strAt xs k) with
    | none => .inl k
    | some o => match oreads (k + 1) (xs.drop (k + 1)) with | .inl j => .inl j | .inr os => .inr (o :: os) := by
  have e : strAt xs k = xs[k] := by unfold strAt; rw [List.getD_eq_getElem?_getD, List.getElem?_eq_getElem h]; rfl
  rw [List.drop_eq_getElem_cons h, e]
  rfl
/-- What has been read so far. -/
def RdAt (xs : List (List UInt8)) (k : Nat) (os : List OpS) : Prop := oreads 0 xs = match oreads k (xs.drop k) with | .inl j => .inl j | .inr r => .inr (os ++ r)
theorem RdAt.start (xs : List (List UInt8)) : RdAt xs 0 [] := by
  unfold RdAt
  rw [List.drop_zero]
  cases oreads 0 xs <;> rfl
theorem RdAt.skip {xs : List (List UInt8)} {k : Nat} {os : List OpS} (h : RdAt xs k os) (hk : k < xs.length) (hp : oskip (strAt xs k) = true) : RdAt xs (k + 1) os := by
  unfold RdAt at h ⊢
  rw [h, oreads_step hk, if_pos hp]
theorem RdAt.bad {xs : List (List UInt8)} {k : Nat} {os : List OpS} (h : RdAt xs k os) (hk : k < xs.length) (hs : oskip (strAt xs k) = false) (hp : oparse (strAt xs k) = none) : oreads 0 xs = .inl k := by
  unfold RdAt at h
  rw [h, oreads_step hk, if_neg (by rw [hs]; decide), hp]
theorem RdAt.good {xs : List (List UInt8)} {k : Nat} {os : List OpS} {o : OpS} (h : RdAt xs k os) (hk : k < xs.length) (hs : oskip (strAt xs k) = false) (hp : oparse (strAt xs k) = some o) : RdAt xs (k + 1) (os ++ [o]) := by
  unfold RdAt at h ⊢
  rw [h, oreads_step hk, if_neg (by rw [hs]; decide), hp]
  simp only
  cases oreads (k + 1) (xs.drop (k + 1)) with
  | inl j => rfl
  | inr r => simp
theorem RdAt.done {xs : List (List UInt8)} {k : Nat} {os : List OpS} (h : RdAt xs k os) (hk : xs.length ≤ k) : oreads 0 xs = .inr os := by
  unfold RdAt at h
  rw [h, List.drop_eq_nil_of_le hk]
  simp [oreads]
theorem oskip_nil : oskip [] = true := rfl
theorem oskip_cons (c : UInt8) (t : List UInt8) : oskip (c :: t) = decide (c.toNat = 35) := by
  unfold oskip
  rw [decide_eq_decide]
  constructor
  · rintro (h | h)
    · cases h
    · simp only [List.head?_cons, Option.some.injEq] at h
      rw [h]; rfl
  · intro h
    right
    simp only [List.head?_cons, Option.some.injEq]
    exact UInt8.toNat_inj.1 (by rw [h]; rfl)
/-- The reference's reading, character by character. -/
def LinesAt (s : ByteArray) (k f ln : Nat) (os : List OpS) : Prop :=
  (k ≤ s.size ∧ f ≤ k ∧ (∀ j, f ≤ j → j < k → s.data.toList[j]? ≠ some 10) ∧ oread s.data.toList = match oreads ln (Lib.split (s.data.toList.drop f) [10]) with | .inl j => .inl j | .inr r => .inr (os ++ r)) ∨ (s.size < k ∧ oread s.data.toList = .inr os)
theorem LinesAt.start (s : ByteArray) : LinesAt s 0 0 0 [] := by
  refine .inl ⟨Nat.zero_le _, Nat.le_refl _, fun j _ h => by omega, ?_⟩
  unfold oread
  rw [List.drop_zero]
  cases oreads 0 (Lib.split s.data.toList [10]) <;> rfl
theorem LinesAt.miss {s : ByteArray} {k f ln : Nat} {os : List OpS} (h : LinesAt s k f ln os) (hk : k < s.size) (hb : s[k].toNat ≠ 10) : LinesAt s (k + 1) f ln os := by
  rcases h with ⟨h1, h2, h3, h4⟩ | ⟨h, _⟩
  · refine .inl ⟨by omega, by omega, fun j hj hjk e => ?_, h4⟩
    rcases Nat.lt_or_ge j k with h | h
    · exact h3 j hj h e
    · have : j = k := by omega
      subst this
      exact hb ((byte_eq hk (c := 10)).1 e)
  · omega
theorem LinesAt.line {s : ByteArray} {k f ln : Nat} {os : List OpS} (h : LinesAt s k f ln os) (hk : k ≤ s.size) (hb : ∀ hk : k < s.size, s[k].toNat = 10) : f ≤ k ∧
    (oskip (s.extract f k).data.toList = true → LinesAt s (k + 1) (k + 1) (ln + 1) os) ∧
    (oskip (s.extract f k).data.toList = false → oparse (s.extract f k).data.toList = none → oread s.data.toList = .inl ln) ∧
    (∀ o, oskip (s.extract f k).data.toList = false → oparse (s.extract f k).data.toList = some o → LinesAt s (k + 1) (k + 1) (ln + 1) (os ++ [o])) := by
  rcases h with ⟨h1, h2, h3, h4⟩ | ⟨h, _⟩
  · refine ⟨h2, ?_⟩
    have hx := extract_list s f k hk
    rcases Nat.lt_or_ge k s.size with hlt | hge
    · rw [split1_hit h2 ((byte_eq hlt (c := 10)).2 (hb hlt)) h3, ← hx] at h4
      rw [oreads] at h4
      refine ⟨fun hs => ?_, fun hs hp => ?_, fun o hs hp => ?_⟩
      · rw [if_pos hs] at h4
        exact .inl ⟨by omega, Nat.le_refl _, fun j _ _ => by omega, h4⟩
      · rw [if_neg (by rw [hs]; decide), hp] at h4
        exact h4
      · rw [if_neg (by rw [hs]; decide), hp] at h4
        refine .inl ⟨by omega, Nat.le_refl _, fun j _ _ => by omega, ?_⟩
        rw [h4]
        simp only
        cases oreads (ln + 1) (Lib.split (s.data.toList.drop (k + 1)) [10]) with
        | inl j => rfl
        | inr r => simp
    · have hke : k = s.size := by omega
      subst hke
      rw [split1_end (fun j hj e => by
        rcases Nat.lt_or_ge j s.size with h | h
        · exact h3 j hj h e
        · rw [byte_none s j h] at e; cases e)] at h4
      rw [List.take_of_length_le (by rw [List.length_drop, size_toList]; omega)] at hx
      rw [← hx, oreads] at h4
      refine ⟨fun hs => ?_, fun hs hp => ?_, fun o hs hp => ?_⟩
      · rw [if_pos hs] at h4
        exact .inr ⟨by omega, by rw [h4]; simp [oreads]⟩
      · rw [if_neg (by rw [hs]; decide), hp] at h4
        exact h4
      · rw [if_neg (by rw [hs]; decide), hp] at h4
        exact .inr ⟨by omega, by rw [h4]; simp [oreads]⟩
  · omega
theorem LinesAt.done {s : ByteArray} {k f ln : Nat} {os : List OpS} (h : LinesAt s k f ln os) (hk : s.size < k) : oread s.data.toList = .inr os := by
  rcases h with ⟨h1, _⟩ | ⟨_, h⟩
  · omega
  · exact h
/-- Every operation has a line. -/
def WriteOk (os : List OpS) : Prop := ∀ j, j < os.length → olined (opAt os j) = true
/-- The first operation without a line. -/
def BadAt (os : List OpS) (k : Nat) : Prop := k < os.length ∧ olined (opAt os k) = false ∧ ∀ j, j < k → olined (opAt os j) = true
theorem write_cases (os : List OpS) : WriteOk os ∨ ∃ k, BadAt os k := by
  have h : ∀ n, n ≤ os.length → (∀ j, j < n → olined (opAt os j) = true) ∨ ∃ k, BadAt os k := by
    intro n
    induction n with
    | zero => exact fun _ => .inl fun j hj => absurd hj (Nat.not_lt_zero _)
    | succ n ih =>
      intro hn
      rcases ih (by omega) with h | h
      · cases hq : olined (opAt os n) with
        | true =>
          refine .inl fun j hj => ?_
          rcases Nat.lt_or_ge j n with h1 | h1
          · exact h j h1
          · rw [show j = n by omega]; exact hq
        | false => exact .inr ⟨n, by omega, hq, h⟩
      · exact .inr h
  exact h _ (Nat.le_refl _)
theorem opAt_mem {os : List OpS} {o : OpS} (h : o ∈ os) : ∃ j, j < os.length ∧ opAt os j = o := by
  obtain ⟨j, hj, e⟩ := List.getElem_of_mem h
  exact ⟨j, hj, by unfold opAt; rw [List.getD_eq_getElem?_getD, List.getElem?_eq_getElem hj]; exact e⟩
theorem WriteOk.mem {os : List OpS} (h : WriteOk os) : ∀ o ∈ os, olined o = true := fun o ho => by
  obtain ⟨j, hj, e⟩ := opAt_mem ho
  rw [← e]; exact h j hj
theorem opAt_map {os : List OpS} {f : OpS → OpS} {j : Nat} (h : j < os.length) : opAt (os.map f) j = f (opAt os j) := by
  unfold opAt
  rw [List.getD_eq_getElem?_getD, List.getD_eq_getElem?_getD, List.getElem?_map, List.getElem?_eq_getElem h]
  rfl
/-- The text of the first lines. -/
def wtext (os : List OpS) (k : Nat) : List UInt8 := olines ((os.take k).map oline)
theorem wtext_zero (os : List OpS) : wtext os 0 = [] := by unfold wtext; simp [olines]
theorem wtext_step {os : List OpS} {k : Nat} (h : k < os.length) : wtext os (k + 1) = wtext os k ++ (oline (opAt os k) ++ [10]) := by
  unfold wtext
  have e : os.take (k + 1) = os.take k ++ [opAt os k] := by
    rw [List.take_succ, opAt_get h]; rfl
  rw [e, List.map_append, olines_append]
  simp [olines]
theorem wtext_all (os : List OpS) {k : Nat} (h : os.length ≤ k) : wtext os k = olines (os.map oline) := by
  unfold wtext; rw [List.take_of_length_le h]
/-- The reference's line, number by number. -/
def rfold (name : List UInt8) (l : List Int) : List UInt8 := name ++ (l.flatMap fun x => 32 :: Lib.itoa x)
theorem rfold_nil (name : List UInt8) : rfold name [] = name := by unfold rfold; simp
theorem rfold_step (name : List UInt8) (l : List Int) (x : Int) : rfold name (l ++ [x]) = rfold name l ++ (32 :: Lib.itoa x) := by unfold rfold; simp
theorem join_flat (x : List UInt8) (ys : List (List UInt8)) : Lib.join (x :: ys) [32] = x ++ ys.flatMap (32 :: ·) := by
  induction ys generalizing x with
  | nil => rw [Lib.join_one]; simp
  | cons y r ih => rw [join_cons2, ih]; simp
theorem oline_rfold {o : OpS} (h : olined o = true) : oline o = rfold (oname o.kind) (onums o) ++ (otail o).flatMap (32 :: ·) := by
  unfold oline rfold owords
  rw [if_pos h, join_flat, List.flatMap_append, List.flatMap_map]
  simp
end Go.Proofs.YtdclokpoeaehlaaGreatDoor
/- script.Read. -/
namespace Go.Proofs.YtdclokpoeaehlaaGreatDoor
set_option linter.all false
open Go.RowKit

/-- What script.Read returns. -/
def ReadRet (r : Sum Nat (List OpS)) (W : World) (e : Ending) (w' : World) : Prop :=
  Below W.heap.size W w' ∧ match r with
    | .inl j => e = .returned (.tuple #[.slice none 0 0, .iface 113 (.agg #[.int .i64 9, .int .i64 j])])
    | .inr os => ∃ v, e = .returned (.tuple #[v, .nilIface]) ∧ OwnOps W.heap.size w' v os
theorem readRet_bad {r : Sum Nat (List OpS)} {W w' : World} {e : Ending} {j : Nat} (h : r = .inl j) (hb : Below W.heap.size W w') (he : e = .returned (.tuple #[.slice none 0 0, .iface 113 (.agg #[.int .i64 9, .int .i64 j])])) : ReadRet r W e w' := by
  subst h; exact ⟨hb, he⟩
theorem readRet_ok {r : Sum Nat (List OpS)} {W w' : World} {e : Ending} {os : List OpS} {v : Value} (h : r = .inr os) (hb : Below W.heap.size W w') (he : e = .returned (.tuple #[v, .nilIface])) (ho : OwnOps W.heap.size w' v os) : ReadRet r W e w' := by
  subst h; exact ⟨hb, v, he, ho⟩
theorem ReadRet.bad {r : Sum Nat (List OpS)} {W w' : World} {e : Ending} {j : Nat} (h : ReadRet r W e w') (hr : r = .inl j) : Below W.heap.size W w' ∧ e = .returned (.tuple #[.slice none 0 0, .iface 113 (.agg #[.int .i64 9, .int .i64 j])]) := by
  subst hr; exact h
theorem ReadRet.ok {r : Sum Nat (List OpS)} {W w' : World} {e : Ending} {os : List OpS} (h : ReadRet r W e w') (hr : r = .inr os) : Below W.heap.size W w' ∧ ∃ v, e = .returned (.tuple #[v, .nilIface]) ∧ OwnOps W.heap.size w' v os := by
  subst hr; exact h
theorem ParseRet.bad {s : List UInt8} {W w' : World} {e : Ending} (h : ParseRet s W e w') (hp : oparse s = none) : Below W.heap.size W w' ∧ e = .returned (.tuple #[opV 0 0 0 0 false (.slice none 0 0), .bool false]) := by
  unfold ParseRet at h
  rw [hp] at h
  exact h
theorem ParseRet.ok {s : List UInt8} {W w' : World} {e : Ending} {o : OpS} (h : ParseRet s W e w') (hp : oparse s = some o) : Below W.heap.size W w' ∧ ∃ a cp, e = .returned (.tuple #[opV o.kind o.id o.cls o.n o.flag (.slice a o.am.length cp), .bool true]) ∧ IntsNew W.heap.size w' (.slice a o.am.length cp) o.am := by
  unfold ParseRet at h
  rw [hp] at h
  exact h
theorem OwnOps.open_ {base : Nat} {w : World} {v : Value} {os : List OpS} (h : OwnOps base w v os) : ∃ xs : List OpR, kOp.Own base w v xs ∧ xs.length = os.length ∧ ∀ (j : Nat) x o, xs[j]? = some x → os[j]? = some o → OpIs w v.ownBlock x o := h
theorem OwnOps.lt {base : Nat} {w : World} {v : Value} {os : List OpS} (h : OwnOps base w v os) : ∀ b, v.ownBlock = some b → b < w.heap.size := by
  obtain ⟨xs, h1, _, _⟩ := h
  exact fun b hb => (World.ownsRow.lt (show w.ownsRow base kOp.e kOp.size v xs.length (kOp.row xs) from h1) b hb).2
/-- What stands before a push: the row and one operation more. -/
theorem OwnOps.ready {base B : Nat} {w W : World} {v : Value} {os : List OpS} {o : OpS} {a : Option Addr} {cp : Nat} (h : OwnOps base w v os) (hb : Below w.heap.size w W) (hi : IntsNew B W (.slice a o.am.length cp) o.am) (hB : w.heap.size ≤ B) :
    ∃ xs : List OpR, kOp.Own base W v xs ∧ xs.length = os.length ∧ Hid (∀ w' v', kOp.Own base w' v' (xs ++ [⟨o.kind, o.id, o.cls, o.n, o.flag, a, o.am.length, cp⟩]) → W.grownBy w' v.ownBlock → (v'.ownBlock = v.ownBlock ∨ v'.ownBlock = some W.heap.size) → OwnOps base w' v' (os ++ [o])) := by
  have hlt := h.lt
  have h' := h.below hb
  obtain ⟨xs, h1, h2, h3⟩ := h'
  exact ⟨xs, h1, h2, fun w' v' ho hg hw => OwnOps.push h2 h3 ho hg hw (OpIs.new hi fun b e => Nat.lt_of_lt_of_le (hlt b e) hB)⟩
set_option maxHeartbeats 4000000 in
set_option maxRecDepth 100000 in
theorem sread_lines (s : ByteArray) (w : World) (hs : s.size ≤ 1000000) (hls : ∀ j, (strAt (Lib.split s.data.toList [10]) j).length ≤ 100000) (hW : ScrW w) :
    Calls Tryz.prog 33 #[.string s] w (ReadRet (oread s.data.toList) w) := by
  have I := Lib.hid (split_any s [10] w (by omega) (by simp) hW.log.tabs)
  have hxl := splits_len s [10] (by simp)
  have HLE := Lib.hid hls
  clear hls
  have HW := Lib.hid hW
  have HN := Lib.hid faultNew_any
  unfold oread
  generalize Lib.split s.data.toList [10] = xs at *
  clear hW
  go_enter Tryz.func33, Tryz.ntmps33
  go_wp2_with fail
  refine I.out.mono ?_
  rintro e w1 ⟨b, cap, rfl, hlt, hcells, hb1⟩
  have F1 : From w w1 := ⟨hb1⟩
  have HC : Hid (∀ j, j < xs.length → w1.cell? ⟨b, 0 + j, none⟩ = some (.string (str (strAt xs j)))) := fun j hj => by rw [Nat.zero_add]; exact hcells j hj
  clear hcells hb1
  go_wp2
  go_loopw [4, 12] (fun v i wr => ∃ (k : Nat) (os : List OpS), k ≤ xs.length ∧ i = .int .i64 k ∧ Hid (os.length ≤ k) ∧ Hid (RdAt xs k os) ∧ OwnOps w1.heap.size wr v os ∧ From w1 wr) (fun _ i _ => xs.length - (intOf i).toNat)
  case atStart => exact ⟨0, [], Nat.zero_le _, rfl, Nat.zero_le _, RdAt.start xs, OwnOps.nil _ _, From.refl _⟩
  case round =>
    obtain ⟨k, os, hk, rfl, HK, HA, hown, hfw⟩ := hrel
    obtain ⟨ao, co, rfl⟩ := hown.shape
    have HOWN := Lib.hid hown; clear hown
    have hsz := hfw.out.size
    have hsz1 := F1.out.size
    by_cases hlt2 : k < xs.length
    · have cx := hfw.cell (HC.out k hlt2)
      rw [Nat.zero_add] at cx
      obtain ⟨x, hx⟩ : ∃ x, x = strAt xs k := ⟨_, rfl⟩
      have hxl1 : x.length ≤ 100000 := by rw [hx]; exact HLE.out k
      have hki : (0 : Int) ≤ (k : Int) := by omega
      have hkl : (k : Int) < (xs.length : Int) := by omega
      have HP : Hid (∀ w', From w1 w' → Calls Tryz.prog 39 #[.string (str x)] w' (ParseRet x w')) := fun w' hf => sparse_any (str x) w' (by rw [str_size]; omega) (HW.out.from_ (F1.trans hf))
      rw [← hx] at cx
      have hskip : oskip x = true → Hid (RdAt xs (k + 1) os) := fun h => HA.out.skip hlt2 (by rw [← hx]; exact h)
      rcases x with - | ⟨c, t⟩
      · have HN1 := hskip rfl
        have hem : (str []).toList.isEmpty = true := str_isEmpty []
        generalize str [] = sx at *
        clear hskip hx hxl1
        go_wp2
        go_roundw
        case rel => exact ⟨k + 1, os, by omega, by go_num, by have := HK.out; show _ ≤ _; omega, HN1.out, HOWN.out, hfw⟩
        case measure => first | (simp [intOf]; omega) | omega
      · have hem : (str (c :: t)).toList.isEmpty = false := by rw [str_isEmpty]; rfl
        have h0 : 0 < (str (c :: t)).size := by rw [str_size]; simp
        have hcc : (str (c :: t))[0] = c := rfl
        by_cases h35 : c.toNat = 35
        · have HN1 := hskip (by rw [oskip_cons, h35]; rfl)
          have hb : (((str (c :: t))[0].toNat : Int) == 35) = true := by rw [beq_iff_eq, hcc]; omega
          generalize str (c :: t) = sx at *
          clear hskip hx hxl1 hcc h35
          go_wp2
          go_roundw
          case rel => exact ⟨k + 1, os, by omega, by go_num, by have := HK.out; show _ ≤ _; omega, HN1.out, HOWN.out, hfw⟩
          case measure => first | (simp [intOf]; omega) | omega
        · have hsk : oskip (c :: t) = false := by rw [oskip_cons]; exact decide_eq_false h35
          have hb : (((str (c :: t))[0].toNat : Int) == 35) = false := by rw [beq_eq_false_iff_ne, hcc]; omega
          have HX := Lib.hid hx
          generalize hy : c :: t = y at *
          generalize str y = sx at *
          clear hskip hx hxl1 hcc h35
          cases hp : oparse y with
          | none =>
            have HF : Hid (oreads 0 xs = .inl k) := HA.out.bad hlt2 (by rw [← HX.out]; exact hsk) (by rw [← HX.out]; exact hp)
            have HPP := Lib.hid hp
            clear hp hsk hy
            go_wp2_with fail
            refine (HP.out _ hfw).mono ?_
            rintro e w2 hret
            obtain ⟨hb2, rfl⟩ := hret.bad HPP.out
            have F2 := hfw.step hb2
            clear hb2 hret
            go_wp2_with fail
            refine (HN.out 9 _ _).mono ?_
            rintro e w3 ⟨rfl, rfl⟩
            go_wp2
            go_ret2
            exact readRet_bad HF.out (F1.trans (F2.alloc _)).out rfl
          | some o =>
            have HG : Hid (RdAt xs (k + 1) (os ++ [o])) := HA.out.good hlt2 (by rw [← HX.out]; exact hsk) (by rw [← HX.out]; exact hp)
            have HPP := Lib.hid hp
            clear hp hsk hy
            go_wp2_with fail
            refine (HP.out _ hfw).mono ?_
            rintro e w2 hret
            obtain ⟨hb2, a, cp, rfl, hin⟩ := hret.ok HPP.out
            have F2 := hfw.step hb2
            have hs2 := hb2.size
            obtain ⟨W, hWW⟩ : ∃ W, W = (w2.alloc (.cells #[.int .i64 o.kind, .int .i64 o.id, .int .i64 o.cls, .int .i64 o.n, .bool o.flag, .slice a o.am.length cp] 58)).alloc (.cells #[.int .i64 o.kind, .int .i64 o.id, .int .i64 o.cls, .int .i64 o.n, .bool o.flag, .slice a o.am.length cp] 58) := ⟨_, rfl⟩
            have hFW : From w2 W := by rw [hWW]; exact ((From.refl w2).alloc _).alloc _
            have hat : kOp.At W (.slice (some ⟨w2.heap.size + 1, 0, none⟩) 1 1) [⟨o.kind, o.id, o.cls, o.n, o.flag, a, o.am.length, cp⟩] := by rw [hWW]; exact kOp_one (by go_simp) (by go_simp) (by go_simp) (by go_simp) (by go_simp) (by go_simp)
            obtain ⟨ys, hown, hyl, HPU⟩ := HOWN.out.ready (hb2.trans (hFW.out.mono hs2)) (hin.below hFW.out) (Nat.le_refl _)
            have hsW := hFW.out.size
            have HOW := Lib.hid hown
            have HAT := Lib.hid hat
            have HYL := Lib.hid hyl
            have hyl2 : ys.length ≤ k := by rw [hyl]; exact HK.out
            clear hin hret hat hown hb2
            have HOL := Lib.hid hyl
            rw [← hyl] at *
            clear hyl
            go_wp2_with (at_builtin; go_must (rw [← hWW]; refine Kin.appendAt kOp rfl _ _ rfl w1.heap.size _ ys rfl HOW.out _ [⟨o.kind, o.id, o.cls, o.n, o.flag, a, o.am.length, cp⟩] rfl HAT.out (by show _ + 1 ≤ _; unfold maxLen; omega) (by show (_ + 1) * 64 ≤ _; omega) (by omega) ?_; intro v' w3 hown' hgrow hwh; have HO2 := Lib.hid (HPU.out _ _ hown' hgrow hwh); have F3 : From w1 w3 := ⟨(F2.trans hFW).out.grown hgrow (by omega) (fun b hb => HOW.out.ge b hb)⟩; obtain ⟨a2, c2, rfl⟩ := hown'.shape; clear hown' hgrow hwh))
            go_roundw
            case rel => exact ⟨k + 1, os ++ [o], by omega, by go_num, by have := HK.out; show _ ≤ _; rw [List.length_append]; simp; omega, HG.out, by have h := HO2.out; rw [List.length_append] at h; exact h, F3⟩
            case measure => first | (simp [intOf]; omega) | omega
    · have HF : Hid (oreads 0 xs = .inr os) := HA.out.done (by omega)
      go_wp2
      go_ret2
      exact readRet_ok HF.out (F1.trans hfw).out rfl (HOWN.out.low hsz1)
theorem sread_any (s : ByteArray) (w : World) (hs : s.size ≤ 100000) (hW : ScrW w) :
    Calls Tryz.prog 33 #[.string s] w (ReadRet (oread s.data.toList) w) :=
  sread_lines s w (by omega) (fun j => Nat.le_trans (strAt_le (fun x hx => by have := split_le [10] (by simp) _ s.data.toList (Nat.le_refl _) x hx; rw [size_toList] at this; exact this) j) hs) hW
end Go.Proofs.YtdclokpoeaehlaaGreatDoor
/- strings.Builder: WriteString; what a builder keeps. -/
namespace Go.Proofs.YtdclokpoeaehlaaGreatDoor
set_option linter.all false
open Go.RowKit

abbrev Bld (B : Nat) (l : List UInt8) (w : World) : Prop := Lib.IsBuilder 108 5 B B (Lib.byteCells l) w
theorem writeString_any (B : Nat) (l x : List UInt8) (w : World) (h : Bld B l w) (hlen : l.length + x.length ≤ 140737488355328) (hBw : B ≤ w.heap.size) :
    Calls Tryz.prog 76 #[.pointer (some ⟨B, 0, none⟩), .string (str x)] w fun e w' => e = .returned (.tuple #[.int .i64 x.length, .nilIface]) ∧ Bld B (l ++ x) w' ∧ Below B w w' := by
  have h0 := Any.Builder_WriteString { Tryz.lays156 with } Tryz.Builder_Extra_156 B B (Lib.byteCells l) (str x) w h (by rw [Lib.byteCells_length, str_size]; exact hlen) hBw
  refine Calls.mono h0 ?_
  rintro e w' ⟨rfl, h1, h2⟩
  refine ⟨rfl, .inr ?_, h2⟩
  rw [Lib.strCells_eq, str_toList, ← Lib.byteCells_append] at h1
  exact h1
theorem builderString_any (B : Nat) (l : List UInt8) (w : World) (h : Bld B l w) (hBw : B ≤ w.heap.size) :
    Calls Tryz.prog 77 #[.pointer (some ⟨B, 0, none⟩)] w fun e w' => e = .returned (.string (str l)) ∧ Below B w w' := Tryz.Builder_String_any B B l w h hBw
theorem bldAt_below {B : Nat} {p : Value} {bs : List Value} {w w' : World} (h : Lib.BuilderAt 108 5 B B p bs w) (hb : Below w.heap.size w w') : Lib.BuilderAt 108 5 B B p bs w' := by
  have hlt := h.lt
  obtain ⟨h1, v, h2, h3, h4⟩ := h
  exact ⟨h1, v, by rw [hb.block B hlt]; exact h2, ownsRow_below h3 hb, h4⟩
theorem bld_below {B : Nat} {l : List UInt8} {w w' : World} (h : Bld B l w) (hb : Below w.heap.size w w') : Bld B l w' := by
  rcases h with h | h
  · exact .inl (bldAt_below h hb)
  · exact .inr (bldAt_below h hb)
theorem bld_new (w : World) : Bld w.heap.size [] (w.alloc (.cells #[.pointer none, .slice none 0 0] 108)) := Lib.fresh_isBuilder _ _ w
end Go.Proofs.YtdclokpoeaehlaaGreatDoor
/- script.Write. -/
namespace Go.Proofs.YtdclokpoeaehlaaGreatDoor
set_option linter.all false
open Go.RowKit

theorem oline_len {o : OpS} (h : o.am.length ≤ 1000) : (oline o).length ≤ 30000 := by
  unfold oline
  cases hl : olined o with
  | false => simp
  | true =>
    obtain ⟨hk, hn⟩ := olined_iff.1 hl
    rw [if_pos rfl]
    refine Nat.le_trans (join_len _ 20 _ (owords_le hk hn)) ?_
    have : (owords o).length ≤ 1010 := by
      have h1 : (onums o).length ≤ 1003 := by unfold onums; (repeat' split) <;> simp only [List.length_cons, List.length_nil] <;> omega
      have h2 : (otail o).length ≤ 1 := by unfold otail; split <;> simp
      unfold owords
      simp only [List.length_cons, List.length_append, List.length_map]
      omega
    show _ * 21 ≤ _
    omega
theorem wtext_len {os : List OpS} (h : ∀ j, j < os.length → (opAt os j).am.length ≤ 1000) : ∀ k, k ≤ os.length → (wtext os k).length ≤ k * 30001
  | 0, _ => by rw [wtext_zero]; simp
  | k + 1, hk => by
    have h1 := wtext_len h k (by omega)
    have h2 := oline_len (h k (by omega))
    rw [wtext_step (by omega)]
    simp only [List.length_append, List.length_cons, List.length_nil]
    omega
/-- What script.Write returns. -/
def WriteRet (os : List OpS) (W : World) (e : Ending) (w' : World) : Prop :=
  Below W.heap.size W w' ∧ (WriteOk os → e = .returned (.tuple #[.string (str (olines (os.map oline))), .nilIface])) ∧ ∀ k, BadAt os k → e = .returned (.tuple #[.string ⟨#[]⟩, .iface 113 (.agg #[.int .i64 (ocode (opAt os k)), .int .i64 k])])
theorem writeRet_ok {os : List OpS} {W w' : World} {e : Ending} (h : ∀ j, j < os.length → olined (opAt os j) = true) (hb : Below W.heap.size W w') (he : e = .returned (.tuple #[.string (str (olines (os.map oline))), .nilIface])) : WriteRet os W e w' :=
  ⟨hb, fun _ => he, fun k hk => by have := h k hk.1; rw [hk.2.1] at this; cases this⟩
theorem writeRet_bad {os : List OpS} {W w' : World} {e : Ending} {k : Nat} (h : BadAt os k) (hb : Below W.heap.size W w') (he : e = .returned (.tuple #[.string ⟨#[]⟩, .iface 113 (.agg #[.int .i64 (ocode (opAt os k)), .int .i64 k])])) : WriteRet os W e w' := by
  refine ⟨hb, fun ho => ?_, fun k' hk' => ?_⟩
  · have := ho k h.1; rw [h.2.1] at this; cases this
  · have : k' = k := by
      rcases Nat.lt_trichotomy k' k with h1 | h1 | h1
      · have := h.2.2 k' h1; rw [hk'.2.1] at this; cases this
      · exact h1
      · have := hk'.2.2 k h1; rw [h.2.1] at this; cases this
    subst this; exact he
theorem ocode_of {o : OpS} (h : olined o = false) : (oname o.kind = [] ∧ ocode o = 1) ∨ (oname o.kind ≠ [] ∧ ocode o = 4) := by
  unfold olined at h
  rw [decide_eq_false_iff_not] at h
  unfold ocode at h ⊢
  by_cases hn : oname o.kind = []
  · rw [if_pos hn]; exact .inl ⟨hn, rfl⟩
  · rw [if_neg hn] at h ⊢
    by_cases ha : (onums o).all (fun x => decide (inR x)) = true
    · rw [if_pos ha] at h; exact absurd rfl h
    · rw [if_neg ha]; exact .inr ⟨hn, rfl⟩
set_option maxHeartbeats 4000000 in
set_option maxRecDepth 100000 in
theorem swrite_any (v : Value) (os : List OpS) (w : World) (hn : os.length ≤ 300) (ha : ∀ j, j < os.length → (opAt os j).am.length ≤ 1000) (h : AtOps w v os) (hW : ScrW w) :
    Calls Tryz.prog 42 #[v] w (WriteRet os w) := by
  obtain ⟨a, cap, rfl, hget⟩ := h.get
  have HGET := Lib.hid hget
  have HAM := Lib.hid ha
  have HW := Lib.hid hW
  have HN := Lib.hid faultNew_any
  have F0 := From.refl w
  have HB0 := Lib.hid (bld_new w)
  clear h hget ha hW
  obtain ⟨l, hl⟩ : ∃ n, n = os.length := ⟨_, rfl⟩
  rw [← hl] at hn ⊢
  have HL := Lib.hid hl
  clear hl
  go_enter Tryz.func42, Tryz.ntmps42
  go_wp2
  go_loopw [11] (fun i wr => ∃ k : Nat, k ≤ l ∧ i = .int .i64 k ∧ Hid (∀ j, j < k → olined (opAt os j) = true) ∧ Hid (Bld w.heap.size (wtext os k) wr) ∧ From w wr) (fun i _ => l - (intOf i).toNat)
  case atStart => exact ⟨0, Nat.zero_le _, rfl, fun j hj => absurd hj (Nat.not_lt_zero _), by rw [wtext_zero]; exact HB0.out, F0.alloc _⟩
  case round =>
    obtain ⟨k, hk, rfl, HOK, HB, hfw⟩ := hrel
    have hsz := hfw.out.size
    have hwl := wtext_len HAM.out k (by rw [← HL.out]; exact hk)
    by_cases hlt : k < l
    · obtain ⟨b, off, aa, cc, rfl, hbw, hcs, hin⟩ := HGET.out k (by rw [← HL.out]; exact hlt)
      have hol := oline_len (HAM.out k (by rw [← HL.out]; exact hlt))
      have hws := wtext_step (os := os) (k := k) (by rw [← HL.out]; exact hlt)
      have HBAD : Hid (olined (opAt os k) = false → BadAt os k) := fun h => ⟨by rw [← HL.out]; exact hlt, h, HOK.out⟩
      have HOK2 : Hid (olined (opAt os k) = true → ∀ j, j < k + 1 → olined (opAt os j) = true) := fun h j hj => by
        rcases Nat.lt_or_ge j k with h1 | h1
        · exact HOK.out j h1
        · rw [show j = k by omega]; exact h
      have p0 := hfw.cell hcs.c0
      have p1 := hfw.cell hcs.c1
      have p2 := hfw.cell hcs.c2
      have p3 := hfw.cell hcs.c3
      have p4 := hfw.cell hcs.c4
      have p5 := hfw.cell hcs.c5
      have hal := HAM.out k (by rw [← HL.out]; exact hlt)
      have HLn : Hid (∀ w', From w w' → Calls Tryz.prog 37 #[opV (opAt os k).kind (opAt os k).id (opAt os k).cls (opAt os k).n (opAt os k).flag (.slice aa (opAt os k).am.length cc)] w' (lineRet (opAt os k) w')) := fun w' hf => sline_any _ _ _ _ _ _ (opAt os k).am w' hal (hin.from_ hf) (HW.out.from_ hf)
      have HKn : Hid (∀ w', From w w' → Calls Tryz.prog 67 #[.int .i64 (opAt os k).kind] w' fun e w'' => e = .returned (.string (str (oname (opAt os k).kind))) ∧ w' = w'') := fun w' hf => kindName_any _ w' (HW.out.from_ hf).kinds
      have hoc := fun h => ocode_of (o := opAt os k) h
      clear hcs hin hal
      have hki : (0 : Int) ≤ (k : Int) := by omega
      have hkl : (k : Int) < (l : Int) := by omega
      unfold lineRet at HLn
      generalize (opAt os k).am.length = al at *
      generalize (opAt os k).kind = ok at *
      generalize (opAt os k).id = oi at *
      generalize (opAt os k).cls = oc at *
      generalize (opAt os k).n = on at *
      generalize (opAt os k).flag = oflag at *
      cases hq : olined (opAt os k) with
      | true =>
        have HOK3 := Lib.hid (HOK2.out hq)
        rw [hq] at HLn
        clear hoc HBAD HOK2 hq
        obtain ⟨x, hx⟩ : ∃ x, x = oline (opAt os k) := ⟨_, rfl⟩
        rw [← hx] at HLn hws hol
        obtain ⟨t, ht⟩ : ∃ t, t = wtext os k := ⟨_, rfl⟩
        rw [← ht] at HB hws hwl
        have had : ∀ w, (Op.stringOp .add (str x) ⟨#[10]⟩).run Tryz.prog w = .ok (.string (str (x ++ [10]))) w := fun w => add_str w x [10] (by simp; omega)
        have HWS : Hid (∀ w', From wr w' → Calls Tryz.prog 76 #[.pointer (some ⟨w.heap.size, 0, none⟩), .string (str (x ++ [10]))] w' fun e w'' => e = .returned (.tuple #[.int .i64 (x ++ [10]).length, .nilIface]) ∧ Bld w.heap.size (t ++ (x ++ [10])) w'' ∧ Below w.heap.size w' w'') := fun w' hf => writeString_any _ t (x ++ [10]) w' (bld_below HB.out hf.out) (by simp; omega) (by have := hf.out.size; omega)
        have HWT := Lib.hid hws
        clear hx ht hws HB HOK
        generalize x ++ [10] = y at *
        go_wp2_with fail
        refine (HLn.out _ (hfw.alloc _)).mono ?_
        rintro e w2 ⟨rfl, hb⟩
        have F2 : From wr w2 := ((From.refl wr).alloc _).step hb
        clear hb
        go_wp2_with fail
        refine (HWS.out _ F2).mono ?_
        rintro e w3 ⟨rfl, hbl, hb⟩
        have HB3 : Hid (Bld w.heap.size (wtext os (k + 1)) w3) := by rw [HWT.out]; exact hbl
        have F3 : From w w3 := ⟨(hfw.trans F2).out.trans hb⟩
        clear hb hbl
        go_wp2
        go_roundw
        case rel => exact ⟨k + 1, by omega, by go_num, HOK3.out, HB3.out, F3⟩
        case measure => first | (simp [intOf]; omega) | omega
      | false =>
        have HBA := Lib.hid (HBAD.out hq)
        have hoc' := hoc hq
        rw [hq] at HLn
        clear hoc HBAD HOK2 hq hws HB HOK
        rcases hoc' with ⟨h1, h2⟩ | ⟨h1, h2⟩
        · have hem : (str (oname ok)).toList.isEmpty = true := by rw [h1]; exact str_isEmpty []
          have HC := Lib.hid h2
          clear h1 h2
          generalize str (oname ok) = sn at *
          generalize oline (opAt os k) = x at *
          go_wp2_with fail
          refine (HLn.out _ (hfw.alloc _)).mono ?_
          rintro e w2 ⟨rfl, hb⟩
          have F2 : From w w2 := (hfw.alloc _).step hb
          have q0 : w2.cell? ⟨wr.heap.size, 0, none⟩ = some (.int .i64 ok) := keepl hb (by go_simp)
          clear hb
          go_wp2_with fail
          refine (HKn.out _ F2).mono ?_
          rintro e w3 ⟨rfl, rfl⟩
          go_wp2_with fail
          refine (HN.out 1 _ _).mono ?_
          rintro e w4 ⟨rfl, rfl⟩
          go_wp2
          go_ret2
          exact writeRet_bad HBA.out F2.out (by rw [HC.out]; rfl)
        · have hem : (str (oname ok)).toList.isEmpty = false := by rw [str_isEmpty]; cases h0 : oname ok with | nil => exact absurd h0 h1 | cons _ _ => rfl
          have HC := Lib.hid h2
          clear h1 h2
          generalize str (oname ok) = sn at *
          generalize oline (opAt os k) = x at *
          go_wp2_with fail
          refine (HLn.out _ (hfw.alloc _)).mono ?_
          rintro e w2 ⟨rfl, hb⟩
          have F2 : From w w2 := (hfw.alloc _).step hb
          have q0 : w2.cell? ⟨wr.heap.size, 0, none⟩ = some (.int .i64 ok) := keepl hb (by go_simp)
          clear hb
          go_wp2_with fail
          refine (HKn.out _ F2).mono ?_
          rintro e w3 ⟨rfl, rfl⟩
          go_wp2_with fail
          refine (HN.out 4 _ _).mono ?_
          rintro e w4 ⟨rfl, rfl⟩
          go_wp2
          go_ret2
          exact writeRet_bad HBA.out F2.out (by rw [HC.out]; rfl)
    · have he : k = l := by omega
      have HS : Hid (∀ w', From wr w' → Calls Tryz.prog 77 #[.pointer (some ⟨w.heap.size, 0, none⟩)] w' fun e w'' => e = .returned (.string (str (wtext os k))) ∧ Below w.heap.size w' w'') := fun w' hf => builderString_any _ _ w' (bld_below HB.out hf.out) (by have := hf.out.size; omega)
      have HT : Hid (wtext os k = olines (os.map oline)) := wtext_all os (by rw [← HL.out]; omega)
      have HOK3 : Hid (∀ j, j < os.length → olined (opAt os j) = true) := fun j hj => HOK.out j (by rw [he, HL.out]; exact hj)
      rw [HT.out] at HS
      clear HB hwl HOK
      go_wp2_with fail
      refine (HS.out _ (From.refl _)).mono ?_
      rintro e w2 ⟨rfl, hb⟩
      have F2 : Below w.heap.size w w2 := hfw.out.trans hb
      clear hb
      go_wp2
      go_ret2
      exact writeRet_ok HOK3.out F2 rfl
end Go.Proofs.YtdclokpoeaehlaaGreatDoor
/- The fixed results of hammocklaw04.awake. Plain: no program. -/
namespace Go.Proofs.YtdclokpoeaehlaaGreatDoor
set_option linter.all false

theorem ia1 : Lib.itoa 1 = [49] := itoa_one 1 (by omega)
theorem ia2 : Lib.itoa 2 = [50] := itoa_one 2 (by omega)
theorem ia3 : Lib.itoa 3 = [51] := itoa_one 3 (by omega)
theorem ia4 : Lib.itoa 4 = [52] := itoa_one 4 (by omega)
theorem ia5 : Lib.itoa 5 = [53] := itoa_one 5 (by omega)
theorem ia7 : Lib.itoa 7 = [55] := itoa_one 7 (by omega)
theorem iam2 : Lib.itoa (-2) = [45, 50] := by rw [itoa_neg_small (-2) (by omega), show -(-2 : Int) = 2 from rfl, ia2]
def aPod : OpS := ⟨4, 1, 2, 5, false, [3, 4]⟩
def aClass : OpS := ⟨1, 1, 0, -2, true, []⟩
def aNode : OpS := ⟨2, 3, 0, 0, false, [7]⟩
def aTick : OpS := ⟨6, 0, 0, 5, false, []⟩
def aCycle : OpS := ⟨7, 0, 0, 0, false, []⟩
theorem aw_pod : olined aPod = true ∧ oline aPod = [112, 111, 100, 32, 49, 32, 50, 32, 53, 32, 51, 32, 52] := by
  have h : olined aPod = true := by decide
  refine ⟨h, ?_⟩
  rw [oline_rfold h]
  show (oname 4 ++ [1, 2, 5, 3, 4].flatMap (fun x => 32 :: Lib.itoa x)) ++ [] = _
  simp only [List.flatMap_cons, List.flatMap_nil, ia1, ia2, ia3, ia4, ia5]
  decide
theorem aw_class : olined aClass = true ∧ oline aClass = [99, 108, 97, 115, 115, 32, 49, 32, 45, 50, 32, 121, 101, 115] := by
  have h : olined aClass = true := by decide
  refine ⟨h, ?_⟩
  rw [oline_rfold h]
  show (oname 1 ++ [1, -2].flatMap (fun x => 32 :: Lib.itoa x)) ++ [32, 121, 101, 115] = _
  simp only [List.flatMap_cons, List.flatMap_nil, ia1, iam2]
  decide
theorem aw_node : olined aNode = true ∧ oline aNode = [110, 111, 100, 101, 32, 51, 32, 55] := by
  have h : olined aNode = true := by decide
  refine ⟨h, ?_⟩
  rw [oline_rfold h]
  show (oname 2 ++ [3, 7].flatMap (fun x => 32 :: Lib.itoa x)) ++ [] = _
  simp only [List.flatMap_cons, List.flatMap_nil, ia3, ia7]
  decide
theorem aw_tick : olined aTick = true ∧ oline aTick = [116, 105, 99, 107, 32, 53] := by
  have h : olined aTick = true := by decide
  refine ⟨h, ?_⟩
  rw [oline_rfold h]
  show (oname 6 ++ [5].flatMap (fun x => 32 :: Lib.itoa x)) ++ [] = _
  simp only [List.flatMap_cons, List.flatMap_nil, ia5]
  decide
theorem aw_cycle : olined aCycle = true ∧ oline aCycle = [99, 121, 99, 108, 101] := by
  have h : olined aCycle = true := by decide
  refine ⟨h, ?_⟩
  rw [oline_rfold h]
  decide
theorem aw_parse : oparse [110, 111, 100, 101, 32, 51, 32, 55] = some aNode := by
  have h := oparse_line aw_node.1
  rw [aw_node.2] at h
  exact h
theorem aw_ptick : oparse [116, 105, 99, 107, 32, 53] = some aTick := by
  have h := oparse_line aw_tick.1
  rw [aw_tick.2] at h
  exact h
theorem aw_pcycle : oparse [99, 121, 99, 108, 101] = some aCycle := by
  have h := oparse_line aw_cycle.1
  rw [aw_cycle.2] at h
  exact h
theorem aw_px : oparse [120] = none := by
  have h : Lib.split [120] [32] = [[120]] := by decide +kernel
  unfold oparse
  rw [h]
  simp only
  rw [if_pos (by decide)]
def awText : List UInt8 := [35, 32, 120, 10, 116, 105, 99, 107, 32, 53, 10, 10, 99, 121, 99, 108, 101, 10]
theorem aw_read : oread awText = .inr [aTick, aCycle] := by
  have h : Lib.split awText [10] = [[35, 32, 120], [116, 105, 99, 107, 32, 53], [], [99, 121, 99, 108, 101], []] := by decide +kernel
  unfold oread
  rw [h]
  simp only [oreads, aw_ptick, aw_pcycle, show oskip [35, 32, 120] = true from by decide, show oskip [116, 105, 99, 107, 32, 53] = false from by decide, show oskip [] = true from rfl, show oskip [99, 121, 99, 108, 101] = false from by decide, if_true]
  rfl
theorem aw_bad : oread [10, 120] = .inl 1 := by
  have h : Lib.split [10, 120] [10] = [[], [120]] := by decide +kernel
  unfold oread
  rw [h]
  simp only [oreads, aw_px, show oskip [] = true from rfl, show oskip [120] = false from by decide, if_true]
  rfl
theorem aw_num : num [45, 55] = some (-7) := by rw [← refNum_num]; decide +kernel
theorem aw_write : WriteOk [aTick] ∧ olines ([aTick].map oline) = [116, 105, 99, 107, 32, 53, 10] := by
  refine ⟨fun j hj => ?_, ?_⟩
  · have : j = 0 := by simp only [List.length_cons, List.length_nil] at hj; omega
    subst this
    exact aw_tick.1
  · simp only [List.map_cons, List.map_nil, aw_tick.2, olines]
    rfl
end Go.Proofs.YtdclokpoeaehlaaGreatDoor
