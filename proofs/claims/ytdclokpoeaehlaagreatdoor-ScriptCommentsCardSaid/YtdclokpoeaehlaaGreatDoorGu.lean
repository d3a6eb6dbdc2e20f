/- ScrNum, ScrL: together in one text. -/
import Derived.Test.YtdclokpoeaehlaaGreatDoorGo
import Derived.Test.YtdclokpoeaehlaaGreatDoorGs
/- hammockref04.numbers. -/
namespace Go.Proofs.YtdclokpoeaehlaaGreatDoor
set_option linter.all false
open Go.RowKit

def rnums (k i c n : Int) : List Int := if k = 1 then [i, n] else if k = 2 then [i] else if k = 3 then [i] else if k = 4 then [i, c, n] else if k = 5 then [i] else if k = 6 then [n] else []
theorem own_ints1 {B : Nat} (X : World) (x : Int) (h : B ≤ X.heap.size) : kInt.Own B (X.alloc (.cells #[.int .i64 x] 3)) (.slice (some ⟨X.heap.size, 0, none⟩) 1 1) [x] :=
  ⟨rfl, .inr ⟨X.heap.size, 1, #[.int .i64 x], rfl, h, heap_alloc_new X _, Nat.le_refl _, by decide, rfl, rfl⟩⟩
theorem own_ints2 {B : Nat} (X : World) (x y : Int) (h : B ≤ X.heap.size) : kInt.Own B (X.alloc (.cells #[.int .i64 x, .int .i64 y] 3)) (.slice (some ⟨X.heap.size, 0, none⟩) 2 2) [x, y] :=
  ⟨rfl, .inr ⟨X.heap.size, 2, #[.int .i64 x, .int .i64 y], rfl, h, heap_alloc_new X _, Nat.le_refl _, by decide, rfl, rfl⟩⟩
theorem own_ints3 {B : Nat} (X : World) (x y z : Int) (h : B ≤ X.heap.size) : kInt.Own B (X.alloc (.cells #[.int .i64 x, .int .i64 y, .int .i64 z] 3)) (.slice (some ⟨X.heap.size, 0, none⟩) 3 3) [x, y, z] :=
  ⟨rfl, .inr ⟨X.heap.size, 3, #[.int .i64 x, .int .i64 y, .int .i64 z], rfl, h, heap_alloc_new X _, Nat.le_refl _, by decide, rfl, rfl⟩⟩
set_option maxHeartbeats 4000000 in
set_option maxRecDepth 100000 in
theorem numbers_k (k i c n : Int) (f : Bool) (a : Option Addr) (l cp : Nat) (w : World) (hk : k = 1 ∨ k = 2 ∨ k = 3 ∨ k = 4 ∨ k = 5 ∨ k = 6 ∨ k = 7) :
    Calls Tryz.prog 70 #[opV k i c n f (.slice a l cp)] w fun e w' => ∃ v, e = .returned v ∧ kInt.Own w.heap.size w' v (rnums k i c n) ∧ Below w.heap.size w w' := by
  have hsz : ∀ o : Obj, (w.alloc o).heap.size = w.heap.size + 1 := fun o => by simp
  have HS := Lib.hid hsz
  clear hsz
  rcases hk with rfl | rfl | rfl | rfl | rfl | rfl | rfl
  all_goals
    go_enter Tryz.func70, Tryz.ntmps70
    go_wp2
    go_ret
    refine ⟨_, rfl, ?_, ?_⟩
    · first
        | exact Kin.Own.nil _ _ _
        | (rw [← HS.out (.cells #[_, _, _, _, _, _] 58)]; exact own_ints1 _ _ (by simp))
        | (rw [← HS.out (.cells #[_, _, _, _, _, _] 58)]; exact own_ints2 _ _ _ (by simp))
        | (rw [← HS.out (.cells #[_, _, _, _, _, _] 58)]; exact own_ints3 _ _ _ _ (by simp))
        | fail
    · first
        | exact ((From.refl w).alloc _).out
        | exact (((From.refl w).alloc _).alloc _).out
        | fail
end Go.Proofs.YtdclokpoeaehlaaGreatDoor
/- hammockref04.Line. -/
namespace Go.Proofs.YtdclokpoeaehlaaGreatDoor
set_option linter.all false
open Go.RowKit

def rlineRet (o : OpS) (W : World) (e : Ending) (w' : World) : Prop := e = .returned (.tuple #[.string (str (oline o)), .int .i64 (ocode o)]) ∧ Below W.heap.size W w'
theorem rline_ok {o : OpS} (hk : 1 ≤ o.kind ∧ o.kind ≤ 7) (h : ∀ x ∈ onums o, inR x) : ocode o = 0 ∧ oline o = rfold (oname o.kind) (onums o) ++ (otail o).flatMap (32 :: ·) := by
  have e : olined o = true := olined_iff.2 ⟨hk, h⟩
  refine ⟨?_, oline_rfold e⟩
  unfold olined at e
  exact of_decide_eq_true e
theorem rline_no {o : OpS} (hk : 1 ≤ o.kind ∧ o.kind ≤ 7) {x : Int} (hx : x ∈ onums o) (h : ¬ inR x) : ocode o = 4 ∧ oline o = [] := by
  have e : olined o = false := by
    cases hh : olined o with
    | false => rfl
    | true => exact absurd ((olined_iff.1 hh).2 x hx) h
  refine ⟨?_, by unfold oline; rw [e]; rfl⟩
  rcases ocode_of e with ⟨h1, _⟩ | ⟨_, h2⟩
  · exact absurd h1 ((oname_iff _).2 hk)
  · exact h2
theorem rfold_len (nm : List UInt8) : ∀ l : List Int, (∀ x ∈ l, inR x) → (rfold nm l).length ≤ nm.length + l.length * 22
  | [], _ => by rw [rfold_nil]; simp
  | x :: r, h => by
    have h1 := rfold_len nm r fun y hy => h y (by simp [hy])
    have h2 := h x (by simp)
    have h3 := itoa_le x (by unfold inR at h2; omega) (by unfold inR at h2; omega)
    unfold rfold at h1 ⊢
    simp only [List.flatMap_cons, List.length_append, List.length_cons] at h1 ⊢
    omega
theorem take_get {l : List Int} {j : Nat} (h : j < l.length) : l.take (j + 1) = l.take j ++ [l.getD j 0] := by
  rw [List.take_succ, List.getD_eq_getElem?_getD, List.getElem?_eq_getElem h]; rfl
theorem ints_get {w : World} {v : Value} {xs : List Int} (h : kInt.At w v xs) : ∃ a cp, v = .slice a xs.length cp ∧ ∀ j, j < xs.length → ∃ b off, a = some ⟨b, off, none⟩ ∧ w.cell? ⟨b, off + j, none⟩ = some (.int .i64 (xs.getD j 0)) := by
  obtain ⟨a, cp, rfl, h | ⟨b, off, rfl, hlt, hc⟩⟩ := h
  · subst h; exact ⟨a, cp, rfl, fun j hj => by simp at hj⟩
  · refine ⟨_, cp, rfl, fun j hj => ⟨b, off, rfl, ?_⟩⟩
    have := hc j (xs.getD j 0) (by rw [List.getD_eq_getElem?_getD, List.getElem?_eq_getElem hj]; rfl) 0 _ rfl
    simpa [kInt] using this
set_option maxHeartbeats 4000000 in
set_option maxRecDepth 100000 in
theorem rline_1 (i c n : Int) (f : Bool) (a : Option Addr) (l cp : Nat) (zs : List Int) (w : World) (hl : l = zs.length) (hz : zs.length ≤ 1000) (hi : IntsAt w (.slice a l cp) zs) :
    Calls Tryz.prog 38 #[opV 1 i c n f (.slice a l cp)] w (rlineRet ⟨1, i, c, n, f, zs⟩ w) := by
  obtain ⟨W0, hW0⟩ : ∃ W0, W0 = w.alloc (.cells #[.int .i64 1, .int .i64 i, .int .i64 c, .int .i64 n, .bool f, .slice a l cp] 58) := ⟨_, rfl⟩
  have FW0 : From w W0 := by rw [hW0]; exact (From.refl w).alloc _
  have hcc : Box6 W0 w.heap.size 1 i c n f (.slice a l cp) := by rw [hW0]; exact ⟨by go_simp, by go_simp, by go_simp, by go_simp, by go_simp, by go_simp⟩
  have HCell : Hid (∀ w', From W0 w' → Box6 w' w.heap.size 1 i c n f (.slice a l cp)) := fun w' hf => hcc.from_ hf
  have HF := Lib.hid FW0
  have HKn := Lib.hid (rkindName_any 1)
  have HNu := Lib.hid fun w' => numbers_k 1 i c n f a l cp w' (by decide)
  have hem : (str (oname 1)).toList.isEmpty = false := by rw [str_isEmpty]; rfl
  have hnml : (oname 1).length ≤ 10 := by decide
  have hnl : (onums ⟨1, i, c, n, f, zs⟩).length ≤ 1010 := by simp only [onums, Int.reduceEq, if_true, if_false, List.length_cons, List.length_nil]; omega
  have HI := Lib.hid hi
  clear hi
  have HL := Lib.hid hl
  rw [← hl] at hz
  clear hl
  generalize hnm : oname 1 = nm at *
  have HNM : Hid (oname 1 = nm) := hnm
  clear hnm
  unfold rlineRet
  go_enter Tryz.func38, Tryz.ntmps38
  obtain ⟨b0, b1, b2, b3, b4, b5⟩ := hcc
  clear FW0
  go_wp2_with fail
  rw [← hW0]
  clear hW0
  refine (HKn.out _).mono ?_
  rintro e w1 ⟨rfl, hb⟩
  have F1 : From W0 w1 := ⟨hb⟩
  obtain ⟨e0, e1, e2, e3, e4, e5⟩ := HCell.out _ F1
  clear hb b0 b1 b2 b3 b4 b5
  go_wp2_with fail
  refine (HNu.out _).mono ?_
  rintro e w2 ⟨v, rfl, hown, hb⟩
  have F2 : From W0 w2 := F1.step hb
  have FB : Hid (From w1 w2) := ⟨hb⟩
  have hs12 := hb.size
  obtain ⟨f0, f1, f2, f3, f4, f5⟩ := HCell.out _ F2
  clear hb e0 e1 e2 e3 e4 e5
  have hat : kInt.At w2 v (onums ⟨1, i, c, n, f, zs⟩) := hown.at_
  have hfn : From w2 w2 := From.refl _
  have FN := Lib.hid (HF.out.trans F2)
  have FN2 := Lib.hid F2
  obtain ⟨wn, hwn⟩ : ∃ wn : World, wn = w2 := ⟨_, rfl⟩
  subst hwn
  clear hown
  obtain ⟨ao, co, rfl, hget⟩ := ints_get hat
  have HX := Lib.hid hget
  have HNL := Lib.hid hnl
  clear hat hget
  have hNle := hnl
  generalize hNN : onums ⟨1, i, c, n, f, zs⟩ = NU at *
  have HNN := Lib.hid hNN
  clear hNN hnl
  obtain ⟨q, hq⟩ : ∃ q, q = NU.length := ⟨_, rfl⟩
  rw [← hq] at hNle ⊢
  have HQ := Lib.hid hq
  clear hq
  go_wp2
  go_loopw [4, 7] (fun sv jv wr => ∃ j : Nat, j ≤ q ∧ jv = .int .i64 j ∧ sv = .string (str (rfold nm (NU.take j))) ∧ Hid (∀ x ∈ NU.take j, inR x) ∧ From wn wr) (fun _ jv _ => q - (intOf jv).toNat)
  case atStart => exact ⟨0, Nat.zero_le _, rfl, by rw [List.take_zero, rfold_nil], fun x hx => by simp at hx, hfn⟩
  case round =>
    obtain ⟨j, hj, rfl, rfl, HR, hfw⟩ := hrel
    have hcl := rfold_len nm _ HR.out
    have htl : (NU.take j).length ≤ j := by simp; omega
    by_cases hlt : j < q
    · obtain ⟨b, off, rfl, pc⟩ := HX.out j (by rw [← HQ.out]; exact hlt)
      have p0 := hfw.cell pc
      have hst := rfold_step nm (NU.take j) (NU.getD j 0)
      rw [← take_get (by rw [← HQ.out]; exact hlt)] at hst
      have hmem : NU.getD j 0 ∈ NU := by rw [List.getD_eq_getElem?_getD, List.getElem?_eq_getElem (by rw [← HQ.out]; exact hlt)]; exact List.getElem_mem _
      have HGO : Hid (inR (NU.getD j 0) → ∀ x ∈ NU.take (j + 1), inR x) := fun h x hx => by
        rw [take_get (by rw [← HQ.out]; exact hlt), List.mem_append, List.mem_singleton] at hx
        rcases hx with hx | rfl
        · exact HR.out x hx
        · exact h
      have HBD : Hid (¬ inR (NU.getD j 0) → ocode ⟨1, i, c, n, f, zs⟩ = 4 ∧ oline ⟨1, i, c, n, f, zs⟩ = []) := fun h => rline_no (o := ⟨1, i, c, n, f, zs⟩) (show (1 : Int) ≤ 1 ∧ (1 : Int) ≤ 7 by decide) (by rw [HNN.out]; exact hmem) h
      clear pc hmem
      have hji : (0 : Int) ≤ (j : Int) := by omega
      have hjl : (j : Int) < (q : Int) := by omega
      generalize NU.getD j 0 = x at *
      by_cases hx : inR x
      · have HG2 := Lib.hid (HGO.out hx)
        have hxl := itoa_le x (by unfold inR at hx; omega) (by unfold inR at hx; omega)
        have HD : Hid (∀ w', Calls Tryz.prog 71 #[.int .i64 x] w' fun e w'' => e = .returned (.string (str (Lib.itoa x))) ∧ ∃ m, w'' = w'.drewN m) := fun w' => (decimal_any x w' (by unfold inR at hx; omega) (by unfold inR at hx; omega)).mono fun e w'' h => ⟨h.1, h.2⟩
        obtain ⟨x0, x1⟩ := hx
        have HST := Lib.hid hst
        generalize Lib.itoa x = sx at *
        generalize hcu : rfold nm (NU.take j) = cu at *
        have ha1 : ∀ w, (Op.stringOp .add (str cu) ⟨#[32]⟩).run Tryz.prog w = .ok (.string (str (cu ++ [32]))) w := fun w => add_str w cu [32] (by simp; omega)
        have ha2 : ∀ w, (Op.stringOp .add (str (cu ++ [32])) (str sx)).run Tryz.prog w = .ok (.string (str (cu ++ [32] ++ sx))) w := fun w => add_str w _ sx (by simp; omega)
        have HC2 : Hid (str (cu ++ [32] ++ sx) = str (rfold nm (NU.take (j + 1)))) := by rw [HST.out]; show str _ = str _; simp
        clear hst hcu HGO HBD
        generalize cu ++ [32] ++ sx = cu3 at *
        generalize cu ++ [32] = cu2 at *
        go_wp2_with fail
        refine (HD.out _).mono ?_
        rintro e wd ⟨rfl, m, rfl⟩
        go_wp2
        go_roundw
        case rel => exact ⟨j + 1, by omega, by go_num, by rw [HC2.out], HG2.out, hfw.drewN m⟩
        case measure => first | (simp [intOf]; omega) | omega
      · have HB2 := Lib.hid (HBD.out hx)
        have hx' : x < -4611686018427387904 ∨ (-4611686018427387904 ≤ x ∧ 4611686018427387904 < x) := by unfold inR at hx; omega
        clear hx hst HGO HBD
        generalize rfold nm (NU.take j) = cu at *
        rcases hx' with h | ⟨h, h'⟩
        · go_wp2
          go_ret2
          exact ⟨by rw [HB2.out.1, HB2.out.2]; rfl, (FN.out.trans hfw).out⟩
        · go_wp2
          go_ret2
          exact ⟨by rw [HB2.out.1, HB2.out.2]; rfl, (FN.out.trans hfw).out⟩
    · have he : j = q := by omega
      have hall : NU.take j = NU := List.take_of_length_le (by rw [he, HQ.out]; exact Nat.le_refl _)
      rw [hall] at HR hcl ⊢
      have hok := rline_ok (o := ⟨1, i, c, n, f, zs⟩) (show (1 : Int) ≤ 1 ∧ (1 : Int) ≤ 7 by decide) (by rw [HNN.out]; exact HR.out)
      rw [HNN.out] at hok
      have HOKK := Lib.hid hok
      obtain ⟨d0, d1, d2, d3, d4, d5⟩ := HCell.out _ (FN2.out.trans hfw)
      clear hok hall
      have HE : Hid (oline ⟨1, i, c, n, f, zs⟩ = rfold nm NU ++ 32 :: flagWord f) := by rw [HOKK.out.2, HNM.out]; show _ ++ ([flagWord f].flatMap _) = _; simp
      have hq2 : NU.length ≤ q := by rw [HQ.out]; exact Nat.le_refl _
      generalize rfold nm NU = cu at *
      have ha1 : ∀ w, (Op.stringOp .add (str cu) ⟨#[32, 121, 101, 115]⟩).run Tryz.prog w = .ok (.string (str (cu ++ [32, 121, 101, 115]))) w := fun w => add_str w cu [32, 121, 101, 115] (by simp; omega)
      have ha2 : ∀ w, (Op.stringOp .add (str cu) ⟨#[32, 110, 111]⟩).run Tryz.prog w = .ok (.string (str (cu ++ [32, 110, 111]))) w := fun w => add_str w cu [32, 110, 111] (by simp; omega)
      cases f
      · go_wp2
        go_ret2
        exact ⟨by rw [HOKK.out.1, HE.out]; rfl, (FN.out.trans hfw).out⟩
      · go_wp2
        go_ret2
        exact ⟨by rw [HOKK.out.1, HE.out]; rfl, (FN.out.trans hfw).out⟩
set_option maxHeartbeats 4000000 in
set_option maxRecDepth 100000 in
theorem rline_2 (i c n : Int) (f : Bool) (a : Option Addr) (l cp : Nat) (zs : List Int) (w : World) (hl : l = zs.length) (hz : zs.length ≤ 1000) (hi : IntsAt w (.slice a l cp) zs) :
    Calls Tryz.prog 38 #[opV 2 i c n f (.slice a l cp)] w (rlineRet ⟨2, i, c, n, f, zs⟩ w) := by
  obtain ⟨W0, hW0⟩ : ∃ W0, W0 = w.alloc (.cells #[.int .i64 2, .int .i64 i, .int .i64 c, .int .i64 n, .bool f, .slice a l cp] 58) := ⟨_, rfl⟩
  have FW0 : From w W0 := by rw [hW0]; exact (From.refl w).alloc _
  have hcc : Box6 W0 w.heap.size 2 i c n f (.slice a l cp) := by rw [hW0]; exact ⟨by go_simp, by go_simp, by go_simp, by go_simp, by go_simp, by go_simp⟩
  have HCell : Hid (∀ w', From W0 w' → Box6 w' w.heap.size 2 i c n f (.slice a l cp)) := fun w' hf => hcc.from_ hf
  have HF := Lib.hid FW0
  have HKn := Lib.hid (rkindName_any 2)
  have HNu := Lib.hid fun w' => numbers_k 2 i c n f a l cp w' (by decide)
  have hem : (str (oname 2)).toList.isEmpty = false := by rw [str_isEmpty]; rfl
  have hnml : (oname 2).length ≤ 10 := by decide
  have hnl : (onums ⟨2, i, c, n, f, zs⟩).length ≤ 1010 := by simp only [onums, Int.reduceEq, if_true, if_false, List.length_cons, List.length_nil]; omega
  have HI := Lib.hid hi
  clear hi
  have HL := Lib.hid hl
  rw [← hl] at hz
  clear hl
  generalize hnm : oname 2 = nm at *
  have HNM : Hid (oname 2 = nm) := hnm
  clear hnm
  unfold rlineRet
  go_enter Tryz.func38, Tryz.ntmps38
  obtain ⟨b0, b1, b2, b3, b4, b5⟩ := hcc
  clear FW0
  go_wp2_with fail
  rw [← hW0]
  clear hW0
  refine (HKn.out _).mono ?_
  rintro e w1 ⟨rfl, hb⟩
  have F1 : From W0 w1 := ⟨hb⟩
  obtain ⟨e0, e1, e2, e3, e4, e5⟩ := HCell.out _ F1
  clear hb b0 b1 b2 b3 b4 b5
  go_wp2_with fail
  refine (HNu.out _).mono ?_
  rintro e w2 ⟨v, rfl, hown, hb⟩
  have F2 : From W0 w2 := F1.step hb
  have FB : Hid (From w1 w2) := ⟨hb⟩
  have hs12 := hb.size
  obtain ⟨f0, f1, f2, f3, f4, f5⟩ := HCell.out _ F2
  clear hb e0 e1 e2 e3 e4 e5
  obtain ⟨vo, vc, rfl⟩ := hown.shape
  rw [show rnums 2 i c n = [i] from rfl] at hown ⊢
  have HR0 := Lib.hid hown
  clear hown
  go_wp2
  go_loopw [5, 6] (fun lv jv wr => ∃ j : Nat, j ≤ l ∧ jv = .int .i64 j ∧ kInt.Own w1.heap.size wr lv ([i] ++ zs.take j) ∧ From w1 wr) (fun _ jv _ => l - (intOf jv).toNat)
  case atStart => exact ⟨0, Nat.zero_le _, rfl, by rw [List.take_zero, List.append_nil]; exact HR0.out, FB.out⟩
  case round =>
    obtain ⟨j, hj, rfl, hown, hfw⟩ := hrel
    obtain ⟨g0, g1, g2, g3, g4, g5⟩ := HCell.out _ (F1.trans hfw)
    have hsz := hfw.out.size
    by_cases hlt : j < l
    · obtain ⟨a', cp', e, h | ⟨b, off, h1, hbl, hcs⟩⟩ := HI.out
      · subst h; have := HL.out; simp at this; omega
      rw [Value.slice.injEq] at e
      obtain ⟨rfl, -, rfl⟩ := e
      subst h1
      have p0 := (HF.out.trans (F1.trans hfw)).cell (hcs j (by rw [← HL.out]; exact hlt))
      clear hcs
      obtain ⟨vo, vc, rfl⟩ := hown.shape
      have htg := take_get (l := zs) (j := j) (by rw [← HL.out]; exact hlt)
      have hle : ([i] ++ zs.take j).length ≤ j + 3 := by simp; omega
      have hji : (0 : Int) ≤ (j : Int) := by omega
      have hjl : (j : Int) < (l : Int) := by omega
      generalize zs.getD j 0 = x at *
      have hap : ([i] ++ zs.take j) ++ [x] = [i] ++ zs.take (j + 1) := by rw [htg, List.append_assoc]
      have HAP := Lib.hid hap
      clear hap htg
      generalize [i] ++ zs.take j = F at *
      have hOW : kInt.Own w1.heap.size (wr.alloc (.cells #[.int .i64 x] 3)) (.slice vo F.length vc) F := hown.alloc _
      have HOW := Lib.hid hOW
      clear hOW hown
      go_wp2_with (at_builtin; go_must (refine Kin.append1 kInt rfl _ _ rfl w1.heap.size _ F rfl HOW.out wr.heap.size x rfl (cells1i_of (by go_simp)) (by unfold maxLen; omega) (by show _ * 8 ≤ _; omega) (by first | (simp; done) | (simp; omega)) ?_; intro v' w3 hown' hbel hgrow; obtain ⟨a2, c2, e2⟩ := hown'.shape; rw [List.length_append, List.length_singleton] at e2; subst e2; have HO2 := Lib.hid hown'; have F3 : From w1 w3 := ⟨hfw.out.trans (((Below.refl _ _).alloc (by omega) _).trans (hbel.mono (by omega)))⟩; clear hown' hgrow hbel))
      go_roundw
      case rel => exact ⟨j + 1, by omega, by go_num, by rw [← HAP.out]; exact HO2.out, F3⟩
      case measure => first | (simp [intOf]; omega) | omega
    · have he : j = l := by omega
      have hT : zs.take j = zs := List.take_of_length_le (by rw [he, HL.out]; exact Nat.le_refl _)
      rw [hT] at hown
      have hat : kInt.At wr _ (onums ⟨2, i, c, n, f, zs⟩) := hown.at_
      have hfn : From wr wr := From.refl _
      have FN := Lib.hid (HF.out.trans (F1.trans hfw))
      have FN2 := Lib.hid (F1.trans hfw)
      obtain ⟨wn, hwn⟩ : ∃ wn : World, wn = wr := ⟨_, rfl⟩
      subst hwn
      clear hT hown he
      obtain ⟨ao, co, rfl, hget⟩ := ints_get hat
      have HX := Lib.hid hget
      have HNL := Lib.hid hnl
      clear hat hget
      have hNle := hnl
      generalize hNN : onums ⟨2, i, c, n, f, zs⟩ = NU at *
      have HNN := Lib.hid hNN
      clear hNN hnl
      obtain ⟨q, hq⟩ : ∃ q, q = NU.length := ⟨_, rfl⟩
      rw [← hq] at hNle ⊢
      have HQ := Lib.hid hq
      clear hq
      go_wp2
      go_loopw [4, 7] (fun sv jv wr => ∃ j : Nat, j ≤ q ∧ jv = .int .i64 j ∧ sv = .string (str (rfold nm (NU.take j))) ∧ Hid (∀ x ∈ NU.take j, inR x) ∧ From wn wr) (fun _ jv _ => q - (intOf jv).toNat)
      case atStart => exact ⟨0, Nat.zero_le _, rfl, by rw [List.take_zero, rfold_nil], fun x hx => by simp at hx, hfn⟩
      case round =>
        obtain ⟨j, hj, rfl, rfl, HR, hfw⟩ := hrel
        have hcl := rfold_len nm _ HR.out
        have htl : (NU.take j).length ≤ j := by simp; omega
        by_cases hlt : j < q
        · obtain ⟨b, off, rfl, pc⟩ := HX.out j (by rw [← HQ.out]; exact hlt)
          have p0 := hfw.cell pc
          have hst := rfold_step nm (NU.take j) (NU.getD j 0)
          rw [← take_get (by rw [← HQ.out]; exact hlt)] at hst
          have hmem : NU.getD j 0 ∈ NU := by rw [List.getD_eq_getElem?_getD, List.getElem?_eq_getElem (by rw [← HQ.out]; exact hlt)]; exact List.getElem_mem _
          have HGO : Hid (inR (NU.getD j 0) → ∀ x ∈ NU.take (j + 1), inR x) := fun h x hx => by
            rw [take_get (by rw [← HQ.out]; exact hlt), List.mem_append, List.mem_singleton] at hx
            rcases hx with hx | rfl
            · exact HR.out x hx
            · exact h
          have HBD : Hid (¬ inR (NU.getD j 0) → ocode ⟨2, i, c, n, f, zs⟩ = 4 ∧ oline ⟨2, i, c, n, f, zs⟩ = []) := fun h => rline_no (o := ⟨2, i, c, n, f, zs⟩) (show (1 : Int) ≤ 2 ∧ (2 : Int) ≤ 7 by decide) (by rw [HNN.out]; exact hmem) h
          clear pc hmem
          have hji : (0 : Int) ≤ (j : Int) := by omega
          have hjl : (j : Int) < (q : Int) := by omega
          generalize NU.getD j 0 = x at *
          by_cases hx : inR x
          · have HG2 := Lib.hid (HGO.out hx)
            have hxl := itoa_le x (by unfold inR at hx; omega) (by unfold inR at hx; omega)
            have HD : Hid (∀ w', Calls Tryz.prog 71 #[.int .i64 x] w' fun e w'' => e = .returned (.string (str (Lib.itoa x))) ∧ ∃ m, w'' = w'.drewN m) := fun w' => (decimal_any x w' (by unfold inR at hx; omega) (by unfold inR at hx; omega)).mono fun e w'' h => ⟨h.1, h.2⟩
            obtain ⟨x0, x1⟩ := hx
            have HST := Lib.hid hst
            generalize Lib.itoa x = sx at *
            generalize hcu : rfold nm (NU.take j) = cu at *
            have ha1 : ∀ w, (Op.stringOp .add (str cu) ⟨#[32]⟩).run Tryz.prog w = .ok (.string (str (cu ++ [32]))) w := fun w => add_str w cu [32] (by simp; omega)
            have ha2 : ∀ w, (Op.stringOp .add (str (cu ++ [32])) (str sx)).run Tryz.prog w = .ok (.string (str (cu ++ [32] ++ sx))) w := fun w => add_str w _ sx (by simp; omega)
            have HC2 : Hid (str (cu ++ [32] ++ sx) = str (rfold nm (NU.take (j + 1)))) := by rw [HST.out]; show str _ = str _; simp
            clear hst hcu HGO HBD
            generalize cu ++ [32] ++ sx = cu3 at *
            generalize cu ++ [32] = cu2 at *
            go_wp2_with fail
            refine (HD.out _).mono ?_
            rintro e wd ⟨rfl, m, rfl⟩
            go_wp2
            go_roundw
            case rel => exact ⟨j + 1, by omega, by go_num, by rw [HC2.out], HG2.out, hfw.drewN m⟩
            case measure => first | (simp [intOf]; omega) | omega
          · have HB2 := Lib.hid (HBD.out hx)
            have hx' : x < -4611686018427387904 ∨ (-4611686018427387904 ≤ x ∧ 4611686018427387904 < x) := by unfold inR at hx; omega
            clear hx hst HGO HBD
            generalize rfold nm (NU.take j) = cu at *
            rcases hx' with h | ⟨h, h'⟩
            · go_wp2
              go_ret2
              exact ⟨by rw [HB2.out.1, HB2.out.2]; rfl, (FN.out.trans hfw).out⟩
            · go_wp2
              go_ret2
              exact ⟨by rw [HB2.out.1, HB2.out.2]; rfl, (FN.out.trans hfw).out⟩
        · have he : j = q := by omega
          have hall : NU.take j = NU := List.take_of_length_le (by rw [he, HQ.out]; exact Nat.le_refl _)
          rw [hall] at HR hcl ⊢
          have hok := rline_ok (o := ⟨2, i, c, n, f, zs⟩) (show (1 : Int) ≤ 2 ∧ (2 : Int) ≤ 7 by decide) (by rw [HNN.out]; exact HR.out)
          rw [HNN.out] at hok
          have HOKK := Lib.hid hok
          obtain ⟨d0, d1, d2, d3, d4, d5⟩ := HCell.out _ (FN2.out.trans hfw)
          clear hok hall
          have HE : Hid (oline ⟨2, i, c, n, f, zs⟩ = rfold nm NU) := by rw [HOKK.out.2, HNM.out]; show _ ++ ([].flatMap _) = _; simp
          generalize rfold nm NU = cu at *
          go_wp2
          go_ret2
          exact ⟨by rw [HOKK.out.1, HE.out]; rfl, (FN.out.trans hfw).out⟩
set_option maxHeartbeats 4000000 in
set_option maxRecDepth 100000 in
theorem rline_3 (i c n : Int) (f : Bool) (a : Option Addr) (l cp : Nat) (zs : List Int) (w : World) (hl : l = zs.length) (hz : zs.length ≤ 1000) (hi : IntsAt w (.slice a l cp) zs) :
    Calls Tryz.prog 38 #[opV 3 i c n f (.slice a l cp)] w (rlineRet ⟨3, i, c, n, f, zs⟩ w) := by
  obtain ⟨W0, hW0⟩ : ∃ W0, W0 = w.alloc (.cells #[.int .i64 3, .int .i64 i, .int .i64 c, .int .i64 n, .bool f, .slice a l cp] 58) := ⟨_, rfl⟩
  have FW0 : From w W0 := by rw [hW0]; exact (From.refl w).alloc _
  have hcc : Box6 W0 w.heap.size 3 i c n f (.slice a l cp) := by rw [hW0]; exact ⟨by go_simp, by go_simp, by go_simp, by go_simp, by go_simp, by go_simp⟩
  have HCell : Hid (∀ w', From W0 w' → Box6 w' w.heap.size 3 i c n f (.slice a l cp)) := fun w' hf => hcc.from_ hf
  have HF := Lib.hid FW0
  have HKn := Lib.hid (rkindName_any 3)
  have HNu := Lib.hid fun w' => numbers_k 3 i c n f a l cp w' (by decide)
  have hem : (str (oname 3)).toList.isEmpty = false := by rw [str_isEmpty]; rfl
  have hnml : (oname 3).length ≤ 10 := by decide
  have hnl : (onums ⟨3, i, c, n, f, zs⟩).length ≤ 1010 := by simp only [onums, Int.reduceEq, if_true, if_false, List.length_cons, List.length_nil]; omega
  have HI := Lib.hid hi
  clear hi
  have HL := Lib.hid hl
  rw [← hl] at hz
  clear hl
  generalize hnm : oname 3 = nm at *
  have HNM : Hid (oname 3 = nm) := hnm
  clear hnm
  unfold rlineRet
  go_enter Tryz.func38, Tryz.ntmps38
  obtain ⟨b0, b1, b2, b3, b4, b5⟩ := hcc
  clear FW0
  go_wp2_with fail
  rw [← hW0]
  clear hW0
  refine (HKn.out _).mono ?_
  rintro e w1 ⟨rfl, hb⟩
  have F1 : From W0 w1 := ⟨hb⟩
  obtain ⟨e0, e1, e2, e3, e4, e5⟩ := HCell.out _ F1
  clear hb b0 b1 b2 b3 b4 b5
  go_wp2_with fail
  refine (HNu.out _).mono ?_
  rintro e w2 ⟨v, rfl, hown, hb⟩
  have F2 : From W0 w2 := F1.step hb
  have FB : Hid (From w1 w2) := ⟨hb⟩
  have hs12 := hb.size
  obtain ⟨f0, f1, f2, f3, f4, f5⟩ := HCell.out _ F2
  clear hb e0 e1 e2 e3 e4 e5
  have hat : kInt.At w2 v (onums ⟨3, i, c, n, f, zs⟩) := hown.at_
  have hfn : From w2 w2 := From.refl _
  have FN := Lib.hid (HF.out.trans F2)
  have FN2 := Lib.hid F2
  obtain ⟨wn, hwn⟩ : ∃ wn : World, wn = w2 := ⟨_, rfl⟩
  subst hwn
  clear hown
  obtain ⟨ao, co, rfl, hget⟩ := ints_get hat
  have HX := Lib.hid hget
  have HNL := Lib.hid hnl
  clear hat hget
  have hNle := hnl
  generalize hNN : onums ⟨3, i, c, n, f, zs⟩ = NU at *
  have HNN := Lib.hid hNN
  clear hNN hnl
  obtain ⟨q, hq⟩ : ∃ q, q = NU.length := ⟨_, rfl⟩
  rw [← hq] at hNle ⊢
  have HQ := Lib.hid hq
  clear hq
  go_wp2
  go_loopw [4, 7] (fun sv jv wr => ∃ j : Nat, j ≤ q ∧ jv = .int .i64 j ∧ sv = .string (str (rfold nm (NU.take j))) ∧ Hid (∀ x ∈ NU.take j, inR x) ∧ From wn wr) (fun _ jv _ => q - (intOf jv).toNat)
  case atStart => exact ⟨0, Nat.zero_le _, rfl, by rw [List.take_zero, rfold_nil], fun x hx => by simp at hx, hfn⟩
  case round =>
    obtain ⟨j, hj, rfl, rfl, HR, hfw⟩ := hrel
    have hcl := rfold_len nm _ HR.out
    have htl : (NU.take j).length ≤ j := by simp; omega
    by_cases hlt : j < q
    · obtain ⟨b, off, rfl, pc⟩ := HX.out j (by rw [← HQ.out]; exact hlt)
      have p0 := hfw.cell pc
      have hst := rfold_step nm (NU.take j) (NU.getD j 0)
      rw [← take_get (by rw [← HQ.out]; exact hlt)] at hst
      have hmem : NU.getD j 0 ∈ NU := by rw [List.getD_eq_getElem?_getD, List.getElem?_eq_getElem (by rw [← HQ.out]; exact hlt)]; exact List.getElem_mem _
      have HGO : Hid (inR (NU.getD j 0) → ∀ x ∈ NU.take (j + 1), inR x) := fun h x hx => by
        rw [take_get (by rw [← HQ.out]; exact hlt), List.mem_append, List.mem_singleton] at hx
        rcases hx with hx | rfl
        · exact HR.out x hx
        · exact h
      have HBD : Hid (¬ inR (NU.getD j 0) → ocode ⟨3, i, c, n, f, zs⟩ = 4 ∧ oline ⟨3, i, c, n, f, zs⟩ = []) := fun h => rline_no (o := ⟨3, i, c, n, f, zs⟩) (show (1 : Int) ≤ 3 ∧ (3 : Int) ≤ 7 by decide) (by rw [HNN.out]; exact hmem) h
      clear pc hmem
      have hji : (0 : Int) ≤ (j : Int) := by omega
      have hjl : (j : Int) < (q : Int) := by omega
      generalize NU.getD j 0 = x at *
      by_cases hx : inR x
      · have HG2 := Lib.hid (HGO.out hx)
        have hxl := itoa_le x (by unfold inR at hx; omega) (by unfold inR at hx; omega)
        have HD : Hid (∀ w', Calls Tryz.prog 71 #[.int .i64 x] w' fun e w'' => e = .returned (.string (str (Lib.itoa x))) ∧ ∃ m, w'' = w'.drewN m) := fun w' => (decimal_any x w' (by unfold inR at hx; omega) (by unfold inR at hx; omega)).mono fun e w'' h => ⟨h.1, h.2⟩
        obtain ⟨x0, x1⟩ := hx
        have HST := Lib.hid hst
        generalize Lib.itoa x = sx at *
        generalize hcu : rfold nm (NU.take j) = cu at *
        have ha1 : ∀ w, (Op.stringOp .add (str cu) ⟨#[32]⟩).run Tryz.prog w = .ok (.string (str (cu ++ [32]))) w := fun w => add_str w cu [32] (by simp; omega)
        have ha2 : ∀ w, (Op.stringOp .add (str (cu ++ [32])) (str sx)).run Tryz.prog w = .ok (.string (str (cu ++ [32] ++ sx))) w := fun w => add_str w _ sx (by simp; omega)
        have HC2 : Hid (str (cu ++ [32] ++ sx) = str (rfold nm (NU.take (j + 1)))) := by rw [HST.out]; show str _ = str _; simp
        clear hst hcu HGO HBD
        generalize cu ++ [32] ++ sx = cu3 at *
        generalize cu ++ [32] = cu2 at *
        go_wp2_with fail
        refine (HD.out _).mono ?_
        rintro e wd ⟨rfl, m, rfl⟩
        go_wp2
        go_roundw
        case rel => exact ⟨j + 1, by omega, by go_num, by rw [HC2.out], HG2.out, hfw.drewN m⟩
        case measure => first | (simp [intOf]; omega) | omega
      · have HB2 := Lib.hid (HBD.out hx)
        have hx' : x < -4611686018427387904 ∨ (-4611686018427387904 ≤ x ∧ 4611686018427387904 < x) := by unfold inR at hx; omega
        clear hx hst HGO HBD
        generalize rfold nm (NU.take j) = cu at *
        rcases hx' with h | ⟨h, h'⟩
        · go_wp2
          go_ret2
          exact ⟨by rw [HB2.out.1, HB2.out.2]; rfl, (FN.out.trans hfw).out⟩
        · go_wp2
          go_ret2
          exact ⟨by rw [HB2.out.1, HB2.out.2]; rfl, (FN.out.trans hfw).out⟩
    · have he : j = q := by omega
      have hall : NU.take j = NU := List.take_of_length_le (by rw [he, HQ.out]; exact Nat.le_refl _)
      rw [hall] at HR hcl ⊢
      have hok := rline_ok (o := ⟨3, i, c, n, f, zs⟩) (show (1 : Int) ≤ 3 ∧ (3 : Int) ≤ 7 by decide) (by rw [HNN.out]; exact HR.out)
      rw [HNN.out] at hok
      have HOKK := Lib.hid hok
      obtain ⟨d0, d1, d2, d3, d4, d5⟩ := HCell.out _ (FN2.out.trans hfw)
      clear hok hall
      have HE : Hid (oline ⟨3, i, c, n, f, zs⟩ = rfold nm NU) := by rw [HOKK.out.2, HNM.out]; show _ ++ ([].flatMap _) = _; simp
      generalize rfold nm NU = cu at *
      go_wp2
      go_ret2
      exact ⟨by rw [HOKK.out.1, HE.out]; rfl, (FN.out.trans hfw).out⟩
set_option maxHeartbeats 4000000 in
set_option maxRecDepth 100000 in
theorem rline_4 (i c n : Int) (f : Bool) (a : Option Addr) (l cp : Nat) (zs : List Int) (w : World) (hl : l = zs.length) (hz : zs.length ≤ 1000) (hi : IntsAt w (.slice a l cp) zs) :
    Calls Tryz.prog 38 #[opV 4 i c n f (.slice a l cp)] w (rlineRet ⟨4, i, c, n, f, zs⟩ w) := by
  obtain ⟨W0, hW0⟩ : ∃ W0, W0 = w.alloc (.cells #[.int .i64 4, .int .i64 i, .int .i64 c, .int .i64 n, .bool f, .slice a l cp] 58) := ⟨_, rfl⟩
  have FW0 : From w W0 := by rw [hW0]; exact (From.refl w).alloc _
  have hcc : Box6 W0 w.heap.size 4 i c n f (.slice a l cp) := by rw [hW0]; exact ⟨by go_simp, by go_simp, by go_simp, by go_simp, by go_simp, by go_simp⟩
  have HCell : Hid (∀ w', From W0 w' → Box6 w' w.heap.size 4 i c n f (.slice a l cp)) := fun w' hf => hcc.from_ hf
  have HF := Lib.hid FW0
  have HKn := Lib.hid (rkindName_any 4)
  have HNu := Lib.hid fun w' => numbers_k 4 i c n f a l cp w' (by decide)
  have hem : (str (oname 4)).toList.isEmpty = false := by rw [str_isEmpty]; rfl
  have hnml : (oname 4).length ≤ 10 := by decide
  have hnl : (onums ⟨4, i, c, n, f, zs⟩).length ≤ 1010 := by simp only [onums, Int.reduceEq, if_true, if_false, List.length_cons, List.length_nil]; omega
  have HI := Lib.hid hi
  clear hi
  have HL := Lib.hid hl
  rw [← hl] at hz
  clear hl
  generalize hnm : oname 4 = nm at *
  have HNM : Hid (oname 4 = nm) := hnm
  clear hnm
  unfold rlineRet
  go_enter Tryz.func38, Tryz.ntmps38
  obtain ⟨b0, b1, b2, b3, b4, b5⟩ := hcc
  clear FW0
  go_wp2_with fail
  rw [← hW0]
  clear hW0
  refine (HKn.out _).mono ?_
  rintro e w1 ⟨rfl, hb⟩
  have F1 : From W0 w1 := ⟨hb⟩
  obtain ⟨e0, e1, e2, e3, e4, e5⟩ := HCell.out _ F1
  clear hb b0 b1 b2 b3 b4 b5
  go_wp2_with fail
  refine (HNu.out _).mono ?_
  rintro e w2 ⟨v, rfl, hown, hb⟩
  have F2 : From W0 w2 := F1.step hb
  have FB : Hid (From w1 w2) := ⟨hb⟩
  have hs12 := hb.size
  obtain ⟨f0, f1, f2, f3, f4, f5⟩ := HCell.out _ F2
  clear hb e0 e1 e2 e3 e4 e5
  obtain ⟨vo, vc, rfl⟩ := hown.shape
  rw [show rnums 4 i c n = [i, c, n] from rfl] at hown ⊢
  have HR0 := Lib.hid hown
  clear hown
  go_wp2
  go_loopw [5, 6] (fun lv jv wr => ∃ j : Nat, j ≤ l ∧ jv = .int .i64 j ∧ kInt.Own w1.heap.size wr lv ([i, c, n] ++ zs.take j) ∧ From w1 wr) (fun _ jv _ => l - (intOf jv).toNat)
  case atStart => exact ⟨0, Nat.zero_le _, rfl, by rw [List.take_zero, List.append_nil]; exact HR0.out, FB.out⟩
  case round =>
    obtain ⟨j, hj, rfl, hown, hfw⟩ := hrel
    obtain ⟨g0, g1, g2, g3, g4, g5⟩ := HCell.out _ (F1.trans hfw)
    have hsz := hfw.out.size
    by_cases hlt : j < l
    · obtain ⟨a', cp', e, h | ⟨b, off, h1, hbl, hcs⟩⟩ := HI.out
      · subst h; have := HL.out; simp at this; omega
      rw [Value.slice.injEq] at e
      obtain ⟨rfl, -, rfl⟩ := e
      subst h1
      have p0 := (HF.out.trans (F1.trans hfw)).cell (hcs j (by rw [← HL.out]; exact hlt))
      clear hcs
      obtain ⟨vo, vc, rfl⟩ := hown.shape
      have htg := take_get (l := zs) (j := j) (by rw [← HL.out]; exact hlt)
      have hle : ([i, c, n] ++ zs.take j).length ≤ j + 3 := by simp; omega
      have hji : (0 : Int) ≤ (j : Int) := by omega
      have hjl : (j : Int) < (l : Int) := by omega
      generalize zs.getD j 0 = x at *
      have hap : ([i, c, n] ++ zs.take j) ++ [x] = [i, c, n] ++ zs.take (j + 1) := by rw [htg, List.append_assoc]
      have HAP := Lib.hid hap
      clear hap htg
      generalize [i, c, n] ++ zs.take j = F at *
      have hOW : kInt.Own w1.heap.size (wr.alloc (.cells #[.int .i64 x] 3)) (.slice vo F.length vc) F := hown.alloc _
      have HOW := Lib.hid hOW
      clear hOW hown
      go_wp2_with (at_builtin; go_must (refine Kin.append1 kInt rfl _ _ rfl w1.heap.size _ F rfl HOW.out wr.heap.size x rfl (cells1i_of (by go_simp)) (by unfold maxLen; omega) (by show _ * 8 ≤ _; omega) (by first | (simp; done) | (simp; omega)) ?_; intro v' w3 hown' hbel hgrow; obtain ⟨a2, c2, e2⟩ := hown'.shape; rw [List.length_append, List.length_singleton] at e2; subst e2; have HO2 := Lib.hid hown'; have F3 : From w1 w3 := ⟨hfw.out.trans (((Below.refl _ _).alloc (by omega) _).trans (hbel.mono (by omega)))⟩; clear hown' hgrow hbel))
      go_roundw
      case rel => exact ⟨j + 1, by omega, by go_num, by rw [← HAP.out]; exact HO2.out, F3⟩
      case measure => first | (simp [intOf]; omega) | omega
    · have he : j = l := by omega
      have hT : zs.take j = zs := List.take_of_length_le (by rw [he, HL.out]; exact Nat.le_refl _)
      rw [hT] at hown
      have hat : kInt.At wr _ (onums ⟨4, i, c, n, f, zs⟩) := hown.at_
      have hfn : From wr wr := From.refl _
      have FN := Lib.hid (HF.out.trans (F1.trans hfw))
      have FN2 := Lib.hid (F1.trans hfw)
      obtain ⟨wn, hwn⟩ : ∃ wn : World, wn = wr := ⟨_, rfl⟩
      subst hwn
      clear hT hown he
      obtain ⟨ao, co, rfl, hget⟩ := ints_get hat
      have HX := Lib.hid hget
      have HNL := Lib.hid hnl
      clear hat hget
      have hNle := hnl
      generalize hNN : onums ⟨4, i, c, n, f, zs⟩ = NU at *
      have HNN := Lib.hid hNN
      clear hNN hnl
      obtain ⟨q, hq⟩ : ∃ q, q = NU.length := ⟨_, rfl⟩
      rw [← hq] at hNle ⊢
      have HQ := Lib.hid hq
      clear hq
      go_wp2
      go_loopw [4, 7] (fun sv jv wr => ∃ j : Nat, j ≤ q ∧ jv = .int .i64 j ∧ sv = .string (str (rfold nm (NU.take j))) ∧ Hid (∀ x ∈ NU.take j, inR x) ∧ From wn wr) (fun _ jv _ => q - (intOf jv).toNat)
      case atStart => exact ⟨0, Nat.zero_le _, rfl, by rw [List.take_zero, rfold_nil], fun x hx => by simp at hx, hfn⟩
      case round =>
        obtain ⟨j, hj, rfl, rfl, HR, hfw⟩ := hrel
        have hcl := rfold_len nm _ HR.out
        have htl : (NU.take j).length ≤ j := by simp; omega
        by_cases hlt : j < q
        · obtain ⟨b, off, rfl, pc⟩ := HX.out j (by rw [← HQ.out]; exact hlt)
          have p0 := hfw.cell pc
          have hst := rfold_step nm (NU.take j) (NU.getD j 0)
          rw [← take_get (by rw [← HQ.out]; exact hlt)] at hst
          have hmem : NU.getD j 0 ∈ NU := by rw [List.getD_eq_getElem?_getD, List.getElem?_eq_getElem (by rw [← HQ.out]; exact hlt)]; exact List.getElem_mem _
          have HGO : Hid (inR (NU.getD j 0) → ∀ x ∈ NU.take (j + 1), inR x) := fun h x hx => by
            rw [take_get (by rw [← HQ.out]; exact hlt), List.mem_append, List.mem_singleton] at hx
            rcases hx with hx | rfl
            · exact HR.out x hx
            · exact h
          have HBD : Hid (¬ inR (NU.getD j 0) → ocode ⟨4, i, c, n, f, zs⟩ = 4 ∧ oline ⟨4, i, c, n, f, zs⟩ = []) := fun h => rline_no (o := ⟨4, i, c, n, f, zs⟩) (show (1 : Int) ≤ 4 ∧ (4 : Int) ≤ 7 by decide) (by rw [HNN.out]; exact hmem) h
          clear pc hmem
          have hji : (0 : Int) ≤ (j : Int) := by omega
          have hjl : (j : Int) < (q : Int) := by omega
          generalize NU.getD j 0 = x at *
          by_cases hx : inR x
          · have HG2 := Lib.hid (HGO.out hx)
            have hxl := itoa_le x (by unfold inR at hx; omega) (by unfold inR at hx; omega)
            have HD : Hid (∀ w', Calls Tryz.prog 71 #[.int .i64 x] w' fun e w'' => e = .returned (.string (str (Lib.itoa x))) ∧ ∃ m, w'' = w'.drewN m) := fun w' => (decimal_any x w' (by unfold inR at hx; omega) (by unfold inR at hx; omega)).mono fun e w'' h => ⟨h.1, h.2⟩
            obtain ⟨x0, x1⟩ := hx
            have HST := Lib.hid hst
            generalize Lib.itoa x = sx at *
            generalize hcu : rfold nm (NU.take j) = cu at *
            have ha1 : ∀ w, (Op.stringOp .add (str cu) ⟨#[32]⟩).run Tryz.prog w = .ok (.string (str (cu ++ [32]))) w := fun w => add_str w cu [32] (by simp; omega)
            have ha2 : ∀ w, (Op.stringOp .add (str (cu ++ [32])) (str sx)).run Tryz.prog w = .ok (.string (str (cu ++ [32] ++ sx))) w := fun w => add_str w _ sx (by simp; omega)
            have HC2 : Hid (str (cu ++ [32] ++ sx) = str (rfold nm (NU.take (j + 1)))) := by rw [HST.out]; show str _ = str _; simp
            clear hst hcu HGO HBD
            generalize cu ++ [32] ++ sx = cu3 at *
            generalize cu ++ [32] = cu2 at *
            go_wp2_with fail
            refine (HD.out _).mono ?_
            rintro e wd ⟨rfl, m, rfl⟩
            go_wp2
            go_roundw
            case rel => exact ⟨j + 1, by omega, by go_num, by rw [HC2.out], HG2.out, hfw.drewN m⟩
            case measure => first | (simp [intOf]; omega) | omega
          · have HB2 := Lib.hid (HBD.out hx)
            have hx' : x < -4611686018427387904 ∨ (-4611686018427387904 ≤ x ∧ 4611686018427387904 < x) := by unfold inR at hx; omega
            clear hx hst HGO HBD
            generalize rfold nm (NU.take j) = cu at *
            rcases hx' with h | ⟨h, h'⟩
            · go_wp2
              go_ret2
              exact ⟨by rw [HB2.out.1, HB2.out.2]; rfl, (FN.out.trans hfw).out⟩
            · go_wp2
              go_ret2
              exact ⟨by rw [HB2.out.1, HB2.out.2]; rfl, (FN.out.trans hfw).out⟩
        · have he : j = q := by omega
          have hall : NU.take j = NU := List.take_of_length_le (by rw [he, HQ.out]; exact Nat.le_refl _)
          rw [hall] at HR hcl ⊢
          have hok := rline_ok (o := ⟨4, i, c, n, f, zs⟩) (show (1 : Int) ≤ 4 ∧ (4 : Int) ≤ 7 by decide) (by rw [HNN.out]; exact HR.out)
          rw [HNN.out] at hok
          have HOKK := Lib.hid hok
          obtain ⟨d0, d1, d2, d3, d4, d5⟩ := HCell.out _ (FN2.out.trans hfw)
          clear hok hall
          have HE : Hid (oline ⟨4, i, c, n, f, zs⟩ = rfold nm NU) := by rw [HOKK.out.2, HNM.out]; show _ ++ ([].flatMap _) = _; simp
          generalize rfold nm NU = cu at *
          go_wp2
          go_ret2
          exact ⟨by rw [HOKK.out.1, HE.out]; rfl, (FN.out.trans hfw).out⟩
set_option maxHeartbeats 4000000 in
set_option maxRecDepth 100000 in
theorem rline_5 (i c n : Int) (f : Bool) (a : Option Addr) (l cp : Nat) (zs : List Int) (w : World) (hl : l = zs.length) (hz : zs.length ≤ 1000) (hi : IntsAt w (.slice a l cp) zs) :
    Calls Tryz.prog 38 #[opV 5 i c n f (.slice a l cp)] w (rlineRet ⟨5, i, c, n, f, zs⟩ w) := by
  obtain ⟨W0, hW0⟩ : ∃ W0, W0 = w.alloc (.cells #[.int .i64 5, .int .i64 i, .int .i64 c, .int .i64 n, .bool f, .slice a l cp] 58) := ⟨_, rfl⟩
  have FW0 : From w W0 := by rw [hW0]; exact (From.refl w).alloc _
  have hcc : Box6 W0 w.heap.size 5 i c n f (.slice a l cp) := by rw [hW0]; exact ⟨by go_simp, by go_simp, by go_simp, by go_simp, by go_simp, by go_simp⟩
  have HCell : Hid (∀ w', From W0 w' → Box6 w' w.heap.size 5 i c n f (.slice a l cp)) := fun w' hf => hcc.from_ hf
  have HF := Lib.hid FW0
  have HKn := Lib.hid (rkindName_any 5)
  have HNu := Lib.hid fun w' => numbers_k 5 i c n f a l cp w' (by decide)
  have hem : (str (oname 5)).toList.isEmpty = false := by rw [str_isEmpty]; rfl
  have hnml : (oname 5).length ≤ 10 := by decide
  have hnl : (onums ⟨5, i, c, n, f, zs⟩).length ≤ 1010 := by simp only [onums, Int.reduceEq, if_true, if_false, List.length_cons, List.length_nil]; omega
  have HI := Lib.hid hi
  clear hi
  have HL := Lib.hid hl
  rw [← hl] at hz
  clear hl
  generalize hnm : oname 5 = nm at *
  have HNM : Hid (oname 5 = nm) := hnm
  clear hnm
  unfold rlineRet
  go_enter Tryz.func38, Tryz.ntmps38
  obtain ⟨b0, b1, b2, b3, b4, b5⟩ := hcc
  clear FW0
  go_wp2_with fail
  rw [← hW0]
  clear hW0
  refine (HKn.out _).mono ?_
  rintro e w1 ⟨rfl, hb⟩
  have F1 : From W0 w1 := ⟨hb⟩
  obtain ⟨e0, e1, e2, e3, e4, e5⟩ := HCell.out _ F1
  clear hb b0 b1 b2 b3 b4 b5
  go_wp2_with fail
  refine (HNu.out _).mono ?_
  rintro e w2 ⟨v, rfl, hown, hb⟩
  have F2 : From W0 w2 := F1.step hb
  have FB : Hid (From w1 w2) := ⟨hb⟩
  have hs12 := hb.size
  obtain ⟨f0, f1, f2, f3, f4, f5⟩ := HCell.out _ F2
  clear hb e0 e1 e2 e3 e4 e5
  have hat : kInt.At w2 v (onums ⟨5, i, c, n, f, zs⟩) := hown.at_
  have hfn : From w2 w2 := From.refl _
  have FN := Lib.hid (HF.out.trans F2)
  have FN2 := Lib.hid F2
  obtain ⟨wn, hwn⟩ : ∃ wn : World, wn = w2 := ⟨_, rfl⟩
  subst hwn
  clear hown
  obtain ⟨ao, co, rfl, hget⟩ := ints_get hat
  have HX := Lib.hid hget
  have HNL := Lib.hid hnl
  clear hat hget
  have hNle := hnl
  generalize hNN : onums ⟨5, i, c, n, f, zs⟩ = NU at *
  have HNN := Lib.hid hNN
  clear hNN hnl
  obtain ⟨q, hq⟩ : ∃ q, q = NU.length := ⟨_, rfl⟩
  rw [← hq] at hNle ⊢
  have HQ := Lib.hid hq
  clear hq
  go_wp2
  go_loopw [4, 7] (fun sv jv wr => ∃ j : Nat, j ≤ q ∧ jv = .int .i64 j ∧ sv = .string (str (rfold nm (NU.take j))) ∧ Hid (∀ x ∈ NU.take j, inR x) ∧ From wn wr) (fun _ jv _ => q - (intOf jv).toNat)
  case atStart => exact ⟨0, Nat.zero_le _, rfl, by rw [List.take_zero, rfold_nil], fun x hx => by simp at hx, hfn⟩
  case round =>
    obtain ⟨j, hj, rfl, rfl, HR, hfw⟩ := hrel
    have hcl := rfold_len nm _ HR.out
    have htl : (NU.take j).length ≤ j := by simp; omega
    by_cases hlt : j < q
    · obtain ⟨b, off, rfl, pc⟩ := HX.out j (by rw [← HQ.out]; exact hlt)
      have p0 := hfw.cell pc
      have hst := rfold_step nm (NU.take j) (NU.getD j 0)
      rw [← take_get (by rw [← HQ.out]; exact hlt)] at hst
      have hmem : NU.getD j 0 ∈ NU := by rw [List.getD_eq_getElem?_getD, List.getElem?_eq_getElem (by rw [← HQ.out]; exact hlt)]; exact List.getElem_mem _
      have HGO : Hid (inR (NU.getD j 0) → ∀ x ∈ NU.take (j + 1), inR x) := fun h x hx => by
        rw [take_get (by rw [← HQ.out]; exact hlt), List.mem_append, List.mem_singleton] at hx
        rcases hx with hx | rfl
        · exact HR.out x hx
        · exact h
      have HBD : Hid (¬ inR (NU.getD j 0) → ocode ⟨5, i, c, n, f, zs⟩ = 4 ∧ oline ⟨5, i, c, n, f, zs⟩ = []) := fun h => rline_no (o := ⟨5, i, c, n, f, zs⟩) (show (1 : Int) ≤ 5 ∧ (5 : Int) ≤ 7 by decide) (by rw [HNN.out]; exact hmem) h
      clear pc hmem
      have hji : (0 : Int) ≤ (j : Int) := by omega
      have hjl : (j : Int) < (q : Int) := by omega
      generalize NU.getD j 0 = x at *
      by_cases hx : inR x
      · have HG2 := Lib.hid (HGO.out hx)
        have hxl := itoa_le x (by unfold inR at hx; omega) (by unfold inR at hx; omega)
        have HD : Hid (∀ w', Calls Tryz.prog 71 #[.int .i64 x] w' fun e w'' => e = .returned (.string (str (Lib.itoa x))) ∧ ∃ m, w'' = w'.drewN m) := fun w' => (decimal_any x w' (by unfold inR at hx; omega) (by unfold inR at hx; omega)).mono fun e w'' h => ⟨h.1, h.2⟩
        obtain ⟨x0, x1⟩ := hx
        have HST := Lib.hid hst
        generalize Lib.itoa x = sx at *
        generalize hcu : rfold nm (NU.take j) = cu at *
        have ha1 : ∀ w, (Op.stringOp .add (str cu) ⟨#[32]⟩).run Tryz.prog w = .ok (.string (str (cu ++ [32]))) w := fun w => add_str w cu [32] (by simp; omega)
        have ha2 : ∀ w, (Op.stringOp .add (str (cu ++ [32])) (str sx)).run Tryz.prog w = .ok (.string (str (cu ++ [32] ++ sx))) w := fun w => add_str w _ sx (by simp; omega)
        have HC2 : Hid (str (cu ++ [32] ++ sx) = str (rfold nm (NU.take (j + 1)))) := by rw [HST.out]; show str _ = str _; simp
        clear hst hcu HGO HBD
        generalize cu ++ [32] ++ sx = cu3 at *
        generalize cu ++ [32] = cu2 at *
        go_wp2_with fail
        refine (HD.out _).mono ?_
        rintro e wd ⟨rfl, m, rfl⟩
        go_wp2
        go_roundw
        case rel => exact ⟨j + 1, by omega, by go_num, by rw [HC2.out], HG2.out, hfw.drewN m⟩
        case measure => first | (simp [intOf]; omega) | omega
      · have HB2 := Lib.hid (HBD.out hx)
        have hx' : x < -4611686018427387904 ∨ (-4611686018427387904 ≤ x ∧ 4611686018427387904 < x) := by unfold inR at hx; omega
        clear hx hst HGO HBD
        generalize rfold nm (NU.take j) = cu at *
        rcases hx' with h | ⟨h, h'⟩
        · go_wp2
          go_ret2
          exact ⟨by rw [HB2.out.1, HB2.out.2]; rfl, (FN.out.trans hfw).out⟩
        · go_wp2
          go_ret2
          exact ⟨by rw [HB2.out.1, HB2.out.2]; rfl, (FN.out.trans hfw).out⟩
    · have he : j = q := by omega
      have hall : NU.take j = NU := List.take_of_length_le (by rw [he, HQ.out]; exact Nat.le_refl _)
      rw [hall] at HR hcl ⊢
      have hok := rline_ok (o := ⟨5, i, c, n, f, zs⟩) (show (1 : Int) ≤ 5 ∧ (5 : Int) ≤ 7 by decide) (by rw [HNN.out]; exact HR.out)
      rw [HNN.out] at hok
      have HOKK := Lib.hid hok
      obtain ⟨d0, d1, d2, d3, d4, d5⟩ := HCell.out _ (FN2.out.trans hfw)
      clear hok hall
      have HE : Hid (oline ⟨5, i, c, n, f, zs⟩ = rfold nm NU) := by rw [HOKK.out.2, HNM.out]; show _ ++ ([].flatMap _) = _; simp
      generalize rfold nm NU = cu at *
      go_wp2
      go_ret2
      exact ⟨by rw [HOKK.out.1, HE.out]; rfl, (FN.out.trans hfw).out⟩
set_option maxHeartbeats 4000000 in
set_option maxRecDepth 100000 in
theorem rline_6 (i c n : Int) (f : Bool) (a : Option Addr) (l cp : Nat) (zs : List Int) (w : World) (hl : l = zs.length) (hz : zs.length ≤ 1000) (hi : IntsAt w (.slice a l cp) zs) :
    Calls Tryz.prog 38 #[opV 6 i c n f (.slice a l cp)] w (rlineRet ⟨6, i, c, n, f, zs⟩ w) := by
  obtain ⟨W0, hW0⟩ : ∃ W0, W0 = w.alloc (.cells #[.int .i64 6, .int .i64 i, .int .i64 c, .int .i64 n, .bool f, .slice a l cp] 58) := ⟨_, rfl⟩
  have FW0 : From w W0 := by rw [hW0]; exact (From.refl w).alloc _
  have hcc : Box6 W0 w.heap.size 6 i c n f (.slice a l cp) := by rw [hW0]; exact ⟨by go_simp, by go_simp, by go_simp, by go_simp, by go_simp, by go_simp⟩
  have HCell : Hid (∀ w', From W0 w' → Box6 w' w.heap.size 6 i c n f (.slice a l cp)) := fun w' hf => hcc.from_ hf
  have HF := Lib.hid FW0
  have HKn := Lib.hid (rkindName_any 6)
  have HNu := Lib.hid fun w' => numbers_k 6 i c n f a l cp w' (by decide)
  have hem : (str (oname 6)).toList.isEmpty = false := by rw [str_isEmpty]; rfl
  have hnml : (oname 6).length ≤ 10 := by decide
  have hnl : (onums ⟨6, i, c, n, f, zs⟩).length ≤ 1010 := by simp only [onums, Int.reduceEq, if_true, if_false, List.length_cons, List.length_nil]; omega
  have HI := Lib.hid hi
  clear hi
  have HL := Lib.hid hl
  rw [← hl] at hz
  clear hl
  generalize hnm : oname 6 = nm at *
  have HNM : Hid (oname 6 = nm) := hnm
  clear hnm
  unfold rlineRet
  go_enter Tryz.func38, Tryz.ntmps38
  obtain ⟨b0, b1, b2, b3, b4, b5⟩ := hcc
  clear FW0
  go_wp2_with fail
  rw [← hW0]
  clear hW0
  refine (HKn.out _).mono ?_
  rintro e w1 ⟨rfl, hb⟩
  have F1 : From W0 w1 := ⟨hb⟩
  obtain ⟨e0, e1, e2, e3, e4, e5⟩ := HCell.out _ F1
  clear hb b0 b1 b2 b3 b4 b5
  go_wp2_with fail
  refine (HNu.out _).mono ?_
  rintro e w2 ⟨v, rfl, hown, hb⟩
  have F2 : From W0 w2 := F1.step hb
  have FB : Hid (From w1 w2) := ⟨hb⟩
  have hs12 := hb.size
  obtain ⟨f0, f1, f2, f3, f4, f5⟩ := HCell.out _ F2
  clear hb e0 e1 e2 e3 e4 e5
  have hat : kInt.At w2 v (onums ⟨6, i, c, n, f, zs⟩) := hown.at_
  have hfn : From w2 w2 := From.refl _
  have FN := Lib.hid (HF.out.trans F2)
  have FN2 := Lib.hid F2
  obtain ⟨wn, hwn⟩ : ∃ wn : World, wn = w2 := ⟨_, rfl⟩
  subst hwn
  clear hown
  obtain ⟨ao, co, rfl, hget⟩ := ints_get hat
  have HX := Lib.hid hget
  have HNL := Lib.hid hnl
  clear hat hget
  have hNle := hnl
  generalize hNN : onums ⟨6, i, c, n, f, zs⟩ = NU at *
  have HNN := Lib.hid hNN
  clear hNN hnl
  obtain ⟨q, hq⟩ : ∃ q, q = NU.length := ⟨_, rfl⟩
  rw [← hq] at hNle ⊢
  have HQ := Lib.hid hq
  clear hq
  go_wp2
  go_loopw [4, 7] (fun sv jv wr => ∃ j : Nat, j ≤ q ∧ jv = .int .i64 j ∧ sv = .string (str (rfold nm (NU.take j))) ∧ Hid (∀ x ∈ NU.take j, inR x) ∧ From wn wr) (fun _ jv _ => q - (intOf jv).toNat)
  case atStart => exact ⟨0, Nat.zero_le _, rfl, by rw [List.take_zero, rfold_nil], fun x hx => by simp at hx, hfn⟩
  case round =>
    obtain ⟨j, hj, rfl, rfl, HR, hfw⟩ := hrel
    have hcl := rfold_len nm _ HR.out
    have htl : (NU.take j).length ≤ j := by simp; omega
    by_cases hlt : j < q
    · obtain ⟨b, off, rfl, pc⟩ := HX.out j (by rw [← HQ.out]; exact hlt)
      have p0 := hfw.cell pc
      have hst := rfold_step nm (NU.take j) (NU.getD j 0)
      rw [← take_get (by rw [← HQ.out]; exact hlt)] at hst
      have hmem : NU.getD j 0 ∈ NU := by rw [List.getD_eq_getElem?_getD, List.getElem?_eq_getElem (by rw [← HQ.out]; exact hlt)]; exact List.getElem_mem _
      have HGO : Hid (inR (NU.getD j 0) → ∀ x ∈ NU.take (j + 1), inR x) := fun h x hx => by
        rw [take_get (by rw [← HQ.out]; exact hlt), List.mem_append, List.mem_singleton] at hx
        rcases hx with hx | rfl
        · exact HR.out x hx
        · exact h
      have HBD : Hid (¬ inR (NU.getD j 0) → ocode ⟨6, i, c, n, f, zs⟩ = 4 ∧ oline ⟨6, i, c, n, f, zs⟩ = []) := fun h => rline_no (o := ⟨6, i, c, n, f, zs⟩) (show (1 : Int) ≤ 6 ∧ (6 : Int) ≤ 7 by decide) (by rw [HNN.out]; exact hmem) h
      clear pc hmem
      have hji : (0 : Int) ≤ (j : Int) := by omega
      have hjl : (j : Int) < (q : Int) := by omega
      generalize NU.getD j 0 = x at *
      by_cases hx : inR x
      · have HG2 := Lib.hid (HGO.out hx)
        have hxl := itoa_le x (by unfold inR at hx; omega) (by unfold inR at hx; omega)
        have HD : Hid (∀ w', Calls Tryz.prog 71 #[.int .i64 x] w' fun e w'' => e = .returned (.string (str (Lib.itoa x))) ∧ ∃ m, w'' = w'.drewN m) := fun w' => (decimal_any x w' (by unfold inR at hx; omega) (by unfold inR at hx; omega)).mono fun e w'' h => ⟨h.1, h.2⟩
        obtain ⟨x0, x1⟩ := hx
        have HST := Lib.hid hst
        generalize Lib.itoa x = sx at *
        generalize hcu : rfold nm (NU.take j) = cu at *
        have ha1 : ∀ w, (Op.stringOp .add (str cu) ⟨#[32]⟩).run Tryz.prog w = .ok (.string (str (cu ++ [32]))) w := fun w => add_str w cu [32] (by simp; omega)
        have ha2 : ∀ w, (Op.stringOp .add (str (cu ++ [32])) (str sx)).run Tryz.prog w = .ok (.string (str (cu ++ [32] ++ sx))) w := fun w => add_str w _ sx (by simp; omega)
        have HC2 : Hid (str (cu ++ [32] ++ sx) = str (rfold nm (NU.take (j + 1)))) := by rw [HST.out]; show str _ = str _; simp
        clear hst hcu HGO HBD
        generalize cu ++ [32] ++ sx = cu3 at *
        generalize cu ++ [32] = cu2 at *
        go_wp2_with fail
        refine (HD.out _).mono ?_
        rintro e wd ⟨rfl, m, rfl⟩
        go_wp2
        go_roundw
        case rel => exact ⟨j + 1, by omega, by go_num, by rw [HC2.out], HG2.out, hfw.drewN m⟩
        case measure => first | (simp [intOf]; omega) | omega
      · have HB2 := Lib.hid (HBD.out hx)
        have hx' : x < -4611686018427387904 ∨ (-4611686018427387904 ≤ x ∧ 4611686018427387904 < x) := by unfold inR at hx; omega
        clear hx hst HGO HBD
        generalize rfold nm (NU.take j) = cu at *
        rcases hx' with h | ⟨h, h'⟩
        · go_wp2
          go_ret2
          exact ⟨by rw [HB2.out.1, HB2.out.2]; rfl, (FN.out.trans hfw).out⟩
        · go_wp2
          go_ret2
          exact ⟨by rw [HB2.out.1, HB2.out.2]; rfl, (FN.out.trans hfw).out⟩
    · have he : j = q := by omega
      have hall : NU.take j = NU := List.take_of_length_le (by rw [he, HQ.out]; exact Nat.le_refl _)
      rw [hall] at HR hcl ⊢
      have hok := rline_ok (o := ⟨6, i, c, n, f, zs⟩) (show (1 : Int) ≤ 6 ∧ (6 : Int) ≤ 7 by decide) (by rw [HNN.out]; exact HR.out)
      rw [HNN.out] at hok
      have HOKK := Lib.hid hok
      obtain ⟨d0, d1, d2, d3, d4, d5⟩ := HCell.out _ (FN2.out.trans hfw)
      clear hok hall
      have HE : Hid (oline ⟨6, i, c, n, f, zs⟩ = rfold nm NU) := by rw [HOKK.out.2, HNM.out]; show _ ++ ([].flatMap _) = _; simp
      generalize rfold nm NU = cu at *
      go_wp2
      go_ret2
      exact ⟨by rw [HOKK.out.1, HE.out]; rfl, (FN.out.trans hfw).out⟩
set_option maxHeartbeats 4000000 in
set_option maxRecDepth 100000 in
theorem rline_7 (i c n : Int) (f : Bool) (a : Option Addr) (l cp : Nat) (zs : List Int) (w : World) (hl : l = zs.length) (hz : zs.length ≤ 1000) (hi : IntsAt w (.slice a l cp) zs) :
    Calls Tryz.prog 38 #[opV 7 i c n f (.slice a l cp)] w (rlineRet ⟨7, i, c, n, f, zs⟩ w) := by
  obtain ⟨W0, hW0⟩ : ∃ W0, W0 = w.alloc (.cells #[.int .i64 7, .int .i64 i, .int .i64 c, .int .i64 n, .bool f, .slice a l cp] 58) := ⟨_, rfl⟩
  have FW0 : From w W0 := by rw [hW0]; exact (From.refl w).alloc _
  have hcc : Box6 W0 w.heap.size 7 i c n f (.slice a l cp) := by rw [hW0]; exact ⟨by go_simp, by go_simp, by go_simp, by go_simp, by go_simp, by go_simp⟩
  have HCell : Hid (∀ w', From W0 w' → Box6 w' w.heap.size 7 i c n f (.slice a l cp)) := fun w' hf => hcc.from_ hf
  have HF := Lib.hid FW0
  have HKn := Lib.hid (rkindName_any 7)
  have HNu := Lib.hid fun w' => numbers_k 7 i c n f a l cp w' (by decide)
  have hem : (str (oname 7)).toList.isEmpty = false := by rw [str_isEmpty]; rfl
  have hnml : (oname 7).length ≤ 10 := by decide
  have hnl : (onums ⟨7, i, c, n, f, zs⟩).length ≤ 1010 := by simp only [onums, Int.reduceEq, if_true, if_false, List.length_cons, List.length_nil]; omega
  have HI := Lib.hid hi
  clear hi
  have HL := Lib.hid hl
  rw [← hl] at hz
  clear hl
  generalize hnm : oname 7 = nm at *
  have HNM : Hid (oname 7 = nm) := hnm
  clear hnm
  unfold rlineRet
  go_enter Tryz.func38, Tryz.ntmps38
  obtain ⟨b0, b1, b2, b3, b4, b5⟩ := hcc
  clear FW0
  go_wp2_with fail
  rw [← hW0]
  clear hW0
  refine (HKn.out _).mono ?_
  rintro e w1 ⟨rfl, hb⟩
  have F1 : From W0 w1 := ⟨hb⟩
  obtain ⟨e0, e1, e2, e3, e4, e5⟩ := HCell.out _ F1
  clear hb b0 b1 b2 b3 b4 b5
  go_wp2_with fail
  refine (HNu.out _).mono ?_
  rintro e w2 ⟨v, rfl, hown, hb⟩
  have F2 : From W0 w2 := F1.step hb
  have FB : Hid (From w1 w2) := ⟨hb⟩
  have hs12 := hb.size
  obtain ⟨f0, f1, f2, f3, f4, f5⟩ := HCell.out _ F2
  clear hb e0 e1 e2 e3 e4 e5
  have hat : kInt.At w2 v (onums ⟨7, i, c, n, f, zs⟩) := hown.at_
  have hfn : From w2 w2 := From.refl _
  have FN := Lib.hid (HF.out.trans F2)
  have FN2 := Lib.hid F2
  obtain ⟨wn, hwn⟩ : ∃ wn : World, wn = w2 := ⟨_, rfl⟩
  subst hwn
  clear hown
  obtain ⟨ao, co, rfl, hget⟩ := ints_get hat
  have HX := Lib.hid hget
  have HNL := Lib.hid hnl
  clear hat hget
  have hNle := hnl
  generalize hNN : onums ⟨7, i, c, n, f, zs⟩ = NU at *
  have HNN := Lib.hid hNN
  clear hNN hnl
  obtain ⟨q, hq⟩ : ∃ q, q = NU.length := ⟨_, rfl⟩
  rw [← hq] at hNle ⊢
  have HQ := Lib.hid hq
  clear hq
  go_wp2
  go_loopw [4, 7] (fun sv jv wr => ∃ j : Nat, j ≤ q ∧ jv = .int .i64 j ∧ sv = .string (str (rfold nm (NU.take j))) ∧ Hid (∀ x ∈ NU.take j, inR x) ∧ From wn wr) (fun _ jv _ => q - (intOf jv).toNat)
  case atStart => exact ⟨0, Nat.zero_le _, rfl, by rw [List.take_zero, rfold_nil], fun x hx => by simp at hx, hfn⟩
  case round =>
    obtain ⟨j, hj, rfl, rfl, HR, hfw⟩ := hrel
    have hcl := rfold_len nm _ HR.out
    have htl : (NU.take j).length ≤ j := by simp; omega
    by_cases hlt : j < q
    · obtain ⟨b, off, rfl, pc⟩ := HX.out j (by rw [← HQ.out]; exact hlt)
      have p0 := hfw.cell pc
      have hst := rfold_step nm (NU.take j) (NU.getD j 0)
      rw [← take_get (by rw [← HQ.out]; exact hlt)] at hst
      have hmem : NU.getD j 0 ∈ NU := by rw [List.getD_eq_getElem?_getD, List.getElem?_eq_getElem (by rw [← HQ.out]; exact hlt)]; exact List.getElem_mem _
      have HGO : Hid (inR (NU.getD j 0) → ∀ x ∈ NU.take (j + 1), inR x) := fun h x hx => by
        rw [take_get (by rw [← HQ.out]; exact hlt), List.mem_append, List.mem_singleton] at hx
        rcases hx with hx | rfl
        · exact HR.out x hx
        · exact h
      have HBD : Hid (¬ inR (NU.getD j 0) → ocode ⟨7, i, c, n, f, zs⟩ = 4 ∧ oline ⟨7, i, c, n, f, zs⟩ = []) := fun h => rline_no (o := ⟨7, i, c, n, f, zs⟩) (show (1 : Int) ≤ 7 ∧ (7 : Int) ≤ 7 by decide) (by rw [HNN.out]; exact hmem) h
      clear pc hmem
      have hji : (0 : Int) ≤ (j : Int) := by omega
      have hjl : (j : Int) < (q : Int) := by omega
      generalize NU.getD j 0 = x at *
      by_cases hx : inR x
      · have HG2 := Lib.hid (HGO.out hx)
        have hxl := itoa_le x (by unfold inR at hx; omega) (by unfold inR at hx; omega)
        have HD : Hid (∀ w', Calls Tryz.prog 71 #[.int .i64 x] w' fun e w'' => e = .returned (.string (str (Lib.itoa x))) ∧ ∃ m, w'' = w'.drewN m) := fun w' => (decimal_any x w' (by unfold inR at hx; omega) (by unfold inR at hx; omega)).mono fun e w'' h => ⟨h.1, h.2⟩
        obtain ⟨x0, x1⟩ := hx
        have HST := Lib.hid hst
        generalize Lib.itoa x = sx at *
        generalize hcu : rfold nm (NU.take j) = cu at *
        have ha1 : ∀ w, (Op.stringOp .add (str cu) ⟨#[32]⟩).run Tryz.prog w = .ok (.string (str (cu ++ [32]))) w := fun w => add_str w cu [32] (by simp; omega)
        have ha2 : ∀ w, (Op.stringOp .add (str (cu ++ [32])) (str sx)).run Tryz.prog w = .ok (.string (str (cu ++ [32] ++ sx))) w := fun w => add_str w _ sx (by simp; omega)
        have HC2 : Hid (str (cu ++ [32] ++ sx) = str (rfold nm (NU.take (j + 1)))) := by rw [HST.out]; show str _ = str _; simp
        clear hst hcu HGO HBD
        generalize cu ++ [32] ++ sx = cu3 at *
        generalize cu ++ [32] = cu2 at *
        go_wp2_with fail
        refine (HD.out _).mono ?_
        rintro e wd ⟨rfl, m, rfl⟩
        go_wp2
        go_roundw
        case rel => exact ⟨j + 1, by omega, by go_num, by rw [HC2.out], HG2.out, hfw.drewN m⟩
        case measure => first | (simp [intOf]; omega) | omega
      · have HB2 := Lib.hid (HBD.out hx)
        have hx' : x < -4611686018427387904 ∨ (-4611686018427387904 ≤ x ∧ 4611686018427387904 < x) := by unfold inR at hx; omega
        clear hx hst HGO HBD
        generalize rfold nm (NU.take j) = cu at *
        rcases hx' with h | ⟨h, h'⟩
        · go_wp2
          go_ret2
          exact ⟨by rw [HB2.out.1, HB2.out.2]; rfl, (FN.out.trans hfw).out⟩
        · go_wp2
          go_ret2
          exact ⟨by rw [HB2.out.1, HB2.out.2]; rfl, (FN.out.trans hfw).out⟩
    · have he : j = q := by omega
      have hall : NU.take j = NU := List.take_of_length_le (by rw [he, HQ.out]; exact Nat.le_refl _)
      rw [hall] at HR hcl ⊢
      have hok := rline_ok (o := ⟨7, i, c, n, f, zs⟩) (show (1 : Int) ≤ 7 ∧ (7 : Int) ≤ 7 by decide) (by rw [HNN.out]; exact HR.out)
      rw [HNN.out] at hok
      have HOKK := Lib.hid hok
      obtain ⟨d0, d1, d2, d3, d4, d5⟩ := HCell.out _ (FN2.out.trans hfw)
      clear hok hall
      have HE : Hid (oline ⟨7, i, c, n, f, zs⟩ = rfold nm NU) := by rw [HOKK.out.2, HNM.out]; show _ ++ ([].flatMap _) = _; simp
      generalize rfold nm NU = cu at *
      go_wp2
      go_ret2
      exact ⟨by rw [HOKK.out.1, HE.out]; rfl, (FN.out.trans hfw).out⟩
theorem rline_x (k i c n : Int) (f : Bool) (a : Option Addr) (l cp : Nat) (zs : List Int) (w : World) (hk : oname k = []) :
    Calls Tryz.prog 38 #[opV k i c n f (.slice a l cp)] w (rlineRet ⟨k, i, c, n, f, zs⟩ w) := by
  have HKn := Lib.hid (rkindName_any k)
  rw [hk] at HKn
  have hem : (str []).toList.isEmpty = true := str_isEmpty []
  have HE : Hid (oline ⟨k, i, c, n, f, zs⟩ = [] ∧ ocode ⟨k, i, c, n, f, zs⟩ = 1) := by
    have e : ocode ⟨k, i, c, n, f, zs⟩ = 1 := by unfold ocode; rw [if_pos hk]
    refine ⟨?_, e⟩
    unfold oline olined
    rw [e]
    rfl
  have F0 := From.refl w
  unfold rlineRet
  clear hk
  generalize str [] = sn at *
  go_enter Tryz.func38, Tryz.ntmps38
  go_wp2_with fail
  refine (HKn.out _).mono ?_
  rintro e w1 ⟨rfl, hb⟩
  have F1 := (F0.alloc _).step hb
  clear hb
  go_wp2
  go_ret2
  exact ⟨by rw [HE.out.1, HE.out.2]; rfl, F1.out⟩
/-- hammockref04.Line. -/
theorem orline_any (k i c n : Int) (f : Bool) (am : Value) (zs : List Int) (w : World) (hz : zs.length ≤ 1000) (hi : IntsAt w am zs) :
    Calls Tryz.prog 38 #[opV k i c n f am] w (rlineRet ⟨k, i, c, n, f, zs⟩ w) := by
  have hi' := hi
  obtain ⟨a, cap, rfl, -⟩ := hi'
  by_cases hk : 1 ≤ k ∧ k ≤ 7
  · rcases kinds17 hk with rfl | rfl | rfl | rfl | rfl | rfl | rfl
    · exact rline_1 i c n f a _ cap zs w rfl hz hi
    · exact rline_2 i c n f a _ cap zs w rfl hz hi
    · exact rline_3 i c n f a _ cap zs w rfl hz hi
    · exact rline_4 i c n f a _ cap zs w rfl hz hi
    · exact rline_5 i c n f a _ cap zs w rfl hz hi
    · exact rline_6 i c n f a _ cap zs w rfl hz hi
    · exact rline_7 i c n f a _ cap zs w rfl hz hi
  · refine rline_x k i c n f a _ cap zs w ?_
    cases h : oname k with
    | nil => rfl
    | cons x r => exact absurd ((oname_iff k).1 (by rw [h]; simp)) hk
end Go.Proofs.YtdclokpoeaehlaaGreatDoor
