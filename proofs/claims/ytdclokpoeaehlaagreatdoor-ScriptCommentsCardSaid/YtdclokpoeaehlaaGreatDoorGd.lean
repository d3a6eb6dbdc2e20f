/- LogE, LogK, LogQ: together in one text. -/
import Derived.Test.YtdclokpoeaehlaaGreatDoorSLogB
import Derived.Test.YtdclokpoeaehlaaGreatDoorGa
import Derived.Test.YtdclokpoeaehlaaGreatDoorSLogD
/- log.kept at its two properties; log.Count, log.About. -/
namespace Go.Proofs.YtdclokpoeaehlaaGreatDoor
set_option linter.all false
open Go.RowKit

def countB (kind : Int) (d : Dec) : Bool := d.kind == kind
def aboutB (id : Int) (d : Dec) : Bool := d.id == id && d.kind != 1 && d.kind != 11 && d.kind != 4
theorem take_filt {ds : List Dec} {k : Nat} (f : Dec → Bool) (h : k < ds.length) : (ds.take (k + 1)).filter f = (ds.take k).filter f ++ (if f (decAt ds k) then [decAt ds k] else []) := by
  have e : decAt ds k = ds[k] := by unfold decAt; rw [List.getD_eq_getElem?_getD, List.getElem?_eq_getElem h]; rfl
  rw [List.take_succ_eq_append_getElem h, List.filter_append, e]
  congr 1
  cases hf : f ds[k] <;> simp [hf]
set_option maxRecDepth 100000 in
theorem hCount_any (kind : Int) (d : Dec) (b : Nat) (w : World) (hc : w.cell? ⟨b, 0, none⟩ = some (.int .i64 kind)) : Calls Tryz.prog 58 #[decV d, .pointer (some ⟨b, 0, none⟩)] w fun e w' => e = .returned (.bool (countB kind d)) ∧ Below w.heap.size w w' := by
  have hb := cell_lt hc
  unfold countB
  go_enter Tryz.func58, Tryz.ntmps58
  go_wp2
  go_ret
  exact ⟨rfl, (Below.refl _ _).alloc (Nat.le_refl _) _⟩
set_option maxRecDepth 100000 in
theorem hAbout_any (id : Int) (d : Dec) (b : Nat) (w : World) (hc : w.cell? ⟨b, 0, none⟩ = some (.int .i64 id)) : Calls Tryz.prog 59 #[decV d, .pointer (some ⟨b, 0, none⟩)] w fun e w' => e = .returned (.bool (aboutB id d)) ∧ Below w.heap.size w w' := by
  have hb := cell_lt hc
  obtain ⟨k, x, y, z⟩ := d
  unfold aboutB
  simp only
  cases h1 : (x == id)
  · go_enter Tryz.func59, Tryz.ntmps59
    go_wp2
    go_ret
    exact ⟨rfl, (Below.refl _ _).alloc (Nat.le_refl _) _⟩
  · cases h2 : (k != 1)
    · go_enter Tryz.func59, Tryz.ntmps59
      go_wp2
      go_ret
      exact ⟨rfl, (Below.refl _ _).alloc (Nat.le_refl _) _⟩
    · cases h3 : (k != 11)
      · go_enter Tryz.func59, Tryz.ntmps59
        go_wp2
        go_ret
        exact ⟨rfl, (Below.refl _ _).alloc (Nat.le_refl _) _⟩
      · go_enter Tryz.func59, Tryz.ntmps59
        go_wp2
        go_ret
        exact ⟨rfl, (Below.refl _ _).alloc (Nat.le_refl _) _⟩
set_option maxHeartbeats 4000000 in
set_option maxRecDepth 100000 in
theorem keptCount_some (kind : Int) (g b off cap : Nat) (ds : List Dec) (w : World) (hx : ds.length * 32 ≤ 140737488351232) (hb : b < w.heap.size) (hg : w.cell? ⟨g, 0, none⟩ = some (.int .i64 kind))
    (hc : ∀ j, j < ds.length → DecCells w b (off + j * 4) (decAt ds j)) :
    Calls Tryz.prog 57 #[.slice (some ⟨b, off, none⟩) ds.length cap, .func (.func 58) #[] #[.pointer (some ⟨g, 0, none⟩)]] w fun e w' => ∃ v, e = .returned v ∧ kDec.Own w.heap.size w' v (ds.filter (countB kind)) ∧ Below w.heap.size w w' := by
  obtain ⟨l, hl⟩ : ∃ n, n = ds.length := ⟨_, rfl⟩
  rw [← hl] at hx ⊢
  have HL := Lib.hid hl; clear hl
  have HC := Lib.hid hc; clear hc
  have HG := Lib.hid hg; clear hg
  have HH := Lib.hid (hCount_any kind)
  go_enter Tryz.func57, Tryz.ntmps57
  go_wp2
  go_loopw [5, 10] (fun v i wr => ∃ k : Nat, k ≤ l ∧ i = .int .i64 k ∧ kDec.Own w.heap.size wr v ((ds.take k).filter (countB kind)) ∧ From w wr) (fun _ i _ => l - (intOf i).toNat)
  case atStart => exact ⟨0, Nat.zero_le _, rfl, Kin.Own.nil _ _ _, From.refl _⟩
  case round =>
    obtain ⟨k, hk, rfl, hown, hfw⟩ := hrel
    by_cases hlt : k < l
    · have hcc := (HC.out k (by rw [← HL.out]; exact hlt)).below hfw.out hb
      have hst := take_filt (ds := ds) (k := k) (countB kind) (by rw [← HL.out]; exact hlt)
      have hle : ((ds.take k).filter (countB kind)).length ≤ k := Nat.le_trans (List.length_filter_le _ _) (by simp; omega)
      generalize decAt ds k = x at *
      obtain ⟨p0, p1, p2, p3⟩ := hcc
      have hki : (0 : Int) ≤ (k : Int) := by omega
      have hkl : (k : Int) < (l : Int) := by omega
      have hsz := hfw.out.size
      obtain ⟨ao, co, rfl⟩ := hown.shape
      have HOWN := Lib.hid hown; clear hown
      generalize List.filter (countB kind) (List.take k ds) = F at *
      go_wp2_with fail
      refine calls_named fun W1 hW1 => ?_
      have F1 : From wr W1 := by rw [hW1]; exact (From.refl _).alloc _
      have n0 : W1.cell? ⟨wr.heap.size, 0, none⟩ = some (.int .i64 x.kind) := by rw [hW1]; go_simp
      have n1 : W1.cell? ⟨wr.heap.size, 1, none⟩ = some (.int .i64 x.id) := by rw [hW1]; go_simp
      have n2 : W1.cell? ⟨wr.heap.size, 2, none⟩ = some (.int .i64 x.node) := by rw [hW1]; go_simp
      have n3 : W1.cell? ⟨wr.heap.size, 3, none⟩ = some (.int .i64 x.at_) := by rw [hW1]; go_simp
      have HG1 := (hfw.trans F1).cell HG.out
      clear hW1
      refine (HH.out x g W1 HG1).mono ?_
      rintro e w2 ⟨rfl, hb2⟩
      have F2 : From wr w2 := F1.step hb2
      have m0 := keepl hb2 n0
      have m1 := keepl hb2 n1
      have m2 := keepl hb2 n2
      have m3 := keepl hb2 n3
      clear n0 n1 n2 n3 hb2 F1 HG1
      cases hd0 : countB kind x
      · have hst' : (ds.take (k + 1)).filter (countB kind) = F := by rw [hst]; simp [hd0]
        have HST := Lib.hid hst'; clear hst hst'
        go_wp2
        go_roundw
        case rel => exact ⟨k + 1, by omega, by go_num, by rw [HST.out]; exact HOWN.out.below F2.out, hfw.trans F2⟩
        case measure => simp [intOf]; omega
      · have hst' : (ds.take (k + 1)).filter (countB kind) = F ++ [x] := by rw [hst]; simp [hd0]
        have HST := Lib.hid hst'; clear hst hst'
        have hOW : kDec.Own w.heap.size (w2.alloc (.cells #[.int .i64 x.kind, .int .i64 x.id, .int .i64 x.node, .int .i64 x.at_] 23)) (.slice ao F.length co) F := (HOWN.out.below F2.out).alloc _
        have HOW := Lib.hid hOW; clear hOW
        have hs2 := F2.out.size
        go_wp2_with (at_builtin; go_must (refine Kin.append1 kDec rfl _ _ rfl w.heap.size _ F rfl HOW.out w2.heap.size x rfl (cells4_of (by go_simp) (by go_simp) (by go_simp) (by go_simp)) (by unfold maxLen; omega) (by show _ * 32 ≤ _; omega) (by first | (simp; done) | (simp; omega)) ?_; intro v' w3 hown' hbel hgrow; obtain ⟨a2, c2, rfl⟩ := hown'.shape; have HO2 := Lib.hid hown'; clear hown'))
        go_roundw
        case rel => exact ⟨k + 1, by omega, by go_num, by rw [HST.out]; have h := HO2.out; rw [List.length_append] at h; exact h, ⟨(hfw.trans F2).out.trans (((Below.refl _ _).alloc (by omega) _).trans hbel)⟩⟩
        case measure => simp [intOf]; omega
    · have he : k = l := by omega
      have hfin : Hid ((ds.take k).filter (countB kind) = ds.filter (countB kind)) := by rw [he, HL.out, List.take_length]; rfl
      obtain ⟨ao, co, rfl⟩ := hown.shape
      have HOWN := Lib.hid hown; clear hown
      generalize (List.filter (countB kind) (List.take k ds)).length = m at *
      go_wp2
      go_ret
      exact ⟨_, rfl, by rw [← hfin.out]; exact HOWN.out, hfw.out⟩
set_option maxRecDepth 100000 in
theorem keptCount_none (kind : Int) (g : Nat) (a : Option Addr) (cap : Nat) (w : World) :
    Calls Tryz.prog 57 #[.slice a 0 cap, .func (.func 58) #[] #[.pointer (some ⟨g, 0, none⟩)]] w fun e w' => e = .returned (.slice none 0 0) ∧ w = w' := by
  go_enter Tryz.func57, Tryz.ntmps57
  go_wp2
  refine wp_loop_rounds 1 ?_
  rw [rounds_succ]
  go_wp2
  go_ret
  exact ⟨rfl, rfl⟩
theorem keptCount_any (kind : Int) (g : Nat) (v : Value) (ds : List Dec) (w : World) (hx : ds.length * 32 ≤ 140737488351232) (hg : w.cell? ⟨g, 0, none⟩ = some (.int .i64 kind)) (h : kDec.At w v ds) :
    Calls Tryz.prog 57 #[v, .func (.func 58) #[] #[.pointer (some ⟨g, 0, none⟩)]] w fun e w' => ∃ v, e = .returned v ∧ kDec.Own w.heap.size w' v (ds.filter (countB kind)) ∧ Below w.heap.size w w' := by
  obtain ⟨a, cap, rfl, rfl | ⟨b, off, rfl, hlt, hc⟩⟩ := h
  · exact (keptCount_none kind g a cap w).mono fun e w' ⟨he, hw⟩ => ⟨_, he, Kin.Own.nil _ _ _, hw ▸ Below.refl _ _⟩
  · exact keptCount_some kind g b off cap ds w hx hlt hg (decs_cells hc)
set_option maxHeartbeats 4000000 in
set_option maxRecDepth 100000 in
theorem keptAbout_some (id : Int) (g b off cap : Nat) (ds : List Dec) (w : World) (hx : ds.length * 32 ≤ 140737488351232) (hb : b < w.heap.size) (hg : w.cell? ⟨g, 0, none⟩ = some (.int .i64 id))
    (hc : ∀ j, j < ds.length → DecCells w b (off + j * 4) (decAt ds j)) :
    Calls Tryz.prog 57 #[.slice (some ⟨b, off, none⟩) ds.length cap, .func (.func 59) #[] #[.pointer (some ⟨g, 0, none⟩)]] w fun e w' => ∃ v, e = .returned v ∧ kDec.Own w.heap.size w' v (ds.filter (aboutB id)) ∧ Below w.heap.size w w' := by
  obtain ⟨l, hl⟩ : ∃ n, n = ds.length := ⟨_, rfl⟩
  rw [← hl] at hx ⊢
  have HL := Lib.hid hl; clear hl
  have HC := Lib.hid hc; clear hc
  have HG := Lib.hid hg; clear hg
  have HH := Lib.hid (hAbout_any id)
  go_enter Tryz.func57, Tryz.ntmps57
  go_wp2
  go_loopw [5, 10] (fun v i wr => ∃ k : Nat, k ≤ l ∧ i = .int .i64 k ∧ kDec.Own w.heap.size wr v ((ds.take k).filter (aboutB id)) ∧ From w wr) (fun _ i _ => l - (intOf i).toNat)
  case atStart => exact ⟨0, Nat.zero_le _, rfl, Kin.Own.nil _ _ _, From.refl _⟩
  case round =>
    obtain ⟨k, hk, rfl, hown, hfw⟩ := hrel
    by_cases hlt : k < l
    · have hcc := (HC.out k (by rw [← HL.out]; exact hlt)).below hfw.out hb
      have hst := take_filt (ds := ds) (k := k) (aboutB id) (by rw [← HL.out]; exact hlt)
      have hle : ((ds.take k).filter (aboutB id)).length ≤ k := Nat.le_trans (List.length_filter_le _ _) (by simp; omega)
      generalize decAt ds k = x at *
      obtain ⟨p0, p1, p2, p3⟩ := hcc
      have hki : (0 : Int) ≤ (k : Int) := by omega
      have hkl : (k : Int) < (l : Int) := by omega
      have hsz := hfw.out.size
      obtain ⟨ao, co, rfl⟩ := hown.shape
      have HOWN := Lib.hid hown; clear hown
      generalize List.filter (aboutB id) (List.take k ds) = F at *
      go_wp2_with fail
      refine calls_named fun W1 hW1 => ?_
      have F1 : From wr W1 := by rw [hW1]; exact (From.refl _).alloc _
      have n0 : W1.cell? ⟨wr.heap.size, 0, none⟩ = some (.int .i64 x.kind) := by rw [hW1]; go_simp
      have n1 : W1.cell? ⟨wr.heap.size, 1, none⟩ = some (.int .i64 x.id) := by rw [hW1]; go_simp
      have n2 : W1.cell? ⟨wr.heap.size, 2, none⟩ = some (.int .i64 x.node) := by rw [hW1]; go_simp
      have n3 : W1.cell? ⟨wr.heap.size, 3, none⟩ = some (.int .i64 x.at_) := by rw [hW1]; go_simp
      have HG1 := (hfw.trans F1).cell HG.out
      clear hW1
      refine (HH.out x g W1 HG1).mono ?_
      rintro e w2 ⟨rfl, hb2⟩
      have F2 : From wr w2 := F1.step hb2
      have m0 := keepl hb2 n0
      have m1 := keepl hb2 n1
      have m2 := keepl hb2 n2
      have m3 := keepl hb2 n3
      clear n0 n1 n2 n3 hb2 F1 HG1
      cases hd0 : aboutB id x
      · have hst' : (ds.take (k + 1)).filter (aboutB id) = F := by rw [hst]; simp [hd0]
        have HST := Lib.hid hst'; clear hst hst'
        go_wp2
        go_roundw
        case rel => exact ⟨k + 1, by omega, by go_num, by rw [HST.out]; exact HOWN.out.below F2.out, hfw.trans F2⟩
        case measure => simp [intOf]; omega
      · have hst' : (ds.take (k + 1)).filter (aboutB id) = F ++ [x] := by rw [hst]; simp [hd0]
        have HST := Lib.hid hst'; clear hst hst'
        have hOW : kDec.Own w.heap.size (w2.alloc (.cells #[.int .i64 x.kind, .int .i64 x.id, .int .i64 x.node, .int .i64 x.at_] 23)) (.slice ao F.length co) F := (HOWN.out.below F2.out).alloc _
        have HOW := Lib.hid hOW; clear hOW
        have hs2 := F2.out.size
        go_wp2_with (at_builtin; go_must (refine Kin.append1 kDec rfl _ _ rfl w.heap.size _ F rfl HOW.out w2.heap.size x rfl (cells4_of (by go_simp) (by go_simp) (by go_simp) (by go_simp)) (by unfold maxLen; omega) (by show _ * 32 ≤ _; omega) (by first | (simp; done) | (simp; omega)) ?_; intro v' w3 hown' hbel hgrow; obtain ⟨a2, c2, rfl⟩ := hown'.shape; have HO2 := Lib.hid hown'; clear hown'))
        go_roundw
        case rel => exact ⟨k + 1, by omega, by go_num, by rw [HST.out]; have h := HO2.out; rw [List.length_append] at h; exact h, ⟨(hfw.trans F2).out.trans (((Below.refl _ _).alloc (by omega) _).trans hbel)⟩⟩
        case measure => simp [intOf]; omega
    · have he : k = l := by omega
      have hfin : Hid ((ds.take k).filter (aboutB id) = ds.filter (aboutB id)) := by rw [he, HL.out, List.take_length]; rfl
      obtain ⟨ao, co, rfl⟩ := hown.shape
      have HOWN := Lib.hid hown; clear hown
      generalize (List.filter (aboutB id) (List.take k ds)).length = m at *
      go_wp2
      go_ret
      exact ⟨_, rfl, by rw [← hfin.out]; exact HOWN.out, hfw.out⟩
set_option maxRecDepth 100000 in
theorem keptAbout_none (id : Int) (g : Nat) (a : Option Addr) (cap : Nat) (w : World) :
    Calls Tryz.prog 57 #[.slice a 0 cap, .func (.func 59) #[] #[.pointer (some ⟨g, 0, none⟩)]] w fun e w' => e = .returned (.slice none 0 0) ∧ w = w' := by
  go_enter Tryz.func57, Tryz.ntmps57
  go_wp2
  refine wp_loop_rounds 1 ?_
  rw [rounds_succ]
  go_wp2
  go_ret
  exact ⟨rfl, rfl⟩
theorem keptAbout_any (id : Int) (g : Nat) (v : Value) (ds : List Dec) (w : World) (hx : ds.length * 32 ≤ 140737488351232) (hg : w.cell? ⟨g, 0, none⟩ = some (.int .i64 id)) (h : kDec.At w v ds) :
    Calls Tryz.prog 57 #[v, .func (.func 59) #[] #[.pointer (some ⟨g, 0, none⟩)]] w fun e w' => ∃ v, e = .returned v ∧ kDec.Own w.heap.size w' v (ds.filter (aboutB id)) ∧ Below w.heap.size w w' := by
  obtain ⟨a, cap, rfl, rfl | ⟨b, off, rfl, hlt, hc⟩⟩ := h
  · exact (keptAbout_none id g a cap w).mono fun e w' ⟨he, hw⟩ => ⟨_, he, Kin.Own.nil _ _ _, hw ▸ Below.refl _ _⟩
  · exact keptAbout_some id g b off cap ds w hx hlt hg (decs_cells hc)
set_option maxRecDepth 100000 in
theorem count_any (v : Value) (ds : List Dec) (kind : Int) (w : World) (hx : ds.length * 32 ≤ 140737488351232) (h : kDec.At w v ds) :
    Calls Tryz.prog 26 #[v, .int .i64 kind] w fun e w' => e = .returned (.int .i64 ((ds.filter (countB kind)).length : Int)) ∧ Below w.heap.size w w' := by
  have hb : Below w.heap.size w (w.alloc (.cells #[.int .i64 kind] 3)) := (Below.refl _ _).alloc (Nat.le_refl _) _
  have I := keptCount_any kind w.heap.size v ds (w.alloc (.cells #[.int .i64 kind] 3)) hx (by go_simp) (h.below hb)
  have hle : (ds.filter (countB kind)).length ≤ ds.length := List.length_filter_le _ _
  obtain ⟨m, hm⟩ : ∃ m : Nat, m = (ds.filter (countB kind)).length := ⟨_, rfl⟩
  rw [← hm] at hle ⊢
  have HM := Lib.hid hm; clear hm
  have HI := Lib.hid I
  have HB := Lib.hid hb
  clear I hb h
  go_enter Tryz.func26, Tryz.ntmps26
  go_wp2_with fail
  refine HI.out.mono ?_
  rintro e w1 ⟨u, rfl, hown, hb1⟩
  obtain ⟨ao, co, hu⟩ := hown.shape
  rw [← HM.out] at hu
  subst hu
  clear hown
  go_wp2
  go_ret
  exact ⟨rfl, HB.out.trans (hb1.mono HB.out.size)⟩
set_option maxRecDepth 100000 in
theorem about_any (v : Value) (ds : List Dec) (id : Int) (w : World) (hx : ds.length * 32 ≤ 140737488351232) (h : kDec.At w v ds) :
    Calls Tryz.prog 27 #[v, .int .i64 id] w fun e w' => ∃ v', e = .returned v' ∧ kDec.Own w.heap.size w' v' (ds.filter (aboutB id)) ∧ Below w.heap.size w w' := by
  have hb : Below w.heap.size w (w.alloc (.cells #[.int .i64 id] 3)) := (Below.refl _ _).alloc (Nat.le_refl _) _
  have I := keptAbout_any id w.heap.size v ds (w.alloc (.cells #[.int .i64 id] 3)) hx (by go_simp) (h.below hb)
  have HI := Lib.hid I
  have HB := Lib.hid hb
  clear I hb h
  go_enter Tryz.func27, Tryz.ntmps27
  go_wp2_with fail
  refine HI.out.mono ?_
  rintro e w1 ⟨u, rfl, hown, hb1⟩
  have HO := Lib.hid (hown.low HB.out.size)
  clear hown
  go_wp2
  go_ret
  exact ⟨_, rfl, HO.out, HB.out.trans (hb1.mono HB.out.size)⟩
end Go.Proofs.YtdclokpoeaehlaaGreatDoor
/- hammockref04.Words. -/
namespace Go.Proofs.YtdclokpoeaehlaaGreatDoor
set_option linter.all false
open Go.RowKit

theorem cells1_of {w : World} {g : Nat} {x : List UInt8} (h0 : w.cell? ⟨g, 0, none⟩ = some (.string (str x))) : ∀ j u, (kStr.enc x)[j]? = some u → w.cell? ⟨g, j, none⟩ = some u
  | 0, _, h => by cases h; exact h0
  | _ + 1, _, h => by cases h
/-- The words so far. -/
def WordsAt (s : ByteArray) (k f : Nat) (xs : List (List UInt8)) : Prop :=
  (k ≤ s.size ∧ f ≤ k ∧ (∀ j, f ≤ j → j < k → s.data.toList[j]? ≠ some 32) ∧ Lib.split s.data.toList [32] = xs ++ Lib.split (s.data.toList.drop f) [32]) ∨ (s.size < k ∧ Lib.split s.data.toList [32] = xs)
theorem WordsAt.last {s : ByteArray} {f : Nat} {xs : List (List UInt8)} (h : WordsAt s s.size f xs) : f ≤ s.size ∧ ∀ k, s.size < k → ∀ f', WordsAt s k f' (xs ++ [(s.extract f s.size).data.toList]) := by
  rcases h with ⟨h1, h2, h3, h4⟩ | ⟨h, _⟩
  · refine ⟨h2, fun k hk f' => .inr ⟨hk, ?_⟩⟩
    rw [h4, split1_end, extract_list _ _ _ (Nat.le_refl _), List.take_of_length_le (by rw [List.length_drop, size_toList]; omega)]
    intro j hj e
    rcases Nat.lt_or_ge j s.size with h | h
    · exact h3 j hj h e
    · rw [byte_none s j h] at e; cases e
  · omega
theorem WordsAt.hit {s : ByteArray} {k f : Nat} {xs : List (List UInt8)} (h : WordsAt s k f xs) (hk : k < s.size) (hb : s[k].toNat = 32) : f ≤ k ∧ WordsAt s (k + 1) (k + 1) (xs ++ [(s.extract f k).data.toList]) := by
  rcases h with ⟨h1, h2, h3, h4⟩ | ⟨h, _⟩
  · refine ⟨h2, .inl ⟨by omega, Nat.le_refl _, fun j _ _ => by omega, ?_⟩⟩
    rw [h4, split1_hit h2 ((byte_eq hk (c := 32)).2 hb) h3, extract_list _ _ _ (by omega)]
    simp
  · omega
theorem WordsAt.miss {s : ByteArray} {k f : Nat} {xs : List (List UInt8)} (h : WordsAt s k f xs) (hk : k < s.size) (hb : s[k].toNat ≠ 32) : WordsAt s (k + 1) f xs := by
  rcases h with ⟨h1, h2, h3, h4⟩ | ⟨h, _⟩
  · refine .inl ⟨by omega, by omega, fun j hj hjk e => ?_, h4⟩
    rcases Nat.lt_or_ge j k with h | h
    · exact h3 j hj h e
    · have : j = k := by omega
      subst this
      exact hb ((byte_eq hk (c := 32)).1 e)
  · omega
theorem WordsAt.done {s : ByteArray} {k f : Nat} {xs : List (List UInt8)} (h : WordsAt s k f xs) (hk : s.size < k) : Lib.split s.data.toList [32] = xs := by
  rcases h with ⟨h1, _⟩ | ⟨_, h⟩
  · omega
  · exact h
set_option maxHeartbeats 4000000 in
set_option maxRecDepth 100000 in
theorem words_any (s : ByteArray) (w : World) (hs : s.size < 4294967281) :
    Calls Tryz.prog 52 #[.string s] w fun e w' => ∃ v, e = .returned v ∧ kStr.Own w.heap.size w' v (Lib.split s.data.toList [32]) ∧ Below w.heap.size w w' := by
  go_enter Tryz.func52, Tryz.ntmps52
  go_wp2
  go_loopw [3, 4, 5] (fun v fr i wr => ∃ (k f : Nat) (xs : List (List UInt8)), k ≤ s.size + 1 ∧ f ≤ s.size + 1 ∧ xs.length ≤ k ∧ i = .int .i64 k ∧ fr = .int .i64 f ∧ Hid (WordsAt s k f xs) ∧ kStr.Own w.heap.size wr v xs ∧ From w wr) (fun _ _ i _ => s.size + 1 - (intOf i).toNat)
  case atStart => exact ⟨0, 0, [], Nat.zero_le _, Nat.zero_le _, Nat.zero_le _, rfl, rfl, .inl ⟨Nat.zero_le _, Nat.le_refl _, fun j _ h => by omega, rfl⟩, Kin.Own.nil _ _ _, From.refl _⟩
  case round =>
    obtain ⟨k, f, xs, hk, hf, hxl, rfl, rfl, HW, hown, hfw⟩ := hrel
    obtain ⟨ao, co, rfl⟩ := hown.shape
    have HOWN := Lib.hid hown; clear hown
    have hsz := hfw.out.size
    by_cases h0 : s.size < k
    · have hfin := Lib.hid (HW.out.done h0)
      clear HW
      generalize xs.length = m at *
      go_wp2
      go_ret
      exact ⟨_, rfl, by rw [hfin.out]; exact HOWN.out, hfw.out⟩
    · have hki : (0 : Int) ≤ (k : Int) := by omega
      have hfi : (0 : Int) ≤ (f : Int) := by omega
      by_cases h1 : k = s.size
      · obtain ⟨hfk, hnx⟩ := (h1 ▸ HW.out).last
        have HN := Lib.hid (hnx (k + 1) (by omega) (k + 1))
        have hfk' : f ≤ k := by omega
        have hke : (k : Int) = (s.size : Int) := by omega
        have hks : s.size ≤ k := by omega
        have HK := Lib.hid h1
        have hOW : kStr.Own w.heap.size (wr.alloc (.cells #[.string (s.extract f s.size)] 9)) (.slice ao xs.length co) xs := HOWN.out.alloc _
        have HOW := Lib.hid hOW; clear hOW
        clear HW hnx h1 hfk
        go_wp2_with (at_builtin; go_must (refine Kin.append1 kStr rfl _ _ rfl w.heap.size _ xs rfl HOW.out wr.heap.size (s.extract f s.size).data.toList rfl (cells1_of (by rw [str_data]; go_simp)) (by unfold maxLen; omega) (by show _ * 16 ≤ _; omega) (by first | (simp; done) | (simp; omega)) ?_; intro v' w3 hown' hbel hgrow; obtain ⟨a2, c2, rfl⟩ := hown'.shape; have HO2 := Lib.hid hown'; clear hown'))
        go_roundw
        case rel => exact ⟨k + 1, k + 1, xs ++ [(s.extract f s.size).data.toList], by omega, by omega, by rw [List.length_append]; simp; omega, by go_num, by go_num, HN.out, by have h := HO2.out; rw [List.length_append] at h; exact h, ⟨hfw.out.trans (((Below.refl _ _).alloc (by omega) _).trans hbel)⟩⟩
        case measure => first | (simp [intOf]; omega) | omega
      · have hkl : k < s.size := by omega
        by_cases h2 : s[k].toNat = 32
        · obtain ⟨hfk, hnx⟩ := HW.out.hit hkl h2
          have HN := Lib.hid hnx
          have hb : ((s[k].toNat : Int) == 32) = true := by rw [beq_iff_eq]; omega
          have hne : ((k : Int) == (s.size : Int)) = false := by rw [beq_eq_false_iff_ne]; omega
          have hOW : kStr.Own w.heap.size (wr.alloc (.cells #[.string (s.extract f k)] 9)) (.slice ao xs.length co) xs := HOWN.out.alloc _
          have HOW := Lib.hid hOW; clear hOW
          clear HW hnx h1 h2
          go_wp2_with (at_builtin; go_must (refine Kin.append1 kStr rfl _ _ rfl w.heap.size _ xs rfl HOW.out wr.heap.size (s.extract f k).data.toList rfl (cells1_of (by rw [str_data]; go_simp)) (by unfold maxLen; omega) (by show _ * 16 ≤ _; omega) (by first | (simp; done) | (simp; omega)) ?_; intro v' w3 hown' hbel hgrow; obtain ⟨a2, c2, rfl⟩ := hown'.shape; have HO2 := Lib.hid hown'; clear hown'))
          go_roundw
          case rel => exact ⟨k + 1, k + 1, xs ++ [(s.extract f k).data.toList], by omega, by omega, by rw [List.length_append]; simp; omega, by go_num, by go_num, HN.out, by have h := HO2.out; rw [List.length_append] at h; exact h, ⟨hfw.out.trans (((Below.refl _ _).alloc (by omega) _).trans hbel)⟩⟩
          case measure => first | (simp [intOf]; omega) | omega
        · have HN := Lib.hid (HW.out.miss hkl h2)
          have hb : ((s[k].toNat : Int) == 32) = false := by rw [beq_eq_false_iff_ne]; omega
          have hne : ((k : Int) == (s.size : Int)) = false := by rw [beq_eq_false_iff_ne]; omega
          clear HW h1 h2
          go_wp2
          go_roundw
          case rel => exact ⟨k + 1, f, xs, by omega, by omega, by omega, by go_num, rfl, HN.out, HOWN.out, hfw⟩
          case measure => first | (simp [intOf]; omega) | omega
end Go.Proofs.YtdclokpoeaehlaaGreatDoor
/- log.Answer of decisions, and its reference. -/
namespace Go.Proofs.YtdclokpoeaehlaaGreatDoor
set_option linter.all false
open Go.RowKit

theorem join_len (sep : List UInt8) (m : Nat) : ∀ xs : List (List UInt8), (∀ x ∈ xs, x.length ≤ m) → (Lib.join xs sep).length ≤ xs.length * (m + sep.length)
  | [], _ => by simp [Lib.join_nil]
  | [x], h => by rw [Lib.join_one]; have := h x (by simp); simp; omega
  | x :: y :: r, h => by
    rw [join_cons2, List.length_append, List.length_append]
    have h1 := h x (by simp)
    have h2 := join_len sep m (y :: r) (fun z hz => h z (by simp [List.mem_cons.1 hz]))
    rw [List.length_cons (a := x), Nat.succ_mul]
    omega
/-- The lines so far. -/
def linesOf (ds : List Dec) : List (List UInt8) := (ds.filter lined).map dline
theorem linesOf_take {ds : List Dec} {k : Nat} (h : k < ds.length) : linesOf (ds.take (k + 1)) = linesOf (ds.take k) ++ (if lined (decAt ds k) then [dline (decAt ds k)] else []) := by
  unfold linesOf
  rw [take_filt lined h, List.map_append]
  congr 1
  split <;> rfl
theorem linesOf_len (ds : List Dec) : (linesOf ds).length ≤ ds.length := by
  unfold linesOf
  rw [List.length_map]
  exact List.length_filter_le _ _
theorem linesOf_le (ds : List Dec) : ∀ x ∈ linesOf ds, x.length ≤ 100 := by
  intro x hx
  obtain ⟨d, _, rfl⟩ := List.mem_map.1 hx
  exact dline_le d
theorem danswer_lines (ds : List Dec) : danswer ds = if linesOf ds = [] then sNone else Lib.join (linesOf ds) [44, 32] := by
  unfold danswer linesOf
  by_cases h : ds.filter lined = []
  · rw [if_pos h, if_pos (by rw [h]; rfl)]
  · rw [if_neg h, if_neg (by simpa using h)]
theorem linesOf_ne (ds : List Dec) : ∀ x ∈ linesOf ds, x ≠ [] := by
  intro x hx
  obtain ⟨d, hd, rfl⟩ := List.mem_map.1 hx
  exact dline_ne (List.mem_filter.1 hd).2
theorem Kin.Own.cap {α : Type} {k : Kin α} {base : Nat} {w : World} {v : Value} {xs : List α} (h : k.Own base w v xs) : ∀ a n c, v = .slice a n c → n ≤ c := by
  intro a n c e
  have h' : w.ownsRow base k.e k.size v xs.length (k.row xs) := h
  rcases h'.2 with ⟨rfl, h0⟩ | ⟨g, cap, cur, rfl, hb, hg, hn, hc, hs, ht⟩
  · cases e; exact Nat.le_refl _
  · cases e; exact hn
set_option maxHeartbeats 4000000 in
set_option maxRecDepth 100000 in
theorem lanswer_some (b off cap : Nat) (ds : List Dec) (w : World) (hx : ds.length ≤ 1000) (hb : b < w.heap.size) (ht : Tabs w) (hn : NamesAt w)
    (hc : ∀ j, j < ds.length → DecCells w b (off + j * 4) (decAt ds j)) :
    Calls Tryz.prog 24 #[.slice (some ⟨b, off, none⟩) ds.length cap, .nilIface] w fun e w' => e = .returned (.string (str (danswer ds))) ∧ Below w.heap.size w w' := by
  have hda := danswer_lines ds
  obtain ⟨l, hl⟩ : ∃ n, n = ds.length := ⟨_, rfl⟩
  rw [← hl] at hx ⊢
  have HL := Lib.hid hl; clear hl
  have HDA := Lib.hid hda; clear hda
  have HC := Lib.hid hc; clear hc
  have HT := Lib.hid ht
  have HN := Lib.hid hn
  clear ht hn
  go_enter Tryz.func24, Tryz.ntmps24
  go_wp2
  go_loopw [8, 31] (fun v i wr => ∃ k : Nat, k ≤ l ∧ i = .int .i64 k ∧ kStr.Own w.heap.size wr v (linesOf (ds.take k)) ∧ From w wr) (fun _ i _ => l - (intOf i).toNat)
  case atStart => exact ⟨0, Nat.zero_le _, rfl, Kin.Own.nil _ _ _, From.refl _⟩
  case round =>
    obtain ⟨k, hk, rfl, hown, hfw⟩ := hrel
    have hsz := hfw.out.size
    by_cases hlt : k < l
    · have hcc := (HC.out k (by rw [← HL.out]; exact hlt)).below hfw.out hb
      have hst := linesOf_take (ds := ds) (k := k) (by rw [← HL.out]; exact hlt)
      have hle : (linesOf (ds.take k)).length ≤ k := Nat.le_trans (linesOf_len _) (by simp; omega)
      obtain ⟨x, hxx⟩ : ∃ x, x = decAt ds k := ⟨_, rfl⟩
      rw [← hxx] at hcc hst
      clear hxx
      obtain ⟨p0, p1, p2, p3⟩ := hcc
      have hki : (0 : Int) ≤ (k : Int) := by omega
      have hkl : (k : Int) < (l : Int) := by omega
      obtain ⟨ao, co, rfl⟩ := hown.shape
      have HOWN := Lib.hid hown; clear hown
      have HLN : Hid (∀ w', From w w' → Calls Tryz.prog 17 #[decV x] w' fun e w'' => e = .returned (.tuple #[.string (str (dline x)), .bool (lined x)]) ∧ Below w'.heap.size w' w'') := fun w' hf => line_any x w' (HT.out.from_ hf) (HN.out.below hf.out)
      generalize linesOf (ds.take k) = F at *
      generalize dline x = sx at *
      go_wp2_with fail
      refine calls_named fun W1 hW1 => ?_
      have F1 : From wr W1 := by rw [hW1]; exact (From.refl _).alloc _
      clear hW1
      refine (HLN.out W1 (hfw.trans F1)).mono ?_
      rintro e w2 ⟨rfl, hb2⟩
      have F2 : From wr w2 := F1.step hb2
      clear hb2 F1
      have hs2 := F2.out.size
      cases hd0 : lined x
      · have hst' : linesOf (ds.take (k + 1)) = F := by rw [hst, hd0]; simp
        have HST := Lib.hid hst'; clear hst hst'
        go_wp2
        go_roundw
        case rel => exact ⟨k + 1, by omega, by go_num, by rw [HST.out]; exact HOWN.out.below F2.out, hfw.trans F2⟩
        case measure => first | (simp [intOf]; omega) | omega
      · have hst' : linesOf (ds.take (k + 1)) = F ++ [sx] := by rw [hst, hd0]; simp
        have HST := Lib.hid hst'; clear hst hst'
        have hOW : kStr.Own w.heap.size (w2.alloc (.cells #[.string (str sx)] 9)) (.slice ao F.length co) F := (HOWN.out.below F2.out).alloc _
        have HOW := Lib.hid hOW; clear hOW
        go_wp2_with (at_builtin; go_must (refine Kin.append1 kStr rfl _ _ rfl w.heap.size _ F rfl HOW.out w2.heap.size sx rfl (cells1_of (by go_simp)) (by unfold maxLen; omega) (by show _ * 16 ≤ _; omega) (by first | (simp; done) | (simp; omega)) ?_; intro v' w3 hown' hbel hgrow; obtain ⟨a2, c2, rfl⟩ := hown'.shape; have HO2 := Lib.hid hown'; clear hown'))
        go_roundw
        case rel => exact ⟨k + 1, by omega, by go_num, by rw [HST.out]; have h := HO2.out; rw [List.length_append] at h; exact h, ⟨(hfw.trans F2).out.trans (((Below.refl _ _).alloc (by omega) _).trans hbel)⟩⟩
        case measure => first | (simp [intOf]; omega) | omega
    · have he : k = l := by omega
      have hfin : Hid (linesOf (ds.take k) = linesOf ds) := by rw [he, HL.out, List.take_length]; rfl
      have hlen : (linesOf (ds.take k)).length ≤ 1000 := Nat.le_trans (linesOf_len _) (by simp; omega)
      have hjl : (Lib.join (linesOf (ds.take k)) [44, 32]).length ≤ 140737488355328 := Nat.le_trans (join_len _ 100 _ (linesOf_le _)) (by simp; omega)
      have hat := hown.at_
      have hcap := hown.cap
      obtain ⟨ao, co, rfl⟩ := hown.shape
      clear hown
      have HJ := Lib.hid (join_any _ (linesOf (ds.take k)) [44, 32] wr hat hcap (by omega) hjl)
      have hda : danswer ds = if linesOf (ds.take k) = [] then sNone else Lib.join (linesOf (ds.take k)) [44, 32] := by rw [hfin.out]; exact HDA.out
      generalize linesOf (ds.take k) = F at *
      clear hat hcap hjl
      by_cases hF : F = []
      · subst hF
        rw [if_pos rfl] at hda
        have HD := Lib.hid hda
        clear hda hfin
        go_wp2
        go_ret
        exact ⟨by rw [HD.out]; rfl, hfw.out⟩
      · rw [if_neg hF] at hda
        have HD := Lib.hid hda
        have hpos : 0 < F.length := List.length_pos_iff.2 hF
        have hne0 : ((F.length : Int) == 0) = false := by rw [beq_eq_false_iff_ne]; omega
        clear hda hfin hF
        generalize F.length = m at *
        go_wp2_with fail
        refine HJ.out.mono ?_
        rintro e w2 ⟨rfl, hb2⟩
        go_wp2
        go_ret
        exact ⟨by rw [HD.out]; rfl, (hfw.step hb2).out⟩
set_option maxRecDepth 100000 in
theorem lanswer_none (a : Option Addr) (cap : Nat) (w : World) :
    Calls Tryz.prog 24 #[.slice a 0 cap, .nilIface] w fun e w' => e = .returned (.string (str sNone)) ∧ w = w' := by
  go_enter Tryz.func24, Tryz.ntmps24
  go_wp2
  refine wp_loop_rounds 1 ?_
  rw [rounds_succ]
  go_wp2
  go_ret
  exact ⟨rfl, rfl⟩
theorem lanswer_any (v : Value) (ds : List Dec) (w : World) (hx : ds.length ≤ 1000) (h : kDec.At w v ds) (ht : Tabs w) (hn : NamesAt w) :
    Calls Tryz.prog 24 #[v, .nilIface] w fun e w' => e = .returned (.string (str (danswer ds))) ∧ Below w.heap.size w w' := by
  obtain ⟨a, cap, rfl, rfl | ⟨b, off, rfl, hlt, hc⟩⟩ := h
  · exact (lanswer_none a cap w).mono fun e w' ⟨he, hw⟩ => ⟨he, hw ▸ Below.refl _ _⟩
  · exact lanswer_some b off cap ds w hx hlt ht hn (decs_cells hc)
/-- The text so far. -/
def textOf (F : List (List UInt8)) : List UInt8 := Lib.join F [44, 32]
theorem textOf_snoc (F : List (List UInt8)) (x : List UInt8) (hF : F ≠ []) : textOf (F ++ [x]) = textOf F ++ [44, 32] ++ x := by
  unfold textOf
  rw [join_append _ _ _ hF (by simp), Lib.join_one]
theorem textOf_nil {F : List (List UInt8)} (h : ∀ x ∈ F, x ≠ []) : textOf F = [] ↔ F = [] := by
  constructor
  · intro e
    match F, h with
    | [], _ => rfl
    | [x], h => unfold textOf at e; rw [Lib.join_one] at e; exact absurd e (h x (by simp))
    | x :: y :: r, h => unfold textOf at e; rw [join_cons2] at e; simp at e
  · rintro rfl; rfl
set_option maxHeartbeats 4000000 in
set_option maxRecDepth 100000 in
theorem ranswer_some (b off cap : Nat) (ds : List Dec) (w : World) (hx : ds.length ≤ 1000) (hb : b < w.heap.size)
    (hc : ∀ j, j < ds.length → DecCells w b (off + j * 4) (decAt ds j)) :
    Calls Tryz.prog 25 #[.slice (some ⟨b, off, none⟩) ds.length cap] w fun e w' => e = .returned (.string (str (danswer ds))) ∧ Below w.heap.size w w' := by
  have hda := danswer_lines ds
  obtain ⟨l, hl⟩ : ∃ n, n = ds.length := ⟨_, rfl⟩
  rw [← hl] at hx ⊢
  have HL := Lib.hid hl; clear hl
  have HDA := Lib.hid hda; clear hda
  have HC := Lib.hid hc; clear hc
  go_enter Tryz.func25, Tryz.ntmps25
  go_wp2
  go_loopw [3, 4] (fun s i wr => ∃ (k : Nat) (t : List UInt8), k ≤ l ∧ i = .int .i64 k ∧ s = .string (str t) ∧ Hid (t = textOf (linesOf (ds.take k))) ∧ From w wr) (fun _ i _ => l - (intOf i).toNat)
  case atStart => exact ⟨0, [], Nat.zero_le _, rfl, rfl, rfl, From.refl _⟩
  case round =>
    obtain ⟨k, t, hk, rfl, rfl, HT, hfw⟩ := hrel
    have hsz := hfw.out.size
    have hFl : (linesOf (ds.take k)).length ≤ 1000 := Nat.le_trans (linesOf_len _) (by simp; omega)
    have hFe : t = [] ↔ linesOf (ds.take k) = [] := by rw [HT.out]; exact textOf_nil (linesOf_ne _)
    have hTl : t.length ≤ 1000 * 102 := by
      rw [HT.out]
      refine Nat.le_trans (join_len _ 100 _ (linesOf_le _)) ?_
      have : (linesOf (ds.take k)).length * 102 ≤ 1000 * 102 := Nat.mul_le_mul_right _ hFl
      simpa using this
    by_cases hlt : k < l
    · have hcc := (HC.out k (by rw [← HL.out]; exact hlt)).below hfw.out hb
      have hst := linesOf_take (ds := ds) (k := k) (by rw [← HL.out]; exact hlt)
      obtain ⟨x, hxx⟩ : ∃ x, x = decAt ds k := ⟨_, rfl⟩
      rw [← hxx] at hcc hst
      clear hxx
      obtain ⟨p0, p1, p2, p3⟩ := hcc
      have hki : (0 : Int) ≤ (k : Int) := by omega
      have hkl : (k : Int) < (l : Int) := by omega
      have HLN : Hid (∀ w', Calls Tryz.prog 18 #[decV x] w' fun e w'' => e = .returned (.string (str (dline x))) ∧ Below w'.heap.size w' w'') := fun w' => rline_any x w'
      have hli := dline_iff x
      have hsl := dline_le x
      generalize linesOf (ds.take k) = F at *
      generalize dline x = sx at *
      by_cases hsx : sx = []
      · have hd0 : lined x = false := by
          cases h : lined x with
          | false => rfl
          | true => exact absurd hsx (hli.1 h)
        have hst' : linesOf (ds.take (k + 1)) = F := by rw [hst, hd0]; simp
        have hem : (str sx).toList.isEmpty = true := by rw [str_isEmpty, hsx]; rfl
        have HST := Lib.hid hst'
        clear hst hst' hli hd0 hsx hFe
        go_wp2_with fail
        refine (HLN.out _).mono ?_
        rintro e w2 ⟨rfl, hb2⟩
        have F2 : From wr w2 := ⟨hb2⟩
        clear hb2
        go_wp2
        go_roundw
        case rel => exact ⟨k + 1, t, by omega, by go_num, rfl, by show t = _; rw [HST.out]; exact HT.out, hfw.trans F2⟩
        case measure => first | (simp [intOf]; omega) | omega
      · have hd0 : lined x = true := hli.2 hsx
        have hst' : linesOf (ds.take (k + 1)) = F ++ [sx] := by rw [hst, hd0]; simp
        have hem : (str sx).toList.isEmpty = false := by rw [str_isEmpty]; cases sx with | nil => exact absurd rfl hsx | cons _ _ => rfl
        have HST := Lib.hid hst'
        clear hst hst' hli hd0 hsx
        by_cases hF : F = []
        · have htn : t = [] := hFe.2 hF
          subst htn
          have het : (str ([] : List UInt8)).toList.isEmpty = true := str_isEmpty []
          have ha : ∀ w, (Op.stringOp .add (str []) (str sx)).run Tryz.prog w = .ok (.string (str sx)) w := fun w => add_str w [] sx (by simp; omega)
          have HF := Lib.hid hF
          clear hFe hF
          go_wp2_with fail
          refine (HLN.out _).mono ?_
          rintro e w2 ⟨rfl, hb2⟩
          have F2 : From wr w2 := ⟨hb2⟩
          clear hb2
          go_wp2
          go_roundw
          case rel => exact ⟨k + 1, sx, by omega, by go_num, rfl, by show sx = _; rw [HST.out, HF.out]; exact (Lib.join_one sx _).symm, hfw.trans F2⟩
          case measure => first | (simp [intOf]; omega) | omega
        · have htn : t ≠ [] := fun h => hF (hFe.1 h)
          have het : (str t).toList.isEmpty = false := by rw [str_isEmpty]; cases t with | nil => exact absurd rfl htn | cons _ _ => rfl
          have ha1 : ∀ w, (Op.stringOp .add (str t) ⟨#[44, 32]⟩).run Tryz.prog w = .ok (.string (str (t ++ [44, 32]))) w := fun w => add_str w t [44, 32] (by simp; omega)
          have ha2 : ∀ w, (Op.stringOp .add (str (t ++ [44, 32])) (str sx)).run Tryz.prog w = .ok (.string (str (t ++ 44 :: 32 :: sx))) w := fun w => by rw [add_str w _ sx (by simp; omega), List.append_assoc]; rfl
          have HF := Lib.hid hF
          clear hFe hF htn
          go_wp2_with fail
          refine (HLN.out _).mono ?_
          rintro e w2 ⟨rfl, hb2⟩
          have F2 : From wr w2 := ⟨hb2⟩
          clear hb2
          go_wp2
          go_roundw
          case rel => exact ⟨k + 1, t ++ 44 :: 32 :: sx, by omega, by go_num, rfl, by show _ = _; rw [HST.out, textOf_snoc _ _ HF.out, HT.out, List.append_assoc]; rfl, hfw.trans F2⟩
          case measure => first | (simp [intOf]; omega) | omega
    · have he : k = l := by omega
      have hfin : linesOf (ds.take k) = linesOf ds := by rw [he, HL.out, List.take_length]
      have hda := HDA.out
      rw [← hfin] at hda
      have ht := HT.out
      generalize linesOf (ds.take k) = F at *
      by_cases hF : F = []
      · have htn : t = [] := hFe.2 hF
        subst htn
        have het : (str ([] : List UInt8)).toList.isEmpty = true := str_isEmpty []
        rw [if_pos hF] at hda
        have HD := Lib.hid hda
        clear hda hFe hF hfin ht
        go_wp2
        go_ret
        exact ⟨by rw [HD.out]; rfl, hfw.out⟩
      · have htn : t ≠ [] := fun h => hF (hFe.1 h)
        have het : (str t).toList.isEmpty = false := by rw [str_isEmpty]; cases t with | nil => exact absurd rfl htn | cons _ _ => rfl
        rw [if_neg hF] at hda
        have HD : Hid (danswer ds = t) := hda.trans ht.symm
        clear hda hFe hF hfin ht htn
        go_wp2
        go_ret
        exact ⟨by rw [HD.out]; rfl, hfw.out⟩
set_option maxRecDepth 100000 in
theorem ranswer_none (a : Option Addr) (cap : Nat) (w : World) :
    Calls Tryz.prog 25 #[.slice a 0 cap] w fun e w' => e = .returned (.string (str sNone)) ∧ w = w' := by
  go_enter Tryz.func25, Tryz.ntmps25
  go_wp2
  refine wp_loop_rounds 1 ?_
  rw [rounds_succ]
  go_wp2
  go_ret
  exact ⟨rfl, rfl⟩
theorem ranswer_any (v : Value) (ds : List Dec) (w : World) (hx : ds.length ≤ 1000) (h : kDec.At w v ds) :
    Calls Tryz.prog 25 #[v] w fun e w' => e = .returned (.string (str (danswer ds))) ∧ Below w.heap.size w w' := by
  obtain ⟨a, cap, rfl, rfl | ⟨b, off, rfl, hlt, hc⟩⟩ := h
  · exact (ranswer_none a cap w).mono fun e w' ⟨he, hw⟩ => ⟨he, hw ▸ Below.refl _ _⟩
  · exact ranswer_some b off cap ds w hx hlt (decs_cells hc)
end Go.Proofs.YtdclokpoeaehlaaGreatDoor
