/- log.kept at its two properties; log.Count, log.About. -/
import Derived.Test.YtdclokpoeaehlaaGreatDoorLogB
namespace Go.Proofs.YtdclokpoeaehlaaGreatDoor
set_option linter.all false
open Go.RowKit

def countB (kind : Int) (d : Dec) : Bool := d.kind == kind
def aboutB (id : Int) (d : Dec) : Bool := d.id == id && d.kind != 1 && d.kind != 11 && d.kind != 4
theorem take_filt {ds : List Dec} {k : Nat} (f : Dec → Bool) (h : k < ds.length) : (ds.take (k + 1)).filter f = (ds.take k).filter f ++ (if f (decAt ds k) then [decAt ds k] else []) := by
  have e : decAt ds k = ds[k] := by unfold decAt; rw [List.getD_eq_getElem?_getD, List.getElem?_eq_getElem h]; rfl
  rw [List.take_succ_eq_append_getElem h, List.filter_append, e]
  congr 1
  cases hf : f ds[k] <;> simp [hf]
set_option maxRecDepth 100000 in
theorem hCount_any (kind : Int) (d : Dec) (b : Nat) (w : World) (hc : w.cell? ⟨b, 0, none⟩ = some (.int .i64 kind)) : Calls Tryz.prog 58 #[decV d, .pointer (some ⟨b, 0, none⟩)] w fun e w' => e = .returned (.bool (countB kind d)) ∧ Below w.heap.size w w' := by
  have hb := cell_lt hc
  unfold countB
  go_enter Tryz.func58, Tryz.ntmps58
  go_wp2
  go_ret
  exact ⟨rfl, (Below.refl _ _).alloc (Nat.le_refl _) _⟩
set_option maxRecDepth 100000 in
theorem hAbout_any (id : Int) (d : Dec) (b : Nat) (w : World) (hc : w.cell? ⟨b, 0, none⟩ = some (.int .i64 id)) : Calls Tryz.prog 59 #[decV d, .pointer (some ⟨b, 0, none⟩)] w fun e w' => e = .returned (.bool (aboutB id d)) ∧ Below w.heap.size w w' := by
  have hb := cell_lt hc
  obtain ⟨k, x, y, z⟩ := d
  unfold aboutB
  simp only
  cases h1 : (x == id)
  · go_enter Tryz.func59, Tryz.ntmps59
    go_wp2
    go_ret
    exact ⟨rfl, (Below.refl _ _).alloc (Nat.le_refl _) _⟩
  · cases h2 : (k != 1)
    · go_enter Tryz.func59, Tryz.ntmps59
      go_wp2
      go_ret
      exact ⟨rfl, (Below.refl _ _).alloc (Nat.le_refl _) _⟩
    · cases h3 : (k != 11)
      · go_enter Tryz.func59, Tryz.ntmps59
        go_wp2
        go_ret
        exact ⟨rfl, (Below.refl _ _).alloc (Nat.le_refl _) _⟩
      · go_enter Tryz.func59, Tryz.ntmps59
        go_wp2
        go_ret
        exact ⟨rfl, (Below.refl _ _).alloc (Nat.le_refl _) _⟩
set_option maxHeartbeats 4000000 in
set_option maxRecDepth 100000 in
theorem keptCount_some (kind : Int) (g b off cap : Nat) (ds : List Dec) (w : World) (hx : ds.length * 32 ≤ 140737488351232) (hb : b < w.heap.size) (hg : w.cell? ⟨g, 0, none⟩ = some (.int .i64 kind))
    (hc : ∀ j, j < ds.length → DecCells w b (off + j * 4) (decAt ds j)) :
    Calls Tryz.prog 57 #[.slice (some ⟨b, off, none⟩) ds.length cap, .func (.func 58) #[] #[.pointer (some ⟨g, 0, none⟩)]] w fun e w' => ∃ v, e = .returned v ∧ kDec.Own w.heap.size w' v (ds.filter (countB kind)) ∧ Below w.heap.size w w' := by
  obtain ⟨l, hl⟩ : ∃ n, n = ds.length := ⟨_, rfl⟩
  rw [← hl] at hx ⊢
  have HL := Lib.hid hl; clear hl
  have HC := Lib.hid hc; clear hc
  have HG := Lib.hid hg; clear hg
  have HH := Lib.hid (hCount_any kind)
  go_enter Tryz.func57, Tryz.ntmps57
  go_wp2
  go_loopw [5, 10] (fun v i wr => ∃ k : Nat, k ≤ l ∧ i = .int .i64 k ∧ kDec.Own w.heap.size wr v ((ds.take k).filter (countB kind)) ∧ From w wr) (fun _ i _ => l - (intOf i).toNat)
  case atStart => exact ⟨0, Nat.zero_le _, rfl, Kin.Own.nil _ _ _, From.refl _⟩
  case round =>
    obtain ⟨k, hk, rfl, hown, hfw⟩ := hrel
    by_cases hlt : k < l
    · have hcc := (HC.out k (by rw [← HL.out]; exact hlt)).below hfw.out hb
      have hst := take_filt (ds := ds) (k := k) (countB kind) (by rw [← HL.out]; exact hlt)
      have hle : ((ds.take k).filter (countB kind)).length ≤ k := Nat.le_trans (List.length_filter_le _ _) (by simp; omega)
      generalize decAt ds k = x at *
      obtain ⟨p0, p1, p2, p3⟩ := hcc
      have hki : (0 : Int) ≤ (k : Int) := by omega
      have hkl : (k : Int) < (l : Int) := by omega
      have hsz := hfw.out.size
      obtain ⟨ao, co, rfl⟩ := hown.shape
      have HOWN := Lib.hid hown; clear hown
      generalize List.filter (countB kind) (List.take k ds) = F at *
      go_wp2_with fail
      refine calls_named fun W1 hW1 => ?_
      have F1 : From wr W1 := by rw [hW1]; exact (From.refl _).alloc _
      have n0 : W1.cell? ⟨wr.heap.size, 0, none⟩ = some (.int .i64 x.kind) := by rw [hW1]; go_simp
      have n1 : W1.cell? ⟨wr.heap.size, 1, none⟩ = some (.int .i64 x.id) := by rw [hW1]; go_simp
      have n2 : W1.cell? ⟨wr.heap.size, 2, none⟩ = some (.int .i64 x.node) := by rw [hW1]; go_simp
      have n3 : W1.cell? ⟨wr.heap.size, 3, none⟩ = some (.int .i64 x.at_) := by rw [hW1]; go_simp
      have HG1 := (hfw.trans F1).cell HG.out
      clear hW1
      refine (HH.out x g W1 HG1).mono ?_
      rintro e w2 ⟨rfl, hb2⟩
      have F2 : From wr w2 := F1.step hb2
      have m0 := keepl hb2 n0
      have m1 := keepl hb2 n1
      have m2 := keepl hb2 n2
      have m3 := keepl hb2 n3
      clear n0 n1 n2 n3 hb2 F1 HG1
      cases hd0 : countB kind x
      · have hst' : (ds.take (k + 1)).filter (countB kind) = F := by rw [hst]; simp [hd0]
        have HST := Lib.hid hst'; clear hst hst'
        go_wp2
        go_roundw
        case rel => exact ⟨k + 1, by omega, by go_num, by rw [HST.out]; exact HOWN.out.below F2.out, hfw.trans F2⟩
        case measure => simp [intOf]; omega
      · have hst' : (ds.take (k + 1)).filter (countB kind) = F ++ [x] := by rw [hst]; simp [hd0]
        have HST := Lib.hid hst'; clear hst hst'
        have hOW : kDec.Own w.heap.size (w2.alloc (.cells #[.int .i64 x.kind, .int .i64 x.id, .int .i64 x.node, .int .i64 x.at_] 23)) (.slice ao F.length co) F := (HOWN.out.below F2.out).alloc _
        have HOW := Lib.hid hOW; clear hOW
        have hs2 := F2.out.size
        go_wp2_with (at_builtin; go_must (refine Kin.append1 kDec rfl _ _ rfl w.heap.size _ F rfl HOW.out w2.heap.size x rfl (cells4_of (by go_simp) (by go_simp) (by go_simp) (by go_simp)) (by unfold maxLen; omega) (by show _ * 32 ≤ _; omega) (by first | (simp; done) | (simp; omega)) ?_; intro v' w3 hown' hbel hgrow; obtain ⟨a2, c2, rfl⟩ := hown'.shape; have HO2 := Lib.hid hown'; clear hown'))
        go_roundw
        case rel => exact ⟨k + 1, by omega, by go_num, by rw [HST.out]; have h := HO2.out; rw [List.length_append] at h; exact h, ⟨(hfw.trans F2).out.trans (((Below.refl _ _).alloc (by omega) _).trans hbel)⟩⟩
        case measure => simp [intOf]; omega
    · have he : k = l := by omega
      have hfin : Hid ((ds.take k).filter (countB kind) = ds.filter (countB kind)) := by rw [he, HL.out, List.take_length]; rfl
      obtain ⟨ao, co, rfl⟩ := hown.shape
      have HOWN := Lib.hid hown; clear hown
      generalize (List.filter (countB kind) (List.take k ds)).length = m at *
      go_wp2
      go_ret
      exact ⟨_, rfl, by rw [← hfin.out]; exact HOWN.out, hfw.out⟩
set_option maxRecDepth 100000 in
theorem keptCount_none (kind : Int) (g : Nat) (a : Option Addr) (cap : Nat) (w : World) :
    Calls Tryz.prog 57 #[.slice a 0 cap, .func (.func 58) #[] #[.pointer (some ⟨g, 0, none⟩)]] w fun e w' => e = .returned (.slice none 0 0) ∧ w = w' := by
  go_enter Tryz.func57, Tryz.ntmps57
  go_wp2
  refine wp_loop_rounds 1 ?_
  rw [rounds_succ]
  go_wp2
  go_ret
  exact ⟨rfl, rfl⟩
theorem keptCount_any (kind : Int) (g : Nat) (v : Value) (ds : List Dec) (w : World) (hx : ds.length * 32 ≤ 140737488351232) (hg : w.cell? ⟨g, 0, none⟩ = some (.int .i64 kind)) (h : kDec.At w v ds) :
    Calls Tryz.prog 57 #[v, .func (.func 58) #[] #[.pointer (some ⟨g, 0, none⟩)]] w fun e w' => ∃ v, e = .returned v ∧ kDec.Own w.heap.size w' v (ds.filter (countB kind)) ∧ Below w.heap.size w w' := by
  obtain ⟨a, cap, rfl, rfl | ⟨b, off, rfl, hlt, hc⟩⟩ := h
  · exact (keptCount_none kind g a cap w).mono fun e w' ⟨he, hw⟩ => ⟨_, he, Kin.Own.nil _ _ _, hw ▸ Below.refl _ _⟩
  · exact keptCount_some kind g b off cap ds w hx hlt hg (decs_cells hc)
set_option maxHeartbeats 4000000 in
set_option maxRecDepth 100000 in
theorem keptAbout_some (id : Int) (g b off cap : Nat) (ds : List Dec) (w : World) (hx : ds.length * 32 ≤ 140737488351232) (hb : b < w.heap.size) (hg : w.cell? ⟨g, 0, none⟩ = some (.int .i64 id))
    (hc : ∀ j, j < ds.length → DecCells w b (off + j * 4) (decAt ds j)) :
    Calls Tryz.prog 57 #[.slice (some ⟨b, off, none⟩) ds.length cap, .func (.func 59) #[] #[.pointer (some ⟨g, 0, none⟩)]] w fun e w' => ∃ v, e = .returned v ∧ kDec.Own w.heap.size w' v (ds.filter (aboutB id)) ∧ Below w.heap.size w w' := by
  obtain ⟨l, hl⟩ : ∃ n, n = ds.length := ⟨_, rfl⟩
  rw [← hl] at hx ⊢
  have HL := Lib.hid hl; clear hl
  have HC := Lib.hid hc; clear hc
  have HG := Lib.hid hg; clear hg
  have HH := Lib.hid (hAbout_any id)
  go_enter Tryz.func57, Tryz.ntmps57
  go_wp2
  go_loopw [5, 10] (fun v i wr => ∃ k : Nat, k ≤ l ∧ i = .int .i64 k ∧ kDec.Own w.heap.size wr v ((ds.take k).filter (aboutB id)) ∧ From w wr) (fun _ i _ => l - (intOf i).toNat)
  case atStart => exact ⟨0, Nat.zero_le _, rfl, Kin.Own.nil _ _ _, From.refl _⟩
  case round =>
    obtain ⟨k, hk, rfl, hown, hfw⟩ := hrel
    by_cases hlt : k < l
    · have hcc := (HC.out k (by rw [← HL.out]; exact hlt)).below hfw.out hb
      have hst := take_filt (ds := ds) (k := k) (aboutB id) (by rw [← HL.out]; exact hlt)
      have hle : ((ds.take k).filter (aboutB id)).length ≤ k := Nat.le_trans (List.length_filter_le _ _) (by simp; omega)
      generalize decAt ds k = x at *
      obtain ⟨p0, p1, p2, p3⟩ := hcc
      have hki : (0 : Int) ≤ (k : Int) := by omega
      have hkl : (k : Int) < (l : Int) := by omega
      have hsz := hfw.out.size
      obtain ⟨ao, co, rfl⟩ := hown.shape
      have HOWN := Lib.hid hown; clear hown
      generalize List.filter (aboutB id) (List.take k ds) = F at *
      go_wp2_with fail
      refine calls_named fun W1 hW1 => ?_
      have F1 : From wr W1 := by rw [hW1]; exact (From.refl _).alloc _
      have n0 : W1.cell? ⟨wr.heap.size, 0, none⟩ = some (.int .i64 x.kind) := by rw [hW1]; go_simp
      have n1 : W1.cell? ⟨wr.heap.size, 1, none⟩ = some (.int .i64 x.id) := by rw [hW1]; go_simp
      have n2 : W1.cell? ⟨wr.heap.size, 2, none⟩ = some (.int .i64 x.node) := by rw [hW1]; go_simp
      have n3 : W1.cell? ⟨wr.heap.size, 3, none⟩ = some (.int .i64 x.at_) := by rw [hW1]; go_simp
      have HG1 := (hfw.trans F1).cell HG.out
      clear hW1
      refine (HH.out x g W1 HG1).mono ?_
      rintro e w2 ⟨rfl, hb2⟩
      have F2 : From wr w2 := F1.step hb2
      have m0 := keepl hb2 n0
      have m1 := keepl hb2 n1
      have m2 := keepl hb2 n2
      have m3 := keepl hb2 n3
      clear n0 n1 n2 n3 hb2 F1 HG1
      cases hd0 : aboutB id x
      · have hst' : (ds.take (k + 1)).filter (aboutB id) = F := by rw [hst]; simp [hd0]
        have HST := Lib.hid hst'; clear hst hst'
        go_wp2
        go_roundw
        case rel => exact ⟨k + 1, by omega, by go_num, by rw [HST.out]; exact HOWN.out.below F2.out, hfw.trans F2⟩
        case measure => simp [intOf]; omega
      · have hst' : (ds.take (k + 1)).filter (aboutB id) = F ++ [x] := by rw [hst]; simp [hd0]
        have HST := Lib.hid hst'; clear hst hst'
        have hOW : kDec.Own w.heap.size (w2.alloc (.cells #[.int .i64 x.kind, .int .i64 x.id, .int .i64 x.node, .int .i64 x.at_] 23)) (.slice ao F.length co) F := (HOWN.out.below F2.out).alloc _
        have HOW := Lib.hid hOW; clear hOW
        have hs2 := F2.out.size
        go_wp2_with (at_builtin; go_must (refine Kin.append1 kDec rfl _ _ rfl w.heap.size _ F rfl HOW.out w2.heap.size x rfl (cells4_of (by go_simp) (by go_simp) (by go_simp) (by go_simp)) (by unfold maxLen; omega) (by show _ * 32 ≤ _; omega) (by first | (simp; done) | (simp; omega)) ?_; intro v' w3 hown' hbel hgrow; obtain ⟨a2, c2, rfl⟩ := hown'.shape; have HO2 := Lib.hid hown'; clear hown'))
        go_roundw
        case rel => exact ⟨k + 1, by omega, by go_num, by rw [HST.out]; have h := HO2.out; rw [List.length_append] at h; exact h, ⟨(hfw.trans F2).out.trans (((Below.refl _ _).alloc (by omega) _).trans hbel)⟩⟩
        case measure => simp [intOf]; omega
    · have he : k = l := by omega
      have hfin : Hid ((ds.take k).filter (aboutB id) = ds.filter (aboutB id)) := by rw [he, HL.out, List.take_length]; rfl
      obtain ⟨ao, co, rfl⟩ := hown.shape
      have HOWN := Lib.hid hown; clear hown
      generalize (List.filter (aboutB id) (List.take k ds)).length = m at *
      go_wp2
      go_ret
      exact ⟨_, rfl, by rw [← hfin.out]; exact HOWN.out, hfw.out⟩
set_option maxRecDepth 100000 in
theorem keptAbout_none (id : Int) (g : Nat) (a : Option Addr) (cap : Nat) (w : World) :
    Calls Tryz.prog 57 #[.slice a 0 cap, .func (.func 59) #[] #[.pointer (some ⟨g, 0, none⟩)]] w fun e w' => e = .returned (.slice none 0 0) ∧ w = w' := by
  go_enter Tryz.func57, Tryz.ntmps57
  go_wp2
  refine wp_loop_rounds 1 ?_
  rw [rounds_succ]
  go_wp2
  go_ret
  exact ⟨rfl, rfl⟩
theorem keptAbout_any (id : Int) (g : Nat) (v : Value) (ds : List Dec) (w : World) (hx : ds.length * 32 ≤ 140737488351232) (hg : w.cell? ⟨g, 0, none⟩ = some (.int .i64 id)) (h : kDec.At w v ds) :
    Calls Tryz.prog 57 #[v, .func (.func 59) #[] #[.pointer (some ⟨g, 0, none⟩)]] w fun e w' => ∃ v, e = .returned v ∧ kDec.Own w.heap.size w' v (ds.filter (aboutB id)) ∧ Below w.heap.size w w' := by
  obtain ⟨a, cap, rfl, rfl | ⟨b, off, rfl, hlt, hc⟩⟩ := h
  · exact (keptAbout_none id g a cap w).mono fun e w' ⟨he, hw⟩ => ⟨_, he, Kin.Own.nil _ _ _, hw ▸ Below.refl _ _⟩
  · exact keptAbout_some id g b off cap ds w hx hlt hg (decs_cells hc)
set_option maxRecDepth 100000 in
theorem count_any (v : Value) (ds : List Dec) (kind : Int) (w : World) (hx : ds.length * 32 ≤ 140737488351232) (h : kDec.At w v ds) :
    Calls Tryz.prog 26 #[v, .int .i64 kind] w fun e w' => e = .returned (.int .i64 ((ds.filter (countB kind)).length : Int)) ∧ Below w.heap.size w w' := by
  have hb : Below w.heap.size w (w.alloc (.cells #[.int .i64 kind] 3)) := (Below.refl _ _).alloc (Nat.le_refl _) _
  have I := keptCount_any kind w.heap.size v ds (w.alloc (.cells #[.int .i64 kind] 3)) hx (by go_simp) (h.below hb)
  have hle : (ds.filter (countB kind)).length ≤ ds.length := List.length_filter_le _ _
  obtain ⟨m, hm⟩ : ∃ m : Nat, m = (ds.filter (countB kind)).length := ⟨_, rfl⟩
  rw [← hm] at hle ⊢
  have HM := Lib.hid hm; clear hm
  have HI := Lib.hid I
  have HB := Lib.hid hb
  clear I hb h
  go_enter Tryz.func26, Tryz.ntmps26
  go_wp2_with fail
  refine HI.out.mono ?_
  rintro e w1 ⟨u, rfl, hown, hb1⟩
  obtain ⟨ao, co, hu⟩ := hown.shape
  rw [← HM.out] at hu
  subst hu
  clear hown
  go_wp2
  go_ret
  exact ⟨rfl, HB.out.trans (hb1.mono HB.out.size)⟩
set_option maxRecDepth 100000 in
theorem about_any (v : Value) (ds : List Dec) (id : Int) (w : World) (hx : ds.length * 32 ≤ 140737488351232) (h : kDec.At w v ds) :
    Calls Tryz.prog 27 #[v, .int .i64 id] w fun e w' => ∃ v', e = .returned v' ∧ kDec.Own w.heap.size w' v' (ds.filter (aboutB id)) ∧ Below w.heap.size w w' := by
  have hb : Below w.heap.size w (w.alloc (.cells #[.int .i64 id] 3)) := (Below.refl _ _).alloc (Nat.le_refl _) _
  have I := keptAbout_any id w.heap.size v ds (w.alloc (.cells #[.int .i64 id] 3)) hx (by go_simp) (h.below hb)
  have HI := Lib.hid I
  have HB := Lib.hid hb
  clear I hb h
  go_enter Tryz.func27, Tryz.ntmps27
  go_wp2_with fail
  refine HI.out.mono ?_
  rintro e w1 ⟨u, rfl, hown, hb1⟩
  have HO := Lib.hid (hown.low HB.out.size)
  clear hown
  go_wp2
  go_ret
  exact ⟨_, rfl, HO.out, HB.out.trans (hb1.mono HB.out.size)⟩
end Go.Proofs.YtdclokpoeaehlaaGreatDoor
