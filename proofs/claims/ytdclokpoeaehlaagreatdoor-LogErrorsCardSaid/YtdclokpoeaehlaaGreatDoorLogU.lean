/- LogParses, LogAnswers: the walks. -/
import Derived.Test.YtdclokpoeaehlaaGreatDoorLogT
namespace Go.Proofs.YtdclokpoeaehlaaGreatDoor
set_option linter.all false
open Go.RowKit

theorem dparses_len : ∀ (xs : List (List UInt8)) (ds : List Dec), dparses xs = some ds → ds.length = xs.length
  | [], ds, h => by simp only [dparses, Option.some.injEq] at h; subst h; rfl
  | x :: r, ds, h => by
    simp only [dparses] at h
    split at h
    · cases hr : dparses r with
      | none => rw [hr] at h; cases h
      | some rs =>
        rw [hr] at h
        simp only [Option.map_some, Option.some.injEq] at h
        subst h
        simp [dparses_len r rs hr]
    · cases h
theorem read_len (s : ByteArray) (hs : s.size ≤ 1000) : (readD s.data.toList).length ≤ 1001 := by
  unfold readD dread
  split
  · simp
  · cases h : dparses (Lib.split s.data.toList [44, 32]) with
    | none => simp
    | some ds =>
      have h1 := dparses_len _ _ h
      have h2 := splits_len s [44, 32] (by simp)
      simp only [Option.getD_some]
      omega
set_option maxHeartbeats 4000000 in
set_option maxRecDepth 100000 in
theorem logParses_walk (s : ByteArray) (w : World) (hW : LogW w) :
    Calls Tryz.prog 4 #[.string s] w fun e w' => e = .returned (.bool true) ∧ Below w.heap.size w w' := by
  have HA : Hid (∀ w', From w w' → Calls Tryz.prog 14 #[] w' fun r w'' => r = .returned (.bool true) ∧ Below w'.heap.size w' w'') := fun w' hf => awake24_any w' (hW.from_ hf)
  have F0 := From.refl w
  by_cases h1000 : 1000 < s.size
  · clear hW
    go_enter Tryz.func4, Tryz.ntmps4
    go_wp2_with fail
    refine (HA.out _ F0).mono ?_
    rintro e w1 ⟨rfl, hb⟩
    have F1 := F0.step hb
    clear hb
    go_wp2_with fail
    refine (HA.out _ F1).mono ?_
    rintro e w2 ⟨rfl, hb⟩
    have F2 := F1.step hb
    clear hb
    go_wp2
    go_ret
    exact ⟨rfl, F2.out⟩
  have hs : s.size ≤ 1000 := by omega
  have H1 : Hid (∀ w', From w w' → Calls Tryz.prog 19 #[.string s] w' fun e w'' => e = .returned (.tuple #[decV (parseD s.data.toList), .bool (parseB s.data.toList)]) ∧ Below w'.heap.size w' w'') := fun w' hf => lparse_any s w' (by omega) (hW.from_ hf).tabs (hW.from_ hf).names
  have H2 : Hid (∀ w', Calls Tryz.prog 20 #[.string s] w' fun e w'' => e = .returned (.tuple #[decV (parseD s.data.toList), .bool (parseB s.data.toList)]) ∧ Below w'.heap.size w' w'') := fun w' => rparse_any s w' (by omega)
  have H3 : Hid (∀ w', From w w' → Calls Tryz.prog 21 #[.string s] w' fun e w'' => ∃ v, e = .returned (.tuple #[v, .bool (readB s.data.toList)]) ∧ kDec.Own w'.heap.size w'' v (readD s.data.toList) ∧ Below w'.heap.size w' w'') := fun w' hf => lread_any s w' (by omega) (hW.from_ hf).tabs (hW.from_ hf).names
  have H4 : Hid (∀ w', Calls Tryz.prog 22 #[.string s] w' fun e w'' => ∃ v, e = .returned (.tuple #[v, .bool (readB s.data.toList)]) ∧ kDec.Own w'.heap.size w'' v (readD s.data.toList) ∧ Below w'.heap.size w' w'') := fun w' => rread_any s w' (by omega)
  have hrl : (readD s.data.toList).length ≤ 1001 := read_len s hs
  have HS : Hid (∀ w' u u', kDec.At w' u (readD s.data.toList) → kDec.At w' u' (readD s.data.toList) → Calls Tryz.prog 23 #[u, u'] w' fun e w'' => e = .returned (.bool true) ∧ Below w'.heap.size w' w'') := fun w' u u' h1 h2 => by
    have h3 := sameD_any u u' _ _ w' (by omega) h1 h2
    rw [sameD_refl] at h3; exact h3
  have HE := eqlDec (parseD s.data.toList) (parseD s.data.toList)
  rw [(decB_iff _ _).2 rfl] at HE
  generalize parseD s.data.toList = d at *
  generalize parseB s.data.toList = pb at *
  generalize readD s.data.toList = rd at *
  generalize readB s.data.toList = rb at *
  clear hW h1000 hrl
  go_enter Tryz.func4, Tryz.ntmps4
  go_wp2_with fail
  refine (HA.out _ F0).mono ?_
  rintro e w1 ⟨rfl, hb⟩
  have F1 := F0.step hb
  clear hb
  go_wp2_with fail
  refine (H1.out _ F1).mono ?_
  rintro e w2 ⟨rfl, hb⟩
  have F2 := F1.step hb
  clear hb
  go_wp2_with fail
  refine calls_named fun W2 hW2 => ?_
  have G2 : From w W2 := by rw [hW2]; exact F2.alloc _
  have n0 : W2.cell? ⟨w2.heap.size, 0, none⟩ = some (.int .i64 d.kind) := by rw [hW2]; go_simp
  have n1 : W2.cell? ⟨w2.heap.size, 1, none⟩ = some (.int .i64 d.id) := by rw [hW2]; go_simp
  have n2 : W2.cell? ⟨w2.heap.size, 2, none⟩ = some (.int .i64 d.node) := by rw [hW2]; go_simp
  have n3 : W2.cell? ⟨w2.heap.size, 3, none⟩ = some (.int .i64 d.at_) := by rw [hW2]; go_simp
  clear hW2
  refine (H2.out W2).mono ?_
  rintro e w3 ⟨rfl, hb⟩
  have F3 : From W2 w3 := ⟨hb⟩
  clear hb
  go_wp2_with fail
  refine calls_named fun W3 hW3 => ?_
  have G3 : From W2 W3 := by rw [hW3]; exact F3.alloc _
  have p0 : W3.cell? ⟨w3.heap.size, 0, none⟩ = some (.int .i64 d.kind) := by rw [hW3]; go_simp
  have p1 : W3.cell? ⟨w3.heap.size, 1, none⟩ = some (.int .i64 d.id) := by rw [hW3]; go_simp
  have p2 : W3.cell? ⟨w3.heap.size, 2, none⟩ = some (.int .i64 d.node) := by rw [hW3]; go_simp
  have p3 : W3.cell? ⟨w3.heap.size, 3, none⟩ = some (.int .i64 d.at_) := by rw [hW3]; go_simp
  have m0 := G3.cell n0
  have m1 := G3.cell n1
  have m2 := G3.cell n2
  have m3 := G3.cell n3
  clear hW3 n0 n1 n2 n3
  refine (H3.out W3 (G2.trans G3)).mono ?_
  rintro e w4 ⟨u, rfl, hown, hb⟩
  have F4 : From W3 w4 := ⟨hb⟩
  have HO := Lib.hid hown.at_
  clear hb hown
  go_wp2_with fail
  refine (H4.out w4).mono ?_
  rintro e w5 ⟨u', rfl, hown, hb⟩
  have F5 := F4.step hb
  have HO2 := Lib.hid hown.at_
  have HO3 := Lib.hid (HO.out.below hb)
  have k0 := F5.cell m0
  have k1 := F5.cell m1
  have k2 := F5.cell m2
  have k3 := F5.cell m3
  have j0 := F5.cell p0
  have j1 := F5.cell p1
  have j2 := F5.cell p2
  have j3 := F5.cell p3
  clear hb hown m0 m1 m2 m3 p0 p1 p2 p3 HO
  go_wp2_with fail
  refine (HS.out _ _ _ HO3.out HO2.out).mono ?_
  rintro e w6 ⟨rfl, hb⟩
  have F6 := F5.step hb
  clear hb k0 k1 k2 k3 j0 j1 j2 j3
  go_wp2
  go_ret
  exact ⟨by simp, ((G2.trans G3).trans F6).out⟩
theorem danswer_len (ds : List Dec) (h : ds.length ≤ 100) : (danswer ds).length ≤ 20000 := by
  rw [danswer_lines]
  split
  · decide
  · refine Nat.le_trans (join_len _ 100 _ (linesOf_le _)) ?_
    have := Nat.mul_le_mul_right (100 + [44, 32].length (α := UInt8)) (linesOf_len ds)
    simp at this ⊢
    omega
set_option maxHeartbeats 4000000 in
set_option maxRecDepth 100000 in
theorem logAnswers_walk (v : Value) (ds : List Dec) (w : World) (hx : ds.length * 32 ≤ 140737488351232) (h : kDec.At w v ds) (hW : LogW w) :
    Calls Tryz.prog 5 #[v] w fun e w' => e = .returned (.bool true) ∧ Below w.heap.size w w' := by
  have HA : Hid (∀ w', From w w' → Calls Tryz.prog 14 #[] w' fun r w'' => r = .returned (.bool true) ∧ Below w'.heap.size w' w'') := fun w' hf => awake24_any w' (hW.from_ hf)
  have F0 := From.refl w
  by_cases h100 : 100 < ds.length
  · obtain ⟨a, cap, rfl, hcs⟩ := h
    obtain ⟨l, hl⟩ : ∃ n, n = ds.length := ⟨_, rfl⟩
    rw [← hl] at h100 hx ⊢
    clear hcs hl hW
    go_enter Tryz.func5, Tryz.ntmps5
    go_wp2_with fail
    refine (HA.out _ F0).mono ?_
    rintro e w1 ⟨rfl, hb⟩
    have F1 := F0.step hb
    clear hb
    go_wp2_with fail
    refine (HA.out _ F1).mono ?_
    rintro e w2 ⟨rfl, hb⟩
    have F2 := F1.step hb
    clear hb
    go_wp2
    go_ret
    exact ⟨rfl, F2.out⟩
  have h100' : ds.length ≤ 100 := by omega
  clear h100
  have HAn : Hid (∀ w', From w w' → Calls Tryz.prog 24 #[v, .nilIface] w' fun e w'' => e = .returned (.string (str (danswer ds))) ∧ Below w'.heap.size w' w'') := fun w' hf => lanswer_any v ds w' (by omega) (h.below hf.out) (hW.from_ hf).tabs (hW.from_ hf).names
  have HRn : Hid (∀ w', From w w' → Calls Tryz.prog 25 #[v] w' fun e w'' => e = .returned (.string (str (danswer ds))) ∧ Below w'.heap.size w' w'') := fun w' hf => ranswer_any v ds w' (by omega) (h.below hf.out)
  have hal := danswer_len ds h100'
  have HRd : Hid (∀ w', From w w' → Calls Tryz.prog 21 #[.string (str (danswer ds))] w' fun e w'' => ∃ v, e = .returned (.tuple #[v, .bool true]) ∧ kDec.Own w'.heap.size w'' v (ds.filter lined) ∧ Below w'.heap.size w' w'') := fun w' hf => by
    have h1 := lread_any (str (danswer ds)) w' (by rw [str_size]; omega) (hW.from_ hf).tabs (hW.from_ hf).names
    have e : readD (danswer ds) = ds.filter lined ∧ readB (danswer ds) = true := by unfold readD readB; rw [dread_answer]; exact ⟨rfl, rfl⟩
    rw [show (str (danswer ds)).data.toList = danswer ds from rfl, e.1, e.2] at h1; exact h1
  have hfl : (ds.filter lined).length ≤ ds.length := List.length_filter_le _ _
  have HS : Hid (∀ w' u u', kDec.At w' u (ds.filter lined) → kDec.At w' u' (ds.filter lined) → Calls Tryz.prog 23 #[u, u'] w' fun e w'' => e = .returned (.bool true) ∧ Below w'.heap.size w' w'') := fun w' u u' h1 h2 => by
    have h3 := sameD_any u u' _ _ w' (by omega) h1 h2
    rw [sameD_refl] at h3; exact h3
  obtain ⟨a, cap, rfl, hcs⟩ := h
  have HD : Hid (∀ j, j < ds.length → ∃ b off, a = some ⟨b, off, none⟩ ∧ DecCells w b (off + j * 4) (decAt ds j)) := fun j hj => by
    rcases hcs with rfl | ⟨b, off, rfl, hlt, hc⟩
    · simp at hj
    · exact ⟨b, off, rfl, decs_cells hc j hj⟩
  clear hcs hW
  generalize danswer ds = sa at *
  obtain ⟨l, hl⟩ : ∃ n, n = ds.length := ⟨_, rfl⟩
  rw [← hl] at h100' hx HAn HRn hfl ⊢
  have HL := Lib.hid hl
  clear hl hfl
  go_enter Tryz.func5, Tryz.ntmps5
  go_wp2_with fail
  refine (HA.out _ F0).mono ?_
  rintro e w1 ⟨rfl, hb⟩
  have F1 := F0.step hb
  clear hb
  go_wp2_with fail
  refine (HAn.out _ F1).mono ?_
  rintro e w2 ⟨rfl, hb⟩
  have F2 := F1.step hb
  clear hb F1
  go_wp2
  go_loopw [4, 5] (fun v i wr => ∃ k : Nat, k ≤ l ∧ i = .int .i64 k ∧ kDec.Own w2.heap.size wr v ((ds.take k).filter lined) ∧ From w2 wr) (fun _ i _ => l - (intOf i).toNat)
  case atStart => exact ⟨0, Nat.zero_le _, rfl, Kin.Own.nil _ _ _, From.refl _⟩
  case round =>
    obtain ⟨k, hk, rfl, hown, hfw⟩ := hrel
    have hsz := hfw.out.size
    by_cases hlt : k < l
    · obtain ⟨b, off, rfl, hcc⟩ := HD.out k (by rw [← HL.out]; exact hlt)
      have hst := take_filt (ds := ds) (k := k) lined (by rw [← HL.out]; exact hlt)
      have hle : ((ds.take k).filter lined).length ≤ k := Nat.le_trans (List.length_filter_le _ _) (by simp; omega)
      obtain ⟨x, hxx⟩ : ∃ x, x = decAt ds k := ⟨_, rfl⟩
      rw [← hxx] at hcc hst
      clear hxx
      have hF := F2.trans hfw
      have p0 := hF.cell hcc.1
      have p1 := hF.cell hcc.2.1
      have p2 := hF.cell hcc.2.2.1
      have p3 := hF.cell hcc.2.2.2
      clear hcc hF
      have hki : (0 : Int) ≤ (k : Int) := by omega
      have hkl : (k : Int) < (l : Int) := by omega
      obtain ⟨ao, co, rfl⟩ := hown.shape
      have HOWN := Lib.hid hown; clear hown
      have HLN : Hid (∀ w', Calls Tryz.prog 18 #[decV x] w' fun e w'' => e = .returned (.string (str (dline x))) ∧ Below w'.heap.size w' w'') := fun w' => rline_any x w'
      have hli := dline_iff x
      generalize List.filter lined (List.take k ds) = F at *
      generalize dline x = sx at *
      by_cases hsx : sx = []
      · have hd0 : lined x = false := by
          cases h : lined x with
          | false => rfl
          | true => exact absurd hsx (hli.1 h)
        have hst' : (ds.take (k + 1)).filter lined = F := by rw [hst, hd0]; simp
        have hem : (str sx).toList.isEmpty = true := by rw [str_isEmpty, hsx]; rfl
        have HST := Lib.hid hst'
        clear hst hst' hli hd0 hsx
        go_wp2_with fail
        refine (HLN.out _).mono ?_
        rintro e w3 ⟨rfl, hb3⟩
        have F3 : From wr w3 := ⟨hb3⟩
        clear hb3
        go_wp2
        go_roundw
        case rel => exact ⟨k + 1, by omega, by go_num, by rw [HST.out]; exact HOWN.out.below F3.out, hfw.trans F3⟩
        case measure => first | (simp [intOf]; omega) | omega
      · have hd0 : lined x = true := hli.2 hsx
        have hst' : (ds.take (k + 1)).filter lined = F ++ [x] := by rw [hst, hd0]; simp
        have hem : (str sx).toList.isEmpty = false := by rw [str_isEmpty]; cases sx with | nil => exact absurd rfl hsx | cons _ _ => rfl
        have HST := Lib.hid hst'
        clear hst hst' hli hd0 hsx
        go_wp2_with fail
        refine (HLN.out _).mono ?_
        rintro e w3 ⟨rfl, hb3⟩
        have F3 : From wr w3 := ⟨hb3⟩
        have p0' := F3.cell p0
        have p1' := F3.cell p1
        have p2' := F3.cell p2
        have p3' := F3.cell p3
        have hs3 := F3.out.size
        clear hb3 p0 p1 p2 p3
        have hOW : kDec.Own w2.heap.size (w3.alloc (.cells #[.int .i64 x.kind, .int .i64 x.id, .int .i64 x.node, .int .i64 x.at_] 23)) (.slice ao F.length co) F := (HOWN.out.below F3.out).alloc _
        have HOW := Lib.hid hOW; clear hOW
        go_wp2_with (at_builtin; go_must (refine Kin.append1 kDec rfl _ _ rfl w2.heap.size _ F rfl HOW.out w3.heap.size x rfl (cells4_of (by go_simp) (by go_simp) (by go_simp) (by go_simp)) (by unfold maxLen; omega) (by show _ * 32 ≤ _; omega) (by first | (simp; done) | (simp; omega)) ?_; intro v' w4 hown' hbel hgrow; obtain ⟨a2, c2, rfl⟩ := hown'.shape; have HO2 := Lib.hid hown'; clear hown'))
        go_roundw
        case rel => exact ⟨k + 1, by omega, by go_num, by rw [HST.out]; have h := HO2.out; rw [List.length_append] at h; exact h, ⟨(hfw.trans F3).out.trans (((Below.refl _ _).alloc (by omega) _).trans hbel)⟩⟩
        case measure => first | (simp [intOf]; omega) | omega
    · have he : k = l := by omega
      have hfin : (ds.take k).filter lined = ds.filter lined := by rw [he, HL.out, List.take_length]
      rw [hfin] at hown
      have HK := Lib.hid hown.at_
      obtain ⟨ao, co, rfl⟩ := hown.shape
      clear hown hfin he
      generalize (ds.filter lined).length = m at *
      have F3 := F2.trans hfw
      go_wp2_with fail
      refine (HRd.out _ F3).mono ?_
      rintro e w4 ⟨u, rfl, hown, hb⟩
      have F4 := F3.step hb
      have HO := Lib.hid hown.at_
      have HK2 := Lib.hid (HK.out.below hb)
      clear hb hown
      go_wp2_with fail
      refine (HRn.out _ F4).mono ?_
      rintro e w5 ⟨rfl, hb⟩
      have F5 := F4.step hb
      have HO2 := Lib.hid (HO.out.below hb)
      have HK3 := Lib.hid (HK2.out.below hb)
      clear hb
      go_wp2_with fail
      refine (HS.out _ _ _ HO2.out HK3.out).mono ?_
      rintro e w6 ⟨rfl, hb⟩
      have F6 := F5.step hb
      clear hb
      go_wp2
      go_ret
      exact ⟨by simp, F6.out⟩
end Go.Proofs.YtdclokpoeaehlaaGreatDoor
