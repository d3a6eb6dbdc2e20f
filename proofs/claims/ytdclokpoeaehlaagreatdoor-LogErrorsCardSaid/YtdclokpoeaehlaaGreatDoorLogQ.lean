/- log.Answer of decisions, and its reference. -/
import Derived.Test.YtdclokpoeaehlaaGreatDoorLogD
import Derived.Test.YtdclokpoeaehlaaGreatDoorLogE
import Derived.Test.YtdclokpoeaehlaaGreatDoorLogK
namespace Go.Proofs.YtdclokpoeaehlaaGreatDoor
set_option linter.all false
open Go.RowKit

theorem join_len (sep : List UInt8) (m : Nat) : ∀ xs : List (List UInt8), (∀ x ∈ xs, x.length ≤ m) → (Lib.join xs sep).length ≤ xs.length * (m + sep.length)
  | [], _ => by simp [Lib.join_nil]
  | [x], h => by rw [Lib.join_one]; have := h x (by simp); simp; omega
  | x :: y :: r, h => by
    rw [join_cons2, List.length_append, List.length_append]
    have h1 := h x (by simp)
    have h2 := join_len sep m (y :: r) (fun z hz => h z (by simp [List.mem_cons.1 hz]))
    rw [List.length_cons (a := x), Nat.succ_mul]
    omega
/-- The lines so far. -/
def linesOf (ds : List Dec) : List (List UInt8) := (ds.filter lined).map dline
theorem linesOf_take {ds : List Dec} {k : Nat} (h : k < ds.length) : linesOf (ds.take (k + 1)) = linesOf (ds.take k) ++ (if lined (decAt ds k) then [dline (decAt ds k)] else []) := by
  unfold linesOf
  rw [take_filt lined h, List.map_append]
  congr 1
  split <;> rfl
theorem linesOf_len (ds : List Dec) : (linesOf ds).length ≤ ds.length := by
  unfold linesOf
  rw [List.length_map]
  exact List.length_filter_le _ _
theorem linesOf_le (ds : List Dec) : ∀ x ∈ linesOf ds, x.length ≤ 100 := by
  intro x hx
  obtain ⟨d, _, rfl⟩ := List.mem_map.1 hx
  exact dline_le d
theorem danswer_lines (ds : List Dec) : danswer ds = if linesOf ds = [] then sNone else Lib.join (linesOf ds) [44, 32] := by
  unfold danswer linesOf
  by_cases h : ds.filter lined = []
  · rw [if_pos h, if_pos (by rw [h]; rfl)]
  · rw [if_neg h, if_neg (by simpa using h)]
theorem linesOf_ne (ds : List Dec) : ∀ x ∈ linesOf ds, x ≠ [] := by
  intro x hx
  obtain ⟨d, hd, rfl⟩ := List.mem_map.1 hx
  exact dline_ne (List.mem_filter.1 hd).2
theorem Kin.Own.cap {α : Type} {k : Kin α} {base : Nat} {w : World} {v : Value} {xs : List α} (h : k.Own base w v xs) : ∀ a n c, v = .slice a n c → n ≤ c := by
  intro a n c e
  have h' : w.ownsRow base k.e k.size v xs.length (k.row xs) := h
  rcases h'.2 with ⟨rfl, h0⟩ | ⟨g, cap, cur, rfl, hb, hg, hn, hc, hs, ht⟩
  · cases e; exact Nat.le_refl _
  · cases e; exact hn
set_option maxHeartbeats 4000000 in
set_option maxRecDepth 100000 in
theorem lanswer_some (b off cap : Nat) (ds : List Dec) (w : World) (hx : ds.length ≤ 1000) (hb : b < w.heap.size) (ht : Tabs w) (hn : NamesAt w)
    (hc : ∀ j, j < ds.length → DecCells w b (off + j * 4) (decAt ds j)) :
    Calls Tryz.prog 24 #[.slice (some ⟨b, off, none⟩) ds.length cap, .nilIface] w fun e w' => e = .returned (.string (str (danswer ds))) ∧ Below w.heap.size w w' := by
  have hda := danswer_lines ds
  obtain ⟨l, hl⟩ : ∃ n, n = ds.length := ⟨_, rfl⟩
  rw [← hl] at hx ⊢
  have HL := Lib.hid hl; clear hl
  have HDA := Lib.hid hda; clear hda
  have HC := Lib.hid hc; clear hc
  have HT := Lib.hid ht
  have HN := Lib.hid hn
  clear ht hn
  go_enter Tryz.func24, Tryz.ntmps24
  go_wp2
  go_loopw [8, 31] (fun v i wr => ∃ k : Nat, k ≤ l ∧ i = .int .i64 k ∧ kStr.Own w.heap.size wr v (linesOf (ds.take k)) ∧ From w wr) (fun _ i _ => l - (intOf i).toNat)
  case atStart => exact ⟨0, Nat.zero_le _, rfl, Kin.Own.nil _ _ _, From.refl _⟩
  case round =>
    obtain ⟨k, hk, rfl, hown, hfw⟩ := hrel
    have hsz := hfw.out.size
    by_cases hlt : k < l
    · have hcc := (HC.out k (by rw [← HL.out]; exact hlt)).below hfw.out hb
      have hst := linesOf_take (ds := ds) (k := k) (by rw [← HL.out]; exact hlt)
      have hle : (linesOf (ds.take k)).length ≤ k := Nat.le_trans (linesOf_len _) (by simp; omega)
      obtain ⟨x, hxx⟩ : ∃ x, x = decAt ds k := ⟨_, rfl⟩
      rw [← hxx] at hcc hst
      clear hxx
      obtain ⟨p0, p1, p2, p3⟩ := hcc
      have hki : (0 : Int) ≤ (k : Int) := by omega
      have hkl : (k : Int) < (l : Int) := by omega
      obtain ⟨ao, co, rfl⟩ := hown.shape
      have HOWN := Lib.hid hown; clear hown
      have HLN : Hid (∀ w', From w w' → Calls Tryz.prog 17 #[decV x] w' fun e w'' => e = .returned (.tuple #[.string (str (dline x)), .bool (lined x)]) ∧ Below w'.heap.size w' w'') := fun w' hf => line_any x w' (HT.out.from_ hf) (HN.out.below hf.out)
      generalize linesOf (ds.take k) = F at *
      generalize dline x = sx at *
      go_wp2_with fail
      refine calls_named fun W1 hW1 => ?_
      have F1 : From wr W1 := by rw [hW1]; exact (From.refl _).alloc _
      clear hW1
      refine (HLN.out W1 (hfw.trans F1)).mono ?_
      rintro e w2 ⟨rfl, hb2⟩
      have F2 : From wr w2 := F1.step hb2
      clear hb2 F1
      have hs2 := F2.out.size
      cases hd0 : lined x
      · have hst' : linesOf (ds.take (k + 1)) = F := by rw [hst, hd0]; simp
        have HST := Lib.hid hst'; clear hst hst'
        go_wp2
        go_roundw
        case rel => exact ⟨k + 1, by omega, by go_num, by rw [HST.out]; exact HOWN.out.below F2.out, hfw.trans F2⟩
        case measure => first | (simp [intOf]; omega) | omega
      · have hst' : linesOf (ds.take (k + 1)) = F ++ [sx] := by rw [hst, hd0]; simp
        have HST := Lib.hid hst'; clear hst hst'
        have hOW : kStr.Own w.heap.size (w2.alloc (.cells #[.string (str sx)] 9)) (.slice ao F.length co) F := (HOWN.out.below F2.out).alloc _
        have HOW := Lib.hid hOW; clear hOW
        go_wp2_with (at_builtin; go_must (refine Kin.append1 kStr rfl _ _ rfl w.heap.size _ F rfl HOW.out w2.heap.size sx rfl (cells1_of (by go_simp)) (by unfold maxLen; omega) (by show _ * 16 ≤ _; omega) (by first | (simp; done) | (simp; omega)) ?_; intro v' w3 hown' hbel hgrow; obtain ⟨a2, c2, rfl⟩ := hown'.shape; have HO2 := Lib.hid hown'; clear hown'))
        go_roundw
        case rel => exact ⟨k + 1, by omega, by go_num, by rw [HST.out]; have h := HO2.out; rw [List.length_append] at h; exact h, ⟨(hfw.trans F2).out.trans (((Below.refl _ _).alloc (by omega) _).trans hbel)⟩⟩
        case measure => first | (simp [intOf]; omega) | omega
    · have he : k = l := by omega
      have hfin : Hid (linesOf (ds.take k) = linesOf ds) := by rw [he, HL.out, List.take_length]; rfl
      have hlen : (linesOf (ds.take k)).length ≤ 1000 := Nat.le_trans (linesOf_len _) (by simp; omega)
      have hjl : (Lib.join (linesOf (ds.take k)) [44, 32]).length ≤ 140737488355328 := Nat.le_trans (join_len _ 100 _ (linesOf_le _)) (by simp; omega)
      have hat := hown.at_
      have hcap := hown.cap
      obtain ⟨ao, co, rfl⟩ := hown.shape
      clear hown
      have HJ := Lib.hid (join_any _ (linesOf (ds.take k)) [44, 32] wr hat hcap (by omega) hjl)
      have hda : danswer ds = if linesOf (ds.take k) = [] then sNone else Lib.join (linesOf (ds.take k)) [44, 32] := by rw [hfin.out]; exact HDA.out
      generalize linesOf (ds.take k) = F at *
      clear hat hcap hjl
      by_cases hF : F = []
      · subst hF
        rw [if_pos rfl] at hda
        have HD := Lib.hid hda
        clear hda hfin
        go_wp2
        go_ret
        exact ⟨by rw [HD.out]; rfl, hfw.out⟩
      · rw [if_neg hF] at hda
        have HD := Lib.hid hda
        have hpos : 0 < F.length := List.length_pos_iff.2 hF
        have hne0 : ((F.length : Int) == 0) = false := by rw [beq_eq_false_iff_ne]; omega
        clear hda hfin hF
        generalize F.length = m at *
        go_wp2_with fail
        refine HJ.out.mono ?_
        rintro e w2 ⟨rfl, hb2⟩
        go_wp2
        go_ret
        exact ⟨by rw [HD.out]; rfl, (hfw.step hb2).out⟩
set_option maxRecDepth 100000 in
theorem lanswer_none (a : Option Addr) (cap : Nat) (w : World) :
    Calls Tryz.prog 24 #[.slice a 0 cap, .nilIface] w fun e w' => e = .returned (.string (str sNone)) ∧ w = w' := by
  go_enter Tryz.func24, Tryz.ntmps24
  go_wp2
  refine wp_loop_rounds 1 ?_
  rw [rounds_succ]
  go_wp2
  go_ret
  exact ⟨rfl, rfl⟩
theorem lanswer_any (v : Value) (ds : List Dec) (w : World) (hx : ds.length ≤ 1000) (h : kDec.At w v ds) (ht : Tabs w) (hn : NamesAt w) :
    Calls Tryz.prog 24 #[v, .nilIface] w fun e w' => e = .returned (.string (str (danswer ds))) ∧ Below w.heap.size w w' := by
  obtain ⟨a, cap, rfl, rfl | ⟨b, off, rfl, hlt, hc⟩⟩ := h
  · exact (lanswer_none a cap w).mono fun e w' ⟨he, hw⟩ => ⟨he, hw ▸ Below.refl _ _⟩
  · exact lanswer_some b off cap ds w hx hlt ht hn (decs_cells hc)
/-- The text so far. -/
def textOf (F : List (List UInt8)) : List UInt8 := Lib.join F [44, 32]
theorem textOf_snoc (F : List (List UInt8)) (x : List UInt8) (hF : F ≠ []) : textOf (F ++ [x]) = textOf F ++ [44, 32] ++ x := by
  unfold textOf
  rw [join_append _ _ _ hF (by simp), Lib.join_one]
theorem textOf_nil {F : List (List UInt8)} (h : ∀ x ∈ F, x ≠ []) : textOf F = [] ↔ F = [] := by
  constructor
  · intro e
    match F, h with
    | [], _ => rfl
    | [x], h => unfold textOf at e; rw [Lib.join_one] at e; exact absurd e (h x (by simp))
    | x :: y :: r, h => unfold textOf at e; rw [join_cons2] at e; simp at e
  · rintro rfl; rfl
set_option maxHeartbeats 4000000 in
set_option maxRecDepth 100000 in
theorem ranswer_some (b off cap : Nat) (ds : List Dec) (w : World) (hx : ds.length ≤ 1000) (hb : b < w.heap.size)
    (hc : ∀ j, j < ds.length → DecCells w b (off + j * 4) (decAt ds j)) :
    Calls Tryz.prog 25 #[.slice (some ⟨b, off, none⟩) ds.length cap] w fun e w' => e = .returned (.string (str (danswer ds))) ∧ Below w.heap.size w w' := by
  have hda := danswer_lines ds
  obtain ⟨l, hl⟩ : ∃ n, n = ds.length := ⟨_, rfl⟩
  rw [← hl] at hx ⊢
  have HL := Lib.hid hl; clear hl
  have HDA := Lib.hid hda; clear hda
  have HC := Lib.hid hc; clear hc
  go_enter Tryz.func25, Tryz.ntmps25
  go_wp2
  go_loopw [3, 4] (fun s i wr => ∃ (k : Nat) (t : List UInt8), k ≤ l ∧ i = .int .i64 k ∧ s = .string (str t) ∧ Hid (t = textOf (linesOf (ds.take k))) ∧ From w wr) (fun _ i _ => l - (intOf i).toNat)
  case atStart => exact ⟨0, [], Nat.zero_le _, rfl, rfl, rfl, From.refl _⟩
  case round =>
    obtain ⟨k, t, hk, rfl, rfl, HT, hfw⟩ := hrel
    have hsz := hfw.out.size
    have hFl : (linesOf (ds.take k)).length ≤ 1000 := Nat.le_trans (linesOf_len _) (by simp; omega)
    have hFe : t = [] ↔ linesOf (ds.take k) = [] := by rw [HT.out]; exact textOf_nil (linesOf_ne _)
    have hTl : t.length ≤ 1000 * 102 := by
      rw [HT.out]
      refine Nat.le_trans (join_len _ 100 _ (linesOf_le _)) ?_
      have : (linesOf (ds.take k)).length * 102 ≤ 1000 * 102 := Nat.mul_le_mul_right _ hFl
      simpa using this
    by_cases hlt : k < l
    · have hcc := (HC.out k (by rw [← HL.out]; exact hlt)).below hfw.out hb
      have hst := linesOf_take (ds := ds) (k := k) (by rw [← HL.out]; exact hlt)
      obtain ⟨x, hxx⟩ : ∃ x, x = decAt ds k := ⟨_, rfl⟩
      rw [← hxx] at hcc hst
      clear hxx
      obtain ⟨p0, p1, p2, p3⟩ := hcc
      have hki : (0 : Int) ≤ (k : Int) := by omega
      have hkl : (k : Int) < (l : Int) := by omega
      have HLN : Hid (∀ w', Calls Tryz.prog 18 #[decV x] w' fun e w'' => e = .returned (.string (str (dline x))) ∧ Below w'.heap.size w' w'') := fun w' => rline_any x w'
      have hli := dline_iff x
      have hsl := dline_le x
      generalize linesOf (ds.take k) = F at *
      generalize dline x = sx at *
      by_cases hsx : sx = []
      · have hd0 : lined x = false := by
          cases h : lined x with
          | false => rfl
          | true => exact absurd hsx (hli.1 h)
        have hst' : linesOf (ds.take (k + 1)) = F := by rw [hst, hd0]; simp
        have hem : (str sx).toList.isEmpty = true := by rw [str_isEmpty, hsx]; rfl
        have HST := Lib.hid hst'
        clear hst hst' hli hd0 hsx hFe
        go_wp2_with fail
        refine (HLN.out _).mono ?_
        rintro e w2 ⟨rfl, hb2⟩
        have F2 : From wr w2 := ⟨hb2⟩
        clear hb2
        go_wp2
        go_roundw
        case rel => exact ⟨k + 1, t, by omega, by go_num, rfl, by show t = _; rw [HST.out]; exact HT.out, hfw.trans F2⟩
        case measure => first | (simp [intOf]; omega) | omega
      · have hd0 : lined x = true := hli.2 hsx
        have hst' : linesOf (ds.take (k + 1)) = F ++ [sx] := by rw [hst, hd0]; simp
        have hem : (str sx).toList.isEmpty = false := by rw [str_isEmpty]; cases sx with | nil => exact absurd rfl hsx | cons _ _ => rfl
        have HST := Lib.hid hst'
        clear hst hst' hli hd0 hsx
        by_cases hF : F = []
        · have htn : t = [] := hFe.2 hF
          subst htn
          have het : (str ([] : List UInt8)).toList.isEmpty = true := str_isEmpty []
          have ha : ∀ w, (Op.stringOp .add (str []) (str sx)).run Tryz.prog w = .ok (.string (str sx)) w := fun w => add_str w [] sx (by simp; omega)
          have HF := Lib.hid hF
          clear hFe hF
          go_wp2_with fail
          refine (HLN.out _).mono ?_
          rintro e w2 ⟨rfl, hb2⟩
          have F2 : From wr w2 := ⟨hb2⟩
          clear hb2
          go_wp2
          go_roundw
          case rel => exact ⟨k + 1, sx, by omega, by go_num, rfl, by show sx = _; rw [HST.out, HF.out]; exact (Lib.join_one sx _).symm, hfw.trans F2⟩
          case measure => first | (simp [intOf]; omega) | omega
        · have htn : t ≠ [] := fun h => hF (hFe.1 h)
          have het : (str t).toList.isEmpty = false := by rw [str_isEmpty]; cases t with | nil => exact absurd rfl htn | cons _ _ => rfl
          have ha1 : ∀ w, (Op.stringOp .add (str t) ⟨#[44, 32]⟩).run Tryz.prog w = .ok (.string (str (t ++ [44, 32]))) w := fun w => add_str w t [44, 32] (by simp; omega)
          have ha2 : ∀ w, (Op.stringOp .add (str (t ++ [44, 32])) (str sx)).run Tryz.prog w = .ok (.string (str (t ++ 44 :: 32 :: sx))) w := fun w => by rw [add_str w _ sx (by simp; omega), List.append_assoc]; rfl
          have HF := Lib.hid hF
          clear hFe hF htn
          go_wp2_with fail
          refine (HLN.out _).mono ?_
          rintro e w2 ⟨rfl, hb2⟩
          have F2 : From wr w2 := ⟨hb2⟩
          clear hb2
          go_wp2
          go_roundw
          case rel => exact ⟨k + 1, t ++ 44 :: 32 :: sx, by omega, by go_num, rfl, by show _ = _; rw [HST.out, textOf_snoc _ _ HF.out, HT.out, List.append_assoc]; rfl, hfw.trans F2⟩
          case measure => first | (simp [intOf]; omega) | omega
    · have he : k = l := by omega
      have hfin : linesOf (ds.take k) = linesOf ds := by rw [he, HL.out, List.take_length]
      have hda := HDA.out
      rw [← hfin] at hda
      have ht := HT.out
      generalize linesOf (ds.take k) = F at *
      by_cases hF : F = []
      · have htn : t = [] := hFe.2 hF
        subst htn
        have het : (str ([] : List UInt8)).toList.isEmpty = true := str_isEmpty []
        rw [if_pos hF] at hda
        have HD := Lib.hid hda
        clear hda hFe hF hfin ht
        go_wp2
        go_ret
        exact ⟨by rw [HD.out]; rfl, hfw.out⟩
      · have htn : t ≠ [] := fun h => hF (hFe.1 h)
        have het : (str t).toList.isEmpty = false := by rw [str_isEmpty]; cases t with | nil => exact absurd rfl htn | cons _ _ => rfl
        rw [if_neg hF] at hda
        have HD : Hid (danswer ds = t) := hda.trans ht.symm
        clear hda hFe hF hfin ht htn
        go_wp2
        go_ret
        exact ⟨by rw [HD.out]; rfl, hfw.out⟩
set_option maxRecDepth 100000 in
theorem ranswer_none (a : Option Addr) (cap : Nat) (w : World) :
    Calls Tryz.prog 25 #[.slice a 0 cap] w fun e w' => e = .returned (.string (str sNone)) ∧ w = w' := by
  go_enter Tryz.func25, Tryz.ntmps25
  go_wp2
  refine wp_loop_rounds 1 ?_
  rw [rounds_succ]
  go_wp2
  go_ret
  exact ⟨rfl, rfl⟩
theorem ranswer_any (v : Value) (ds : List Dec) (w : World) (hx : ds.length ≤ 1000) (h : kDec.At w v ds) :
    Calls Tryz.prog 25 #[v] w fun e w' => e = .returned (.string (str (danswer ds))) ∧ Below w.heap.size w w' := by
  obtain ⟨a, cap, rfl, rfl | ⟨b, off, rfl, hlt, hc⟩⟩ := h
  · exact (ranswer_none a cap w).mono fun e w' ⟨he, hw⟩ => ⟨he, hw ▸ Below.refl _ _⟩
  · exact ranswer_some b off cap ds w hx hlt (decs_cells hc)
end Go.Proofs.YtdclokpoeaehlaaGreatDoor
