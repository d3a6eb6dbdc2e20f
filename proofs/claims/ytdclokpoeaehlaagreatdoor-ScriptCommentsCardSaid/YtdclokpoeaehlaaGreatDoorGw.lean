/- ScrMA, ScrN: together in one text. -/
import Derived.Test.YtdclokpoeaehlaaGreatDoorGv
import Derived.Test.YtdclokpoeaehlaaGreatDoorSScrM1
import Derived.Test.YtdclokpoeaehlaaGreatDoorSScrM2
import Derived.Test.YtdclokpoeaehlaaGreatDoorSScrM3
import Derived.Test.YtdclokpoeaehlaaGreatDoorSScrM4
/- hammockref04.Parse of any line. -/
namespace Go.Proofs.YtdclokpoeaehlaaGreatDoor
set_option linter.all false
open Go.RowKit

theorem orparse_any (s : ByteArray) (w : World) (hs : s.size ≤ 100000) : Calls Tryz.prog 64 #[.string s] w (ParseRet s.data.toList w) := by
  obtain ⟨x0, r, hsp⟩ : ∃ x0 r, Lib.split s.data.toList [32] = x0 :: r := by
    cases h : Lib.split s.data.toList [32] with
    | nil => exact absurd h (split_ne _ _)
    | cons a b => exact ⟨a, b, rfl⟩
  have hle := opKind_le x0
  have : opKind x0 = 0 ∨ opKind x0 = 1 ∨ opKind x0 = 2 ∨ opKind x0 = 3 ∨ opKind x0 = 4 ∨ opKind x0 = 5 ∨ opKind x0 = 6 ∨ opKind x0 = 7 := by omega
  rcases this with h | h | h | h | h | h | h | h
  · exact rparse_0 s x0 r w hs hsp h
  · exact rparse_1 s x0 r w hs hsp h
  · exact rparse_2 s x0 r w hs hsp h
  · exact rparse_3 s x0 r w hs hsp h
  · exact rparse_4 s x0 r w hs hsp h
  · exact rparse_5 s x0 r w hs hsp h
  · exact rparse_6 s x0 r w hs hsp h
  · exact rparse_7 s x0 r w hs hsp h
end Go.Proofs.YtdclokpoeaehlaaGreatDoor
/- hammockref04.Read. -/
namespace Go.Proofs.YtdclokpoeaehlaaGreatDoor
set_option linter.all false
open Go.RowKit

/-- What hammockref04.Read returns. -/
def RReadRet (r : Sum Nat (List OpS)) (W : World) (e : Ending) (w' : World) : Prop :=
  Below W.heap.size W w' ∧ match r with
    | .inl j => e = .returned (.tuple #[.slice none 0 0, .int .i64 j])
    | .inr os => ∃ v, e = .returned (.tuple #[v, .int .i64 (-1)]) ∧ OwnOps W.heap.size w' v os
theorem rreadRet_bad {r : Sum Nat (List OpS)} {W w' : World} {e : Ending} {j : Nat} (h : r = .inl j) (hb : Below W.heap.size W w') (he : e = .returned (.tuple #[.slice none 0 0, .int .i64 j])) : RReadRet r W e w' := by
  subst h; exact ⟨hb, he⟩
theorem rreadRet_ok {r : Sum Nat (List OpS)} {W w' : World} {e : Ending} {os : List OpS} {v : Value} (h : r = .inr os) (hb : Below W.heap.size W w') (he : e = .returned (.tuple #[v, .int .i64 (-1)])) (ho : OwnOps W.heap.size w' v os) : RReadRet r W e w' := by
  subst h; exact ⟨hb, v, he, ho⟩
theorem RReadRet.bad {r : Sum Nat (List OpS)} {W w' : World} {e : Ending} {j : Nat} (h : RReadRet r W e w') (hr : r = .inl j) : Below W.heap.size W w' ∧ e = .returned (.tuple #[.slice none 0 0, .int .i64 j]) := by
  subst hr; exact h
theorem RReadRet.ok {r : Sum Nat (List OpS)} {W w' : World} {e : Ending} {os : List OpS} (h : RReadRet r W e w') (hr : r = .inr os) : Below W.heap.size W w' ∧ ∃ v, e = .returned (.tuple #[v, .int .i64 (-1)]) ∧ OwnOps W.heap.size w' v os := by
  subst hr; exact h
set_option maxHeartbeats 4000000 in
set_option maxRecDepth 100000 in
theorem orread_any (s : ByteArray) (w : World) (hs : s.size ≤ 100000) :
    Calls Tryz.prog 34 #[.string s] w (RReadRet (oread s.data.toList) w) := by
  go_enter Tryz.func34, Tryz.ntmps34
  go_wp2
  go_loopw [4, 5, 6, 7] (fun v lv fv iv wr => ∃ (k f ln : Nat) (os : List OpS), k ≤ s.size + 1 ∧ f ≤ s.size + 1 ∧ ln ≤ k ∧ Hid (os.length ≤ ln) ∧ lv = .int .i64 ln ∧ fv = .int .i64 f ∧ iv = .int .i64 k ∧ Hid (LinesAt s k f ln os) ∧ OwnOps w.heap.size wr v os ∧ From w wr) (fun _ _ _ iv _ => s.size + 1 - (intOf iv).toNat)
  case atStart => exact ⟨0, 0, 0, [], by omega, by omega, by omega, Nat.le_refl _, rfl, rfl, rfl, LinesAt.start s, OwnOps.nil _ _, From.refl _⟩
  case round =>
    obtain ⟨k, f, ln, os, hk, hf, hln, HL, rfl, rfl, rfl, HA, hown, hfw⟩ := hrel
    obtain ⟨ao, co, rfl⟩ := hown.shape
    have HOWN := Lib.hid hown; clear hown
    have hsz := hfw.out.size
    have hki : (0 : Int) ≤ (k : Int) := by omega
    have hfi : (0 : Int) ≤ (f : Int) := by omega
    by_cases h0 : s.size < k
    · have HF := Lib.hid (HA.out.done h0)
      have h0' : ¬ ((k : Int) ≤ (s.size : Int)) := by omega
      clear HA
      generalize os.length = m at *
      go_wp2
      go_ret2
      exact rreadRet_ok HF.out hfw.out rfl HOWN.out
    · have h1 : (k : Int) ≤ (s.size : Int) := by omega
      by_cases hm : ∃ hk : k < s.size, s[k].toNat ≠ 10
      · obtain ⟨hkl, h10⟩ := hm
        have HN := Lib.hid (HA.out.miss hkl h10)
        have hb : ((s[k].toNat : Int) == 10) = false := by rw [beq_eq_false_iff_ne]; omega
        have hlt : (k : Int) < (s.size : Int) := by omega
        clear HA h10 h0
        go_wp2
        go_roundw
        case rel => exact ⟨k + 1, f, ln, os, by omega, by omega, by omega, HL.out, rfl, rfl, by go_num, HN.out, HOWN.out, hfw⟩
        case measure => first | (simp [intOf]; omega) | omega
      · have hend : ∀ hk : k < s.size, s[k].toNat = 10 := fun h => Classical.byContradiction fun h' => hm ⟨h, h'⟩
        obtain ⟨hfk, hS, hB, hG⟩ := HA.out.line (by omega) hend
        have hxs : (s.extract f k).size ≤ 100000 := by rw [ByteArray.size_extract]; omega
        have HP := Lib.hid fun w' => orparse_any (s.extract f k) w' hxs
        have hfki : (f : Int) ≤ (k : Int) := by omega
        have hks : k ≤ s.size := by omega
        have HS := Lib.hid hS
        have HB := Lib.hid hB
        have HG := Lib.hid hG
        clear hS hB hG HA hm h0 hxs
        have key : ∀ q : Bool, decide ((k : Int) < (s.size : Int)) = q → True := fun _ _ => trivial
        by_cases hkl : k < s.size
        all_goals
          first
            | (have h10 := hend hkl
               have hb : ((s[k].toNat : Int) == 10) = true := by rw [beq_iff_eq]; omega
               have hlt : (k : Int) < (s.size : Int) := by omega)
            | (have hlt : ¬ ((k : Int) < (s.size : Int)) := by omega)
            | fail
          clear hend key
          obtain ⟨y, hy⟩ : ∃ y, y = (s.extract f k).data.toList := ⟨_, rfl⟩
          have hxy : s.extract f k = str y := by rw [hy]; rfl
          rw [← hy] at HP HS HB HG
          have HXY := Lib.hid hxy
          clear hy
          rcases y with - | ⟨c, t⟩
          · have hem : (s.extract f k).toList.isEmpty = true := by rw [hxy]; exact str_isEmpty []
            have HN := Lib.hid (HS.out rfl)
            clear hxy HS HB HG HP
            go_wp2
            go_roundw
            case rel => exact ⟨k + 1, k + 1, ln + 1, os, by omega, by omega, by omega, by have := HL.out; show _ ≤ _; omega, by go_num, by go_num, by go_num, HN.out, HOWN.out, hfw⟩
            case measure => first | (simp [intOf]; omega) | omega
          · have hem : (s.extract f k).toList.isEmpty = false := by rw [hxy, str_isEmpty]; rfl
            have h0x : 0 < (s.extract f k).size := by rw [hxy, str_size]; simp
            have hkf : 0 < k - f := by have h := h0x; rw [ByteArray.size_extract] at h; omega
            have hcc : (s.extract f k)[0] = c := by simp only [hxy]; rfl
            by_cases h35 : c.toNat = 35
            · have hb2 : (((s.extract f k)[0].toNat : Int) == 35) = true := by rw [beq_iff_eq, hcc]; omega
              have HN := Lib.hid (HS.out (by rw [oskip_cons, h35]; rfl))
              clear hxy HS HB HG HP hcc h35 HXY
              go_wp2
              go_roundw
              case rel => exact ⟨k + 1, k + 1, ln + 1, os, by omega, by omega, by omega, by have := HL.out; show _ ≤ _; omega, by go_num, by go_num, by go_num, HN.out, HOWN.out, hfw⟩
              case measure => first | (simp [intOf]; omega) | omega
            · have hb2 : (((s.extract f k)[0].toNat : Int) == 35) = false := by rw [beq_eq_false_iff_ne, hcc]; omega
              have hsk : oskip (c :: t) = false := by rw [oskip_cons]; exact decide_eq_false h35
              have HB1 := fun h => HB.out hsk h
              have HG1 := fun o h => HG.out o hsk h
              clear hxy HS HB HG hcc h35 HXY
              cases hp : oparse (c :: t) with
              | none =>
                have HF := Lib.hid (HB1 hp)
                have HPP := Lib.hid hp
                clear hp HB1 HG1 hsk
                go_wp2_with fail
                refine (HP.out _).mono ?_
                rintro e w2 hret
                obtain ⟨hb3, rfl⟩ := hret.bad HPP.out
                have F2 := hfw.step hb3
                clear hb3 hret
                go_wp2
                go_ret2
                exact rreadRet_bad HF.out (F2.alloc _).out rfl
              | some o =>
                have HGG := Lib.hid (HG1 o hp)
                have HPP := Lib.hid hp
                clear hp HB1 HG1 hsk
                go_wp2_with fail
                refine (HP.out _).mono ?_
                rintro e w2 hret
                obtain ⟨hb3, a, cp, rfl, hin⟩ := hret.ok HPP.out
                have F2 := hfw.step hb3
                have hs2 := hb3.size
                obtain ⟨W, hWW⟩ : ∃ W, W = (w2.alloc (.cells #[.int .i64 o.kind, .int .i64 o.id, .int .i64 o.cls, .int .i64 o.n, .bool o.flag, .slice a o.am.length cp] 58)).alloc (.cells #[.int .i64 o.kind, .int .i64 o.id, .int .i64 o.cls, .int .i64 o.n, .bool o.flag, .slice a o.am.length cp] 58) := ⟨_, rfl⟩
                have hFW : From w2 W := by rw [hWW]; exact ((From.refl w2).alloc _).alloc _
                have hat : kOp.At W (.slice (some ⟨w2.heap.size + 1, 0, none⟩) 1 1) [⟨o.kind, o.id, o.cls, o.n, o.flag, a, o.am.length, cp⟩] := by rw [hWW]; exact kOp_one (by go_simp) (by go_simp) (by go_simp) (by go_simp) (by go_simp) (by go_simp)
                obtain ⟨ys, hown, hyl, HPU⟩ := HOWN.out.ready (hb3.trans (hFW.out.mono hs2)) (hin.below hFW.out) (Nat.le_refl _)
                have hsW := hFW.out.size
                have HOW := Lib.hid hown
                have HAT := Lib.hid hat
                have hyl2 : ys.length ≤ ln := by rw [hyl]; exact HL.out
                clear hin hret hat hown hb3
                have HOL := Lib.hid hyl
                rw [← hyl] at *
                clear hyl
                go_wp2_with (at_builtin; go_must (rw [← hWW]; refine Kin.appendAt kOp rfl _ _ rfl w.heap.size _ ys rfl HOW.out _ [⟨o.kind, o.id, o.cls, o.n, o.flag, a, o.am.length, cp⟩] rfl HAT.out (by show _ + 1 ≤ _; unfold maxLen; omega) (by show (_ + 1) * 64 ≤ _; omega) (by omega) ?_; intro v' w3 hown' hgrow hwh; have HO2 := Lib.hid (HPU.out _ _ hown' hgrow hwh); have F3 : From w w3 := ⟨(F2.trans hFW).out.grown hgrow (by omega) (fun b hb => HOW.out.ge b hb)⟩; obtain ⟨a2, c2, rfl⟩ := hown'.shape; clear hown' hgrow hwh))
                go_roundw
                case rel => exact ⟨k + 1, k + 1, ln + 1, os ++ [o], by omega, by omega, by omega, by have := HL.out; show _ ≤ _; rw [List.length_append]; simp; omega, by go_num, by go_num, by go_num, HGG.out, by have h := HO2.out; rw [List.length_append] at h; exact h, F3⟩
                case measure => first | (simp [intOf]; omega) | omega
end Go.Proofs.YtdclokpoeaehlaaGreatDoor
