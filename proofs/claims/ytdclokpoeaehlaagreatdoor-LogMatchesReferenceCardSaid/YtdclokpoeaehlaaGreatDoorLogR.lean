/- log.Answer of an error; hammocklaw24.awake. -/
import Derived.Test.YtdclokpoeaehlaaGreatDoorLogQ
import Derived.Test.YtdclokpoeaehlaaGreatDoorLogP
import Derived.Test.YtdclokpoeaehlaaGreatDoorFaultAs
import Derived.Test.YtdclokpoeaehlaaGreatDoorFNames
namespace Go.Proofs.YtdclokpoeaehlaaGreatDoor
set_option linter.all false
open Go.RowKit

def sOther : List UInt8 := [111, 116, 104, 101, 114]
/-- The word for a code: its name, or the word other. -/
def errName (c : Int) : List UInt8 := if (codeName c).data.toList = [] then sOther else (codeName c).data.toList
theorem codeName_cases (c : Int) : (codeName c).data.toList = [] ∨ (codeName c).data.toList ∈ errNames := by
  unfold codeName
  by_cases h : 0 ≤ c ∧ c < 11
  · rw [if_pos h]
    have : c = 0 ∨ c = 1 ∨ c = 2 ∨ c = 3 ∨ c = 4 ∨ c = 5 ∨ c = 6 ∨ c = 7 ∨ c = 8 ∨ c = 9 ∨ c = 10 := by omega
    rcases this with rfl | rfl | rfl | rfl | rfl | rfl | rfl | rfl | rfl | rfl | rfl <;> decide
  · rw [if_neg h]; exact .inl rfl
theorem errName_mem (c : Int) : errName c ∈ errNames := by
  unfold errName
  split
  · decide
  · rename_i h
    rcases codeName_cases c with h1 | h1
    · exact absurd h1 h
    · exact h1
theorem errName_le (c : Int) : (errName c).length ≤ 10 := by
  have h : ∀ x ∈ errNames, x.length ≤ 10 := by decide
  exact h _ (errName_mem c)
theorem strs2 {w : World} {g : Nat} {x0 x1 : List UInt8} (hg : g < w.heap.size) (h0 : w.cell? ⟨g, 0, none⟩ = some (.string (str x0))) (h1 : w.cell? ⟨g, 1, none⟩ = some (.string (str x1))) : kStr.At w (.slice (some ⟨g, 0, none⟩) 2 2) [x0, x1] :=
  ⟨_, _, rfl, .inr ⟨g, 0, rfl, hg, fun j x hx i u hu => by
    have hi : i = 0 := by
      rcases Nat.eq_zero_or_pos i with h | h
      · exact h
      · obtain ⟨i', rfl⟩ : ∃ i', i = i' + 1 := ⟨i - 1, by omega⟩
        cases hu
    subst hi
    cases hu
    match j, hx with
    | 0, hx => cases hx; exact h0
    | 1, hx => cases hx; exact h1
    | _ + 2, hx => cases hx⟩⟩
theorem join_err (x : List UInt8) : Lib.join [[101, 114, 114, 111, 114], x] [32] = sError ++ x := by
  rw [join_cons2, Lib.join_one]; rfl
set_option maxHeartbeats 2000000 in
set_option maxRecDepth 100000 in
theorem lanswer_err (v : Value) (e : EV) (w : World) (hE : ErrType w) (hC : CodesAt w) :
    Calls Tryz.prog 24 #[v, e.val] w fun r w' => r = .returned (.string (str (sError ++ errName (e.asC.getD 0)))) ∧ Below w.heap.size w w' := by
  have hc := faultCode_any (some e) w hE
  simp only [errV, Option.bind_some] at hc
  have hn : ∀ w', From w w' → Calls Tryz.prog 55 #[.int .i64 (e.asC.getD 0)] w' fun r w'' => r = .returned (.string (codeName (e.asC.getD 0))) ∧ w' = w'' := fun w' hf => fCodeName_any _ w' (hC.below hf.out)
  have hle := errName_le (e.asC.getD 0)
  have hj : ∀ w' u, kStr.At w' u [[101, 114, 114, 111, 114], errName (e.asC.getD 0)] → (∀ a n c, u = .slice a n c → n ≤ c) → Calls Tryz.prog 46 #[u] w' fun r w'' => r = .returned (.string (str (sError ++ errName (e.asC.getD 0)))) ∧ Below w'.heap.size w' w'' := fun w' u h hcap => by
    rw [← join_err]
    exact joined_any u _ w' h hcap (by simp) (by rw [join_err, List.length_append]; simp [sError]; omega)
  obtain ⟨tt, vv, hev⟩ := e.iface
  rw [hev] at hc ⊢
  generalize e.asC.getD 0 = c at *
  generalize e.asC.isSome = ok at *
  have HCd := Lib.hid hc
  have HN := Lib.hid hn
  have HJ := Lib.hid hj
  clear hc hn hj hev hle hE hC
  by_cases h0 : (codeName c).data.toList = []
  · have e1 : errName c = sOther := by unfold errName; rw [if_pos h0]
    rw [e1] at HJ ⊢
    have hem : (codeName c).toList.isEmpty = true := by rw [ByteArray.toList_eq, h0]; rfl
    clear h0 e1
    generalize codeName c = nm at *
    go_enter Tryz.func24, Tryz.ntmps24
    go_wp2_with fail
    refine HCd.out.mono ?_
    rintro r w1 ⟨rfl, hb1⟩
    have F1 : From w w1 := ⟨hb1⟩
    clear hb1
    go_wp2_with fail
    refine (HN.out w1 F1).mono ?_
    rintro r w2 ⟨rfl, rfl⟩
    go_wp2_with fail
    refine (HJ.out _ _ (strs2 (x0 := [101, 114, 114, 111, 114]) (x1 := sOther) (by simp) (by go_simp; rfl) (by go_simp; rfl)) (fun a n c e => by cases e; decide)).mono ?_
    rintro r w3 ⟨rfl, hb3⟩
    go_wp2
    go_ret
    exact ⟨rfl, ((F1.alloc _).step hb3).out⟩
  · have e1 : errName c = (codeName c).data.toList := by unfold errName; rw [if_neg h0]
    rw [e1] at HJ ⊢
    have hem : (codeName c).toList.isEmpty = false := by rw [ByteArray.toList_eq]; cases h : (codeName c).data.toList with | nil => exact absurd h h0 | cons _ _ => rfl
    clear h0 e1
    generalize codeName c = nm at *
    go_enter Tryz.func24, Tryz.ntmps24
    go_wp2_with fail
    refine HCd.out.mono ?_
    rintro r w1 ⟨rfl, hb1⟩
    have F1 : From w w1 := ⟨hb1⟩
    clear hb1
    go_wp2_with fail
    refine (HN.out w1 F1).mono ?_
    rintro r w2 ⟨rfl, rfl⟩
    go_wp2_with fail
    refine (HJ.out _ _ (strs2 (x0 := [101, 114, 114, 111, 114]) (x1 := nm.data.toList) (by simp) (by go_simp; rfl) (by rw [str_data]; go_simp)) (fun a n c e => by cases e; decide)).mono ?_
    rintro r w3 ⟨rfl, hb3⟩
    go_wp2
    go_ret
    exact ⟨rfl, ((F1.alloc _).step hb3).out⟩
theorem errorsNew_any (s : ByteArray) (w : World) : Calls Tryz.prog 31 #[.string s] w fun r w' => r = .returned (.iface 89 (.pointer (some ⟨w.heap.size, 0, none⟩))) ∧ Below w.heap.size w w' := by
  go_enter Tryz.func31, Tryz.ntmps31
  go_wp2
  go_ret
  exact ⟨rfl, (Below.refl _ _).alloc (Nat.le_refl _) _⟩
/-- What the laws on the log need of the world. -/
structure LogW (w : World) : Prop where
  tabs : Tabs w
  names : NamesAt w
  err : ErrType w
  codes : CodesAt w
theorem LogW.from_ {w w' : World} (h : LogW w) (hf : From w w') : LogW w' := ⟨h.tabs.from_ hf, h.names.below hf.out, h.err.below hf.out, h.codes.below hf.out⟩
theorem LogW.below {w w' : World} (h : LogW w) (hf : Below w.heap.size w w') : LogW w' := h.from_ ⟨hf⟩
end Go.Proofs.YtdclokpoeaehlaaGreatDoor
