/- ScrA, ScrB, ScrC: together in one text. -/
import Derived.Test.YtdclokpoeaehlaaGreatDoorGa
import Derived.Test.YtdclokpoeaehlaaGreatDoorGk
import Derived.Test.YtdclokpoeaehlaaGreatDoorGl
/- The names of kinds of operations, the fields of a kind, the words of a flag; script.kind. -/
namespace Go.Proofs.YtdclokpoeaehlaaGreatDoor
set_option linter.all false
open Go.RowKit

def opFields : List (List UInt8) := [[], [105, 110, 102], [105, 97], [105], [105, 99, 110, 97], [105], [110], []]
def FieldsAt (w : World) : Prop := ∀ j, j < 8 → w.cell? ⟨1, j, none⟩ = some (.string (str (opFields.getD j [])))
def FlagsAt (w : World) : Prop := w.cell? ⟨2, 0, none⟩ = some (.string ⟨#[110, 111]⟩) ∧ w.cell? ⟨2, 1, none⟩ = some (.string ⟨#[121, 101, 115]⟩)
theorem KindsAt.from_ {w w' : World} (h : KindsAt w) (hf : From w w') : KindsAt w' := h.below hf.out
theorem FieldsAt.from_ {w w' : World} (h : FieldsAt w) (hf : From w w') : FieldsAt w' := fun j hj => hf.cell (h j hj)
theorem FlagsAt.from_ {w w' : World} (h : FlagsAt w) (hf : From w w') : FlagsAt w' := ⟨hf.cell h.1, hf.cell h.2⟩
theorem kindName_oname (c : Int) : kindName c = str (oname c) := by
  unfold kindName oname
  by_cases h : 0 ≤ c ∧ c < 8
  · rw [if_pos h, if_pos h]
    have hc : c = 0 ∨ c = 1 ∨ c = 2 ∨ c = 3 ∨ c = 4 ∨ c = 5 ∨ c = 6 ∨ c = 7 := by omega
    rcases hc with rfl | rfl | rfl | rfl | rfl | rfl | rfl | rfl <;> rfl
  · rw [if_neg h, if_neg h]; rfl
theorem kindName_any (c : Int) (w : World) (hg : KindsAt w) : Calls Tryz.prog 67 #[.int .i64 c] w fun e w' => e = .returned (.string (str (oname c))) ∧ w = w' := by
  rw [← kindName_oname]; exact fKindName_any c w hg
theorem rkindName_any (c : Int) (w : World) : Calls Tryz.prog 69 #[.int .i64 c] w fun e w' => e = .returned (.string (str (oname c))) ∧ Below w.heap.size w w' := by
  rw [← kindName_oname]; exact rKindName_any c w
theorem opKind_cases (x : List UInt8) : (x = [99, 108, 97, 115, 115] ∧ opKind x = 1) ∨ (x = [110, 111, 100, 101] ∧ opKind x = 2) ∨ (x = [100, 114, 111, 112] ∧ opKind x = 3) ∨ (x = [112, 111, 100] ∧ opKind x = 4) ∨ (x = [100, 101, 108, 101, 116, 101] ∧ opKind x = 5) ∨ (x = [116, 105, 99, 107] ∧ opKind x = 6) ∨ (x = [99, 121, 99, 108, 101] ∧ opKind x = 7) ∨ (x ≠ [99, 108, 97, 115, 115] ∧ x ≠ [110, 111, 100, 101] ∧ x ≠ [100, 114, 111, 112] ∧ x ≠ [112, 111, 100] ∧ x ≠ [100, 101, 108, 101, 116, 101] ∧ x ≠ [116, 105, 99, 107] ∧ x ≠ [99, 121, 99, 108, 101] ∧ opKind x = 0) := by
  by_cases h1 : x = [99, 108, 97, 115, 115]
  · subst h1; exact .inl ⟨rfl, by decide⟩
  by_cases h2 : x = [110, 111, 100, 101]
  · subst h2; exact .inr (.inl ⟨rfl, by decide⟩)
  by_cases h3 : x = [100, 114, 111, 112]
  · subst h3; exact .inr (.inr (.inl ⟨rfl, by decide⟩))
  by_cases h4 : x = [112, 111, 100]
  · subst h4; exact .inr (.inr (.inr (.inl ⟨rfl, by decide⟩)))
  by_cases h5 : x = [100, 101, 108, 101, 116, 101]
  · subst h5; exact .inr (.inr (.inr (.inr (.inl ⟨rfl, by decide⟩))))
  by_cases h6 : x = [116, 105, 99, 107]
  · subst h6; exact .inr (.inr (.inr (.inr (.inr (.inl ⟨rfl, by decide⟩)))))
  by_cases h7 : x = [99, 121, 99, 108, 101]
  · subst h7; exact .inr (.inr (.inr (.inr (.inr (.inr (.inl ⟨rfl, by decide⟩))))))
  refine .inr (.inr (.inr (.inr (.inr (.inr (.inr ⟨h1, h2, h3, h4, h5, h6, h7, ?_⟩))))))
  have e : opNames.tail.findIdx? (· == x) = none := by
    rw [List.findIdx?_eq_none_iff]
    intro y hy
    simp only [opNames, List.tail_cons, List.mem_cons, List.not_mem_nil, or_false] at hy
    rw [beq_eq_false_iff_ne]
    rcases hy with rfl | rfl | rfl | rfl | rfl | rfl | rfl <;> exact fun e => by subst e; contradiction
  unfold opKind
  rw [e]
set_option maxRecDepth 100000 in
set_option maxHeartbeats 4000000 in
theorem kind_any (x : List UInt8) (w : World) (hg : KindsAt w) : Calls Tryz.prog 72 #[.string (str x)] w fun e w' => e = .returned (.int .i64 (opKind x)) ∧ w = w' := by
  have N1 : Hid (Calls Tryz.prog 67 #[.int .i64 1] w fun e w' => e = .returned (.string ⟨#[99, 108, 97, 115, 115]⟩) ∧ w = w') := kindName_any 1 w hg
  have N2 : Hid (Calls Tryz.prog 67 #[.int .i64 2] w fun e w' => e = .returned (.string ⟨#[110, 111, 100, 101]⟩) ∧ w = w') := kindName_any 2 w hg
  have N3 : Hid (Calls Tryz.prog 67 #[.int .i64 3] w fun e w' => e = .returned (.string ⟨#[100, 114, 111, 112]⟩) ∧ w = w') := kindName_any 3 w hg
  have N4 : Hid (Calls Tryz.prog 67 #[.int .i64 4] w fun e w' => e = .returned (.string ⟨#[112, 111, 100]⟩) ∧ w = w') := kindName_any 4 w hg
  have N5 : Hid (Calls Tryz.prog 67 #[.int .i64 5] w fun e w' => e = .returned (.string ⟨#[100, 101, 108, 101, 116, 101]⟩) ∧ w = w') := kindName_any 5 w hg
  have N6 : Hid (Calls Tryz.prog 67 #[.int .i64 6] w fun e w' => e = .returned (.string ⟨#[116, 105, 99, 107]⟩) ∧ w = w') := kindName_any 6 w hg
  have N7 : Hid (Calls Tryz.prog 67 #[.int .i64 7] w fun e w' => e = .returned (.string ⟨#[99, 121, 99, 108, 101]⟩) ∧ w = w') := kindName_any 7 w hg
  clear hg
  rcases opKind_cases x with ⟨rfl, hk⟩ | ⟨rfl, hk⟩ | ⟨rfl, hk⟩ | ⟨rfl, hk⟩ | ⟨rfl, hk⟩ | ⟨rfl, hk⟩ | ⟨rfl, hk⟩ | ⟨h1, h2, h3, h4, h5, h6, h7, hk⟩
  · rw [hk]; clear hk
    show Calls Tryz.prog 72 #[.string ⟨#[99, 108, 97, 115, 115]⟩] w _
    go_enter Tryz.func72, Tryz.ntmps72
    go_wp2
    refine wp_loop_rounds 9 ?_
    rw [rounds_succ]
    go_wp2_with fail
    refine N1.out.mono ?_
    rintro e w1 ⟨rfl, rfl⟩
    go_wp2
    go_ret
    exact ⟨rfl, rfl⟩
  · rw [hk]; clear hk
    show Calls Tryz.prog 72 #[.string ⟨#[110, 111, 100, 101]⟩] w _
    go_enter Tryz.func72, Tryz.ntmps72
    go_wp2
    refine wp_loop_rounds 9 ?_
    rw [rounds_succ]
    go_wp2_with fail
    refine N1.out.mono ?_
    rintro e w1 ⟨rfl, rfl⟩
    go_wp2
    rw [rounds_succ]
    go_wp2_with fail
    refine N2.out.mono ?_
    rintro e w1 ⟨rfl, rfl⟩
    go_wp2
    go_ret
    exact ⟨rfl, rfl⟩
  · rw [hk]; clear hk
    show Calls Tryz.prog 72 #[.string ⟨#[100, 114, 111, 112]⟩] w _
    go_enter Tryz.func72, Tryz.ntmps72
    go_wp2
    refine wp_loop_rounds 9 ?_
    rw [rounds_succ]
    go_wp2_with fail
    refine N1.out.mono ?_
    rintro e w1 ⟨rfl, rfl⟩
    go_wp2
    rw [rounds_succ]
    go_wp2_with fail
    refine N2.out.mono ?_
    rintro e w1 ⟨rfl, rfl⟩
    go_wp2
    rw [rounds_succ]
    go_wp2_with fail
    refine N3.out.mono ?_
    rintro e w1 ⟨rfl, rfl⟩
    go_wp2
    go_ret
    exact ⟨rfl, rfl⟩
  · rw [hk]; clear hk
    show Calls Tryz.prog 72 #[.string ⟨#[112, 111, 100]⟩] w _
    go_enter Tryz.func72, Tryz.ntmps72
    go_wp2
    refine wp_loop_rounds 9 ?_
    rw [rounds_succ]
    go_wp2_with fail
    refine N1.out.mono ?_
    rintro e w1 ⟨rfl, rfl⟩
    go_wp2
    rw [rounds_succ]
    go_wp2_with fail
    refine N2.out.mono ?_
    rintro e w1 ⟨rfl, rfl⟩
    go_wp2
    rw [rounds_succ]
    go_wp2_with fail
    refine N3.out.mono ?_
    rintro e w1 ⟨rfl, rfl⟩
    go_wp2
    rw [rounds_succ]
    go_wp2_with fail
    refine N4.out.mono ?_
    rintro e w1 ⟨rfl, rfl⟩
    go_wp2
    go_ret
    exact ⟨rfl, rfl⟩
  · rw [hk]; clear hk
    show Calls Tryz.prog 72 #[.string ⟨#[100, 101, 108, 101, 116, 101]⟩] w _
    go_enter Tryz.func72, Tryz.ntmps72
    go_wp2
    refine wp_loop_rounds 9 ?_
    rw [rounds_succ]
    go_wp2_with fail
    refine N1.out.mono ?_
    rintro e w1 ⟨rfl, rfl⟩
    go_wp2
    rw [rounds_succ]
    go_wp2_with fail
    refine N2.out.mono ?_
    rintro e w1 ⟨rfl, rfl⟩
    go_wp2
    rw [rounds_succ]
    go_wp2_with fail
    refine N3.out.mono ?_
    rintro e w1 ⟨rfl, rfl⟩
    go_wp2
    rw [rounds_succ]
    go_wp2_with fail
    refine N4.out.mono ?_
    rintro e w1 ⟨rfl, rfl⟩
    go_wp2
    rw [rounds_succ]
    go_wp2_with fail
    refine N5.out.mono ?_
    rintro e w1 ⟨rfl, rfl⟩
    go_wp2
    go_ret
    exact ⟨rfl, rfl⟩
  · rw [hk]; clear hk
    show Calls Tryz.prog 72 #[.string ⟨#[116, 105, 99, 107]⟩] w _
    go_enter Tryz.func72, Tryz.ntmps72
    go_wp2
    refine wp_loop_rounds 9 ?_
    rw [rounds_succ]
    go_wp2_with fail
    refine N1.out.mono ?_
    rintro e w1 ⟨rfl, rfl⟩
    go_wp2
    rw [rounds_succ]
    go_wp2_with fail
    refine N2.out.mono ?_
    rintro e w1 ⟨rfl, rfl⟩
    go_wp2
    rw [rounds_succ]
    go_wp2_with fail
    refine N3.out.mono ?_
    rintro e w1 ⟨rfl, rfl⟩
    go_wp2
    rw [rounds_succ]
    go_wp2_with fail
    refine N4.out.mono ?_
    rintro e w1 ⟨rfl, rfl⟩
    go_wp2
    rw [rounds_succ]
    go_wp2_with fail
    refine N5.out.mono ?_
    rintro e w1 ⟨rfl, rfl⟩
    go_wp2
    rw [rounds_succ]
    go_wp2_with fail
    refine N6.out.mono ?_
    rintro e w1 ⟨rfl, rfl⟩
    go_wp2
    go_ret
    exact ⟨rfl, rfl⟩
  · rw [hk]; clear hk
    show Calls Tryz.prog 72 #[.string ⟨#[99, 121, 99, 108, 101]⟩] w _
    go_enter Tryz.func72, Tryz.ntmps72
    go_wp2
    refine wp_loop_rounds 9 ?_
    rw [rounds_succ]
    go_wp2_with fail
    refine N1.out.mono ?_
    rintro e w1 ⟨rfl, rfl⟩
    go_wp2
    rw [rounds_succ]
    go_wp2_with fail
    refine N2.out.mono ?_
    rintro e w1 ⟨rfl, rfl⟩
    go_wp2
    rw [rounds_succ]
    go_wp2_with fail
    refine N3.out.mono ?_
    rintro e w1 ⟨rfl, rfl⟩
    go_wp2
    rw [rounds_succ]
    go_wp2_with fail
    refine N4.out.mono ?_
    rintro e w1 ⟨rfl, rfl⟩
    go_wp2
    rw [rounds_succ]
    go_wp2_with fail
    refine N5.out.mono ?_
    rintro e w1 ⟨rfl, rfl⟩
    go_wp2
    rw [rounds_succ]
    go_wp2_with fail
    refine N6.out.mono ?_
    rintro e w1 ⟨rfl, rfl⟩
    go_wp2
    rw [rounds_succ]
    go_wp2_with fail
    refine N7.out.mono ?_
    rintro e w1 ⟨rfl, rfl⟩
    go_wp2
    go_ret
    exact ⟨rfl, rfl⟩
  · rw [hk]; clear hk
    have q1 : ([99, 108, 97, 115, 115] == (str x).toList) = false := by rw [beq_eq_false_iff_ne, ByteArray.toList_eq]; exact fun e => h1 e.symm
    have q2 : ([110, 111, 100, 101] == (str x).toList) = false := by rw [beq_eq_false_iff_ne, ByteArray.toList_eq]; exact fun e => h2 e.symm
    have q3 : ([100, 114, 111, 112] == (str x).toList) = false := by rw [beq_eq_false_iff_ne, ByteArray.toList_eq]; exact fun e => h3 e.symm
    have q4 : ([112, 111, 100] == (str x).toList) = false := by rw [beq_eq_false_iff_ne, ByteArray.toList_eq]; exact fun e => h4 e.symm
    have q5 : ([100, 101, 108, 101, 116, 101] == (str x).toList) = false := by rw [beq_eq_false_iff_ne, ByteArray.toList_eq]; exact fun e => h5 e.symm
    have q6 : ([116, 105, 99, 107] == (str x).toList) = false := by rw [beq_eq_false_iff_ne, ByteArray.toList_eq]; exact fun e => h6 e.symm
    have q7 : ([99, 121, 99, 108, 101] == (str x).toList) = false := by rw [beq_eq_false_iff_ne, ByteArray.toList_eq]; exact fun e => h7 e.symm
    clear h1 h2 h3 h4 h5 h6 h7
    go_enter Tryz.func72, Tryz.ntmps72
    go_wp2
    refine wp_loop_rounds 9 ?_
    rw [rounds_succ]
    go_wp2_with fail
    refine N1.out.mono ?_
    rintro e w1 ⟨rfl, rfl⟩
    go_wp2
    rw [rounds_succ]
    go_wp2_with fail
    refine N2.out.mono ?_
    rintro e w1 ⟨rfl, rfl⟩
    go_wp2
    rw [rounds_succ]
    go_wp2_with fail
    refine N3.out.mono ?_
    rintro e w1 ⟨rfl, rfl⟩
    go_wp2
    rw [rounds_succ]
    go_wp2_with fail
    refine N4.out.mono ?_
    rintro e w1 ⟨rfl, rfl⟩
    go_wp2
    rw [rounds_succ]
    go_wp2_with fail
    refine N5.out.mono ?_
    rintro e w1 ⟨rfl, rfl⟩
    go_wp2
    rw [rounds_succ]
    go_wp2_with fail
    refine N6.out.mono ?_
    rintro e w1 ⟨rfl, rfl⟩
    go_wp2
    rw [rounds_succ]
    go_wp2_with fail
    refine N7.out.mono ?_
    rintro e w1 ⟨rfl, rfl⟩
    go_wp2
    rw [rounds_succ]
    go_wp2
    go_ret
    exact ⟨rfl, rfl⟩
end Go.Proofs.YtdclokpoeaehlaaGreatDoor
/- script.field: the words of a field. -/
namespace Go.Proofs.YtdclokpoeaehlaaGreatDoor
set_option linter.all false
open Go.RowKit

theorem fmt_any (n : Int) (w : World) (h0 : -9223372036854775808 ≤ n) (h1 : n ≤ 9223372036854775807) (ht : Tabs w) :
    Calls Tryz.prog 85 #[.int .i64 n, .int .i64 10] w fun e w' => e = .returned (.string (str (Lib.itoa n))) ∧ Below w.heap.size w w' :=
  (Tryz.strconv_FormatInt_10 n h0 h1 w ht.tab).mono fun e w' ⟨he, k, os, hw⟩ => ⟨he, hw ▸ below_grown w k os⟩
set_option maxHeartbeats 4000000 in
set_option maxRecDepth 100000 in
theorem field_one (t : Int) (k i c n : Int) (f : Bool) (a : Option Addr) (l cp : Nat) (x : Int) (w : World) (hx : (t = 105 ∧ x = i) ∨ (t = 99 ∧ x = c) ∨ (t = 110 ∧ x = n)) (ht : Tabs w) (hr : inR x) :
    Calls Tryz.prog 68 #[opV k i c n f (.slice a l cp), .int .u8 t] w fun e w' => ∃ v, e = .returned (.tuple #[v, .bool true]) ∧ kStr.Own w.heap.size w' v [Lib.itoa x] ∧ Below w.heap.size w w' := by
  have HF : Hid (∀ w', From w w' → Calls Tryz.prog 85 #[.int .i64 x, .int .i64 10] w' fun e w'' => e = .returned (.string (str (Lib.itoa x))) ∧ Below w'.heap.size w' w'') := fun w' hf => fmt_any x w' (by unfold inR at hr; omega) (by unfold inR at hr; omega) (ht.from_ hf)
  generalize Lib.itoa x = sx at *
  obtain ⟨r0, r1⟩ := hr
  have hmm : 1 ≤ maxLen := by decide
  have F0 := From.refl w
  clear ht
  rcases hx with ⟨rfl, rfl⟩ | ⟨rfl, rfl⟩ | ⟨rfl, rfl⟩
  all_goals
    go_enter Tryz.func68, Tryz.ntmps68
    go_wp2
    refine wp_loop_rounds 2 ?_
    rw [rounds_succ]
    go_wp2_with fail
    refine calls_named fun W1 hW1 => ?_
    have F1 : From w W1 := by rw [hW1]; exact ((F0.alloc _).alloc _)
    clear hW1
    refine (HF.out W1 F1).mono ?_
    rintro e w2 ⟨rfl, hb⟩
    have F2 := F1.step hb
    have hs2 := F2.out.size
    clear hb
    go_wp2_with (at_builtin; go_must (refine Kin.append1 kStr rfl _ _ rfl w.heap.size _ [] rfl (Kin.Own.nil _ _ _) w2.heap.size sx rfl (cells1_of (by go_simp)) (by simp; omega) (by simp [kStr]) (by simp; omega) ?_; intro v' w3 hown' hbel hgrow; obtain ⟨a2, c2, rfl⟩ := hown'.shape; have HO2 := Lib.hid hown'; clear hown'))
    rw [rounds_succ]
    go_wp2
    go_ret2
    exact ⟨_, rfl, HO2.out, ((F2.out.alloc hs2 _).trans (hbel))⟩
set_option maxHeartbeats 4000000 in
set_option maxRecDepth 100000 in
theorem field_one_bad (t : Int) (k i c n : Int) (f : Bool) (a : Option Addr) (l cp : Nat) (x : Int) (w : World) (hx : (t = 105 ∧ x = i) ∨ (t = 99 ∧ x = c) ∨ (t = 110 ∧ x = n)) (hr : ¬ inR x) :
    Calls Tryz.prog 68 #[opV k i c n f (.slice a l cp), .int .u8 t] w fun e w' => e = .returned (.tuple #[.slice none 0 0, .bool false]) ∧ Below w.heap.size w w' := by
  have hr' : x < -4611686018427387904 ∨ (-4611686018427387904 ≤ x ∧ 4611686018427387904 < x) := by unfold inR at hr; omega
  clear hr
  rcases hx with ⟨rfl, rfl⟩ | ⟨rfl, rfl⟩ | ⟨rfl, rfl⟩
  all_goals
    rcases hr' with h | ⟨h, h'⟩
    all_goals
      go_enter Tryz.func68, Tryz.ntmps68
      go_wp2
      refine wp_loop_rounds 2 ?_
      rw [rounds_succ]
      go_wp2
      go_ret2
      exact ⟨rfl, ((Below.refl _ _).alloc (Nat.le_refl _) _).alloc (by simp) _⟩
set_option maxHeartbeats 4000000 in
set_option maxRecDepth 100000 in
theorem field_flag (k i c n : Int) (f : Bool) (a : Option Addr) (l cp : Nat) (w : World) :
    Calls Tryz.prog 68 #[opV k i c n f (.slice a l cp), .int .u8 102] w fun e w' => e = .returned (.tuple #[if f then .slice (some ⟨2, 1, none⟩) 1 1 else .slice (some ⟨2, 0, none⟩) 1 2, .bool true]) ∧ Below w.heap.size w w' := by
  cases f
  all_goals
    go_enter Tryz.func68, Tryz.ntmps68
    go_wp2
    go_ret2
    exact ⟨by rfl, (Below.refl _ _).alloc (Nat.le_refl _) _⟩
end Go.Proofs.YtdclokpoeaehlaaGreatDoor
/- script.field: the words of the amounts. -/
namespace Go.Proofs.YtdclokpoeaehlaaGreatDoor
set_option linter.all false
open Go.RowKit

def allR (l : List Int) : Bool := l.all fun x => decide (inR x)
theorem allR_iff {l : List Int} : allR l = true ↔ ∀ x ∈ l, inR x := by
  unfold allR
  rw [List.all_eq_true]
  exact ⟨fun h x hx => of_decide_eq_true (h x hx), fun h x hx => decide_eq_true (h x hx)⟩
theorem allR_take {l : List Int} {k : Nat} (h : k < l.length) (ha : allR (l.take k) = true) (hx : inR (l.getD k 0)) : allR (l.take (k + 1)) = true := by
  rw [allR_iff] at *
  intro x hm
  rw [List.take_succ, List.mem_append] at hm
  rcases hm with hm | hm
  · exact ha x hm
  · rw [List.getElem?_eq_getElem h] at hm
    simp only [Option.toList_some, List.mem_singleton] at hm
    subst hm
    rw [List.getD_eq_getElem?_getD, List.getElem?_eq_getElem h] at hx
    exact hx
theorem allR_bad {l : List Int} {k : Nat} (h : k < l.length) (hx : ¬ inR (l.getD k 0)) : allR l = false := by
  cases ha : allR l with
  | false => rfl
  | true =>
    exfalso
    rw [allR_iff] at ha
    refine hx (ha _ ?_)
    rw [List.getD_eq_getElem?_getD, List.getElem?_eq_getElem h]
    exact List.getElem_mem h
theorem itoas_take {l : List Int} {k : Nat} (h : k < l.length) : (l.take (k + 1)).map Lib.itoa = (l.take k).map Lib.itoa ++ [Lib.itoa (l.getD k 0)] := by
  rw [List.take_succ, List.map_append, List.getD_eq_getElem?_getD, List.getElem?_eq_getElem h]
  rfl
/-- Words of numbers, or nothing where a number is out of its range. -/
def RetWords (W : World) (zs : List Int) (e : Ending) (w' : World) : Prop :=
  Below W.heap.size W w' ∧ ((allR zs = true ∧ ∃ v, e = .returned (.tuple #[v, .bool true]) ∧ kStr.Own W.heap.size w' v (zs.map Lib.itoa)) ∨ (allR zs = false ∧ e = .returned (.tuple #[.slice none 0 0, .bool false])))
set_option maxHeartbeats 4000000 in
set_option maxRecDepth 100000 in
theorem field_some (k i c n : Int) (f : Bool) (b off cp : Nat) (zs : List Int) (w : World) (hz : zs.length ≤ 1000) (hb : b < w.heap.size) (ht : Tabs w)
    (hc : ∀ j, j < zs.length → w.cell? ⟨b, off + j, none⟩ = some (.int .i64 (zs.getD j 0))) :
    Calls Tryz.prog 68 #[opV k i c n f (.slice (some ⟨b, off, none⟩) zs.length cp), .int .u8 97] w (RetWords w zs) := by
  obtain ⟨l, hl⟩ : ∃ n, n = zs.length := ⟨_, rfl⟩
  rw [← hl] at hz hc ⊢
  have HL := Lib.hid hl; clear hl
  have HC : Hid (∀ w' j, From w w' → j < l → w'.cell? ⟨b, off + j, none⟩ = some (.int .i64 (zs.getD j 0))) := fun w' j hf hj => hf.cell (hc j hj)
  have HT : Hid (∀ w', From w w' → Tabs w') := fun w' hf => ht.from_ hf
  clear hc ht hb
  have hmx : 1001 ≤ maxLen := by unfold maxLen; omega
  go_enter Tryz.func68, Tryz.ntmps68
  go_wp2
  go_loopw [7, 9, 38] (fun v _ i wr => ∃ k : Nat, k ≤ l ∧ i = .int .i64 k ∧ kStr.Own w.heap.size wr v ((zs.take k).map Lib.itoa) ∧ From w wr ∧ allR (zs.take k) = true) (fun _ _ i _ => l - (intOf i).toNat)
  case atStart => exact ⟨0, Nat.zero_le _, rfl, Kin.Own.nil _ _ _, (From.refl _).alloc _, rfl⟩
  case round =>
    obtain ⟨k, hk, rfl, hown, hfw, hall⟩ := hrel
    have hsz := hfw.out.size
    by_cases hlt : k < l
    · have p0 := HC.out _ k hfw hlt
      have hst := itoas_take (l := zs) (k := k) (by rw [← HL.out]; exact hlt)
      have hle : ((zs.take k).map Lib.itoa).length ≤ k := by simp; omega
      have HGO : Hid (inR (zs.getD k 0) → allR (zs.take (k + 1)) = true) := fun hx => allR_take (by rw [← HL.out]; exact hlt) hall hx
      have HBAD : Hid (¬ inR (zs.getD k 0) → allR zs = false) := fun hx => allR_bad (by rw [← HL.out]; exact hlt) hx
      clear hall
      have hki : (0 : Int) ≤ (k : Int) := by omega
      have hkl : (k : Int) < (l : Int) := by omega
      obtain ⟨ao, co, rfl⟩ := hown.shape
      have HOWN := Lib.hid hown; clear hown
      generalize zs.getD k 0 = x at *
      by_cases hr : inR x
      · have HA1 := Lib.hid (HGO.out hr)
        have HF : Hid (∀ w', From w w' → Calls Tryz.prog 85 #[.int .i64 x, .int .i64 10] w' fun e w'' => e = .returned (.string (str (Lib.itoa x))) ∧ Below w'.heap.size w' w'') := fun w' hf => fmt_any x w' (by unfold inR at hr; omega) (by unfold inR at hr; omega) (HT.out _ hf)
        generalize Lib.itoa x = sx at *
        obtain ⟨r0, r1⟩ := hr
        generalize (zs.take k).map Lib.itoa = F at *
        have HST := Lib.hid hst
        clear hst
        go_wp2_with fail
        refine (HF.out _ hfw).mono ?_
        rintro e w2 ⟨rfl, hb2⟩
        have F2 : From wr w2 := ⟨hb2⟩
        have hs2 := F2.out.size
        clear hb2
        have hOW : kStr.Own w.heap.size (w2.alloc (.cells #[.string (str sx)] 9)) (.slice ao F.length co) F := (HOWN.out.below F2.out).alloc _
        have HOW := Lib.hid hOW; clear hOW
        go_wp2_with (at_builtin; go_must (refine Kin.append1 kStr rfl _ _ rfl w.heap.size _ F rfl HOW.out w2.heap.size sx rfl (cells1_of (by go_simp)) (by omega) (by show _ * 16 ≤ _; omega) (by first | (simp; done) | (simp; omega)) ?_; intro v' w3 hown' hbel hgrow; obtain ⟨a2, c2, rfl⟩ := hown'.shape; have HO2 := Lib.hid hown'; clear hown'))
        go_roundw
        case rel => exact ⟨k + 1, by omega, by go_num, by rw [HST.out]; have h := HO2.out; rw [List.length_append] at h; exact h, ⟨(hfw.trans F2).out.trans (((Below.refl _ _).alloc (by omega) _).trans hbel)⟩, HA1.out⟩
        case measure => first | (simp [intOf]; omega) | omega
      · have HB1 := Lib.hid (HBAD.out hr)
        have hr' : x < -4611686018427387904 ∨ (-4611686018427387904 ≤ x ∧ 4611686018427387904 < x) := by unfold inR at hr; omega
        clear hr hst
        rcases hr' with h | ⟨h, h'⟩
        · go_wp2
          go_ret2
          exact ⟨hfw.out, .inr ⟨HB1.out, rfl⟩⟩
        · go_wp2
          go_ret2
          exact ⟨hfw.out, .inr ⟨HB1.out, rfl⟩⟩
    · have he : k = l := by omega
      subst he
      have HA1 : Hid (allR zs = true) := by rw [HL.out, List.take_length] at hall; exact hall
      rw [HL.out, List.take_length] at hown
      have HO := Lib.hid hown
      clear hown hall
      go_wp2
      go_ret2
      exact ⟨hfw.out, .inl ⟨HA1.out, _, rfl, HO.out⟩⟩
theorem field_none (k i c n : Int) (f : Bool) (a : Option Addr) (cp : Nat) (w : World) :
    Calls Tryz.prog 68 #[opV k i c n f (.slice a 0 cp), .int .u8 97] w (RetWords w []) := by
  go_enter Tryz.func68, Tryz.ntmps68
  go_wp2
  refine wp_loop_rounds 2 ?_
  rw [rounds_succ]
  go_wp2
  go_ret2
  exact ⟨(Below.refl _ _).alloc (Nat.le_refl _) _, .inl ⟨rfl, _, rfl, Kin.Own.nil _ _ _⟩⟩
theorem field_ints (k i c n : Int) (f : Bool) (am : Value) (zs : List Int) (w : World) (hz : zs.length ≤ 1000) (ht : Tabs w) (h : IntsAt w am zs) :
    Calls Tryz.prog 68 #[opV k i c n f am, .int .u8 97] w (RetWords w zs) := by
  obtain ⟨a, cap, rfl, rfl | ⟨b, off, rfl, hlt, hc⟩⟩ := h
  · exact field_none k i c n f a cap w
  · exact field_some k i c n f b off cap zs w hz hlt ht hc
end Go.Proofs.YtdclokpoeaehlaaGreatDoor
