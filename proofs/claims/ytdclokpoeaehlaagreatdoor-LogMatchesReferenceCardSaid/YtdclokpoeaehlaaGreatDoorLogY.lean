/- LogMatchesReference: the walk. -/
import Derived.Test.YtdclokpoeaehlaaGreatDoorLogX
namespace Go.Proofs.YtdclokpoeaehlaaGreatDoor
set_option linter.all false
open Go.RowKit

/-- The four cells of a boxed decision. -/
def Box (w : World) (g : Nat) (k x y z : Int) : Prop := w.cell? ⟨g, 0, none⟩ = some (.int .i64 k) ∧ w.cell? ⟨g, 1, none⟩ = some (.int .i64 x) ∧ w.cell? ⟨g, 2, none⟩ = some (.int .i64 y) ∧ w.cell? ⟨g, 3, none⟩ = some (.int .i64 z)
theorem Box.from_ {w w' : World} {g : Nat} {k x y z : Int} (h : Box w g k x y z) (hf : From w w') : Box w' g k x y z := ⟨hf.cell h.1, hf.cell h.2.1, hf.cell h.2.2.1, hf.cell h.2.2.2⟩
theorem Box.lt {w : World} {g : Nat} {k x y z : Int} (h : Box w g k x y z) : g < w.heap.size := cell_lt h.1
theorem dline_lined {d : Dec} : (lined d = true ∧ (str (dline d)).toList.isEmpty = false ∧ parseD (str (dline d)).data.toList = d ∧ parseB (str (dline d)).data.toList = true) ∨ (lined d = false ∧ (str (dline d)).toList.isEmpty = true) := by
  cases h : lined d with
  | true =>
    have e := parse_some (dparse_line h)
    refine .inl ⟨rfl, ?_, e.1, e.2⟩
    rw [str_isEmpty]
    cases hq : dline d with
    | nil => have := dparse_line h; rw [hq] at this; exact absurd this (by rw [show dparse [] = none by decide +kernel]; simp)
    | cons _ _ => rfl
  | false =>
    refine .inr ⟨rfl, ?_⟩
    rw [str_isEmpty]
    unfold dline
    rw [h]; rfl
set_option maxHeartbeats 4000000 in
set_option maxRecDepth 100000 in
theorem logMatches_walk (d : Dec) (w : World) (hW : LogW w) : Calls Tryz.prog 3 #[decV d] w fun e w' => e = .returned (.bool true) ∧ Below w.heap.size w w' := by
  have HA : Hid (∀ w', From w w' → Calls Tryz.prog 14 #[] w' fun r w'' => r = .returned (.bool true) ∧ Below w'.heap.size w' w'') := fun w' hf => awake24_any w' (hW.from_ hf)
  have HL : Hid (∀ w', From w w' → Calls Tryz.prog 15 #[.int .i64 d.kind] w' fun e w'' => e = .returned (.string (str (dname d.kind))) ∧ Below w'.heap.size w' w'') := fun w' hf => (lname_any d.kind w' (hW.from_ hf).names).mono fun e w'' ⟨h1, h2⟩ => ⟨h1, by rw [h2]; exact Below.refl _ _⟩
  have HR : Hid (∀ w', From w w' → Calls Tryz.prog 16 #[.int .i64 d.kind] w' fun e w'' => e = .returned (.string (str (dname d.kind))) ∧ Below w'.heap.size w' w'') := fun w' hf => rname_any d.kind w'
  have HLi : Hid (∀ w', From w w' → Calls Tryz.prog 17 #[decV d] w' fun e w'' => e = .returned (.tuple #[.string (str (dline d)), .bool (lined d)]) ∧ Below w'.heap.size w' w'') := fun w' hf => line_any d w' (hW.from_ hf).tabs (hW.from_ hf).names
  have HRi : Hid (∀ w', From w w' → Calls Tryz.prog 18 #[decV d] w' fun e w'' => e = .returned (.string (str (dline d))) ∧ Below w'.heap.size w' w'') := fun w' _ => rline_any d w'
  have HP : Hid (∀ w', From w w' → Calls Tryz.prog 19 #[.string (str (dline d))] w' fun e w'' => e = .returned (.tuple #[decV (parseD (str (dline d)).data.toList), .bool (parseB (str (dline d)).data.toList)]) ∧ Below w'.heap.size w' w'') := fun w' hf => lparse_any _ w' (by rw [str_size]; have := dline_le d; omega) (hW.from_ hf).tabs (hW.from_ hf).names
  have hq1 : ((str (dname d.kind)).toList == (str (dname d.kind)).toList) = true := by rw [beq_iff_eq]
  have hq2 : ((str (dline d)).toList == (str (dline d)).toList) = true := by rw [beq_iff_eq]
  have hc := dline_lined (d := d)
  have HE := eqlDec d d
  rw [show decB d d = true by unfold decB; simp] at HE
  generalize parseD (str (dline d)).data.toList = pd at *
  generalize parseB (str (dline d)).data.toList = pb at *
  generalize dline d = sl at *
  generalize lined d = ld at *
  generalize dname d.kind = nm at *
  obtain ⟨k, x, y, z⟩ := d
  simp only at HL HR HE
  have HC := Lib.hid hc
  have HEh := Lib.hid HE
  clear hc HE hW
  go_enter Tryz.func3, Tryz.ntmps3
  go_wp2
  refine wp_named fun W hW' => ?_
  have FW : From w W := by rw [hW']; exact (From.refl w).alloc _
  have B0 : Box W w.heap.size k x y z := by rw [hW']; exact ⟨by go_simp, by go_simp, by go_simp, by go_simp⟩
  clear hW'
  have HB := Lib.hid B0
  have HK : Hid (∀ w', From W w' → (w'.cell? ⟨w.heap.size, 0, none⟩ = some (.int .i64 k) ∧ From W w')) := fun w' hf => ⟨(HB.out.from_ hf).1, hf⟩
  have H1 : Hid (∀ w', From W w' → Calls Tryz.prog 14 #[] w' fun r w'' => r = .returned (.bool true) ∧ Below w'.heap.size w' w'') := fun w' hf => HA.out _ (FW.trans hf)
  have H2 : Hid (∀ w', From W w' → Calls Tryz.prog 15 #[.int .i64 k] w' fun e w'' => e = .returned (.string (str nm)) ∧ Below w'.heap.size w' w'') := fun w' hf => HL.out _ (FW.trans hf)
  have H3 : Hid (∀ w', From W w' → Calls Tryz.prog 16 #[.int .i64 k] w' fun e w'' => e = .returned (.string (str nm)) ∧ Below w'.heap.size w' w'') := fun w' hf => HR.out _ (FW.trans hf)
  have F0 : From W W := From.refl W
  have Fd : From W W.drew := From.drew F0
  clear B0
  go_region_held3 (fun w' => w'.cell? ⟨w.heap.size, 0, none⟩ = some (.int .i64 k) ∧ From W w')
    (first
      | (with_reducible exact HK.out _ ‹_›)
      | (with_reducible exact HK.out _ (From.drew ‹_›)))
    (first
    | (go_at_call 14; ((with_reducible refine (H1.out _ (by assumption)).mono ?_)); rintro e w1 ⟨rfl, hb⟩; have F1 : From W w1 := From.step ‹_› hb; clear hb)
    | (go_at_call 15; ((with_reducible refine (H2.out _ (by assumption)).mono ?_)); rintro e w2 ⟨rfl, hb⟩; have F2 : From W w2 := From.step ‹_› hb; clear hb)
    | (go_at_call 16; ((with_reducible refine (H3.out _ (by assumption)).mono ?_)); rintro e w3 ⟨rfl, hb⟩; have F3 : From W w3 := From.step ‹_› hb; clear hb)
    | fail)
  obtain ⟨n0, n1, n2, n3⟩ := HB.out.from_ F3
  have G3 := FW.trans F3
  have hlt3 := (HB.out.from_ F3).lt
  clear HA HL HR HK H1 H2 H3 F0 Fd F1 F2 hq1
  go_wp2_with fail
  refine (HLi.out _ G3).mono ?_
  rintro e w4 ⟨rfl, hb⟩
  have K4 := F3.step hb
  clear hb n0 n1 n2 n3
  obtain ⟨n0, n1, n2, n3⟩ := HB.out.from_ K4
  have G4 := FW.trans K4
  go_wp2_with fail
  refine (HRi.out _ G4).mono ?_
  rintro e w5 ⟨rfl, hb⟩
  have K5 := K4.step hb
  clear hb n0 n1 n2 n3
  have G5 := FW.trans K5
  clear HLi HRi K4 G4 F3 G3 hlt3
  rcases HC.out with ⟨rfl, hem, rfl, rfl⟩ | ⟨rfl, hem⟩
  · go_wp2_with fail
    refine (HP.out _ G5).mono ?_
    rintro e w6 ⟨rfl, hb⟩
    have K6 := K5.step hb
    clear hb
    obtain ⟨n0, n1, n2, n3⟩ := HB.out.from_ K6
    have hlt := (HB.out.from_ K6).lt
    have hne1 : ¬ w.heap.size = w6.heap.size := by omega
    have hne2 : ¬ w6.heap.size = w.heap.size := by omega
    have G6 := FW.trans K6
    have HE := HEh.out
    clear HP HB K5 K6 HC FW
    go_wp2
    go_ret
    exact ⟨rfl, (G6.alloc _).out⟩
  · go_wp2_with fail
    refine (HP.out _ G5).mono ?_
    rintro e w6 ⟨rfl, hb⟩
    have G6 := G5.step hb
    clear hb
    clear HP HB K5 HC FW
    go_wp2
    go_ret
    exact ⟨rfl, (G6.alloc _).out⟩
end Go.Proofs.YtdclokpoeaehlaaGreatDoor
