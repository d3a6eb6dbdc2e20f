/- The laws FaultNames, FaultOthers and FaultNests: the walks. -/
import Derived.Test.YtcegipkhmibdeaaDoorAwake02
namespace Go.Proofs.YtcegipkhmibdeaaDoor
set_option linter.all false
open Go.RowKit Go.Extern.Stop Go.Stop Go.Extern

set_option maxRecDepth 100000 in
theorem errorsNew_any (s : ByteArray) (w : World) : Calls Tryd.prog 87 #[.string s] w fun r w' => r = .returned (.iface 148 (.pointer (some ⟨w.heap.size, 0, none⟩))) ∧ Below w.heap.size w w' := by
  go_enter Tryd.func87, Tryd.ntmps87
  go_wp2
  go_ret
  exact ⟨rfl, (Below.refl _ _).alloc (Nat.le_refl _) _⟩
set_option maxHeartbeats 2000000 in
set_option maxRecDepth 100000 in
theorem faultNames_walk (c at_ : Int) (w : World) (hE : ErrType w) (hC : CodesAt w) (hK : KindsAt w) :
    Calls Tryd.prog 18 #[.int .i64 c, .int .i64 at_] w fun r w' => r = .returned (.bool true) ∧ Below w.heap.size w w' := by
  have n1 := fCodeName_any c
  have n2 := rCodeName_any c
  have n3 := fKindName_any c
  have n4 := rKindName_any c
  generalize codeName c = s1 at *
  generalize kindName c = s2 at *
  have N1 := Lib.hid n1; clear n1
  have N2 := Lib.hid n2; clear n2
  have N3 := Lib.hid n3; clear n3
  have N4 := Lib.hid n4; clear n4
  have i1 := fun w => errorsIsF_any (.fault c at_) c at_ w
  simp only [EV.isF, beq_self_eq_true, Bool.and_self] at i1
  change ∀ w, Calls _ _ #[.iface 106 (.agg #[.int .i64 c, .int .i64 at_]), _] _ _ at i1
  have I1 := Lib.hid i1; clear i1
  have i2 := fun w => errorsIsC_any (.fault c at_) c w
  simp only [EV.isC, beq_self_eq_true] at i2
  change ∀ w, Calls _ _ #[.iface 106 (.agg #[.int .i64 c, .int .i64 at_]), _] _ _ at i2
  have I2 := Lib.hid i2; clear i2
  have HN := Lib.hid faultNew_any
  have HA := Lib.hid (awake02_any w hE hC hK)
  have HC := Lib.hid hC
  have HK := Lib.hid hK
  clear hE hC hK
  go_enter Tryd.func18, Tryd.ntmps18
  go_wp2_with (first
    | (go_at_call 73; (with_reducible refine (HA.out).mono ?_); rintro r w1 ⟨rfl, B1⟩)
    | (go_at_call 80; (with_reducible refine (N1.out _ (HC.out.below B1)).mono ?_); rintro r w2 ⟨rfl, hw⟩; have B2 : Below w.heap.size w w2 := hw ▸ B1; clear hw)
    | (go_at_call 81; (with_reducible refine (N2.out _).mono ?_); rintro r w3 ⟨rfl, hb⟩; have B3 : Below w.heap.size w w3 := B2.trans (hb.mono B2.size); clear hb)
    | (go_at_call 82; (with_reducible refine (N3.out _ (HK.out.below B3)).mono ?_); rintro r w4 ⟨rfl, hw⟩; have B4 : Below w.heap.size w w4 := hw ▸ B3; clear hw)
    | (go_at_call 83; (with_reducible refine (N4.out _).mono ?_); rintro r w5 ⟨rfl, hb⟩; have B5 : Below w.heap.size w w5 := B4.trans (hb.mono B4.size); clear hb)
    | (go_at_call 84; (with_reducible refine (HN.out c at_ _).mono ?_); rintro r w6 ⟨rfl, hw⟩; have B6 : Below w.heap.size w w6 := hw ▸ B5; clear hw)
    | (go_at_call 85; (with_reducible refine (I1.out _).mono ?_); rintro r w7 ⟨rfl, hb⟩; have B7 : Below w.heap.size w w7 := B6.trans (hb.mono B6.size); clear hb)
    | (go_at_call 85; (with_reducible refine (I2.out _).mono ?_); rintro r w8 ⟨rfl, hb⟩; have B8 : Below w.heap.size w w8 := B7.trans (hb.mono B7.size); clear hb))
  go_ret
  exact ⟨rfl, B8⟩
set_option maxHeartbeats 2000000 in
set_option maxRecDepth 100000 in
theorem faultOthers_walk (s : ByteArray) (k : Int) (w : World) (hE : ErrType w) (hC : CodesAt w) (hK : KindsAt w) :
    Calls Tryd.prog 20 #[.string s, .int .i64 k] w fun r w' => r = .returned (.bool true) ∧ Below w.heap.size w w' := by
  have HA := Lib.hid awake02_any
  have HC := Lib.hid hC
  have HK := Lib.hid hK
  have HE := Lib.hid hE
  clear hE hC hK
  by_cases hl : 100 < s.size
  · go_enter Tryd.func20, Tryd.ntmps20
    go_wp2_with fail
    refine (HA.out _ HE.out HC.out HK.out).mono ?_
    rintro r w1 ⟨rfl, B1⟩
    go_wp2_with fail
    refine (HA.out _ (HE.out.below B1) (HC.out.below B1) (HK.out.below B1)).mono ?_
    rintro r w2 ⟨rfl, B2⟩
    go_wp2
    go_ret
    exact ⟨rfl, B1.trans (B2.mono B1.size)⟩
  · have HW := Lib.hid (errorsNew_any s)
    have i1 := fun p w => faultIn_any k (some (.other p)) w
    change ∀ p w, Calls _ _ #[_, .iface 148 (.pointer (some p))] _ fun r w' => r = .returned (.iface 140 (.agg #[.int .i64 k, .iface 148 (.pointer (some p))])) ∧ _ at i1
    have I1 := Lib.hid i1; clear i1
    have c1 := fun p w hE => faultCode_any (some (.placed k (.other p))) w hE
    change ∀ p w, ErrType w → Calls _ _ #[.iface 140 (.agg #[.int .i64 k, .iface 148 (.pointer (some p))])] _ fun r w' => r = .returned (.tuple #[.int .i64 0, .bool false]) ∧ _ at c1
    have C1 := Lib.hid c1; clear c1
    have c2 := fun p w hE => faultAt_any (some (.placed k (.other p))) w hE
    change ∀ p w, ErrType w → Calls _ _ #[.iface 140 (.agg #[.int .i64 k, .iface 148 (.pointer (some p))])] _ fun r w' => r = .returned (.tuple #[.int .i64 0, .bool false]) ∧ _ at c2
    have C2 := Lib.hid c2; clear c2
    have c3 := fun p w hE => faultPlace_any (some (.placed k (.other p))) w hE
    change ∀ p w, ErrType w → Calls _ _ #[.iface 140 (.agg #[.int .i64 k, .iface 148 (.pointer (some p))])] _ fun r w' => r = .returned (.tuple #[.int .i64 k, .bool true]) ∧ _ at c3
    have C3 := Lib.hid c3; clear c3
    have c4 := fun p w hE => harmless_any (some (.placed k (.other p))) w hE
    change ∀ p w, ErrType w → Calls _ _ #[.iface 140 (.agg #[.int .i64 k, .iface 148 (.pointer (some p))])] _ fun r w' => r = .returned (.bool false) ∧ _ at c4
    have C4 := Lib.hid c4; clear c4
    have hl' : ¬ (100 : Int) < (s.size : Int) := by omega
    go_enter Tryd.func20, Tryd.ntmps20
    go_wp2_with fail
    refine (HA.out _ HE.out HC.out HK.out).mono ?_
    rintro r w1 ⟨rfl, B1⟩
    go_wp2_with (first
      | (go_at_call 87; (with_reducible refine (HW.out _).mono ?_); rintro r w2 ⟨rfl, hb⟩; have B2 : Below w.heap.size w w2 := B1.trans (hb.mono B1.size); clear hb)
      | (go_at_call 86; (with_reducible refine (I1.out _ _).mono ?_); rintro r w3 ⟨rfl, hw⟩; have B3 : Below w.heap.size w w3 := hw ▸ B2; clear hw)
      | (go_at_call 75; (with_reducible refine (C1.out _ _ (HE.out.below B3)).mono ?_); rintro r w4 ⟨rfl, hb⟩; have B4 : Below w.heap.size w w4 := B3.trans (hb.mono B3.size); clear hb)
      | (go_at_call 76; (with_reducible refine (C2.out _ _ (HE.out.below B4)).mono ?_); rintro r w5 ⟨rfl, hb⟩; have B5 : Below w.heap.size w w5 := B4.trans (hb.mono B4.size); clear hb)
      | (go_at_call 77; (with_reducible refine (C3.out _ _ (HE.out.below B5)).mono ?_); rintro r w6 ⟨rfl, hb⟩; have B6 : Below w.heap.size w w6 := B5.trans (hb.mono B5.size); clear hb)
      | (go_at_call 78; (with_reducible refine (C4.out _ _ (HE.out.below B6)).mono ?_); rintro r w7 ⟨rfl, hb⟩; have B7 : Below w.heap.size w w7 := B6.trans (hb.mono B6.size); clear hb))
    go_ret
    exact ⟨rfl, B7⟩
/-- An error that is wrapped again and again. -/
theorem harmless_of {e e' : EV} (h : e.asC = e'.asC) : harmlessE (some e) = harmlessE (some e') := by
  show (match e.asC with | some c => c == 5 || c == 6 || c == 7 | none => false) = (match e'.asC with | some c => c == 5 || c == 6 || c == 7 | none => false)
  rw [h]
set_option maxHeartbeats 4000000 in
set_option maxRecDepth 100000 in
theorem faultNests_some (c at_ : Int) (b off cap : Nat) (zs : List Int) (w : World) (hE : ErrType w) (hC : CodesAt w) (hK : KindsAt w) (hb : b < w.heap.size)
    (hc : ∀ j, j < zs.length → w.cell? ⟨b, off + j, none⟩ = some (.int .i64 (zs.getD j 0))) (h50 : ¬ 50 < zs.length) (h0 : zs.length ≠ 0) :
    Calls Tryd.prog 19 #[.int .i64 c, .int .i64 at_, .slice (some ⟨b, off, none⟩) zs.length cap] w fun r w' => r = .returned (.bool true) ∧ Below w.heap.size w w' := by
  obtain ⟨len, hlen⟩ : ∃ n, n = zs.length := ⟨_, rfl⟩
  rw [← hlen] at hc h50 h0 ⊢
  have HL := Lib.hid hlen; clear hlen
  have HCE := Lib.hid hc; clear hc
  have HA := Lib.hid (awake02_any w hE hC hK)
  have HE := Lib.hid hE
  clear hE hC hK
  have HN := Lib.hid faultNew_any
  have hh := fun w hE => harmless_any (some (.fault c at_)) w hE
  obtain ⟨hz, hzd⟩ : ∃ hz, hz = harmlessE (some (.fault c at_)) := ⟨_, rfl⟩
  rw [← hzd] at hh
  have HZ := Lib.hid hzd; clear hzd
  change ∀ w, ErrType w → Calls _ _ #[.iface 106 (.agg #[.int .i64 c, .int .i64 at_])] _ _ at hh
  have HH := Lib.hid hh; clear hh
  have g1 : ¬ (50 : Int) < (len : Int) := by omega
  have g2 : ((len : Int) == 0) = false := by simp; omega
  go_enter Tryd.func19, Tryd.ntmps19
  go_wp2_with fail
  refine (HA.out).mono ?_
  rintro r w1 ⟨rfl, B1⟩
  go_wp2_with fail
  refine (HN.out _ _ _).mono ?_
  rintro r w1' ⟨rfl, rfl⟩
  go_wp2_with fail
  refine (HH.out _ (HE.out.below B1)).mono ?_
  rintro r w2 ⟨rfl, hb2⟩
  have B2 : Below w.heap.size w w2 := B1.trans (hb2.mono B1.size)
  clear hb2
  go_wp2
  go_loopg [7, 9] len (fun gg ev i wr => ∃ (k : Nat) (e : EV), k ≤ len ∧ len - k ≤ gg ∧ i = .int .i64 k ∧ ev = e.val ∧ Hid (e.asC = some c ∧ e.asF = some (c, at_)) ∧ Aside (Below w.heap.size w wr))
  case atStart => exact ⟨0, .fault c at_, Nat.zero_le _, by omega, rfl, rfl, ⟨rfl, rfl⟩, B2⟩
  case round =>
    obtain ⟨k, e, hk, hg, rfl, rfl, hcf, hbw⟩ := hrel
    by_cases hlt : k < len
    · obtain ⟨x, hx⟩ : ∃ x, x = zs.getD k 0 := ⟨_, rfl⟩
      have hcell : wr.cell? ⟨b, off + k, none⟩ = some (.int .i64 x) := by rw [hx]; exact keepc hbw.out hb (HCE.out k hlt)
      clear hx
      have hki : (0 : Int) ≤ (k : Int) := by omega
      have hkl : (k : Int) < (len : Int) := by omega
      obtain ⟨t, v, he⟩ := e.iface
      have i1 := fun w => faultIn_any x (some e) w
      have c1 := fun w hE => faultCode_any (some (.placed x e)) w hE
      have c2 := fun w hE => faultAt_any (some (.placed x e)) w hE
      have c3 := fun w hE => faultPlace_any (some (.placed x e)) w hE
      have c4 := fun w hE => harmless_any (some (.placed x e)) w hE
      have e1 : (some (EV.placed x e)).bind EV.asC = some c := hcf.out.1
      have e2 : (some (EV.placed x e)).bind EV.asF = some (c, at_) := hcf.out.2
      have e3 : (some (EV.placed x e)).bind EV.asP = some (x, e) := rfl
      have e4 : harmlessE (some (.placed x e)) = hz := by rw [HZ.out]; exact harmless_of (e := .placed x e) (e' := .fault c at_) hcf.out.1
      rw [e1] at c1
      rw [e2] at c2
      rw [e3] at c3
      rw [e4] at c4
      clear e1 e2 e3 e4
      change ∀ w, Calls _ _ #[_, e.val] _ fun r w' => r = .returned (.iface 140 (.agg #[.int .i64 x, e.val])) ∧ _ at i1
      change ∀ w, ErrType w → Calls _ _ #[.iface 140 (.agg #[.int .i64 x, e.val])] _ fun r w' => r = .returned (.tuple #[.int .i64 c, .bool true]) ∧ _ at c1
      change ∀ w, ErrType w → Calls _ _ #[.iface 140 (.agg #[.int .i64 x, e.val])] _ fun r w' => r = .returned (.tuple #[.int .i64 at_, .bool true]) ∧ _ at c2
      change ∀ w, ErrType w → Calls _ _ #[.iface 140 (.agg #[.int .i64 x, e.val])] _ fun r w' => r = .returned (.tuple #[.int .i64 x, .bool true]) ∧ _ at c3
      change ∀ w, ErrType w → Calls _ _ #[.iface 140 (.agg #[.int .i64 x, e.val])] _ _ at c4
      rw [he] at i1 c1 c2 c3 c4 ⊢
      have HEV := Lib.hid he; clear he
      have I1 := Lib.hid i1; clear i1
      have C1 := Lib.hid c1; clear c1
      have C2 := Lib.hid c2; clear c2
      have C3 := Lib.hid c3; clear c3
      have C4 := Lib.hid c4; clear c4
      go_wp2_with fail
      refine (I1.out _).mono ?_
      rintro r w3 ⟨rfl, rfl⟩
      go_wp2_with fail
      refine (C1.out _ (HE.out.below hbw.out)).mono ?_
      rintro r w4 ⟨rfl, hb4⟩
      have hbw4 := hbw.out.trans (hb4.mono hbw.out.size)
      go_wp2_with fail
      refine (C2.out _ (HE.out.below hbw4)).mono ?_
      rintro r w5 ⟨rfl, hb5⟩
      have hbw5 := hbw4.trans (hb5.mono hbw4.size)
      go_wp2_with fail
      refine (C3.out _ (HE.out.below hbw5)).mono ?_
      rintro r w6 ⟨rfl, hb6⟩
      have hbw6 := hbw5.trans (hb6.mono hbw5.size)
      have hcell6 : w6.cell? ⟨b, off + k, none⟩ = some (.int .i64 x) := keepl hb6 (keepl hb5 (keepl hb4 hcell))
      clear hcell hb4 hb5 hb6
      go_wp2_with fail
      refine (C4.out _ (HE.out.below hbw6)).mono ?_
      rintro r w7 ⟨rfl, hb7⟩
      have hbw7 := hbw6.trans (hb7.mono hbw6.size)
      go_wp2
      go_roundg (len - (k + 1))
      case measure => omega
      case rel => exact ⟨k + 1, .placed x e, by omega, by omega, by go_num, by show _ = Value.iface _ (.agg #[_, e.val]); rw [HEV.out], hcf.out, hbw7⟩
    · go_wp2
      go_ret
      exact ⟨rfl, hbw.out⟩
set_option maxHeartbeats 1000000 in
set_option maxRecDepth 100000 in
theorem faultNests_out (c at_ : Int) (a : Option Addr) (len cap : Nat) (w : World) (hE : ErrType w) (hC : CodesAt w) (hK : KindsAt w) (h : 50 < len ∨ len = 0) :
    Calls Tryd.prog 19 #[.int .i64 c, .int .i64 at_, .slice a len cap] w fun r w' => r = .returned (.bool true) ∧ Below w.heap.size w w' := by
  have HA := Lib.hid awake02_any
  have HC := Lib.hid hC
  have HK := Lib.hid hK
  have HE := Lib.hid hE
  clear hE hC hK
  rcases h with h | rfl
  all_goals
    go_enter Tryd.func19, Tryd.ntmps19
    go_wp2_with fail
    refine (HA.out _ HE.out HC.out HK.out).mono ?_
    rintro r w1 ⟨rfl, B1⟩
    go_wp2_with fail
    refine (HA.out _ (HE.out.below B1) (HC.out.below B1) (HK.out.below B1)).mono ?_
    rintro r w2 ⟨rfl, B2⟩
    go_wp2
    go_ret
    exact ⟨rfl, B1.trans (B2.mono B1.size)⟩
theorem faultNests_walk (c at_ : Int) (v : Value) (zs : List Int) (w : World) (hE : ErrType w) (hC : CodesAt w) (hK : KindsAt w) (h : IntsAt w v zs) :
    Calls Tryd.prog 19 #[.int .i64 c, .int .i64 at_, v] w fun r w' => r = .returned (.bool true) ∧ Below w.heap.size w w' := by
  obtain ⟨a, cap, rfl, h⟩ := h
  by_cases h1 : 50 < zs.length
  · exact faultNests_out c at_ a _ cap w hE hC hK (.inl h1)
  by_cases h2 : zs.length = 0
  · exact faultNests_out c at_ a _ cap w hE hC hK (.inr h2)
  rcases h with h | ⟨b, off, rfl, hlt, hc⟩
  · exact absurd (by rw [h]; rfl) h2
  · exact faultNests_some c at_ b off cap zs w hE hC hK hlt hc h1 h2
end Go.Proofs.YtcegipkhmibdeaaDoor
