/- The laws of layer 5, part 2. -/
import Derived.Test.YtcegipkhmibdeaaDoorPhaseLaws
namespace Go.Proofs.YtcegipkhmibdeaaDoor
open Go.RowKit

theorem tells_walk (p : Int) (s : ByteArray) (w : World) (hg : NamesAt w) (hz : s.size ≤ 140737488351232) :
    Calls Tryd.prog 5 #[.int .i64 p, .string s] w fun r w' => r = .returned (.bool true) ∧ Below w.heap.size w w' := by
  have HG := Lib.hid hg; clear hg
  by_cases hl : 100 < s.size
  · go_enter Tryd.func5, Tryd.ntmps5
    go_wp2_with fail
    refine (awake5 _ HG.out).mono ?_
    rintro e1 w1 ⟨rfl, B1⟩
    have g1 := HG.out.below B1
    go_wp2_with fail
    refine (awake5 _ g1).mono ?_
    rintro e1 w2 ⟨rfl, B2⟩
    go_wp2
    go_ret
    exact ⟨rfl, B1.trans (B2.mono B1.size)⟩
  · have key : ∀ (b1 b2 b3 b4 : Bool), b1 = (p == 1) → b2 = (p == 2) → b3 = (p == 3) → b4 = (p == 4) → (b1 = true ∧ b2 = false ∧ b3 = false ∧ b4 = false) ∨ (b1 = false ∧ b2 = true ∧ b3 = false ∧ b4 = false) ∨ (b1 = false ∧ b2 = false ∧ b3 = true ∧ b4 = false) ∨ (b1 = false ∧ b2 = false ∧ b3 = false ∧ b4 = true) ∨ (b1 = false ∧ b2 = false ∧ b3 = false ∧ b4 = false) := by
      intro b1 b2 b3 b4 h1 h2 h3 h4
      subst h1 h2 h3 h4
      simp only [beq_iff_eq, beq_eq_false_iff_ne]
      omega
    obtain ⟨q, hq⟩ : ∃ q, q = parseP s := ⟨_, rfl⟩
    have c1 := parse_any s
    have c2 := refParse_any s
    rw [← hq] at c1 c2
    obtain ⟨n, hn⟩ : ∃ n, n = phName p := ⟨_, rfl⟩
    have c3 := name_any p
    have c4 := refName_any p
    rw [← hn] at c3 c4
    clear hn hq
    have C1 := Lib.hid c1; clear c1
    have C2 := Lib.hid c2; clear c2
    have C3 := Lib.hid c3; clear c3
    have C4 := Lib.hid c4; clear c4
    rcases key _ _ _ _ rfl rfl rfl rfl with ⟨h1, h2, h3, h4⟩ | ⟨h1, h2, h3, h4⟩ | ⟨h1, h2, h3, h4⟩ | ⟨h1, h2, h3, h4⟩ | ⟨h1, h2, h3, h4⟩
    all_goals
      have d1 := waits_any p
      have d2 := placed_any p
      have d3 := holds_any p
      rw [h1, h2] at d1
      rw [h2, h3, h4] at d2
      rw [h3, h4] at d3
      simp only [Bool.or_false, Bool.or_true] at d1 d2 d3
      have D1 := Lib.hid d1; clear d1
      have D2 := Lib.hid d2; clear d2
      have D3 := Lib.hid d3; clear d3
      clear key
      cases hx : (q != 0)
      all_goals
        go_enter Tryd.func5, Tryd.ntmps5
        go_wp2_with (first
          | (go_at_call 23; refine (awake5 _ HG.out).mono ?_; rintro e1 w1 ⟨rfl, B1⟩; have g1 := HG.out.below B1)
          | (go_at_call 28; refine (D1.out _).mono ?_; rintro e3 w3 ⟨rfl, rfl⟩)
          | (go_at_call 29; refine (D3.out _).mono ?_; rintro e3 w3 ⟨rfl, rfl⟩)
          | (go_at_call 30; refine (D2.out _).mono ?_; rintro e3 w3 ⟨rfl, rfl⟩)
          | (go_at_call 31; refine (C3.out _ g1).mono ?_; rintro e3 w3 ⟨rfl, rfl⟩)
          | (go_at_call 32; refine (C4.out _).mono ?_; rintro e3 w2 ⟨rfl, B2⟩; have g2 := g1.below B2; have B2' := B1.trans (B2.mono B1.size); clear B2)
          | (go_at_call 33; refine (C1.out _ g2).mono ?_; rintro e3 w3 ⟨rfl, rfl⟩)
          | (go_at_call 34; refine (C2.out _).mono ?_; rintro e3 w4 ⟨rfl, B3⟩; have B3' := B2'.trans (B3.mono B2'.size); clear B3))
        go_ret
        exact ⟨rfl, B3'⟩
/-- The rank that was last among events that led to a phase. -/
def lastOf (x : Int) : Int := if x = 3 then 1 else if x = 4 then 2 else if x = 5 then 3 else 0
theorem nx_cases {x e : Int} (h : nx x e ≠ 0) : (x = 1 ∧ e = 1) ∨ (x = 2 ∧ e = 1) ∨ (x = 1 ∧ e = 2) ∨ (x = 2 ∧ e = 2) ∨ (x = 2 ∧ e = 3) ∨ (x = 3 ∧ e = 4) ∨ (x = 1 ∧ e = 5) ∨ (x = 2 ∧ e = 5) ∨ (x = 3 ∧ e = 5) ∨ (x = 4 ∧ e = 5) := by
  have := nx_mem h
  simp only [tblL, List.mem_cons, Prod.mk.injEq, List.not_mem_nil, or_false] at this
  clear h
  rcases this with ⟨⟨h1, h2⟩, _⟩ | ⟨⟨h1, h2⟩, _⟩ | ⟨⟨h1, h2⟩, _⟩ | ⟨⟨h1, h2⟩, _⟩ | ⟨⟨h1, h2⟩, _⟩ | ⟨⟨h1, h2⟩, _⟩ | ⟨⟨h1, h2⟩, _⟩ | ⟨⟨h1, h2⟩, _⟩ | ⟨⟨h1, h2⟩, _⟩ | ⟨⟨h1, h2⟩, _⟩ <;> (subst h1 h2; decide)
theorem runP_more {x : Int} {zs : List Int} {k : Nat} (hk : k < zs.length) (h : 0 < (runP x (zs.drop k)).2) : nx x (zs.getD k 0) ≠ 0 ∧ (runP (nx x (zs.getD k 0)) (zs.drop (k + 1))).2 + 1 = (runP x (zs.drop k)).2 := by
  rw [runP_step hk] at h ⊢
  split at h
  · simp at h
  · rename_i hn; exact ⟨hn, by rw [if_neg hn]⟩

set_option maxHeartbeats 1000000 in
set_option maxRecDepth 100000 in
theorem once_some (b off cap : Nat) (zs : List Int) (w : World) (hg : NamesAt w) (hz : zs.length ≤ 1000) (hb : b < w.heap.size)
    (hc : ∀ j, j < zs.length → w.cell? ⟨b, off + j, none⟩ = some (.int .i64 (zs.getD j 0))) :
    Calls Tryd.prog 6 #[.slice (some ⟨b, off, none⟩) zs.length cap] w fun r w' => r = .returned (.bool true) ∧ Below w.heap.size w w' := by
  have HG := Lib.hid hg; clear hg
  have HV : Hid (IntsAt w (.slice (some ⟨b, off, none⟩) zs.length cap) zs) := ⟨_, _, rfl, .inr ⟨b, off, rfl, hb, hc⟩⟩
  have HC := Lib.hid hc; clear hc
  have c1 := run_any 1 (.slice (some ⟨b, off, none⟩) zs.length cap) zs
  obtain ⟨len, hlen⟩ : ∃ n, n = zs.length := ⟨_, rfl⟩
  rw [← hlen] at hz HC HV c1 ⊢
  have HL := Lib.hid hlen; clear hlen
  obtain ⟨q, hq⟩ : ∃ q, q = (runP 1 zs).1 := ⟨_, rfl⟩
  obtain ⟨n, hn⟩ : ∃ n, n = (runP 1 zs).2 := ⟨_, rfl⟩
  have hle := runP_le 1 zs
  rw [← hn, ← HL.out] at hle
  rw [← hq, ← hn] at c1
  have HN := Lib.hid hn; clear hn hq
  have C1 := Lib.hid c1; clear c1
  have hn0 : (0 : Int) ≤ (n : Int) := by omega
  have hn1 : ¬ (len : Int) < (n : Int) := by omega
  go_enter Tryd.func6, Tryd.ntmps6
  go_wp2_with fail
  refine (awake5 _ HG.out).mono ?_
  rintro e1 w1 ⟨rfl, B1⟩
  have v1 := HV.out.below B1
  go_wp2_with fail
  refine (C1.out _ (by omega) v1).mono ?_
  rintro e1 w2 ⟨rfl, B2⟩
  have B2' := B1.trans (B2.mono B1.size)
  go_wp2
  go_loop [5, 6] (fun last i => ∃ (k : Nat) (x : Int), k ≤ n ∧ i = .int .i64 k ∧ last = .int .i64 (lastOf x) ∧ Hid ((runP x (zs.drop k)).2 + k = n)) (fun _ i => n - (intOf i).toNat)
  case atStart => exact ⟨0, 1, Nat.zero_le _, rfl, rfl, by rw [HN.out]; rfl⟩
  case round =>
    obtain ⟨k, x, hk, rfl, rfl, hrun⟩ := hrel
    by_cases hlt : k < n
    · obtain ⟨e, he⟩ : ∃ e, e = zs.getD k 0 := ⟨_, rfl⟩
      have hcell : w2.cell? ⟨b, off + k, none⟩ = some (.int .i64 e) := by rw [he]; exact (B2'.cell (p := ⟨b, off + k, none⟩) hb).trans (HC.out k (by omega))
      have hm := runP_more (x := x) (zs := zs) (k := k) (by rw [← HL.out]; omega) (by have := hrun.out; omega)
      rw [← he] at hm
      clear he
      obtain ⟨x', hx'⟩ : ∃ x', x' = nx x e := ⟨_, rfl⟩
      have hnext : Hid ((runP x' (zs.drop (k + 1))).2 + (k + 1) = n) := by rw [hx']; show _ = _; have := hm.2; have := hrun.out; omega
      clear hrun
      have hc10 := nx_cases hm.1
      clear hm
      have hlenk : k < len := by omega
      rcases hc10 with ⟨rfl, rfl⟩ | ⟨rfl, rfl⟩ | ⟨rfl, rfl⟩ | ⟨rfl, rfl⟩ | ⟨rfl, rfl⟩ | ⟨rfl, rfl⟩ | ⟨rfl, rfl⟩ | ⟨rfl, rfl⟩ | ⟨rfl, rfl⟩ | ⟨rfl, rfl⟩
      all_goals
        simp only [nx, lastOf] at hx' ⊢
        simp at hx'
        subst hx'
        go_wp2
        go_round
        case rel => refine ⟨k + 1, _, by omega, by go_num, ?_, hnext⟩; rfl
        case measure => simp [intOf]; omega
    · clear hrun
      go_wp2
      go_ret
      exact ⟨rfl, B2'⟩
end Go.Proofs.YtcegipkhmibdeaaDoor
