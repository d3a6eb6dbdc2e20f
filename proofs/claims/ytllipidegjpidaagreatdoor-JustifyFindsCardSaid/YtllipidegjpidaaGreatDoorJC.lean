/- justify.Find; names of verdicts. -/
import Derived.Test.YtllipidegjpidaaGreatDoorJA
namespace Go.Proofs.YtllipidegjpidaaGreatDoor
set_option linter.all false
open Go.RowKit

set_option maxHeartbeats 2000000 in
set_option maxRecDepth 100000 in
/-- justify.Find: the decision, or the zero one. -/
theorem jfind_any (v : Value) (ds : List Dec) (kind id : Int) (w : World) (h : kDec.At w v ds) (hn : ds.length ≤ 50) :
    Calls Tryz.prog 6 #[v, .int .i64 kind, .int .i64 id] w fun e w' => (∃ d, e = .returned (.tuple #[decV d, .bool (decide (0 ≤ findD kind id ds))]) ∧ (findD kind id ds < 0 → d = ⟨0, 0, 0, 0⟩) ∧ (∀ k : Nat, findD kind id ds = k → d = decAt ds k ∧ k < ds.length)) ∧ Below w.heap.size w w' := by
  have HI : Hid (∀ X gk gi, From w X → X.cell? ⟨gk, 0, none⟩ = some (.int .i64 kind) → X.cell? ⟨gi, 0, none⟩ = some (.int .i64 id) → Calls Tryz.prog 15 #[v, .func (Fn.func 16) #[] #[.pointer (some ⟨gk, 0, none⟩), .pointer (some ⟨gi, 0, none⟩)]] X fun e w' => e = .returned (.int .i64 (findD kind id ds)) ∧ Below X.heap.size X w') :=
    fun X gk gi f h1 h2 => indexD_any v ds kind id gk gi X (h.below f.out) hn h1 h2
  have hcase : findD kind id ds = -1 ∨ ∃ k : Nat, k < ds.length ∧ findD kind id ds = k := by
    unfold findD
    cases hq : ds.findIdx? (isD kind id) with
    | none => exact .inl rfl
    | some i =>
      rw [List.findIdx?_eq_some_iff_getElem] at hq
      obtain ⟨h1, -⟩ := hq
      exact .inr ⟨i, h1, rfl⟩
  obtain ⟨a, cap, rfl, hget⟩ := kDec_get h
  have HG := Lib.hid hget
  obtain ⟨q, hq⟩ : ∃ q, q = ds.length := ⟨_, rfl⟩
  rw [← hq] at HG HI hcase hn ⊢
  obtain ⟨fd, hfd⟩ : ∃ f, f = findD kind id ds := ⟨_, rfl⟩
  rw [← hfd] at HI hcase ⊢
  clear h hget hq hfd
  go_enter Tryz.func6, Tryz.ntmps6
  go_wp2_with fail
  refine calls_named fun X hX => ?_
  have F1 : From w X := by rw [hX]; exact (((From.refl w).alloc _).alloc _).alloc _
  have k0 : X.cell? ⟨w.heap.size, 0, none⟩ = some (.int .i64 kind) := by rw [hX]; go_simp
  have k1 : X.cell? ⟨w.heap.size + 1, 0, none⟩ = some (.int .i64 id) := by rw [hX]; go_simp
  have o0 : X.cell? ⟨w.heap.size + 1 + 1, 0, none⟩ = some (.int .i64 0) := by rw [hX]; go_simp
  have o1 : X.cell? ⟨w.heap.size + 1 + 1, 1, none⟩ = some (.int .i64 0) := by rw [hX]; go_simp
  have o2 : X.cell? ⟨w.heap.size + 1 + 1, 2, none⟩ = some (.int .i64 0) := by rw [hX]; go_simp
  have o3 : X.cell? ⟨w.heap.size + 1 + 1, 3, none⟩ = some (.int .i64 0) := by rw [hX]; go_simp
  have f0 : ∀ i, X.frozen? ⟨w.heap.size + 1 + 1, i, none⟩ = false := fun i => by rw [hX]; go_simp
  clear hX
  refine (HI.out _ _ _ F1 k0 k1).mono ?_
  rintro e W ⟨rfl, hb⟩
  have F2 : From X W := ⟨hb⟩
  have p0 := F2.cell o0
  have p1 := F2.cell o1
  have p2 := F2.cell o2
  have p3 := F2.cell o3
  have hls := cell_lt o0
  have hf : ∀ i, W.frozen? ⟨w.heap.size + 1 + 1, i, none⟩ = false := fun i => (hb.frozen (p := ⟨w.heap.size + 1 + 1, i, none⟩) hls).trans (f0 i)
  have g0 := hf 0
  have g1 := hf 1
  have g2 := hf 2
  have g3 := hf 3
  have HF := Lib.hid (F1.trans F2)
  clear hb k0 k1 o0 o1 o2 o3 f0 hf F1 F2
  rcases hcase with rfl | ⟨k, hk, rfl⟩
  · go_wp2
    refine bodyPost_ret (v := .tuple #[decV ⟨0, 0, 0, 0⟩, .bool false]) ?_ rfl ⟨⟨⟨0, 0, 0, 0⟩, rfl, fun _ => rfl, fun k hk => by omega⟩, ?_⟩
    · simp only [results, Tryz.results6]; go_simp
    · exact below_set (below_set (below_set (below_set HF.out.out (by omega) _) (by omega) _) (by omega) _) (by omega) _
  · obtain ⟨b, off, rfl, hlt, hc⟩ := HG.out k hk
    have c0 := HF.out.cell hc.1
    have c1 := HF.out.cell hc.2.1
    have c2 := HF.out.cell hc.2.2.1
    have c3 := HF.out.cell hc.2.2.2
    have hki : (0 : Int) ≤ (k : Int) := by omega
    have hki2 : ¬ ((k : Int) < 0) := by omega
    have hkq : (k : Int) < (q : Int) := by omega
    clear hc
    obtain ⟨d, hd⟩ : ∃ d, d = decAt ds k := ⟨_, rfl⟩
    rw [← hd] at c0 c1 c2 c3
    have HD := Lib.hid hd
    clear hd
    go_wp2
    refine bodyPost_ret (v := .tuple #[decV d, .bool true]) ?_ rfl ⟨⟨d, by rw [decide_eq_true hki], fun h => by omega, fun j hj => ?_⟩, ?_⟩
    · simp only [results, Tryz.results6]; go_simp
    · have : j = k := by omega
      subst this
      exact ⟨HD.out, hk⟩
    · exact below_set (below_set (below_set (below_set HF.out.out (by omega) _) (by omega) _) (by omega) _) (by omega) _
/-- The names of verdicts. -/
def verdictNames : List ByteArray := [⟨#[114, 105, 103, 104, 116]⟩, ⟨#[98, 97, 100, 32, 118, 105, 101, 119]⟩, ⟨#[117, 110, 110, 101, 101, 100, 101, 100]⟩, ⟨#[102, 111, 114, 98, 105, 100, 100, 101, 110]⟩, ⟨#[102, 111, 114, 101, 105, 103, 110]⟩, ⟨#[116, 111, 111, 32, 102, 101, 119]⟩, ⟨#[116, 111, 111, 32, 109, 97, 110, 121]⟩, ⟨#[110, 111, 116, 32, 98, 101, 115, 116]⟩, ⟨#[109, 105, 115, 115, 101, 100]⟩]
def verdictName (k : Int) : ByteArray := if k < 0 ∨ 8 < k then ⟨#[]⟩ else verdictNames.getD k.toNat ⟨#[]⟩
def VNamesAt (w : World) : Prop := ∀ i, i < 9 → w.cell? ⟨0, i, none⟩ = some (.string (verdictNames.getD i ⟨#[]⟩))
theorem int9 {k : Int} (h0 : ¬ k < 0) (h1 : ¬ 8 < k) : k = 0 ∨ k = 1 ∨ k = 2 ∨ k = 3 ∨ k = 4 ∨ k = 5 ∨ k = 6 ∨ k = 7 ∨ k = 8 := by omega
set_option maxHeartbeats 2000000 in
set_option maxRecDepth 100000 in
theorem jname_any (k : Int) (w : World) (h : VNamesAt w) : Calls Tryz.prog 11 #[.int .i64 k] w fun e w' => e = .returned (.string (verdictName k)) ∧ w = w' := by
  by_cases h0 : k < 0
  · have hv : verdictName k = ⟨#[]⟩ := by unfold verdictName; rw [if_pos (.inl h0)]
    rw [hv]
    go_enter Tryz.func11, Tryz.ntmps11
    go_wp2
    go_ret
    exact ⟨rfl, rfl⟩
  · by_cases h1 : 8 < k
    · have hv : verdictName k = ⟨#[]⟩ := by unfold verdictName; rw [if_pos (.inr h1)]
      have h2 : (9 : Int) ≤ k := by omega
      rw [hv]
      go_enter Tryz.func11, Tryz.ntmps11
      go_wp2
      go_ret
      exact ⟨rfl, rfl⟩
    · obtain ⟨n, hn⟩ : ∃ n : Nat, k = n := ⟨k.toNat, by omega⟩
      subst hn
      have hc := h n (by omega)
      have hv : verdictName n = verdictNames.getD n ⟨#[]⟩ := by unfold verdictName; rw [if_neg (by omega)]; rfl
      rw [hv]
      generalize verdictNames.getD n ⟨#[]⟩ = s at *
      have h2 : ¬ ((9 : Int) ≤ (n : Int)) := by omega
      have h3 : (0 : Int) ≤ (n : Int) := by omega
      have h4 : (n : Int) < 9 := by omega
      clear hv h
      go_enter Tryz.func11, Tryz.ntmps11
      go_wp2
      go_ret
      exact ⟨rfl, rfl⟩
set_option maxHeartbeats 2000000 in
set_option maxRecDepth 100000 in
theorem rname_any (k : Int) (w : World) : Calls Tryz.prog 12 #[.int .i64 k] w fun e w' => e = .returned (.string (verdictName k)) ∧ Below w.heap.size w w' := by
  by_cases h0 : k < 0
  · have hv : verdictName k = ⟨#[]⟩ := by unfold verdictName; rw [if_pos (.inl h0)]
    rw [hv]
    go_enter Tryz.func12, Tryz.ntmps12
    go_wp2
    go_ret
    exact ⟨rfl, ((From.refl w).alloc _).out⟩
  · by_cases h1 : 8 < k
    · have hv : verdictName k = ⟨#[]⟩ := by unfold verdictName; rw [if_pos (.inr h1)]
      rw [hv]
      go_enter Tryz.func12, Tryz.ntmps12
      go_wp2
      go_ret
      exact ⟨rfl, ((From.refl w).alloc _).out⟩
    · rcases int9 h0 h1 with rfl | rfl | rfl | rfl | rfl | rfl | rfl | rfl | rfl
      all_goals
        go_enter Tryz.func12, Tryz.ntmps12
        go_wp2
        go_ret
        exact ⟨rfl, ((From.refl w).alloc _).out⟩
end Go.Proofs.YtllipidegjpidaaGreatDoor
