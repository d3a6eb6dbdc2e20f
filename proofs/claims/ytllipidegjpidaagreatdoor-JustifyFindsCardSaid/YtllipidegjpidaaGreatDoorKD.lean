/- The law. -/
import Derived.Test.YtllipidegjpidaaGreatDoorKC
namespace Go.Proofs.YtllipidegjpidaaGreatDoor
set_option linter.all false
open Go.RowKit

theorem strEq (s : ByteArray) (w : World) : (binOp .eql 9 (.string s) (.string s)).run Tryz.prog w = .ok (.bool true) w := by
  simp [binOp, Op.stringOp, go_sem]
theorem kInt_ints {w : World} {v : Value} {xs : List Int} (h : kInt.At w v xs) : IntsAt w v xs := by
  obtain ⟨a, cap, rfl, h | ⟨b, off, rfl, hlt, hc⟩⟩ := h
  · exact ⟨_, _, rfl, .inl h⟩
  · refine ⟨_, _, rfl, .inr ⟨b, off, rfl, hlt, fun j hj => ?_⟩⟩
    have h1 := hc j (xs.getD j 0) (by rw [List.getD_eq_getElem?_getD, List.getElem?_eq_getElem hj]; rfl) 0 _ rfl
    have e : off + j * kInt.size + 0 = off + j := by show off + j * 1 + 0 = off + j; omega
    rw [e] at h1
    exact h1
set_option maxHeartbeats 4000000 in
set_option maxRecDepth 100000 in
/-- More than 50 decisions. -/
theorem finds_many (a : Option Addr) (n cap : Nat) (kind id : Int) (w : World) (s : ByteArray) (hs : s.toList.isEmpty = false) (hn : w.cell? ⟨2, 1, none⟩ = some (.string s)) (hv : VNamesAt w) (hb : ¬ n ≤ 50) :
    Calls Tryz.prog 3 #[.slice a n cap, .int .i64 kind, .int .i64 id] w fun e w' => e = .returned (.bool true) ∧ Below w.heap.size w w' := by
  have HA : Hid (∀ X, From w X → Calls Tryz.prog 4 #[] X fun e w' => e = .returned (.bool true) ∧ From X w') := fun X f => awake27_any X s hs (f.cell hn) (fun i hi => f.cell (hv i hi))
  have HF := Lib.hid (jfew_any a n cap)
  rw [decide_eq_false hb] at HF
  clear hn hv
  go_enter Tryz.func3, Tryz.ntmps3
  go_wp2_with fail
  refine (HA.out _ (From.refl w)).mono ?_
  rintro e W1 ⟨rfl, f1⟩
  have F1 := Lib.hid f1
  clear f1
  go_wp2_with fail
  refine (HF.out _).mono ?_
  rintro e W2 ⟨rfl, rfl⟩
  go_wp2_with fail
  refine (HA.out _ F1.out).mono ?_
  rintro e W3 ⟨rfl, f2⟩
  have F2 := Lib.hid (F1.out.trans f2)
  clear f2
  go_wp2
  go_ret
  exact ⟨rfl, F2.out.out⟩
set_option maxHeartbeats 8000000 in
set_option maxRecDepth 100000 in
theorem finds_hit (v : Value) (ds : List Dec) (kind id : Int) (w : World) (s : ByteArray) (hs : s.toList.isEmpty = false) (hn : w.cell? ⟨2, 1, none⟩ = some (.string s)) (hv : VNamesAt w) (h : kDec.At w v ds) (hb : ds.length ≤ 50) (k : Nat) (hk : k < ds.length) (hf : findD kind id ds = k) :
    Calls Tryz.prog 3 #[v, .int .i64 kind, .int .i64 id] w fun e w' => e = .returned (.bool true) ∧ Below w.heap.size w w' := by
  have HA : Hid (∀ X, From w X → Calls Tryz.prog 4 #[] X fun e w' => e = .returned (.bool true) ∧ From X w') := fun X f => awake27_any X s hs (f.cell hn) (fun i hi => f.cell (hv i hi))
  have HFI : Hid (∀ X, From w X → Calls Tryz.prog 6 #[v, .int .i64 kind, .int .i64 id] X fun e w' => e = .returned (.tuple #[decV (decAt ds k), .bool true]) ∧ From X w') := fun X f => by
    refine (jfind_any v ds kind id X (h.below f.out) hb).mono ?_
    rintro e w' ⟨⟨d, rfl, hneg, hpos⟩, hbb⟩
    obtain ⟨rfl, -⟩ := hpos k hf
    rw [hf, decide_eq_true (by omega)]
    exact ⟨rfl, ⟨hbb⟩⟩
  have HRF : Hid (∀ X, From w X → Calls Tryz.prog 7 #[v, .int .i64 kind, .int .i64 id] X fun e w' => e = .returned (.int .i64 (k)) ∧ X = w') := fun X f => by
    have h1 := rfind_any v ds kind id X (h.below f.out) hb
    rw [hf] at h1
    exact h1
  obtain ⟨vs, hvs⟩ : ∃ vs, vs = victimsD ds := ⟨_, rfl⟩
  have hvl : vs.length ≤ 50 := by rw [hvs]; have := victimsD_len ds; omega
  have HVI : Hid (∀ X, From w X → Calls Tryz.prog 9 #[v] X fun e w' => ∃ a cp, e = .returned (.slice a vs.length cp) ∧ IntsAt w' (.slice a vs.length cp) vs ∧ From X w') := fun X f => by
    rw [hvs]
    refine (victims_any v ds X (h.below f.out) hb).mono ?_
    rintro e w' ⟨a, cp, rfl, ho, hbb⟩
    exact ⟨a, cp, rfl, kInt_ints ho.at_, ⟨hbb⟩⟩
  have HVR : Hid (∀ X, From w X → Calls Tryz.prog 10 #[v] X fun e w' => ∃ a cp, e = .returned (.slice a vs.length cp) ∧ IntsAt w' (.slice a vs.length cp) vs ∧ From X w') := fun X f => by
    rw [hvs]
    refine (rvictims_any v ds X (h.below f.out) hb).mono ?_
    rintro e w' ⟨a, cp, rfl, ho, hbb⟩
    exact ⟨a, cp, rfl, kInt_ints ho.at_, ⟨hbb⟩⟩
  have HEQ : Hid (∀ X v1 v2, IntsAt X v1 vs → IntsAt X v2 vs → Calls Tryz.prog 8 #[v1, v2] X fun e w' => e = .returned (.bool true) ∧ From X w') := fun X v1 v2 h1 h2 => (equal_any v1 v2 vs X h1 h2 hvl).mono fun e w' ⟨he, hb⟩ => ⟨he, ⟨hb⟩⟩
  obtain ⟨vn, hvn⟩ : ∃ vn, vn = verdictName kind := ⟨_, rfl⟩
  have HNA : Hid (∀ X, From w X → Calls Tryz.prog 11 #[.int .i64 kind] X fun e w' => e = .returned (.string vn) ∧ X = w') := fun X f => by
    rw [hvn]; exact jname_any kind X (fun i hi => f.cell (hv i hi))
  have HNR : Hid (∀ X, From w X → Calls Tryz.prog 12 #[.int .i64 kind] X fun e w' => e = .returned (.string vn) ∧ From X w') := fun X f => by
    rw [hvn]; exact (rname_any kind X).mono fun e w' ⟨he, hb⟩ => ⟨he, ⟨hb⟩⟩
  have hse := strEq vn
  obtain ⟨a, cap, rfl, hget⟩ := kDec_get h
  have HF := Lib.hid (jfew_any a ds.length cap)
  rw [decide_eq_true hb] at HF
  obtain ⟨q, hq⟩ : ∃ q, q = ds.length := ⟨_, rfl⟩
  rw [← hq] at HF HFI HRF HVI HVR hget hk ⊢
  obtain ⟨b, off, rfl, hlt, hc⟩ := hget k hk
  have hki : (0 : Int) ≤ (k : Int) := by omega
  have hkq : (k : Int) < (q : Int) := by omega
  have hne := neqDec (decAt ds k) (decAt ds k)
  rw [decB_refl] at hne
  generalize decAt ds k = d at *
  obtain ⟨dk, di, dn, da⟩ := d
  obtain ⟨c0, c1, c2, c3⟩ := hc
  change w.cell? _ = some (.int .i64 dk) at c0
  change w.cell? _ = some (.int .i64 di) at c1
  change w.cell? _ = some (.int .i64 dn) at c2
  change w.cell? _ = some (.int .i64 da) at c3
  change ∀ w : World, (binOp .neq 26 (.agg #[.int .i64 dk, .int .i64 di, .int .i64 dn, .int .i64 da]) (.agg #[.int .i64 dk, .int .i64 di, .int .i64 dn, .int .i64 da])).run Tryz.prog w = .ok (.bool false) w at hne
  clear hn hv h hb hf hget hvs hvn hq
  go_enter Tryz.func3, Tryz.ntmps3
  go_wp2_with fail
  refine (HA.out _ (From.refl w)).mono ?_
  rintro e W1 ⟨rfl, f1⟩
  have F1 := Lib.hid f1
  clear f1
  go_wp2_with fail
  refine (HF.out _).mono ?_
  rintro e W2 ⟨rfl, rfl⟩
  go_wp2_with fail
  refine (HFI.out _ F1.out).mono ?_
  rintro e W2 ⟨rfl, f2⟩
  obtain ⟨W3, hW3⟩ : ∃ W3, W3 = W2.alloc (.cells #[.int .i64 dk, .int .i64 di, .int .i64 dn, .int .i64 da] 26) := ⟨_, rfl⟩
  have f3 : From W2 W3 := by rw [hW3]; exact (From.refl _).alloc _
  have F3 := Lib.hid ((F1.out.trans f2).trans f3)
  have t0 : W3.cell? ⟨W2.heap.size, 0, none⟩ = some (.int .i64 dk) := by rw [hW3]; go_simp
  have t1 : W3.cell? ⟨W2.heap.size, 1, none⟩ = some (.int .i64 di) := by rw [hW3]; go_simp
  have t2 : W3.cell? ⟨W2.heap.size, 2, none⟩ = some (.int .i64 dn) := by rw [hW3]; go_simp
  have t3 : W3.cell? ⟨W2.heap.size, 3, none⟩ = some (.int .i64 da) := by rw [hW3]; go_simp
  have HW := Lib.hid hW3
  clear f2 f3 hW3
  go_wp2_with fail
  rw [← HW.out]
  clear HW
  refine (HRF.out _ F3.out).mono ?_
  rintro e W4 ⟨rfl, rfl⟩
  go_wp2
  have c0 := F3.out.cell c0
  have c1 := F3.out.cell c1
  have c2 := F3.out.cell c2
  have c3 := F3.out.cell c3
  refine wp_region_held_drew (S := fun w' => w'.cell? ⟨W2.heap.size, 0, none⟩ = some (.int .i64 dk) ∧ w'.cell? ⟨W2.heap.size, 1, none⟩ = some (.int .i64 di) ∧ w'.cell? ⟨W2.heap.size, 2, none⟩ = some (.int .i64 dn) ∧ w'.cell? ⟨W2.heap.size, 3, none⟩ = some (.int .i64 da) ∧ w'.cell? ⟨b, off + k * 4, none⟩ = some (.int .i64 dk) ∧ w'.cell? ⟨b, off + k * 4 + 1, none⟩ = some (.int .i64 di) ∧ w'.cell? ⟨b, off + k * 4 + 2, none⟩ = some (.int .i64 dn) ∧ w'.cell? ⟨b, off + k * 4 + 3, none⟩ = some (.int .i64 da)) (by kernel_rfl) ?_ (fun hHeld => ?_)
  · exact ⟨t0, t1, t2, t3, c0, c1, c2, c3⟩
  refine wpAnyH_take (i := 0) (v := ?_) rfl (by kernel_rfl) (by kernel_rfl) (by kernel_rfl) (fun _ _ _ h => h) (Or.inl ⟨by rfl, ?_⟩) (by assumption) ?_
  rotate_left
  · intro w hSw
    (try dsimp only at hSw)
    go_simp
    try with_reducible rfl
  try simp only [Act.put, List.setIfInBounds_toArray, List.set_cons_zero, List.set_cons_succ, List.getElem_toArray, List.getElem_cons_zero, List.getElem_cons_succ]
  refine wpAnyH_take (i := 1) (v := ?_) rfl (by kernel_rfl) (by kernel_rfl) (by kernel_rfl) (fun _ _ _ h => h) (Or.inl ⟨by rfl, ?_⟩) (by assumption) ?_
  rotate_left
  · intro w hSw
    (try dsimp only at hSw)
    go_simp
    try with_reducible rfl
  try simp only [Act.put, List.setIfInBounds_toArray, List.set_cons_zero, List.set_cons_succ, List.getElem_toArray, List.getElem_cons_zero, List.getElem_cons_succ]
  refine wpAnyH_take (i := 2) (v := ?_) rfl (by kernel_rfl) (by kernel_rfl) (by kernel_rfl) (fun _ _ _ h => h) (Or.inl ⟨by rfl, ?_⟩) (by assumption) ?_
  rotate_left
  · intro w hSw
    (try dsimp only at hSw)
    go_simp
    try with_reducible rfl
  try simp only [Act.put, List.setIfInBounds_toArray, List.set_cons_zero, List.set_cons_succ, List.getElem_toArray, List.getElem_cons_zero, List.getElem_cons_succ]
  refine wpAnyH_take (i := 3) (v := ?_) rfl (by kernel_rfl) (by kernel_rfl) (by kernel_rfl) (fun _ _ _ h => h) (Or.inl ⟨by rfl, ?_⟩) (by assumption) ?_
  rotate_left
  · intro w hSw
    (try dsimp only at hSw)
    go_simp
    try with_reducible rfl
  try simp only [Act.put, List.setIfInBounds_toArray, List.set_cons_zero, List.set_cons_succ, List.getElem_toArray, List.getElem_cons_zero, List.getElem_cons_succ]
  refine wpAnyH_take (i := 4) (v := ?_) rfl (by kernel_rfl) (by kernel_rfl) (by kernel_rfl) (fun _ _ _ h => h) (Or.inl ⟨by rfl, ?_⟩) (by assumption) ?_
  rotate_left
  · intro w hSw
    (try dsimp only at hSw)
    go_simp
    try with_reducible rfl
  try simp only [Act.put, List.setIfInBounds_toArray, List.set_cons_zero, List.set_cons_succ, List.getElem_toArray, List.getElem_cons_zero, List.getElem_cons_succ]
  refine wpAnyH_take (i := 5) (v := ?_) rfl (by kernel_rfl) (by kernel_rfl) (by kernel_rfl) (fun _ _ _ h => h) (Or.inl ⟨by rfl, ?_⟩) (by assumption) ?_
  rotate_left
  · intro w hSw
    (try dsimp only at hSw)
    go_simp
    try with_reducible rfl
  try simp only [Act.put, List.setIfInBounds_toArray, List.set_cons_zero, List.set_cons_succ, List.getElem_toArray, List.getElem_cons_zero, List.getElem_cons_succ]
  refine wpAnyH_take (i := 6) (v := ?_) rfl (by kernel_rfl) (by kernel_rfl) (by kernel_rfl) (fun _ _ _ h => h) (Or.inl ⟨by rfl, ?_⟩) (by assumption) ?_
  rotate_left
  · intro w hSw
    (try dsimp only at hSw)
    go_simp
    try with_reducible rfl
  try simp only [Act.put, List.setIfInBounds_toArray, List.set_cons_zero, List.set_cons_succ, List.getElem_toArray, List.getElem_cons_zero, List.getElem_cons_succ]
  refine wpAnyH_take (i := 7) (v := ?_) rfl (by kernel_rfl) (by kernel_rfl) (by kernel_rfl) (fun _ _ _ h => h) (Or.inl ⟨by rfl, ?_⟩) (by assumption) ?_
  rotate_left
  · intro w hSw
    (try dsimp only at hSw)
    go_simp
    try with_reducible rfl
  try simp only [Act.put, List.setIfInBounds_toArray, List.set_cons_zero, List.set_cons_succ, List.getElem_toArray, List.getElem_cons_zero, List.getElem_cons_succ]
  refine wpAnyH_take (i := 8) (v := ?_) rfl (by kernel_rfl) (by kernel_rfl) (by kernel_rfl) (fun _ _ _ h => h) (Or.inl ⟨by rfl, ?_⟩) (by assumption) ?_
  rotate_left
  · intro w hSw
    (try dsimp only at hSw)
    go_simp
    try with_reducible rfl
  try simp only [Act.put, List.setIfInBounds_toArray, List.set_cons_zero, List.set_cons_succ, List.getElem_toArray, List.getElem_cons_zero, List.getElem_cons_succ]
  refine wpAnyH_take (i := 9) (v := ?_) rfl (by kernel_rfl) (by kernel_rfl) (by kernel_rfl) (fun _ _ _ h => h) (Or.inl ⟨by rfl, ?_⟩) (by assumption) ?_
  rotate_left
  · intro w hSw
    (try dsimp only at hSw)
    go_simp
    try with_reducible rfl
  try simp only [Act.put, List.setIfInBounds_toArray, List.set_cons_zero, List.set_cons_succ, List.getElem_toArray, List.getElem_cons_zero, List.getElem_cons_succ]
  refine wpAnyH_take (i := 10) (v := ?_) rfl (by kernel_rfl) (by kernel_rfl) (by kernel_rfl) (fun _ _ _ h => h) (Or.inl ⟨by rfl, ?_⟩) (by assumption) ?_
  rotate_left
  · intro w hSw
    (try dsimp only at hSw)
    go_simp
    try with_reducible rfl
  try simp only [Act.put, List.setIfInBounds_toArray, List.set_cons_zero, List.set_cons_succ, List.getElem_toArray, List.getElem_cons_zero, List.getElem_cons_succ]
  refine wpAnyH_take (i := 11) (v := ?_) rfl (by kernel_rfl) (by kernel_rfl) (by kernel_rfl) (fun _ _ _ h => h) (Or.inl ⟨by rfl, ?_⟩) (by assumption) ?_
  rotate_left
  · intro w hSw
    (try dsimp only at hSw)
    go_simp
    try with_reducible rfl
  try simp only [Act.put, List.setIfInBounds_toArray, List.set_cons_zero, List.set_cons_succ, List.getElem_toArray, List.getElem_cons_zero, List.getElem_cons_succ]
  refine wpAnyH_take (i := 12) (v := ?_) rfl (by kernel_rfl) (by kernel_rfl) (by kernel_rfl) (fun _ _ _ h => h) (Or.inl ⟨by rfl, ?_⟩) (by assumption) ?_
  rotate_left
  · intro w hSw
    (try dsimp only at hSw)
    go_simp
    try with_reducible rfl
  try simp only [Act.put, List.setIfInBounds_toArray, List.set_cons_zero, List.set_cons_succ, List.getElem_toArray, List.getElem_cons_zero, List.getElem_cons_succ]
  refine wpAnyH_take (i := 13) (v := ?_) rfl (by kernel_rfl) (by kernel_rfl) (by kernel_rfl) (fun _ _ _ h => h) (Or.inl ⟨by rfl, ?_⟩) (by assumption) ?_
  rotate_left
  · intro w hSw
    (try dsimp only at hSw)
    go_simp
    try with_reducible rfl
  try simp only [Act.put, List.setIfInBounds_toArray, List.set_cons_zero, List.set_cons_succ, List.getElem_toArray, List.getElem_cons_zero, List.getElem_cons_succ]
  refine wpAnyH_take (i := 14) (v := ?_) rfl (by kernel_rfl) (by kernel_rfl) (by kernel_rfl) (fun _ _ _ h => h) (Or.inl ⟨by rfl, ?_⟩) (by assumption) ?_
  rotate_left
  · intro w hSw
    (try dsimp only at hSw)
    go_simp
    try with_reducible rfl
  try simp only [Act.put, List.setIfInBounds_toArray, List.set_cons_zero, List.set_cons_succ, List.getElem_toArray, List.getElem_cons_zero, List.getElem_cons_succ]
  refine wpAnyH_take (i := 15) (v := ?_) rfl (by kernel_rfl) (by kernel_rfl) (by kernel_rfl) (fun _ _ _ h => h) (Or.inl ⟨by rfl, ?_⟩) (by assumption) ?_
  rotate_left
  · intro w hSw
    (try dsimp only at hSw)
    go_simp
    try with_reducible rfl
  try simp only [Act.put, List.setIfInBounds_toArray, List.set_cons_zero, List.set_cons_succ, List.getElem_toArray, List.getElem_cons_zero, List.getElem_cons_succ]
  refine wpAnyH_take (i := 16) (v := ?_) rfl (by kernel_rfl) (by kernel_rfl) (by kernel_rfl) (fun _ _ _ h => h) (Or.inl ⟨by rfl, ?_⟩) (by assumption) ?_
  rotate_left
  · intro w hSw
    (try dsimp only at hSw)
    go_simp
    try with_reducible rfl
  try simp only [Act.put, List.setIfInBounds_toArray, List.set_cons_zero, List.set_cons_succ, List.getElem_toArray, List.getElem_cons_zero, List.getElem_cons_succ]
  refine wpAnyH_take (i := 17) (v := ?_) rfl (by kernel_rfl) (by kernel_rfl) (by kernel_rfl) (fun _ _ _ h => h) (Or.inl ⟨by rfl, ?_⟩) (by assumption) ?_
  rotate_left
  · intro w hSw
    (try dsimp only at hSw)
    go_simp
    try with_reducible rfl
  try simp only [Act.put, List.setIfInBounds_toArray, List.set_cons_zero, List.set_cons_succ, List.getElem_toArray, List.getElem_cons_zero, List.getElem_cons_succ]
  refine wpAnyH_take (i := 18) (v := ?_) rfl (by kernel_rfl) (by kernel_rfl) (by kernel_rfl) (fun _ _ _ h => h) (Or.inl ⟨by rfl, ?_⟩) (by assumption) ?_
  rotate_left
  · intro w hSw
    (try dsimp only at hSw)
    go_simp
    try with_reducible rfl
  try simp only [Act.put, List.setIfInBounds_toArray, List.set_cons_zero, List.set_cons_succ, List.getElem_toArray, List.getElem_cons_zero, List.getElem_cons_succ]
  refine wpAnyH_take (i := 19) (v := undef) rfl (by kernel_rfl) (by kernel_rfl) (by kernel_rfl) (fun _ _ _ h => h) (Or.inr ⟨by rfl, rfl⟩) (by assumption) ?_
  try simp only [Act.put, List.setIfInBounds_toArray, List.set_cons_zero, List.set_cons_succ, List.getElem_toArray, List.getElem_cons_zero, List.getElem_cons_succ]
  refine wpAnyH_take (i := 20) (v := undef) rfl (by kernel_rfl) (by kernel_rfl) (by kernel_rfl) (fun _ _ _ h => h) (Or.inr ⟨by rfl, rfl⟩) (by assumption) ?_
  try simp only [Act.put, List.setIfInBounds_toArray, List.set_cons_zero, List.set_cons_succ, List.getElem_toArray, List.getElem_cons_zero, List.getElem_cons_succ]
  refine wpAnyH_take (i := 21) (v := undef) rfl (by kernel_rfl) (by kernel_rfl) (by kernel_rfl) (fun _ _ _ h => h) (Or.inr ⟨by rfl, rfl⟩) (by assumption) ?_
  try simp only [Act.put, List.setIfInBounds_toArray, List.set_cons_zero, List.set_cons_succ, List.getElem_toArray, List.getElem_cons_zero, List.getElem_cons_succ]
  refine wpAnyH_take (i := 22) (v := ?_) rfl (by kernel_rfl) (by kernel_rfl) (by kernel_rfl) (fun _ _ _ h => h) (Or.inl ⟨by rfl, ?_⟩) (by assumption) ?_
  rotate_left
  · intro w hSw
    (try dsimp only at hSw)
    go_simp
    try with_reducible rfl
  try simp only [Act.put, List.setIfInBounds_toArray, List.set_cons_zero, List.set_cons_succ, List.getElem_toArray, List.getElem_cons_zero, List.getElem_cons_succ]
  refine wpAnyH_take (i := 23) (v := ?_) rfl (by kernel_rfl) (by kernel_rfl) (by kernel_rfl) (fun _ _ _ h => h) (Or.inl ⟨by rfl, ?_⟩) (by assumption) ?_
  rotate_left
  · intro w hSw
    (try dsimp only at hSw)
    go_simp
    try with_reducible rfl
  try simp only [Act.put, List.setIfInBounds_toArray, List.set_cons_zero, List.set_cons_succ, List.getElem_toArray, List.getElem_cons_zero, List.getElem_cons_succ]
  refine wpAnyH_done (by kernel_rfl) ?_ _
  have F4 := Lib.hid F3.out.drew
  clear hHeld
  generalize W3.drew = W4 at *
  go_wp2_with fail
  refine (HVI.out _ F4.out).mono ?_
  rintro e W5 ⟨a5, c5, rfl, i5, f5⟩
  have F5 := Lib.hid (F4.out.trans f5)
  have I5 := Lib.hid i5
  clear f5 i5
  go_wp2_with fail
  refine (HVR.out _ F5.out).mono ?_
  rintro e W6 ⟨a6, c6, rfl, i6, f6⟩
  have F6 := Lib.hid (F5.out.trans f6)
  have HE := Lib.hid (HEQ.out W6 _ _ (I5.out.below f6.out) i6)
  clear f6 i6
  go_wp2_with fail
  refine HE.out.mono ?_
  rintro e W7 ⟨rfl, f7⟩
  have F7 := Lib.hid (F6.out.trans f7)
  clear f7
  go_wp2_with fail
  refine (HNA.out _ F7.out).mono ?_
  rintro e W8 ⟨rfl, rfl⟩
  go_wp2_with fail
  refine (HNR.out _ F7.out).mono ?_
  rintro e W9 ⟨rfl, f9⟩
  have F9 := Lib.hid (F7.out.trans f9)
  clear f9
  go_wp2
  go_ret
  exact ⟨rfl, F9.out.out⟩
set_option maxHeartbeats 8000000 in
set_option maxRecDepth 100000 in
theorem finds_miss (v : Value) (ds : List Dec) (kind id : Int) (w : World) (s : ByteArray) (hs : s.toList.isEmpty = false) (hn : w.cell? ⟨2, 1, none⟩ = some (.string s)) (hv : VNamesAt w) (h : kDec.At w v ds) (hb : ds.length ≤ 50) (hf : findD kind id ds = -1) :
    Calls Tryz.prog 3 #[v, .int .i64 kind, .int .i64 id] w fun e w' => e = .returned (.bool true) ∧ Below w.heap.size w w' := by
  have HA : Hid (∀ X, From w X → Calls Tryz.prog 4 #[] X fun e w' => e = .returned (.bool true) ∧ From X w') := fun X f => awake27_any X s hs (f.cell hn) (fun i hi => f.cell (hv i hi))
  have HFI : Hid (∀ X, From w X → Calls Tryz.prog 6 #[v, .int .i64 kind, .int .i64 id] X fun e w' => e = .returned (.tuple #[decV ⟨0, 0, 0, 0⟩, .bool false]) ∧ From X w') := fun X f => by
    refine (jfind_any v ds kind id X (h.below f.out) hb).mono ?_
    rintro e w' ⟨⟨d, rfl, hneg, hpos⟩, hbb⟩
    have := hneg (by omega)
    subst this
    rw [hf]
    exact ⟨rfl, ⟨hbb⟩⟩
  have HRF : Hid (∀ X, From w X → Calls Tryz.prog 7 #[v, .int .i64 kind, .int .i64 id] X fun e w' => e = .returned (.int .i64 (-1)) ∧ X = w') := fun X f => by
    have h1 := rfind_any v ds kind id X (h.below f.out) hb
    rw [hf] at h1
    exact h1
  obtain ⟨vs, hvs⟩ : ∃ vs, vs = victimsD ds := ⟨_, rfl⟩
  have hvl : vs.length ≤ 50 := by rw [hvs]; have := victimsD_len ds; omega
  have HVI : Hid (∀ X, From w X → Calls Tryz.prog 9 #[v] X fun e w' => ∃ a cp, e = .returned (.slice a vs.length cp) ∧ IntsAt w' (.slice a vs.length cp) vs ∧ From X w') := fun X f => by
    rw [hvs]
    refine (victims_any v ds X (h.below f.out) hb).mono ?_
    rintro e w' ⟨a, cp, rfl, ho, hbb⟩
    exact ⟨a, cp, rfl, kInt_ints ho.at_, ⟨hbb⟩⟩
  have HVR : Hid (∀ X, From w X → Calls Tryz.prog 10 #[v] X fun e w' => ∃ a cp, e = .returned (.slice a vs.length cp) ∧ IntsAt w' (.slice a vs.length cp) vs ∧ From X w') := fun X f => by
    rw [hvs]
    refine (rvictims_any v ds X (h.below f.out) hb).mono ?_
    rintro e w' ⟨a, cp, rfl, ho, hbb⟩
    exact ⟨a, cp, rfl, kInt_ints ho.at_, ⟨hbb⟩⟩
  have HEQ : Hid (∀ X v1 v2, IntsAt X v1 vs → IntsAt X v2 vs → Calls Tryz.prog 8 #[v1, v2] X fun e w' => e = .returned (.bool true) ∧ From X w') := fun X v1 v2 h1 h2 => (equal_any v1 v2 vs X h1 h2 hvl).mono fun e w' ⟨he, hb⟩ => ⟨he, ⟨hb⟩⟩
  obtain ⟨vn, hvn⟩ : ∃ vn, vn = verdictName kind := ⟨_, rfl⟩
  have HNA : Hid (∀ X, From w X → Calls Tryz.prog 11 #[.int .i64 kind] X fun e w' => e = .returned (.string vn) ∧ X = w') := fun X f => by
    rw [hvn]; exact jname_any kind X (fun i hi => f.cell (hv i hi))
  have HNR : Hid (∀ X, From w X → Calls Tryz.prog 12 #[.int .i64 kind] X fun e w' => e = .returned (.string vn) ∧ From X w') := fun X f => by
    rw [hvn]; exact (rname_any kind X).mono fun e w' ⟨he, hb⟩ => ⟨he, ⟨hb⟩⟩
  have hse := strEq vn
  obtain ⟨a, cap, rfl, hget⟩ := kDec_get h
  have HF := Lib.hid (jfew_any a ds.length cap)
  rw [decide_eq_true hb] at HF
  obtain ⟨q, hq⟩ : ∃ q, q = ds.length := ⟨_, rfl⟩
  rw [← hq] at HF HFI HRF HVI HVR hget ⊢
  have hne := neqDec ⟨0, 0, 0, 0⟩ ⟨0, 0, 0, 0⟩
  rw [decB_refl] at hne
  change ∀ w : World, (binOp .neq 26 (.agg #[.int .i64 0, .int .i64 0, .int .i64 0, .int .i64 0]) (.agg #[.int .i64 0, .int .i64 0, .int .i64 0, .int .i64 0])).run Tryz.prog w = .ok (.bool false) w at hne
  clear hn hv h hb hf hget hvs hvn hq
  go_enter Tryz.func3, Tryz.ntmps3
  go_wp2_with fail
  refine (HA.out _ (From.refl w)).mono ?_
  rintro e W1 ⟨rfl, f1⟩
  have F1 := Lib.hid f1
  clear f1
  go_wp2_with fail
  refine (HF.out _).mono ?_
  rintro e W2 ⟨rfl, rfl⟩
  go_wp2_with fail
  refine (HFI.out _ F1.out).mono ?_
  rintro e W2 ⟨rfl, f2⟩
  obtain ⟨W3, hW3⟩ : ∃ W3, W3 = W2.alloc (.cells #[.int .i64 0, .int .i64 0, .int .i64 0, .int .i64 0] 26) := ⟨_, rfl⟩
  have f3 : From W2 W3 := by rw [hW3]; exact (From.refl _).alloc _
  have F3 := Lib.hid ((F1.out.trans f2).trans f3)
  have t0 : W3.cell? ⟨W2.heap.size, 0, none⟩ = some (.int .i64 0) := by rw [hW3]; go_simp
  have t1 : W3.cell? ⟨W2.heap.size, 1, none⟩ = some (.int .i64 0) := by rw [hW3]; go_simp
  have t2 : W3.cell? ⟨W2.heap.size, 2, none⟩ = some (.int .i64 0) := by rw [hW3]; go_simp
  have t3 : W3.cell? ⟨W2.heap.size, 3, none⟩ = some (.int .i64 0) := by rw [hW3]; go_simp
  have HW := Lib.hid hW3
  clear f2 f3 hW3
  go_wp2_with fail
  rw [← HW.out]
  clear HW
  refine (HRF.out _ F3.out).mono ?_
  rintro e W4 ⟨rfl, rfl⟩
  go_wp2
  refine wp_region_held_drew (S := fun w' => w'.cell? ⟨W2.heap.size, 0, none⟩ = some (.int .i64 0) ∧ w'.cell? ⟨W2.heap.size, 1, none⟩ = some (.int .i64 0) ∧ w'.cell? ⟨W2.heap.size, 2, none⟩ = some (.int .i64 0) ∧ w'.cell? ⟨W2.heap.size, 3, none⟩ = some (.int .i64 0)) (by kernel_rfl) ?_ (fun hHeld => ?_)
  · exact ⟨t0, t1, t2, t3⟩
  refine wpAnyH_take (i := 0) (v := ?_) rfl (by kernel_rfl) (by kernel_rfl) (by kernel_rfl) (fun _ _ _ h => h) (Or.inl ⟨by rfl, ?_⟩) (by assumption) ?_
  rotate_left
  · intro w hSw
    (try dsimp only at hSw)
    go_simp
    try with_reducible rfl
  try simp only [Act.put, List.setIfInBounds_toArray, List.set_cons_zero, List.set_cons_succ, List.getElem_toArray, List.getElem_cons_zero, List.getElem_cons_succ]
  refine wpAnyH_take (i := 1) (v := ?_) rfl (by kernel_rfl) (by kernel_rfl) (by kernel_rfl) (fun _ _ _ h => h) (Or.inl ⟨by rfl, ?_⟩) (by assumption) ?_
  rotate_left
  · intro w hSw
    (try dsimp only at hSw)
    go_simp
    try with_reducible rfl
  try simp only [Act.put, List.setIfInBounds_toArray, List.set_cons_zero, List.set_cons_succ, List.getElem_toArray, List.getElem_cons_zero, List.getElem_cons_succ]
  refine wpAnyH_take (i := 2) (v := ?_) rfl (by kernel_rfl) (by kernel_rfl) (by kernel_rfl) (fun _ _ _ h => h) (Or.inl ⟨by rfl, ?_⟩) (by assumption) ?_
  rotate_left
  · intro w hSw
    (try dsimp only at hSw)
    go_simp
    try with_reducible rfl
  try simp only [Act.put, List.setIfInBounds_toArray, List.set_cons_zero, List.set_cons_succ, List.getElem_toArray, List.getElem_cons_zero, List.getElem_cons_succ]
  refine wpAnyH_take (i := 3) (v := ?_) rfl (by kernel_rfl) (by kernel_rfl) (by kernel_rfl) (fun _ _ _ h => h) (Or.inl ⟨by rfl, ?_⟩) (by assumption) ?_
  rotate_left
  · intro w hSw
    (try dsimp only at hSw)
    go_simp
    try with_reducible rfl
  try simp only [Act.put, List.setIfInBounds_toArray, List.set_cons_zero, List.set_cons_succ, List.getElem_toArray, List.getElem_cons_zero, List.getElem_cons_succ]
  refine wpAnyH_take (i := 4) (v := ?_) rfl (by kernel_rfl) (by kernel_rfl) (by kernel_rfl) (fun _ _ _ h => h) (Or.inl ⟨by rfl, ?_⟩) (by assumption) ?_
  rotate_left
  · intro w hSw
    (try dsimp only at hSw)
    go_simp
    try with_reducible rfl
  try simp only [Act.put, List.setIfInBounds_toArray, List.set_cons_zero, List.set_cons_succ, List.getElem_toArray, List.getElem_cons_zero, List.getElem_cons_succ]
  refine wpAnyH_take (i := 5) (v := ?_) rfl (by kernel_rfl) (by kernel_rfl) (by kernel_rfl) (fun _ _ _ h => h) (Or.inl ⟨by rfl, ?_⟩) (by assumption) ?_
  rotate_left
  · intro w hSw
    (try dsimp only at hSw)
    go_simp
    try with_reducible rfl
  try simp only [Act.put, List.setIfInBounds_toArray, List.set_cons_zero, List.set_cons_succ, List.getElem_toArray, List.getElem_cons_zero, List.getElem_cons_succ]
  refine wpAnyH_take (i := 6) (v := ?_) rfl (by kernel_rfl) (by kernel_rfl) (by kernel_rfl) (fun _ _ _ h => h) (Or.inl ⟨by rfl, ?_⟩) (by assumption) ?_
  rotate_left
  · intro w hSw
    (try dsimp only at hSw)
    go_simp
    try with_reducible rfl
  try simp only [Act.put, List.setIfInBounds_toArray, List.set_cons_zero, List.set_cons_succ, List.getElem_toArray, List.getElem_cons_zero, List.getElem_cons_succ]
  refine wpAnyH_take (i := 7) (v := undef) rfl (by kernel_rfl) (by kernel_rfl) (by kernel_rfl) (fun _ _ _ h => h) (Or.inr ⟨by rfl, rfl⟩) (by assumption) ?_
  try simp only [Act.put, List.setIfInBounds_toArray, List.set_cons_zero, List.set_cons_succ, List.getElem_toArray, List.getElem_cons_zero, List.getElem_cons_succ]
  refine wpAnyH_take (i := 8) (v := undef) rfl (by kernel_rfl) (by kernel_rfl) (by kernel_rfl) (fun _ _ _ h => h) (Or.inr ⟨by rfl, rfl⟩) (by assumption) ?_
  try simp only [Act.put, List.setIfInBounds_toArray, List.set_cons_zero, List.set_cons_succ, List.getElem_toArray, List.getElem_cons_zero, List.getElem_cons_succ]
  refine wpAnyH_take (i := 9) (v := undef) rfl (by kernel_rfl) (by kernel_rfl) (by kernel_rfl) (fun _ _ _ h => h) (Or.inr ⟨by rfl, rfl⟩) (by assumption) ?_
  try simp only [Act.put, List.setIfInBounds_toArray, List.set_cons_zero, List.set_cons_succ, List.getElem_toArray, List.getElem_cons_zero, List.getElem_cons_succ]
  refine wpAnyH_take (i := 10) (v := undef) rfl (by kernel_rfl) (by kernel_rfl) (by kernel_rfl) (fun _ _ _ h => h) (Or.inr ⟨by rfl, rfl⟩) (by assumption) ?_
  try simp only [Act.put, List.setIfInBounds_toArray, List.set_cons_zero, List.set_cons_succ, List.getElem_toArray, List.getElem_cons_zero, List.getElem_cons_succ]
  refine wpAnyH_take (i := 11) (v := undef) rfl (by kernel_rfl) (by kernel_rfl) (by kernel_rfl) (fun _ _ _ h => h) (Or.inr ⟨by rfl, rfl⟩) (by assumption) ?_
  try simp only [Act.put, List.setIfInBounds_toArray, List.set_cons_zero, List.set_cons_succ, List.getElem_toArray, List.getElem_cons_zero, List.getElem_cons_succ]
  refine wpAnyH_take (i := 12) (v := undef) rfl (by kernel_rfl) (by kernel_rfl) (by kernel_rfl) (fun _ _ _ h => h) (Or.inr ⟨by rfl, rfl⟩) (by assumption) ?_
  try simp only [Act.put, List.setIfInBounds_toArray, List.set_cons_zero, List.set_cons_succ, List.getElem_toArray, List.getElem_cons_zero, List.getElem_cons_succ]
  refine wpAnyH_take (i := 13) (v := ?_) rfl (by kernel_rfl) (by kernel_rfl) (by kernel_rfl) (fun _ _ _ h => h) (Or.inl ⟨by rfl, ?_⟩) (by assumption) ?_
  rotate_left
  · intro w hSw
    (try dsimp only at hSw)
    go_simp
    try with_reducible rfl
  try simp only [Act.put, List.setIfInBounds_toArray, List.set_cons_zero, List.set_cons_succ, List.getElem_toArray, List.getElem_cons_zero, List.getElem_cons_succ]
  refine wpAnyH_take (i := 14) (v := ?_) rfl (by kernel_rfl) (by kernel_rfl) (by kernel_rfl) (fun _ _ _ h => h) (Or.inl ⟨by rfl, ?_⟩) (by assumption) ?_
  rotate_left
  · intro w hSw
    (try dsimp only at hSw)
    go_simp
    try with_reducible rfl
  try simp only [Act.put, List.setIfInBounds_toArray, List.set_cons_zero, List.set_cons_succ, List.getElem_toArray, List.getElem_cons_zero, List.getElem_cons_succ]
  refine wpAnyH_take (i := 15) (v := ?_) rfl (by kernel_rfl) (by kernel_rfl) (by kernel_rfl) (fun _ _ _ h => h) (Or.inl ⟨by rfl, ?_⟩) (by assumption) ?_
  rotate_left
  · intro w hSw
    (try dsimp only at hSw)
    go_simp
    try with_reducible rfl
  try simp only [Act.put, List.setIfInBounds_toArray, List.set_cons_zero, List.set_cons_succ, List.getElem_toArray, List.getElem_cons_zero, List.getElem_cons_succ]
  refine wpAnyH_take (i := 16) (v := ?_) rfl (by kernel_rfl) (by kernel_rfl) (by kernel_rfl) (fun _ _ _ h => h) (Or.inl ⟨by rfl, ?_⟩) (by assumption) ?_
  rotate_left
  · intro w hSw
    (try dsimp only at hSw)
    go_simp
    try with_reducible rfl
  try simp only [Act.put, List.setIfInBounds_toArray, List.set_cons_zero, List.set_cons_succ, List.getElem_toArray, List.getElem_cons_zero, List.getElem_cons_succ]
  refine wpAnyH_take (i := 17) (v := ?_) rfl (by kernel_rfl) (by kernel_rfl) (by kernel_rfl) (fun _ _ _ h => h) (Or.inl ⟨by rfl, ?_⟩) (by assumption) ?_
  rotate_left
  · intro w hSw
    (try dsimp only at hSw)
    go_simp
    try with_reducible rfl
  try simp only [Act.put, List.setIfInBounds_toArray, List.set_cons_zero, List.set_cons_succ, List.getElem_toArray, List.getElem_cons_zero, List.getElem_cons_succ]
  refine wpAnyH_take (i := 18) (v := ?_) rfl (by kernel_rfl) (by kernel_rfl) (by kernel_rfl) (fun _ _ _ h => h) (Or.inl ⟨by rfl, ?_⟩) (by assumption) ?_
  rotate_left
  · intro w hSw
    (try dsimp only at hSw)
    go_simp
    try with_reducible rfl
  try simp only [Act.put, List.setIfInBounds_toArray, List.set_cons_zero, List.set_cons_succ, List.getElem_toArray, List.getElem_cons_zero, List.getElem_cons_succ]
  refine wpAnyH_take (i := 19) (v := ?_) rfl (by kernel_rfl) (by kernel_rfl) (by kernel_rfl) (fun _ _ _ h => h) (Or.inl ⟨by rfl, ?_⟩) (by assumption) ?_
  rotate_left
  · intro w hSw
    (try dsimp only at hSw)
    go_simp
    try with_reducible rfl
  try simp only [Act.put, List.setIfInBounds_toArray, List.set_cons_zero, List.set_cons_succ, List.getElem_toArray, List.getElem_cons_zero, List.getElem_cons_succ]
  refine wpAnyH_take (i := 20) (v := ?_) rfl (by kernel_rfl) (by kernel_rfl) (by kernel_rfl) (fun _ _ _ h => h) (Or.inl ⟨by rfl, ?_⟩) (by assumption) ?_
  rotate_left
  · intro w hSw
    (try dsimp only at hSw)
    go_simp
    try with_reducible rfl
  try simp only [Act.put, List.setIfInBounds_toArray, List.set_cons_zero, List.set_cons_succ, List.getElem_toArray, List.getElem_cons_zero, List.getElem_cons_succ]
  refine wpAnyH_take (i := 21) (v := ?_) rfl (by kernel_rfl) (by kernel_rfl) (by kernel_rfl) (fun _ _ _ h => h) (Or.inl ⟨by rfl, ?_⟩) (by assumption) ?_
  rotate_left
  · intro w hSw
    (try dsimp only at hSw)
    go_simp
    try with_reducible rfl
  try simp only [Act.put, List.setIfInBounds_toArray, List.set_cons_zero, List.set_cons_succ, List.getElem_toArray, List.getElem_cons_zero, List.getElem_cons_succ]
  refine wpAnyH_take (i := 22) (v := ?_) rfl (by kernel_rfl) (by kernel_rfl) (by kernel_rfl) (fun _ _ _ h => h) (Or.inl ⟨by rfl, ?_⟩) (by assumption) ?_
  rotate_left
  · intro w hSw
    (try dsimp only at hSw)
    go_simp
    try with_reducible rfl
  try simp only [Act.put, List.setIfInBounds_toArray, List.set_cons_zero, List.set_cons_succ, List.getElem_toArray, List.getElem_cons_zero, List.getElem_cons_succ]
  refine wpAnyH_take (i := 23) (v := ?_) rfl (by kernel_rfl) (by kernel_rfl) (by kernel_rfl) (fun _ _ _ h => h) (Or.inl ⟨by rfl, ?_⟩) (by assumption) ?_
  rotate_left
  · intro w hSw
    (try dsimp only at hSw)
    go_simp
    try with_reducible rfl
  try simp only [Act.put, List.setIfInBounds_toArray, List.set_cons_zero, List.set_cons_succ, List.getElem_toArray, List.getElem_cons_zero, List.getElem_cons_succ]
  refine wpAnyH_done (by kernel_rfl) ?_ _
  have F4 := Lib.hid F3.out.drew
  clear hHeld
  generalize W3.drew = W4 at *
  go_wp2_with fail
  refine (HVI.out _ F4.out).mono ?_
  rintro e W5 ⟨a5, c5, rfl, i5, f5⟩
  have F5 := Lib.hid (F4.out.trans f5)
  have I5 := Lib.hid i5
  clear f5 i5
  go_wp2_with fail
  refine (HVR.out _ F5.out).mono ?_
  rintro e W6 ⟨a6, c6, rfl, i6, f6⟩
  have F6 := Lib.hid (F5.out.trans f6)
  have HE := Lib.hid (HEQ.out W6 _ _ (I5.out.below f6.out) i6)
  clear f6 i6
  go_wp2_with fail
  refine HE.out.mono ?_
  rintro e W7 ⟨rfl, f7⟩
  have F7 := Lib.hid (F6.out.trans f7)
  clear f7
  go_wp2_with fail
  refine (HNA.out _ F7.out).mono ?_
  rintro e W8 ⟨rfl, rfl⟩
  go_wp2_with fail
  refine (HNR.out _ F7.out).mono ?_
  rintro e W9 ⟨rfl, f9⟩
  have F9 := Lib.hid (F7.out.trans f9)
  clear f9
  go_wp2
  go_ret
  exact ⟨rfl, F9.out.out⟩
end Go.Proofs.YtllipidegjpidaaGreatDoor
