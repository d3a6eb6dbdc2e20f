/- Strings cut at each instance of a separator, and joined. Plain: no program. -/
import Derived.Lib.SplitLaws
import Derived.Lib.IndexLaws
import Derived.Lib.Join
namespace Go.Proofs.YtdclokpoeaehlaaGreatDoor
set_option linter.all false

/-- The string with these bytes. -/
def str (l : List UInt8) : ByteArray := ⟨l.toArray⟩
theorem str_data (s : ByteArray) : str s.data.toList = s := rfl
theorem str_toList (l : List UInt8) : (str l).data.toList = l := rfl
theorem str_size (l : List UInt8) : (str l).size = l.length := rfl
theorem str_inj {a b : List UInt8} (h : str a = str b) : a = b := congrArg (fun s : ByteArray => s.data.toList) h
theorem size_toList (s : ByteArray) : s.data.toList.length = s.size := Array.length_toList

theorem str_isEmpty (l : List UInt8) : (str l).toList.isEmpty = l.isEmpty := by rw [ByteArray.toList_eq]; rfl
theorem split_hit {s sep : List UInt8} {i : Nat} (hsep : sep ≠ []) (h : Lib.index s sep = i) : Lib.split s sep = s.take i :: Lib.split (s.drop (i + sep.length)) sep := by
  unfold Lib.split
  rw [Lib.count_hit hsep h, Nat.add_comm, Lib.splitK, if_neg (by rw [h]; intro e; have := beq_iff_eq.1 e; omega), h]
  simp
theorem split_miss {s sep : List UInt8} (h : Lib.index s sep = -1) : Lib.split s sep = [s] := by
  unfold Lib.split
  rw [Lib.count_miss h]
  rfl
theorem split_ne (s sep : List UInt8) : Lib.split s sep ≠ [] := by
  unfold Lib.split
  cases Lib.count s sep with
  | zero => simp [Lib.splitK]
  | succ k => rw [Lib.splitK]; split <;> simp

/-- An instance at i, and none before it. -/
theorem split_at {s sep : List UInt8} {i : Nat} (hsep : sep ≠ []) (hi : i ≤ s.length) (h : Lib.occAt s sep i = true) (hn : Lib.NoOcc s sep i) : Lib.split s sep = s.take i :: Lib.split (s.drop (i + sep.length)) sep :=
  split_hit hsep (Lib.index_first hi h hn)
theorem noOcc_first {s t : List UInt8} {c : UInt8} {i : Nat} (h : ∀ j : Nat, j < i → s[j]? ≠ some c) : Lib.NoOcc s (c :: t) i := by
  intro j hj
  have h1 := h j hj
  unfold Lib.occAt
  cases hd : s.drop j with
  | nil => rfl
  | cons b r =>
    have h2 : s[j]? = some b := by have := congrArg (fun l => l[0]?) hd; simpa using this
    have h3 : c ≠ b := fun e => h1 (by rw [h2, e])
    simp [List.isPrefixOf, h3]
theorem split_none {s t : List UInt8} {c : UInt8} (h : ∀ j : Nat, s[j]? ≠ some c) : Lib.split s (c :: t) = [s] :=
  split_miss (Lib.index_none fun j _ => noOcc_first (i := j + 1) (fun k _ => h k) j (Nat.lt_succ_self j))
theorem join_cons2 (x y : List UInt8) (r : List (List UInt8)) (sep : List UInt8) : Lib.join (x :: y :: r) sep = x ++ sep ++ Lib.join (y :: r) sep := by
  rw [Lib.join_cons, Lib.join_cons]
  simp [Lib.joinTail]
/-- What is joined is cut again, if no piece has the separator's first byte. -/
theorem split_join (c : UInt8) (t : List UInt8) : ∀ (xs : List (List UInt8)), xs ≠ [] → (∀ x ∈ xs, c ∉ x) → Lib.split (Lib.join xs (c :: t)) (c :: t) = xs
  | [], h, _ => absurd rfl h
  | [x], _, h => by
    rw [Lib.join_one]
    exact split_none fun j e => h x (by simp) (List.mem_of_getElem? e)
  | x :: y :: r, _, h => by
    rw [join_cons2]
    have e := split_at (s := x ++ (c :: t) ++ Lib.join (y :: r) (c :: t)) (sep := c :: t) (i := x.length) (by simp) (by simp) (by simp [Lib.occAt]) (noOcc_first fun j hj e => h x (by simp) (by
      rw [List.append_assoc, List.getElem?_append_left hj] at e
      exact List.mem_of_getElem? e))
    rw [e, split_join_tail x y r c t, List.append_assoc, List.take_left]
    congr 1
    exact split_join c t (y :: r) (by simp) (fun z hz => h z (by simp [List.mem_cons.1 hz]))
where
  split_join_tail (x y : List UInt8) (r : List (List UInt8)) (c : UInt8) (t : List UInt8) : Lib.split ((x ++ (c :: t) ++ Lib.join (y :: r) (c :: t)).drop (x.length + (c :: t).length)) (c :: t) = Lib.split (Lib.join (y :: r) (c :: t)) (c :: t) := by
    rw [show x.length + (c :: t).length = (x ++ (c :: t)).length by simp, List.drop_left]

theorem splitB_split (sep : ByteArray) (hsep : 1 ≤ sep.size) : ∀ (k : Nat) (s : ByteArray), s.size ≤ k → Lib.splitB sep 0 (Lib.countB s sep) s = (Lib.split s.data.toList sep.data.toList).map str := by
  have hne : sep.data.toList ≠ [] := by
    intro e
    have h := congrArg List.length e
    rw [size_toList] at h
    simp only [List.length_nil] at h; omega
  intro k
  induction k with
  | zero =>
    intro s hk
    rcases Lib.indexB_cases s sep with h | ⟨i, h, hr⟩
    · rw [Lib.countB_miss s sep h, Lib.splitB_zero, split_miss h]; rfl
    · omega
  | succ k ih =>
    intro s hk
    rcases Lib.indexB_cases s sep with h | ⟨i, h, hr⟩
    · rw [Lib.countB_miss s sep h, Lib.splitB_zero, split_miss h]; rfl
    · have e2 : (s.extract (i + sep.size) s.size).size = s.size - (i + sep.size) := by rw [ByteArray.size_extract]; omega
      rw [Lib.countB_hit s sep i hsep h, Nat.add_comm, Lib.splitB_hit _ _ _ _ i h, ih _ (by omega), split_hit hne h]
      simp only [List.map_cons]
      have e3 : (s.extract (i + sep.size) s.size).data.toList = s.data.toList.drop (i + sep.data.toList.length) := by
        rw [size_toList, ByteArray.data_extract, Array.toList_extract, List.extract_eq_drop_take, List.take_of_length_le (by rw [List.length_drop, size_toList]; omega)]
      have e4 : s.extract 0 (i + 0) = str (s.data.toList.take i) := by
        rw [← str_data (s.extract 0 (i + 0)), ByteArray.data_extract, Array.toList_extract, List.extract_eq_drop_take]
        simp
      rw [e3, e4]
theorem count_split (s sep : ByteArray) (hsep : 1 ≤ sep.size) : Lib.countB s sep + 1 = (Lib.split s.data.toList sep.data.toList).length := by
  have h := splitB_split sep hsep s.size s (Nat.le_refl _)
  have h1 := Lib.splitB_all sep hsep 0 (Lib.countB s sep) s rfl
  rw [h, List.length_map] at h1
  exact h1.symm
end Go.Proofs.YtdclokpoeaehlaaGreatDoor
