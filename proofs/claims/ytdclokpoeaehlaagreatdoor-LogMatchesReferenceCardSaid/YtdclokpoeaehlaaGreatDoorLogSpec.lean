/- Decisions as texts: what log and its reference compute. Plain: no program. -/
import Derived.Test.YtdclokpoeaehlaaGreatDoorNum
import Derived.Test.YtdclokpoeaehlaaGreatDoorCut
namespace Go.Proofs.YtdclokpoeaehlaaGreatDoor
set_option linter.all false

/-- A decision. -/
structure Dec where
  kind : Int
  id : Int
  node : Int
  at_ : Int
deriving DecidableEq
def decNames : List (List UInt8) := [[], [97, 100, 100, 101, 100], [102, 114, 101, 101, 100], [119, 111, 107, 101, 110], [105, 100, 108, 101], [98, 105, 110, 100, 115], [101, 118, 105, 99, 116, 115], [99, 108, 97, 105, 109, 115], [99, 108, 101, 97, 114, 101, 100], [119, 97, 105, 116, 115], [112, 97, 114, 107, 115], [100, 114, 111, 112, 112, 101, 100]]
/-- The name of a kind, or none. -/
def dname (k : Int) : List UInt8 := if 0 ≤ k ∧ k < 12 then decNames.getD k.toNat [] else []
def dword (n : Int) : List UInt8 := if n = -1 then [45] else Lib.itoa n
def inR (n : Int) : Prop := -4611686018427387904 ≤ n ∧ n ≤ 4611686018427387904
instance (n : Int) : Decidable (inR n) := by unfold inR; infer_instance
/-- Has a decision a line? -/
def lined (d : Dec) : Bool := decide (inR d.id ∧ inR d.node ∧ inR d.at_ ∧ dname d.kind ≠ [])
/-- The line of a decision, or nothing. -/
def dline (d : Dec) : List UInt8 := if lined d then Lib.join [dname d.kind, dword d.id, dword d.node, dword d.at_] [32] else []
/-- The kind with a name; 0: none. -/
def kindOf (w : List UInt8) : Nat := match decNames.tail.findIdx? (· == w) with | some i => i + 1 | none => 0
/-- The value of a word. -/
def dvalue (w : List UInt8) : Option Int := if w = [45] then some (-1) else match num w with | some n => if n = -1 then none else some n | none => none
def dparse (l : List UInt8) : Option Dec :=
  match Lib.split l [32] with
  | [a, b, c, d] => if kindOf a = 0 then none else match dvalue b, dvalue c, dvalue d with
    | some x, some y, some z => some ⟨kindOf a, x, y, z⟩
    | _, _, _ => none
  | _ => none
def sNone : List UInt8 := [110, 111, 110, 101]
def danswer (l : List Dec) : List UInt8 := if (l.filter lined) = [] then sNone else Lib.join ((l.filter lined).map dline) [44, 32]
def dparses : List (List UInt8) → Option (List Dec)
  | [] => some []
  | s :: r => match dparse s with | some d => (dparses r).map (d :: ·) | none => none
def dread (l : List UInt8) : Option (List Dec) := if l = sNone then some [] else dparses (Lib.split l [44, 32])

theorem dname_cases (k : Int) (h : dname k ≠ []) : 1 ≤ k ∧ k ≤ 11 := by
  unfold dname at h
  by_cases h1 : 0 ≤ k ∧ k < 12
  · rw [if_pos h1] at h
    have : k ≠ 0 := fun e => by subst e; exact h rfl
    omega
  · rw [if_neg h1] at h; exact absurd rfl h
theorem dname_ne (k : Int) (h : 1 ≤ k ∧ k ≤ 11) : dname k ≠ [] := by
  have : k = 1 ∨ k = 2 ∨ k = 3 ∨ k = 4 ∨ k = 5 ∨ k = 6 ∨ k = 7 ∨ k = 8 ∨ k = 9 ∨ k = 10 ∨ k = 11 := by omega
  rcases this with rfl | rfl | rfl | rfl | rfl | rfl | rfl | rfl | rfl | rfl | rfl <;> decide
theorem kindOf_name (k : Int) (h : dname k ≠ []) : (kindOf (dname k) : Int) = k := by
  have := dname_cases k h
  have : k = 1 ∨ k = 2 ∨ k = 3 ∨ k = 4 ∨ k = 5 ∨ k = 6 ∨ k = 7 ∨ k = 8 ∨ k = 9 ∨ k = 10 ∨ k = 11 := by omega
  rcases this with rfl | rfl | rfl | rfl | rfl | rfl | rfl | rfl | rfl | rfl | rfl <;> decide
theorem kindOf_le (w : List UInt8) : kindOf w ≤ 11 := by
  unfold kindOf
  split
  · rename_i i h
    have := (List.findIdx?_eq_some_iff_getElem.1 h).1
    have e : decNames.tail.length = 11 := rfl
    omega
  · omega
/-- The bytes of names and values: no space, no comma. -/
theorem dname_bytes (k : Int) : (32 : UInt8) ∉ dname k ∧ (44 : UInt8) ∉ dname k := by
  unfold dname
  by_cases h : 0 ≤ k ∧ k < 12
  · rw [if_pos h]
    have : k = 0 ∨ k = 1 ∨ k = 2 ∨ k = 3 ∨ k = 4 ∨ k = 5 ∨ k = 6 ∨ k = 7 ∨ k = 8 ∨ k = 9 ∨ k = 10 ∨ k = 11 := by omega
    rcases this with rfl | rfl | rfl | rfl | rfl | rfl | rfl | rfl | rfl | rfl | rfl | rfl <;> decide
  · rw [if_neg h]; simp
theorem digits_bytes (u : Nat) : ∀ c ∈ Lib.decDigits u, 48 ≤ c.toNat ∧ c.toNat ≤ 57 := by
  induction u using Nat.strongRecOn with
  | _ u ih =>
    rw [Lib.decDigits]
    by_cases h : u < 10
    · rw [dif_pos h]
      intro c hc
      have e : (UInt8.ofNat (48 + u)).toNat = 48 + u := by simp [UInt8.toNat_ofNat']; omega
      rw [List.mem_singleton.1 hc]; omega
    · rw [dif_neg h]
      intro c hc
      rcases List.mem_append.1 hc with h1 | h1
      · exact ih (u / 10) (by omega) c h1
      · have e : (UInt8.ofNat (48 + u % 10)).toNat = 48 + u % 10 := by simp [UInt8.toNat_ofNat']; omega
        rw [List.mem_singleton.1 h1]; omega
theorem itoa_bytes (n : Int) : ∀ c ∈ Lib.itoa n, c.toNat = 45 ∨ (48 ≤ c.toNat ∧ c.toNat ≤ 57) := by
  unfold Lib.itoa
  split
  · intro c hc
    rcases List.mem_cons.1 hc with rfl | h
    · exact .inl rfl
    · exact .inr (digits_bytes _ c h)
  · exact fun c hc => .inr (digits_bytes _ c hc)
theorem dword_bytes (n : Int) : ∀ c ∈ dword n, c.toNat = 45 ∨ (48 ≤ c.toNat ∧ c.toNat ≤ 57) := by
  unfold dword
  split
  · intro c hc; rw [List.mem_singleton.1 hc]; exact .inl rfl
  · exact itoa_bytes n
theorem not_mem_of_byte {l : List UInt8} {b : UInt8} (h : ∀ c ∈ l, c.toNat = 45 ∨ (48 ≤ c.toNat ∧ c.toNat ≤ 57)) (hb : ¬ (b.toNat = 45 ∨ (48 ≤ b.toNat ∧ b.toNat ≤ 57))) : b ∉ l := fun hm => hb (h b hm)
theorem itoa_ne (n : Int) : Lib.itoa n ≠ [] := by
  unfold Lib.itoa
  split
  · simp
  · exact digits_ne _
theorem itoa_dash (n : Int) : Lib.itoa n ≠ [45] := by
  unfold Lib.itoa
  split
  · intro h
    simp only [List.cons.injEq, true_and] at h
    exact digits_ne _ h
  · obtain ⟨c, r, e, h, _⟩ := digits_head n.toNat
    rw [e]
    intro h'
    simp only [List.cons.injEq] at h'
    rw [h'.1] at h
    exact absurd h (by decide)
theorem dvalue_word {n : Int} (h : inR n) : dvalue (dword n) = some n := by
  unfold dword dvalue
  by_cases h1 : n = -1
  · subst h1; rw [if_pos rfl, if_pos rfl]
  · rw [if_neg h1, if_neg (itoa_dash n), num_itoa h.1 h.2]
    simp [h1]
theorem dline_split {d : Dec} (h : lined d = true) : Lib.split (dline d) [32] = [dname d.kind, dword d.id, dword d.node, dword d.at_] := by
  unfold dline
  rw [if_pos h]
  refine split_join 32 [] _ (by simp) fun x hx => ?_
  simp only [List.mem_cons, List.not_mem_nil, or_false] at hx
  rcases hx with rfl | rfl | rfl | rfl
  · exact (dname_bytes _).1
  · exact not_mem_of_byte (dword_bytes _) (by decide)
  · exact not_mem_of_byte (dword_bytes _) (by decide)
  · exact not_mem_of_byte (dword_bytes _) (by decide)
theorem dparse_line {d : Dec} (h : lined d = true) : dparse (dline d) = some d := by
  have hl := h
  unfold lined at hl
  simp only [decide_eq_true_eq] at hl
  obtain ⟨h1, h2, h3, h4⟩ := hl
  have hk := kindOf_name d.kind h4
  have hk1 := dname_cases d.kind h4
  unfold dparse
  rw [dline_split h]
  simp only [dvalue_word h1, dvalue_word h2, dvalue_word h3]
  rw [if_neg (by omega), hk]
theorem mem_join (c : UInt8) (sep : List UInt8) (hs : c ∉ sep) : ∀ xs : List (List UInt8), (∀ x ∈ xs, c ∉ x) → c ∉ Lib.join xs sep
  | [], _ => by simp [Lib.join_nil]
  | [x], h => by rw [Lib.join_one]; exact h x (by simp)
  | x :: y :: r, h => by
    rw [join_cons2]
    intro hm
    rcases List.mem_append.1 hm with h1 | h1
    · rcases List.mem_append.1 h1 with h2 | h2
      · exact h x (by simp) h2
      · exact hs h2
    · exact mem_join c sep hs (y :: r) (fun z hz => h z (by simp [List.mem_cons.1 hz])) h1
theorem dline_comma {d : Dec} (h : lined d = true) : (44 : UInt8) ∉ dline d := by
  unfold dline
  rw [if_pos h]
  refine mem_join 44 [32] (by decide) _ fun x hx => ?_
  simp only [List.mem_cons, List.not_mem_nil, or_false] at hx
  rcases hx with rfl | rfl | rfl | rfl
  · exact (dname_bytes _).2
  · exact not_mem_of_byte (dword_bytes _) (by decide)
  · exact not_mem_of_byte (dword_bytes _) (by decide)
  · exact not_mem_of_byte (dword_bytes _) (by decide)
theorem dline_ne {d : Dec} (h : lined d = true) : dline d ≠ [] := by
  intro e
  have h1 := dparse_line h
  rw [e, show dparse [] = none by decide +kernel] at h1
  cases h1
theorem dline_ne_none {d : Dec} (h : lined d = true) : dline d ≠ sNone := by
  intro e
  have h1 := dparse_line h
  rw [e, show dparse sNone = none by decide +kernel] at h1
  cases h1
theorem dline_iff (d : Dec) : lined d = true ↔ dline d ≠ [] := by
  constructor
  · exact dline_ne
  · intro h
    cases hl : lined d with
    | true => rfl
    | false => exfalso; apply h; unfold dline; rw [hl]; rfl
theorem dparses_lines : ∀ l : List Dec, (∀ d ∈ l, lined d = true) → dparses (l.map dline) = some l
  | [], _ => rfl
  | d :: r, h => by
    simp only [List.map_cons, dparses]
    rw [dparse_line (h d (by simp)), dparses_lines r (fun x hx => h x (by simp [hx]))]
    rfl
theorem danswer_ne_none {l : List Dec} (h : l.filter lined ≠ []) : danswer l ≠ sNone := by
  unfold danswer
  rw [if_neg h]
  intro e
  have h1 := split_join 44 [32] ((l.filter lined).map dline) (by simpa using h) (fun x hx => by
    obtain ⟨d, hd, rfl⟩ := List.mem_map.1 hx
    exact dline_comma (List.mem_filter.1 hd).2)
  rw [e] at h1
  have h2 : Lib.split sNone [44, 32] = [sNone] := by decide
  rw [h2] at h1
  have h3 : sNone ∈ (l.filter lined).map dline := by rw [← h1]; simp
  obtain ⟨d, hd, he⟩ := List.mem_map.1 h3
  exact dline_ne_none (List.mem_filter.1 hd).2 he
/-- The line of an answer leads back to its decisions that have a line. -/
theorem dread_answer (l : List Dec) : dread (danswer l) = some (l.filter lined) := by
  by_cases h : l.filter lined = []
  · have e : danswer l = sNone := by unfold danswer; rw [if_pos h]
    unfold dread
    rw [e, if_pos rfl, h]
  · unfold dread
    rw [if_neg (danswer_ne_none h)]
    unfold danswer
    rw [if_neg h, split_join 44 [32] _ (by simpa using h) (fun x hx => by
      obtain ⟨d, hd, rfl⟩ := List.mem_map.1 hx
      exact dline_comma (List.mem_filter.1 hd).2)]
    exact dparses_lines _ fun d hd => (List.mem_filter.1 hd).2
theorem join_append (sep : List UInt8) : ∀ (a b : List (List UInt8)), a ≠ [] → b ≠ [] → Lib.join (a ++ b) sep = Lib.join a sep ++ sep ++ Lib.join b sep
  | [], _, h, _ => absurd rfl h
  | [x], [], _, h => absurd rfl h
  | [x], y :: r, _, _ => by rw [Lib.join_one, List.singleton_append, join_cons2]
  | x :: y :: r, b, _, h => by
    rw [join_cons2, List.cons_append, List.cons_append, join_cons2, ← List.cons_append, join_append sep (y :: r) b (by simp) h]
    simp [List.append_assoc]
/-- The line of two lists. -/
theorem danswer_append (a b : List Dec) : danswer (a ++ b) = if danswer a = sNone then danswer b else if danswer b = sNone then danswer a else danswer a ++ [44, 32] ++ danswer b := by
  by_cases ha : a.filter lined = []
  · have e : danswer a = sNone := by unfold danswer; rw [if_pos ha]
    rw [if_pos e]
    unfold danswer
    rw [List.filter_append, ha, List.nil_append]
  · rw [if_neg (danswer_ne_none ha)]
    by_cases hb : b.filter lined = []
    · have e : danswer b = sNone := by unfold danswer; rw [if_pos hb]
      rw [if_pos e]
      unfold danswer
      rw [List.filter_append, hb, List.append_nil]
    · rw [if_neg (danswer_ne_none hb)]
      unfold danswer
      rw [List.filter_append, if_neg (by simp [ha]), if_neg ha, if_neg hb, List.map_append, join_append _ _ _ (by simpa using ha) (by simpa using hb)]
def sError : List UInt8 := [101, 114, 114, 111, 114, 32]
def errNames : List (List UInt8) := [[107, 105, 110, 100], [105, 100], [97, 109, 111, 117, 110, 116], [110, 117, 109, 98, 101, 114], [117, 110, 107, 110, 111, 119, 110], [100, 117, 112, 108, 105, 99, 97, 116, 101], [102, 117, 108, 108], [112, 104, 97, 115, 101], [115, 121, 110, 116, 97, 120], [111, 118, 101, 114, 102, 108, 111, 119], [111, 116, 104, 101, 114]]
theorem dread_error : ∀ w ∈ errNames, dread (sError ++ w) = none := by decide +kernel
end Go.Proofs.YtdclokpoeaehlaaGreatDoor
