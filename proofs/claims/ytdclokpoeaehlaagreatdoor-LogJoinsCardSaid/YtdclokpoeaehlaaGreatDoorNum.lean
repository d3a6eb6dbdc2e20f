/- The number of a word, in two ways that agree: by parsing and writing it again; by reading its digits. Plain: no program. -/
import Derived.Lib.AtoiAllCases
import Derived.Lib.Atoi
import Derived.Lib.ItoaLen
namespace Go.Proofs.YtdclokpoeaehlaaGreatDoor
set_option linter.all false

/-- The number of a word: what is parsed is in range and is written as the word. -/
def num (l : List UInt8) : Option Int :=
  match Lib.atoiAll l with
  | .ok n => if Lib.itoa n = l ∧ -4611686018427387904 ≤ n ∧ n ≤ 4611686018427387904 then some n else none
  | _ => none

/-- Digits, read from the left as long as the number is not beyond the greatest one. -/
def scan (acc : Nat) : List UInt8 → Option Nat
  | [] => some acc
  | c :: r => if 48 ≤ c.toNat ∧ c.toNat ≤ 57 ∧ acc * 10 + (c.toNat - 48) ≤ 4611686018427387904 then scan (acc * 10 + (c.toNat - 48)) r else none

/-- The number of a word, by its digits. -/
def refNum (l : List UInt8) : Option Int :=
  if l.head? = some 45 then
    if l.tail = [] ∨ 19 < l.tail.length ∨ l.tail.head? = some 48 then none else (scan 0 l.tail).map fun (u : Nat) => -(u : Int)
  else
    if l = [] ∨ 19 < l.length ∨ (l.head? = some 48 ∧ l ≠ [48]) then none else (scan 0 l).map fun (u : Nat) => (u : Int)

theorem decFrom_mono : ∀ (l : List UInt8) (acc v : Nat), Lib.decFrom acc l = some v → acc ≤ v
  | [], acc, v, h => by simp only [Lib.decFrom, Option.some.injEq] at h; omega
  | c :: r, acc, v, h => by
    simp only [Lib.decFrom] at h
    split at h
    · have := decFrom_mono r _ v h; omega
    · cases h

theorem scan_dec : ∀ (l : List UInt8) (acc v : Nat), scan acc l = some v → Lib.decFrom acc l = some v
  | [], acc, v, h => h
  | c :: r, acc, v, h => by
    simp only [scan] at h
    split at h
    · rename_i hc
      simp only [Lib.decFrom, Lib.digitVal, if_pos (And.intro hc.1 hc.2.1)]
      exact scan_dec r _ v h
    · cases h

theorem scan_le : ∀ (l : List UInt8) (acc v : Nat), acc ≤ 4611686018427387904 → scan acc l = some v → v ≤ 4611686018427387904
  | [], acc, v, ha, h => by simp only [scan, Option.some.injEq] at h; omega
  | c :: r, acc, v, ha, h => by
    simp only [scan] at h
    split at h
    · rename_i hc
      exact scan_le r _ v hc.2.2 h
    · cases h

theorem dec_scan : ∀ (l : List UInt8) (acc v : Nat), Lib.decFrom acc l = some v → v ≤ 4611686018427387904 → scan acc l = some v
  | [], acc, v, h, _ => h
  | c :: r, acc, v, h, hv => by
    simp only [Lib.decFrom, Lib.digitVal] at h
    by_cases hc : 48 ≤ c.toNat ∧ c.toNat ≤ 57
    · rw [if_pos hc] at h
      have hm := decFrom_mono r _ v h
      simp only [scan]
      rw [if_pos ⟨hc.1, hc.2, by omega⟩]
      exact dec_scan r _ v h hv
    · rw [if_neg hc] at h; cases h

theorem dec_parse : ∀ (l : List UInt8) (acc v : Nat), Lib.decFrom acc l = some v → v < 9223372036854775808 → Lib.parseUint10 acc l = .ok v
  | [], acc, v, h, _ => by simp only [Lib.decFrom, Option.some.injEq] at h; subst h; rfl
  | c :: r, acc, v, h, hv => by
    simp only [Lib.decFrom, Lib.digitVal] at h
    by_cases hc : 48 ≤ c.toNat ∧ c.toNat ≤ 57
    · rw [if_pos hc] at h
      have hm := decFrom_mono r _ v h
      simp only [Lib.parseUint10]
      rw [if_pos hc, if_neg (by omega), if_neg (by omega)]
      exact dec_parse r _ v h hv
    · rw [if_neg hc] at h; cases h

theorem decFrom_append : ∀ (l r : List UInt8) (acc : Nat), Lib.decFrom acc (l ++ r) = (Lib.decFrom acc l).bind fun m => Lib.decFrom m r
  | [], r, acc => rfl
  | c :: l, r, acc => by
    simp only [List.cons_append, Lib.decFrom]
    split
    · exact decFrom_append l r _
    · rfl

theorem digit_val (d : Nat) (h : d < 10) : Lib.digitVal (UInt8.ofNat (48 + d)) = some d := by
  have e : (UInt8.ofNat (48 + d)).toNat = 48 + d := by simp [UInt8.toNat_ofNat']; omega
  unfold Lib.digitVal
  rw [e, if_pos (by omega)]
  congr 1; omega

theorem dec_digits (u : Nat) : Lib.decFrom 0 (Lib.decDigits u) = some u := by
  induction u using Nat.strongRecOn with
  | _ u ih =>
    rw [Lib.decDigits]
    by_cases h : u < 10
    · rw [dif_pos h]
      simp only [Lib.decFrom, digit_val u h]
      congr 1; omega
    · rw [dif_neg h, decFrom_append, ih (u / 10) (by omega)]
      simp only [Option.bind_some, Lib.decFrom, digit_val (u % 10) (by omega)]
      congr 1; omega

theorem digits_ne (u : Nat) : Lib.decDigits u ≠ [] := by
  rw [Lib.decDigits]; split <;> simp

/-- The first digit of a number. -/
theorem digits_head (u : Nat) : ∃ c r, Lib.decDigits u = c :: r ∧ 48 ≤ c.toNat ∧ c.toNat ≤ 57 ∧ (0 < u → c.toNat ≠ 48) := by
  induction u using Nat.strongRecOn with
  | _ u ih =>
    rw [Lib.decDigits]
    by_cases h : u < 10
    · rw [dif_pos h]
      have e : (UInt8.ofNat (48 + u)).toNat = 48 + u := by simp [UInt8.toNat_ofNat']; omega
      exact ⟨_, _, rfl, by omega, by omega, by omega⟩
    · rw [dif_neg h]
      obtain ⟨c, r, e, h1, h2, h3⟩ := ih (u / 10) (by omega)
      rw [e]
      exact ⟨c, r ++ _, rfl, h1, h2, fun _ => h3 (by omega)⟩

theorem snoc_cases {α : Type} (l : List α) (h : l ≠ []) : ∃ i c, l = i ++ [c] := ⟨l.dropLast, l.getLast h, (List.dropLast_concat_getLast h).symm⟩

theorem digits_unique : ∀ (n : Nat) (l : List UInt8) (v : Nat), l.length = n → Lib.decFrom 0 l = some v → l ≠ [] → (l.head? ≠ some 48 ∨ l = [48]) → Lib.decDigits v = l := by
  intro n
  induction n with
  | zero => intro l v hl _ hn _; exact absurd (List.eq_nil_of_length_eq_zero hl) hn
  | succ n ih =>
    intro l v hl h hn hh
    obtain ⟨i, c, rfl⟩ := snoc_cases l hn
    rw [decFrom_append] at h
    cases hi : Lib.decFrom 0 i with
    | none => rw [hi] at h; cases h
    | some m =>
      rw [hi] at h
      simp only [Option.bind_some, Lib.decFrom, Lib.digitVal] at h
      by_cases hc : 48 ≤ c.toNat ∧ c.toNat ≤ 57
      · rw [if_pos hc] at h
        simp only [Option.some.injEq] at h
        subst h
        have ec : UInt8.ofNat (48 + (c.toNat - 48)) = c := by
          have : 48 + (c.toNat - 48) = c.toNat := by omega
          rw [this]; simp
        by_cases he : i = []
        · subst he
          simp only [Lib.decFrom, Option.some.injEq] at hi
          subst hi
          rw [Lib.decDigits, dif_pos (by omega)]
          simp only [Nat.zero_mul, Nat.zero_add, List.nil_append]
          rw [ec]
        · have hh' : i.head? ≠ some 48 ∨ i = [48] := by
            left
            rcases hh with h1 | h1
            · cases i with
              | nil => exact absurd rfl he
              | cons a b => exact h1
            · have := congrArg List.length h1
              have h2 : 0 < i.length := List.length_pos_iff.2 he
              rw [List.length_append] at this
              simp only [List.length_cons, List.length_nil] at this; omega
          have hd := ih i m (by simpa using hl) hi he hh'
          have hpos : 0 < m := by
            rcases Nat.eq_zero_or_pos m with rfl | h1
            · rw [Lib.decDigits, dif_pos (by omega)] at hd
              rcases hh with h2 | h2
              · rw [← hd] at h2; exact absurd rfl h2
              · have := congrArg List.length h2
                have h2 : 0 < i.length := List.length_pos_iff.2 he
                rw [List.length_append] at this
                simp only [List.length_cons, List.length_nil] at this; omega
            · exact h1
          rw [Lib.decDigits, dif_neg (by omega)]
          have e1 : (m * 10 + (c.toNat - 48)) / 10 = m := by omega
          have e2 : (m * 10 + (c.toNat - 48)) % 10 = c.toNat - 48 := by omega
          rw [e1, e2, hd, ec]
      · rw [if_neg hc] at h; cases h

theorem digits_le19 (u : Nat) (h : u ≤ 4611686018427387904) : (Lib.decDigits u).length ≤ 19 := by
  rw [Lib.decDigits_length]
  rcases Nat.eq_zero_or_pos u with rfl | h1
  · rw [Lib.nDigits_small (by omega)]; omega
  · have hn := Lib.nDigits_unique
    have hp : 10 ^ (Lib.nDigits u - 1) ≤ u := by
      clear hn
      induction u using Nat.strongRecOn with
      | _ u ih =>
        by_cases h' : u < 10
        · rw [Lib.nDigits_small h']; show 10 ^ 0 ≤ u; omega
        · rw [Lib.nDigits_big h']
          have := ih (u / 10) (by omega) (by omega) (by omega)
          have hpos := Lib.nDigits_pos (u / 10)
          rw [show Lib.nDigits (u / 10) + 1 - 1 = (Lib.nDigits (u / 10) - 1) + 1 by omega, Nat.pow_succ]
          omega
    rcases Nat.lt_or_ge 19 (Lib.nDigits u) with h2 | h2
    · have h3 : 10 ^ 19 ≤ 10 ^ (Lib.nDigits u - 1) := Nat.pow_le_pow_right (by decide) (by omega)
      have h4 : (10 : Nat) ^ 19 = 10000000000000000000 := by decide
      omega
    · exact h2

theorem itoa_neg' (u : Nat) (h : 0 < u) : Lib.itoa (-(u : Int)) = 45 :: Lib.decDigits u := by
  unfold Lib.itoa
  rw [if_pos (by omega), Int.natAbs_neg, Int.natAbs_natCast]
theorem itoa_nat (u : Nat) : Lib.itoa (u : Int) = Lib.decDigits u := by
  unfold Lib.itoa
  rw [if_neg (by omega), Int.toNat_natCast]

theorem byte_of_toNat {c : UInt8} {n : Nat} (h : c.toNat = n) (hn : n < 256) : c = UInt8.ofNat n := by rw [← h]; simp

theorem refNum_num (l : List UInt8) : refNum l = num l := by
  cases hr : refNum l with
  | some v =>
    symm
    unfold refNum at hr
    split at hr
    · rename_i hneg
      split at hr
      · cases hr
      · rename_i hok
        cases hs : scan 0 l.tail with
        | none => rw [hs] at hr; cases hr
        | some u =>
          rw [hs] at hr
          simp only [Option.map_some, Option.some.injEq] at hr
          subst hr
          have hd := scan_dec _ _ _ hs
          have hle := scan_le _ _ _ (by omega) hs
          have hne : l.tail ≠ [] := fun h => hok (.inl h)
          have hh : l.tail.head? ≠ some 48 := fun h => hok (.inr (.inr h))
          have hu := digits_unique _ _ _ rfl hd hne (.inl hh)
          have hl : l = 45 :: l.tail := by
            cases l with
            | nil => simp at hneg
            | cons c r => simp at hneg; rw [hneg]; rfl
          have hpos : 0 < u := by
            rcases Nat.eq_zero_or_pos u with rfl | h1
            · rw [Lib.decDigits, dif_pos (by omega)] at hu; rw [← hu] at hh; exact absurd rfl hh
            · exact h1
          have hp : Lib.parseMag l.tail = .ok u := by
            unfold Lib.parseMag; rw [if_neg hne]; exact dec_parse _ _ _ hd (by omega)
          have ha : Lib.atoiAll l = .ok (-(u : Int)) := by
            rw [hl, Lib.atoiAll_minus, hp]
            simp only [Lib.signed]
            rw [if_neg (by omega)]
          unfold num
          rw [ha]
          simp only
          rw [if_pos ⟨by rw [itoa_neg' u hpos, hu]; exact hl.symm, by omega, by omega⟩]
    · rename_i hneg
      split at hr
      · cases hr
      · rename_i hok
        cases hs : scan 0 l with
        | none => rw [hs] at hr; cases hr
        | some u =>
          rw [hs] at hr
          simp only [Option.map_some, Option.some.injEq] at hr
          subst hr
          have hd := scan_dec _ _ _ hs
          have hle := scan_le _ _ _ (by omega) hs
          have hne : l ≠ [] := fun h => hok (.inl h)
          have hh : l.head? ≠ some 48 ∨ l = [48] := by
            by_cases e : l = [48]
            · exact .inr e
            · exact .inl fun h => hok (.inr (.inr ⟨h, e⟩))
          have hu := digits_unique _ _ _ rfl hd hne hh
          have hp : Lib.parseMag l = .ok u := by
            unfold Lib.parseMag; rw [if_neg hne]; exact dec_parse _ _ _ hd (by omega)
          obtain ⟨c, r, e, h1, h2, _⟩ := digits_head u
          have ha : Lib.atoiAll l = .ok (u : Int) := by
            rw [← hu, e] at hp ⊢
            rw [Lib.atoiAll_plain c r (by omega) (by omega), hp]
            simp only [Lib.signless]
            rw [if_neg (by omega)]
          unfold num
          rw [ha]
          simp only
          rw [if_pos ⟨by rw [itoa_nat u, hu], by omega, by omega⟩]
  | none =>
    symm
    cases hn : num l with
    | none => rfl
    | some v =>
      exfalso
      unfold num at hn
      split at hn
      · rename_i n ha
        split at hn
        · rename_i hok
          simp only [Option.some.injEq] at hn
          subst hn
          obtain ⟨hi, h0, h1⟩ := hok
          unfold refNum at hr
          by_cases hneg : n < 0
          · obtain ⟨u, rfl⟩ : ∃ u : Nat, n = -(u : Int) := ⟨n.natAbs, by omega⟩
            rw [itoa_neg' u (by omega)] at hi
            obtain ⟨c, r, e, h2, h3, h4⟩ := digits_head u
            have hsc := dec_scan _ _ _ (dec_digits u) (by omega)
            have h19 := digits_le19 u (by omega)
            subst hi
            rw [if_pos (show (45 :: Lib.decDigits u).head? = some 45 from rfl), if_neg] at hr
            · simp only [List.tail_cons] at hr; rw [hsc] at hr; cases hr
            · rintro (h5 | h5 | h5)
              · exact digits_ne u h5
              · simp only [List.tail_cons] at h5; omega
              · rw [List.tail_cons, e] at h5
                simp only [List.head?_cons, Option.some.injEq] at h5
                exact h4 (by omega) (by rw [h5]; rfl)
          · obtain ⟨u, rfl⟩ : ∃ u : Nat, n = (u : Int) := ⟨n.toNat, by omega⟩
            rw [itoa_nat u] at hi
            obtain ⟨c, r, e, h2, h3, h4⟩ := digits_head u
            have hsc := dec_scan _ _ _ (dec_digits u) (by omega)
            have h19 := digits_le19 u (by omega)
            rw [← hi, if_neg, if_neg, hsc] at hr
            · cases hr
            · rintro (h5 | h5 | ⟨h5, h6⟩)
              · exact digits_ne u h5
              · omega
              · rw [e] at h5
                simp only [List.head?_cons, Option.some.injEq] at h5
                rcases Nat.eq_zero_or_pos u with rfl | h7
                · exact h6 (by rw [Lib.decDigits, dif_pos (by omega)]; rfl)
                · exact h4 h7 (by rw [h5]; rfl)
            · rw [e]
              simp only [List.head?_cons, Option.some.injEq]
              intro h5
              rw [h5] at h2
              exact absurd h2 (by decide)
        · cases hn
      · cases hn
theorem num_itoa {n : Int} (h0 : -4611686018427387904 ≤ n) (h1 : n ≤ 4611686018427387904) : num (Lib.itoa n) = some n := by
  have h : Lib.atoiAll (Lib.itoa n) = .ok n := by
    by_cases hneg : n < 0
    · obtain ⟨u, rfl⟩ : ∃ u : Nat, n = -(u : Int) := ⟨n.natAbs, by omega⟩
      have hp : Lib.parseMag (Lib.decDigits u) = .ok u := by
        unfold Lib.parseMag; rw [if_neg (digits_ne u)]; exact dec_parse _ _ _ (dec_digits u) (by omega)
      rw [itoa_neg' u (by omega), Lib.atoiAll_minus, hp]
      simp only [Lib.signed]
      rw [if_neg (by omega)]
    · obtain ⟨u, rfl⟩ : ∃ u : Nat, n = (u : Int) := ⟨n.toNat, by omega⟩
      have hp : Lib.parseMag (Lib.decDigits u) = .ok u := by
        unfold Lib.parseMag; rw [if_neg (digits_ne u)]; exact dec_parse _ _ _ (dec_digits u) (by omega)
      obtain ⟨c, r, e, h2, h3, _⟩ := digits_head u
      rw [itoa_nat u]
      rw [e] at hp ⊢
      rw [Lib.atoiAll_plain c r (by omega) (by omega), hp]
      simp only [Lib.signless]
      rw [if_neg (by omega)]
  unfold num
  rw [h]
  simp only
  rw [if_pos ⟨trivial, h0, h1⟩]
theorem itoa_of_num {l : List UInt8} {n : Int} (h : num l = some n) : Lib.itoa n = l ∧ -4611686018427387904 ≤ n ∧ n ≤ 4611686018427387904 := by
  unfold num at h
  split at h
  · split at h
    · rename_i hok
      simp only [Option.some.injEq] at h
      subst h; exact hok
    · cases h
  · cases h
end Go.Proofs.YtdclokpoeaehlaaGreatDoor
