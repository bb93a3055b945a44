/- Several texts as one. -/
import Derived.Test.YtdgeegfoocoohaaDoorStr
import Derived.Test.YtdgeegfoocoohaaDoorScalP
import Derived.Test.YtdgeegfoocoohaaDoorRight
import Derived.Test.YtdgeegfoocoohaaDoorMake
/- What scalar computes on trees, and what the laws ask of it, plainly. -/
namespace Go.Proofs.YtdgeegfoocoohaaDoor

def tN (n : Int) : T := .mk 2 false n ⟨#[]⟩ [] []
def tS (s : ByteArray) : T := .mk 3 false 0 s [] []
def tB (b : Bool) : T := .mk 1 b 0 ⟨#[]⟩ [] []
def nullish (l : List UInt8) : Prop := l = [] ∨ l = [126] ∨ l = nullW
instance (l : List UInt8) : Decidable (nullish l) := by unfold nullish; infer_instance
/-- The value of a word; none: too great. -/
def parseT (s : ByteArray) : Option T :=
  if nullish s.data.toList then some T.zero
  else if s.data.toList = trueW then some (tB true)
  else if s.data.toList = falseW then some (tB false)
  else if numL s.data.toList then (intL s.data.toList).map tN
  else some (tS s)
/-- A value's word. -/
def printL (t : T) : List UInt8 :=
  if t.kind = 1 then (if t.bool then trueW else falseW)
  else if t.kind = 2 then Lib.itoa t.int
  else if t.kind = 3 then (if bareL t.str.data.toList then t.str.data.toList else quoteL t.str.data.toList)
  else if t.kind = 4 then [91, 93]
  else if t.kind = 5 then [123, 125]
  else nullW
/-- A value as it stands in a text. -/
def textL (t : T) : List UInt8 := if t.kind = 0 then [] else if t.kind = 3 then t.str.data.toList else printL t

theorem num_special : numL [] = false ∧ numL [126] = false ∧ numL nullW = false ∧ numL trueW = false ∧ numL falseW = false := by decide
theorem num_plain {l : List UInt8} (h : numL l = true) : ¬ nullish l ∧ l ≠ trueW ∧ l ≠ falseW := by
  obtain ⟨a, b, c, d, e⟩ := num_special
  refine ⟨?_, ?_, ?_⟩
  · rintro (rfl | rfl | rfl)
    · rw [a] at h; cases h
    · rw [b] at h; cases h
    · rw [c] at h; cases h
  · rintro rfl; rw [d] at h; cases h
  · rintro rfl; rw [e] at h; cases h
theorem parse_int {s : ByteArray} {n : Int} (h : numL s.data.toList = true) (hn : intL s.data.toList = some n) : parseT s = some (tN n) := by
  obtain ⟨a, b, c⟩ := num_plain h
  rw [parseT, if_neg a, if_neg b, if_neg c, if_pos h, hn]; rfl
theorem letter_digit {c : UInt8} (h : letterB c = true) : digitB c = false ∧ c ≠ 45 ∧ c ≠ 126 ∧ c ≠ 34 ∧ c ≠ 39 := by
  have h1 : (97 ≤ c.toNat ∧ c.toNat ≤ 122) ∨ (65 ≤ c.toNat ∧ c.toNat ≤ 90) := by simpa [letterB] using h
  refine ⟨?_, ?_, ?_, ?_, ?_⟩
  · cases hd : digitB c with
    | false => rfl
    | true =>
      have h2 : 48 ≤ c.toNat ∧ c.toNat ≤ 57 := by simpa [digitB] using hd
      omega
  all_goals (rintro rfl; revert h1; decide)
theorem bare_parts {l : List UInt8} (h : bareL l = true) : okL l = true ∧ l ≠ [] ∧ l ≠ nullW ∧ l ≠ trueW ∧ l ≠ falseW := by
  unfold bareL at h
  simp only [Bool.and_eq_true, Bool.not_eq_true', Bool.or_eq_false_iff, beq_eq_false_iff_ne] at h
  exact ⟨h.1, h.2.1.1.1, h.2.1.1.2, h.2.1.2, h.2.2⟩
theorem bare_head {l : List UInt8} (h : bareL l = true) : ∃ c r, l = c :: r ∧ letterB c = true := by
  obtain ⟨h1, h2, -⟩ := bare_parts h
  cases l with
  | nil => exact absurd rfl h2
  | cons c r =>
    rw [okL, Bool.and_eq_true] at h1
    exact ⟨c, r, rfl, h1.1⟩
theorem bare_num {l : List UInt8} (h : bareL l = true) : numL l = false := by
  obtain ⟨c, r, rfl, hc⟩ := bare_head h
  obtain ⟨h1, h2, -⟩ := letter_digit hc
  have hm : minus (c :: r) = false := by simp [minus, h2]
  simp [numL, mag, hm, h1]
theorem parse_bare {s : ByteArray} (h : bareL s.data.toList = true) : parseT s = some (tS s) := by
  obtain ⟨h1, h2, h3, h4, h5⟩ := bare_parts h
  obtain ⟨c, r, e, hc⟩ := bare_head h
  have hz : ¬ nullish s.data.toList := by
    rintro (h | h | h)
    · exact h2 h
    · rw [e] at h; injection h with h _; exact (letter_digit hc).2.2.1 h
    · exact h3 h
  rw [parseT, if_neg hz, if_neg h4, if_neg h5, bare_num h]; rfl
/-- Bare texts, one byte longer. -/
theorem bare_more {l : List UInt8} {c : UInt8} (h : bareL l = true) (hc : (letterB c || moreB c) = true) (h1 : c ≠ 108) (h2 : c ≠ 101) : bareL (l ++ [c]) = true := by
  obtain ⟨a, b, -⟩ := bare_parts h
  have ho : okL (l ++ [c]) = true := by
    cases l with
    | nil => exact absurd rfl b
    | cons d r =>
      rw [okL, Bool.and_eq_true] at a
      rw [List.cons_append, okL, a.1, List.all_append, a.2]
      simpa using hc
  have hl : (l ++ [c]).getLast? = some c := by simp
  have ne : ∀ {w : List UInt8} {d : UInt8}, w.getLast? = some d → c ≠ d → (l ++ [c] == w) = false := fun hw hd => by
    rw [beq_eq_false_iff_ne]
    rintro e
    rw [e, hw] at hl
    injection hl with hl
    exact hd hl.symm
  unfold bareL
  rw [ho, ne (w := nullW) (d := 108) rfl h1, ne (w := trueW) (d := 101) rfl h2, ne (w := falseW) (d := 101) rfl h2]
  simp
theorem bare_not {c : UInt8} {l : List UInt8} (h : letterB c = false) : bareL (c :: l) = false := by
  simp [bareL, okL, h]
theorem digit_letter {c : UInt8} (h : digitB c = true) : letterB c = false := by
  have h2 : 48 ≤ c.toNat ∧ c.toNat ≤ 57 := by simpa [digitB] using h
  simp [letterB]; omega
theorem num_bare {l : List UInt8} (h : numL l = true) : bareL l = false := by
  cases hb : bareL l with
  | false => rfl
  | true => rw [bare_num hb] at h; cases h
theorem quote_num (l : List UInt8) : numL (quoteL l) = false := by
  have hm : minus (quoteL l) = false := by simp [minus, quoteL]
  have hg : mag (quoteL l) = quoteL l := by rw [mag, hm]; rfl
  rw [numL, hg]; simp [quoteL, digitB]
theorem parse_quote {s : ByteArray} {l : List UInt8} (h : s.data.toList = quoteL l) : parseT s = some (tS s) := by
  have hz : ¬ nullish s.data.toList := by rw [h]; rintro (h | h | h) <;> simp [quoteL, nullW] at h
  have h4 : s.data.toList ≠ trueW := by rw [h]; simp [quoteL, trueW]
  have h5 : s.data.toList ≠ falseW := by rw [h]; simp [quoteL, falseW]
  rw [parseT, if_neg hz, if_neg h4, if_neg h5, h, quote_num]; rfl
/-- Noughts ahead. -/
def padded (n : Int) (k : Nat) : List UInt8 := if n < 0 then 45 :: (List.replicate k 48 ++ Lib.decDigits n.natAbs) else List.replicate k 48 ++ Lib.decDigits n.toNat
theorem pad_num (n : Int) (k : Nat) (h1 : -9223372036854775808 ≤ n) (h2 : n < 9223372036854775808) : numL (padded n k) = true ∧ intL (padded n k) = some n := by
  unfold padded
  split
  · next h =>
    obtain ⟨a, b, c⟩ := num_neg (all_pad k (dec_digits _ _ (Nat.le_refl n.natAbs))) (by simp [dec_ne])
    refine ⟨c, ?_⟩
    rw [intL, a, b, val_pad, dec_val _ _ (Nat.le_refl _)]
    simp only [if_true]
    rw [if_pos (by omega)]
    congr 1; omega
  · next h =>
    obtain ⟨a, b, c⟩ := num_pos (all_pad k (dec_digits _ _ (Nat.le_refl n.toNat))) (by simp [dec_ne])
    refine ⟨c, ?_⟩
    rw [intL, a, b, val_pad, dec_val _ _ (Nat.le_refl _)]
    simp only [Bool.false_eq_true, if_false]
    rw [if_pos (by omega)]
    congr 1; omega

/-! ### A word that is printed is read as it was -/
theorem Good.leaf {t : T} (h : Good t) : 0 ≤ t.kind ∧ t.kind ≤ 5 ∧ (t.kind = 0 → t = T.zero) ∧ (t.kind = 1 → t = tB t.bool) ∧ (t.kind = 2 → t = tN t.int) ∧ (t.kind = 3 → t = tS t.str) := by
  have hp : t.parts = 0 := by
    have := h.2
    unfold T.check at this
    split at this
    · omega
    · split at this
      · omega
      · exact this
  have hb : t.bareB = true := by
    rw [T.parts_eq] at hp
    cases hb : t.bareB with
    | true => rfl
    | false => rw [hb] at hp; simp at hp
  unfold T.bareB at hb
  simp only [Bool.and_eq_true, Bool.or_eq_true, decide_eq_true_eq, Bool.not_eq_true', List.isEmpty_iff] at hb
  obtain ⟨⟨⟨⟨⟨⟨a, b⟩, h1⟩, h2⟩, h3⟩, h4⟩, h5⟩ := hb
  cases t with
  | mk k b0 n s l m =>
    simp only [T.kind, T.bool, T.int, T.str, T.list, T.map] at *
    have hs : s.toList = [] → s = ⟨#[]⟩ := fun e => list_ext (by rw [← ByteArray.toList_eq]; exact e)
    refine ⟨a, b, fun e => ?_, fun e => ?_, fun e => ?_, fun e => ?_⟩
    all_goals (subst e; simp at h1 h2 h3 h4 h5; simp only [T.zero, tB, tN, tS, T.mk.injEq, true_and]; simp_all)
/-- What P4.3 asks of a printed word, where it isn't in quotes. -/
theorem print_back {t : T} {s : ByteArray} (h : Good t) (hk : t.kind < 4) (hn : i64ok t.int) (hs : s.data.toList = printL t) (hq : t.kind = 3 → bareL t.str.data.toList = true) : parseT s = some t := by
  obtain ⟨a, b, h0, h1, h2, h3⟩ := h.leaf
  have hz : t.kind = 0 ∨ t.kind = 1 ∨ t.kind = 2 ∨ t.kind = 3 := by omega
  rcases hz with e | e | e | e
  · have hl : s.data.toList = nullW := by rw [hs]; simp [printL, e]
    rw [parseT, if_pos (by rw [hl]; exact .inr (.inr rfl)), ← h0 e]
  · cases hb : t.bool with
    | true =>
      have hl : s.data.toList = trueW := by rw [hs]; simp [printL, e, hb]
      rw [parseT, if_neg (by rw [hl]; decide), if_pos hl, h1 e, hb]
    | false =>
      have hl : s.data.toList = falseW := by rw [hs]; simp [printL, e, hb]
      rw [parseT, if_neg (by rw [hl]; decide), if_neg (by rw [hl]; decide), if_pos hl, h1 e, hb]
  · have hl : s.data.toList = Lib.itoa t.int := by rw [hs]; simp [printL, e]
    unfold i64ok at hn
    obtain ⟨p, q⟩ := itoa_num t.int (by omega) (by omega)
    rw [parse_int (by rw [hl]; exact p) (by rw [hl]; exact q), ← h2 e]
  · have hl : s.data.toList = t.str.data.toList := by rw [hs]; simp [printL, e, hq e]
    have es : s = t.str := list_ext hl
    rw [parse_bare (by rw [hl]; exact hq e), es, ← h3 e]
theorem print_quote {t : T} (e : t.kind = 3) (hq : bareL t.str.data.toList = false) : printL t = quoteL t.str.data.toList := by simp [printL, e, hq]
theorem print_bare {t : T} (e : t.kind = 3) (hq : bareL t.str.data.toList = true) : printL t = t.str.data.toList := by simp [printL, e, hq]

/-! ### Quotes -/
theorem unq_quote (s m : List UInt8) : unqL (quoteL s ++ m) = some (s, m) := by
  have e : quoteL s ++ m = 34 :: (escL s ++ 34 :: m) := by simp [quoteL]
  rw [e, unqL, dbl_esc]
theorem unq_single {s m : List UInt8} (h : m.head? ≠ some 39) : unqL (singleL s ++ m) = some (s, m) := by
  have e : singleL s ++ m = 39 :: (sescL s ++ 39 :: m) := by simp [singleL]
  rw [e, unqL, sgl_esc s m h]
theorem unq_back {l c d : List UInt8} (h : unqL l = some (c, d)) : l = quoteL c ++ d ∨ l = singleL c ++ d := by
  unfold unqL at h
  split at h
  · next r => left; rw [dbl_back r.length r c d (Nat.le_refl _) h]; simp [quoteL]
  · next r => right; rw [sgl_back r.length r c d (Nat.le_refl _) h]; simp [singleL]
  · cases h
theorem unq_bare {l : List UInt8} (h : bareL l = true) : unqL l = none := by
  obtain ⟨c, r, rfl, hc⟩ := bare_head h
  obtain ⟨-, -, -, h1, h2⟩ := letter_digit hc
  unfold unqL
  split
  · next e => injection e with e _; exact absurd e h1
  · next e => injection e with e _; exact absurd e h2
  · rfl
end Go.Proofs.YtdgeegfoocoohaaDoor

/- tree.Str, its answer in any world. -/
namespace Go.Proofs.YtdgeegfoocoohaaDoor
open Go.RowKit

theorem word_eq (s : ByteArray) (l : List UInt8) : (s.toList == l) = decide (s.data.toList = l) := by
  rw [ByteArray.toList_eq]
  by_cases h : s.data.toList = l
  · rw [h]; simp
  · rw [beq_eq_false_iff_ne.2 h]; simp [h]
theorem Leaf.any {t : T} {w w' : World} {S S' : Nat → Prop} {v : Value} (h : RepT w S v t) (hl : t.list = []) (hm : t.map = []) : RepT w' S' v t := by
  obtain ⟨la, lc, ma, mc, rfl, hk, hn, hs, h1, h2, h3, h4, h5, h6, -, -⟩ := h.inv
  exact RepT.of ⟨hk, hn, hs, h1, h2, h3, h4, h5, h6, fun i hi => by rw [hl] at hi; simp at hi, fun i hi => by rw [hm] at hi; simp at hi⟩
theorem str_call (s : ByteArray) (hs : s.size ≤ 1000000) (w : World) : Calls Tryd.prog 20 #[.string s] w fun e w' => ∃ v, e = .returned v ∧ (∀ w2 S, RepT w2 S v (tS s)) ∧ Below w.heap.size w w' := by
  refine (tstr s (by omega) w).mono ?_
  rintro e w' ⟨v, rfl, hr, hb⟩
  exact ⟨v, rfl, fun w2 S => Leaf.any hr rfl rfl, hb⟩
end Go.Proofs.YtdgeegfoocoohaaDoor

