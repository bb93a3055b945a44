/- What scalar computes, plainly: bare words, numbers, quotes. -/
import Derived.Test.YtdgeegfoocoohaaDoorTrimL
import Derived.Lib.ParseIntB
import Derived.Lib.ParseIntBTie
import Derived.Lib.ItoaNum
namespace Go.Proofs.YtdgeegfoocoohaaDoor

/-! ### Numbers -/
def digitB (c : UInt8) : Bool := decide (48 ≤ c.toNat ∧ c.toNat ≤ 57)
/-- What digits spell. -/
def valFrom (acc : Nat) (l : List UInt8) : Nat := l.foldl (fun a c => a * 10 + (c.toNat - 48)) acc
theorem valFrom_nil (acc : Nat) : valFrom acc [] = acc := rfl
theorem valFrom_cons (acc : Nat) (c : UInt8) (r : List UInt8) : valFrom acc (c :: r) = valFrom (acc * 10 + (c.toNat - 48)) r := by unfold valFrom; rw [List.foldl_cons]
theorem valFrom_le : ∀ (l : List UInt8) (acc : Nat), acc ≤ valFrom acc l
  | [], acc => Nat.le_refl _
  | c :: r, acc => by
    have h := valFrom_le r (acc * 10 + (c.toNat - 48))
    rw [valFrom_cons]
    generalize valFrom (acc * 10 + (c.toNat - 48)) r = x at h ⊢
    omega
theorem valFrom_app : ∀ (l m : List UInt8) (acc : Nat), valFrom acc (l ++ m) = valFrom (valFrom acc l) m
  | [], m, acc => by rw [List.nil_append, valFrom_nil]
  | c :: r, m, acc => by rw [List.cons_append, valFrom_cons, valFrom_cons, valFrom_app r m]
theorem parseM_digits (M : Nat) (hM : M = 2 ^ 64 - 1) : ∀ (l : List UInt8) (acc : Nat), acc ≤ M → l.all digitB = true → Lib.parseUintM M acc l = if valFrom acc l ≤ M then .ok (valFrom acc l) else .range
  | [], acc, ha, _ => by simp [Lib.parseUintM, valFrom_nil, ha]
  | c :: r, acc, ha, hl => by
    rw [List.all_cons, Bool.and_eq_true] at hl
    have hd : 48 ≤ c.toNat ∧ c.toNat ≤ 57 := by simpa [digitB] using hl.1
    have hv := valFrom_le r (acc * 10 + (c.toNat - 48))
    rw [Lib.parseUintM, if_pos hd, valFrom_cons]
    by_cases h1 : 1844674407370955162 ≤ acc
    · rw [if_pos h1, if_neg (by omega)]
    · rw [if_neg h1]
      by_cases h2 : M < acc * 10 + (c.toNat - 48)
      · rw [if_pos h2, if_neg (by omega)]
      · rw [if_neg h2]
        exact parseM_digits M hM r _ (by omega) hl.2
/-- Is it digits, with a minus ahead or not? -/
def minus (l : List UInt8) : Bool := l.head? == some 45
def mag (l : List UInt8) : List UInt8 := if minus l then l.tail else l
def numL (l : List UInt8) : Bool := (mag l).all digitB && !(mag l).isEmpty
/-- The whole number that it spells, if there is room for it. -/
def intL (l : List UInt8) : Option Int :=
  if minus l then (if valFrom 0 (mag l) ≤ 9223372036854775808 then some (-(valFrom 0 (mag l) : Int)) else none)
  else (if valFrom 0 (mag l) < 9223372036854775808 then some (valFrom 0 (mag l) : Int) else none)
theorem parse_num {l : List UInt8} (h : numL l = true) : Lib.parseIntB 64 l = match intL l with | some v => .ok v | none => .range := by
  unfold numL at h
  rw [Bool.and_eq_true] at h
  obtain ⟨h1, h2⟩ := h
  have h3 : mag l ≠ [] := by intro e; rw [e] at h2; simp at h2
  have key : Lib.parseUintB 64 (mag l) = if valFrom 0 (mag l) ≤ 2 ^ 64 - 1 then .ok (valFrom 0 (mag l)) else .range := by
    rw [Lib.parseUintB, if_neg h3]
    exact parseM_digits _ rfl _ 0 (by omega) h1
  match l, h1, h3, key with
  | [], _, h3, _ => exact absurd rfl h3
  | c :: r, h1, h3, key =>
    by_cases hc : c = 45
    · subst hc
      have hm : minus (45 :: r) = true := by simp [minus]
      have hg : mag (45 :: r) = r := by simp [mag, hm]
      rw [hg] at key
      have e : Lib.parseIntB 64 (45 :: r) = match Lib.parseUintB 64 r with | .syntax => .syntax | .range => .range | .ok u => if ¬ True ∧ 2 ^ 63 ≤ u then .range else if True ∧ 2 ^ 63 < u then .range else .ok (-(u : Int)) := by
        unfold Lib.parseIntB
        simp
        cases Lib.parseUintB 64 r <;> rfl
      rw [e, key, intL, hm, hg]
      by_cases hv : valFrom 0 r ≤ 9223372036854775808
      · rw [if_pos (by omega)]
        simp [hv]
      · by_cases h4 : valFrom 0 r ≤ 2 ^ 64 - 1
        · rw [if_pos h4]; simp [hv]
        · rw [if_neg h4]; simp [hv]
    · have hm : minus (c :: r) = false := by simp [minus, hc]
      have hg : mag (c :: r) = c :: r := by simp [mag, hm]
      rw [hg] at key h1
      have hd : 48 ≤ c.toNat ∧ c.toNat ≤ 57 := by
        rw [List.all_cons, Bool.and_eq_true] at h1
        simpa [digitB] using h1.1
      have n45 : ¬ c.toNat = 45 := by omega
      have n43 : ¬ (c.toNat = 43 ∨ c.toNat = 45) := by omega
      have e : Lib.parseIntB 64 (c :: r) = match Lib.parseUintB 64 (c :: r) with | .syntax => .syntax | .range => .range | .ok u => if 2 ^ 63 ≤ u then .range else .ok (u : Int) := by
        have n43' : ¬ c.toNat = 43 := by omega
        unfold Lib.parseIntB
        simp [n45, n43']
        cases Lib.parseUintB 64 (c :: r) <;> rfl
      rw [e, key, intL, hm, hg]
      by_cases hv : valFrom 0 (c :: r) < 9223372036854775808
      · rw [if_pos (by omega)]
        have : ¬ 2 ^ 63 ≤ valFrom 0 (c :: r) := by omega
        simp [hv, this]
      · by_cases h4 : valFrom 0 (c :: r) ≤ 2 ^ 64 - 1
        · rw [if_pos h4]
          have : 2 ^ 63 ≤ valFrom 0 (c :: r) := by omega
          simp [hv, this]
        · rw [if_neg h4]; simp [hv]
/-! ### Printed numbers -/
theorem dec_digits : ∀ (n u : Nat), u ≤ n → (Lib.decDigits u).all digitB = true
  | n, u, h => by
    rw [Lib.decDigits]
    split
    · next h10 =>
      have e : (UInt8.ofNat (48 + u)).toNat = 48 + u := by rw [UInt8.toNat_ofNat']; omega
      simp [digitB]; omega
    · next h10 =>
      have e : (UInt8.ofNat (48 + u % 10)).toNat = 48 + u % 10 := by rw [UInt8.toNat_ofNat']; omega
      match n with
      | 0 => omega
      | n + 1 =>
        rw [List.all_append, dec_digits n (u / 10) (by omega)]
        simp [digitB]; omega
theorem dec_val : ∀ (n u : Nat), u ≤ n → valFrom 0 (Lib.decDigits u) = u
  | n, u, h => by
    rw [Lib.decDigits]
    split
    · next h10 =>
      have e : (UInt8.ofNat (48 + u)).toNat = 48 + u := by rw [UInt8.toNat_ofNat']; omega
      rw [valFrom_cons, valFrom_nil, e]; omega
    · next h10 =>
      have e : (UInt8.ofNat (48 + u % 10)).toNat = 48 + u % 10 := by rw [UInt8.toNat_ofNat']; omega
      match n with
      | 0 => omega
      | n + 1 =>
        rw [valFrom_app, dec_val n (u / 10) (by omega)]
        rw [valFrom_cons, valFrom_nil, e]; omega
theorem dec_ne (u : Nat) : Lib.decDigits u ≠ [] := by
  rw [Lib.decDigits]; split <;> simp
theorem dec_head (u : Nat) : ∃ c r, Lib.decDigits u = c :: r ∧ digitB c = true := by
  have h := dec_digits u u (Nat.le_refl _)
  cases hd : Lib.decDigits u with
  | nil => exact absurd hd (dec_ne u)
  | cons c r => rw [hd, List.all_cons, Bool.and_eq_true] at h; exact ⟨c, r, rfl, h.1⟩
theorem digit_ne {c : UInt8} (h : digitB c = true) : c ≠ 45 := by
  rintro rfl; revert h; decide
/-- Noughts ahead change nothing. -/
theorem val_pad : ∀ (k : Nat) (l : List UInt8), valFrom 0 (List.replicate k 48 ++ l) = valFrom 0 l
  | 0, l => rfl
  | k + 1, l => by
    rw [List.replicate_succ, List.cons_append, valFrom_cons]
    exact val_pad k l
theorem all_pad (k : Nat) {l : List UInt8} (h : l.all digitB = true) : (List.replicate k 48 ++ l).all digitB = true := by
  rw [List.all_append, h, Bool.and_true]
  rw [List.all_eq_true]
  intro x hx
  rw [List.eq_of_mem_replicate hx]; decide
/-- A word of digits, with a minus or not. -/
theorem num_pos {l : List UInt8} (h : l.all digitB = true) (hn : l ≠ []) : minus l = false ∧ mag l = l ∧ numL l = true := by
  have hm : minus l = false := by
    cases l with
    | nil => exact absurd rfl hn
    | cons c r =>
      rw [List.all_cons, Bool.and_eq_true] at h
      have := digit_ne h.1
      simp [minus, this]
  have hg : mag l = l := by simp [mag, hm]
  refine ⟨hm, hg, ?_⟩
  rw [numL, hg, h]; simpa using hn
theorem num_neg {l : List UInt8} (h : l.all digitB = true) (hn : l ≠ []) : minus (45 :: l) = true ∧ mag (45 :: l) = l ∧ numL (45 :: l) = true := by
  have hm : minus (45 :: l) = true := by simp [minus]
  have hg : mag (45 :: l) = l := by simp [mag, hm]
  refine ⟨hm, hg, ?_⟩
  rw [numL, hg, h]; simpa using hn
theorem itoa_num (n : Int) (h1 : -9223372036854775808 ≤ n) (h2 : n < 9223372036854775808) : numL (Lib.itoa n) = true ∧ intL (Lib.itoa n) = some n := by
  unfold Lib.itoa
  split
  · next h =>
    obtain ⟨a, b, c⟩ := num_neg (dec_digits _ _ (Nat.le_refl n.natAbs)) (dec_ne _)
    refine ⟨c, ?_⟩
    rw [intL, a, b, dec_val _ _ (Nat.le_refl _)]
    simp only [if_true]
    rw [if_pos (by omega)]
    congr 1; omega
  · next h =>
    obtain ⟨a, b, c⟩ := num_pos (dec_digits _ _ (Nat.le_refl n.toNat)) (dec_ne _)
    refine ⟨c, ?_⟩
    rw [intL, a, b, dec_val _ _ (Nat.le_refl _)]
    simp only [Bool.false_eq_true, if_false]
    rw [if_pos (by omega)]
    congr 1; omega

/-! ### Bare words -/
def letterB (c : UInt8) : Bool := decide ((97 ≤ c.toNat ∧ c.toNat ≤ 122) ∨ (65 ≤ c.toNat ∧ c.toNat ≤ 90))
def moreB (c : UInt8) : Bool := digitB c || c == 95 || c == 45 || c == 46 || c == 47
def nullW : List UInt8 := [110, 117, 108, 108]
def trueW : List UInt8 := [116, 114, 117, 101]
def falseW : List UInt8 := [102, 97, 108, 115, 101]
def okL : List UInt8 → Bool
  | [] => true
  | c :: r => letterB c && r.all (fun c => letterB c || moreB c)
def bareL (l : List UInt8) : Bool := okL l && !(l == [] || l == nullW || l == trueW || l == falseW)

/-! ### Quotes -/
/-- What stands in double quotes, behind the first one, and what stands behind it. -/
def dblL : List UInt8 → Option (List UInt8 × List UInt8)
  | [] => none
  | 34 :: r => some ([], r)
  | [92] => none
  | 92 :: c :: r => if c = 110 then (dblL r).map (fun p => (10 :: p.1, p.2)) else if c = 116 then (dblL r).map (fun p => (9 :: p.1, p.2)) else if c = 34 ∨ c = 92 then (dblL r).map (fun p => (c :: p.1, p.2)) else none
  | 10 :: _ => none
  | 9 :: _ => none
  | c :: r => (dblL r).map (fun p => (c :: p.1, p.2))
def sglL : List UInt8 → Option (List UInt8 × List UInt8)
  | [] => none
  | 39 :: 39 :: r => (sglL r).map (fun p => (39 :: p.1, p.2))
  | 39 :: r => some ([], r)
  | c :: r => (sglL r).map (fun p => (c :: p.1, p.2))
def sesc1 (c : UInt8) : List UInt8 := if c = 39 then [39, 39] else [c]
def sescL (s : List UInt8) : List UInt8 := s.flatMap sesc1
def singleL (s : List UInt8) : List UInt8 := 39 :: (sescL s ++ [39])
def unqL : List UInt8 → Option (List UInt8 × List UInt8)
  | 34 :: r => dblL r
  | 39 :: r => sglL r
  | _ => none
theorem dbl_esc : ∀ (s m : List UInt8), dblL (escL s ++ 34 :: m) = some (s, m)
  | [], m => by simp [escL, dblL]
  | c :: s, m => by
    have ih := dbl_esc s m
    have e : escL (c :: s) = esc1 c ++ escL s := by simp [escL]
    rw [e, List.append_assoc]
    by_cases h1 : c = 10
    · rw [esc1, if_pos h1]; show dblL (92 :: 110 :: (escL s ++ 34 :: m)) = _; rw [dblL, if_pos rfl, ih, h1]; rfl
    · by_cases h2 : c = 9
      · rw [esc1, if_neg h1, if_pos h2]; show dblL (92 :: 116 :: (escL s ++ 34 :: m)) = _; rw [dblL, if_neg (by decide), if_pos rfl, ih, h2]; rfl
      · by_cases h3 : c = 34 ∨ c = 92
        · rw [esc1, if_neg h1, if_neg h2, if_pos h3]; show dblL (92 :: c :: (escL s ++ 34 :: m)) = _
          rw [dblL, if_neg (by rintro rfl; simp at h3), if_neg (by rintro rfl; simp at h3), if_pos h3, ih]; rfl
        · rw [esc1, if_neg h1, if_neg h2, if_neg h3]; show dblL (c :: (escL s ++ 34 :: m)) = _
          rw [not_or] at h3
          rw [dblL, ih]
          · rfl
          all_goals simp_all
theorem dbl_back : ∀ (n : Nat) (l c d : List UInt8), l.length ≤ n → dblL l = some (c, d) → l = escL c ++ 34 :: d := by
  intro n
  induction n with
  | zero =>
    intro l c d hn h
    have : l = [] := List.length_eq_zero_iff.1 (by omega)
    subst this; rw [dblL] at h; cases h
  | succ n ih =>
    intro l c d hn h
    have cons : ∀ {a : UInt8} {pre r : List UInt8}, r.length ≤ n → esc1 a = pre → (dblL r).map (fun p => (a :: p.1, p.2)) = some (c, d) → pre ++ r = escL c ++ 34 :: d := by
      intro a pre r hr he hm
      cases hd : dblL r with
      | none => rw [hd] at hm; cases hm
      | some p =>
        rw [hd] at hm
        simp only [Option.map_some, Option.some.injEq, Prod.mk.injEq] at hm
        obtain ⟨rfl, rfl⟩ := hm
        rw [ih r p.1 p.2 hr hd, ← he]
        simp [escL]
    unfold dblL at h
    split at h
    · cases h
    · simp only [Option.some.injEq, Prod.mk.injEq] at h
      obtain ⟨rfl, rfl⟩ := h
      simp [escL]
    · cases h
    · next a r =>
      simp only [List.length_cons] at hn
      split at h
      · next e => subst e; exact cons (by omega) rfl h
      · split at h
        · next e => subst e; exact cons (by omega) rfl h
        · split at h
          · next e1 e2 e3 =>
            refine cons (pre := [92, a]) (by omega) ?_ h
            rw [esc1, if_neg (by rintro rfl; simp at e3), if_neg (by rintro rfl; simp at e3), if_pos e3]
          · cases h
    · cases h
    · cases h
    · next a r h34 h92 h92' h10 h9 =>
      simp only [List.length_cons] at hn
      refine cons (pre := [a]) (by omega) ?_ h
      have a34 : a ≠ 34 := fun e => h34 e
      have a10 : a ≠ 10 := fun e => h10 e
      have a9 : a ≠ 9 := fun e => h9 e
      have a92 : a ≠ 92 := fun e => by
        cases r with
        | nil => exact h92 e rfl
        | cons x r => exact h92' x r e rfl
      rw [esc1, if_neg a10, if_neg a9, if_neg (by rintro (h | h) <;> contradiction)]
theorem sgl_esc : ∀ (s m : List UInt8), m.head? ≠ some 39 → sglL (sescL s ++ 39 :: m) = some (s, m)
  | [], m, h => by
    simp only [sescL, List.flatMap_nil, List.nil_append]
    cases m with
    | nil => simp [sglL]
    | cons a m =>
      have : a ≠ 39 := fun e => h (by rw [e]; rfl)
      rw [sglL]
      intro r hr; injection hr with h1; exact this h1
  | c :: s, m, h => by
    have ih := sgl_esc s m h
    have e : sescL (c :: s) = sesc1 c ++ sescL s := by simp [sescL]
    rw [e, List.append_assoc]
    by_cases h1 : c = 39
    · rw [sesc1, if_pos h1]; show sglL (39 :: 39 :: (sescL s ++ 39 :: m)) = _; rw [sglL, ih, h1]; rfl
    · rw [sesc1, if_neg h1]; show sglL (c :: (sescL s ++ 39 :: m)) = _
      rw [sglL, ih]
      · rfl
      all_goals simp_all
theorem sgl_back : ∀ (n : Nat) (l c d : List UInt8), l.length ≤ n → sglL l = some (c, d) → l = sescL c ++ 39 :: d := by
  intro n
  induction n with
  | zero =>
    intro l c d hn h
    have : l = [] := List.length_eq_zero_iff.1 (by omega)
    subst this; rw [sglL] at h; cases h
  | succ n ih =>
    intro l c d hn h
    have cons : ∀ {a : UInt8} {pre r : List UInt8}, r.length ≤ n → sesc1 a = pre → (sglL r).map (fun p => (a :: p.1, p.2)) = some (c, d) → pre ++ r = sescL c ++ 39 :: d := by
      intro a pre r hr he hm
      cases hd : sglL r with
      | none => rw [hd] at hm; cases hm
      | some p =>
        rw [hd] at hm
        simp only [Option.map_some, Option.some.injEq, Prod.mk.injEq] at hm
        obtain ⟨rfl, rfl⟩ := hm
        rw [ih r p.1 p.2 hr hd, ← he]
        simp [sescL]
    unfold sglL at h
    split at h
    · cases h
    · next r => simp only [List.length_cons] at hn; exact cons (by omega) rfl h
    · simp only [Option.some.injEq, Prod.mk.injEq] at h
      obtain ⟨rfl, rfl⟩ := h
      simp [sescL]
    · next a r h39 h39' =>
      simp only [List.length_cons] at hn
      refine cons (pre := [a]) (by omega) ?_ h
      have a39 : a ≠ 39 := fun e => h39' e
      rw [sesc1, if_neg a39]
end Go.Proofs.YtdgeegfoocoohaaDoor
