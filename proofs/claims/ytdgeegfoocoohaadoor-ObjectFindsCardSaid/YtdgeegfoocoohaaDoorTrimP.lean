/- What trim.Split computes, plainly: the tokens of a template as lists of bytes, and what the laws ask of them. -/
import Derived.Lib.SlTrimSet
import Derived.Lib.Index
namespace Go.Proofs.YtdgeegfoocoohaaDoor

/-- The bytes that are trimmed. -/
def blanks : List UInt8 := [32, 9, 10]
/-- A token: an action or a text, its bytes, where it begins. -/
structure Tok where
  act : Bool
  s : List UInt8
  at_ : Nat
deriving DecidableEq

/-- The first place of a byte that stands twice. -/
def find2 (c : UInt8) : List UInt8 → Option Nat
  | [] => none
  | [_] => none
  | a :: b :: l => if a = c ∧ b = c then some 0 else (find2 c (b :: l)).map (· + 1)

/-- Where two braces close, outside of quotes. -/
def clos : Bool → List UInt8 → Option Nat
  | _, [] => none
  | false, [_] => none
  | false, a :: b :: l => if a = 125 ∧ b = 125 then some 0 else if a = 34 then (clos true (b :: l)).map (· + 1) else (clos false (b :: l)).map (· + 1)
  | true, [_] => none
  | true, a :: b :: l => if a = 34 then (clos false (b :: l)).map (· + 1) else if a = 92 then (clos true l).map (· + 2) else (clos true (b :: l)).map (· + 1)
termination_by _ l => l.length

/-- Does an action trim what stands ahead? -/
def dashL (raw : List UInt8) : Bool := raw == [45] || Lib.hasPrefix raw [45, 32]
def raw1 (raw : List UInt8) : List UInt8 := if dashL raw then raw.drop 1 else raw
/-- Does it trim what stands behind? -/
def dashR (raw : List UInt8) : Bool := Lib.hasSuffix (raw1 raw) [32, 45]
def raw2 (raw : List UInt8) : List UInt8 := if dashR raw then (raw1 raw).take ((raw1 raw).length - 2) else raw1 raw
/-- What stands in an action. -/
def body (raw : List UInt8) : List UInt8 := Lib.trimS (raw2 raw) blanks
def comment (b : List UInt8) : Bool := Lib.hasPrefix b [47, 42] && Lib.hasSuffix b [42, 47] && decide (4 ≤ b.length)
def txt (s : List UInt8) (n : Nat) : List Tok := if s = [] then [] else [⟨false, s, n⟩]
def actn (b : List UInt8) (n : Nat) : List Tok := if comment b then [] else [⟨true, b, n⟩]
def ahead (cut : Bool) (s : List UInt8) : List UInt8 := if cut then Lib.trimLeftS s blanks else s
def behind (raw s : List UInt8) : List UInt8 := if dashL raw then Lib.trimRightS s blanks else s

/-- The tokens of what is left of a template, from a place on; none: an action isn't closed. -/
def splitM : Nat → List UInt8 → Nat → Bool → Option (List Tok)
  | 0, _, _, _ => some []
  | n + 1, s, i, cut =>
    if s = [] then some [] else
    match find2 123 s with
    | none => some (txt (ahead cut s) (i + (s.length - (ahead cut s).length)))
    | some o =>
      match clos false (s.drop (o + 2)) with
      | none => none
      | some e =>
        (splitM n (s.drop (o + 2 + (e + 2))) (i + (o + 2 + (e + 2))) (dashR ((s.drop (o + 2)).take e))).map
          (fun r => txt (behind ((s.drop (o + 2)).take e) (ahead cut (s.take o))) (i + (o - (ahead cut (s.take o)).length)) ++ (actn (body ((s.drop (o + 2)).take e)) (i + o) ++ r))

/-! ### Two braces in a row -/
theorem find2_bound {c : UInt8} : ∀ {s : List UInt8} {o : Nat}, find2 c s = some o → o + 2 ≤ s.length
  | [], o, h => by simp [find2] at h
  | [_], o, h => by simp [find2] at h
  | a :: b :: l, o, h => by
    rw [find2] at h
    split at h
    · injection h with h; subst h; simp
    · cases hf : find2 c (b :: l) with
      | none => rw [hf] at h; cases h
      | some k => rw [hf] at h; injection h with h; subst h; have := find2_bound hf; simp at this ⊢; omega
theorem find2_index (c : UInt8) : ∀ (s : List UInt8), Lib.index s [c, c] = match find2 c s with | some o => (o : Int) | none => -1
  | [] => rfl
  | [a] => by
    rw [Lib.index, find2]
    have : Lib.index [] [c, c] = -1 := rfl
    rw [this]
    simp [List.isPrefixOf]
  | a :: b :: l => by
    rw [Lib.index, find2_index c (b :: l), find2]
    by_cases h : a = c ∧ b = c
    · rw [if_pos h, if_pos]
      · rfl
      · obtain ⟨rfl, rfl⟩ := h; simp [List.isPrefixOf]
    · rw [if_neg h, if_neg]
      · cases hf : find2 c (b :: l) with
        | none => simp
        | some k =>
          have : ((k : Int) == -1) = false := by rw [beq_eq_false_iff_ne]; omega
          simp [this]
      · intro h2
        apply h
        simp [List.isPrefixOf] at h2
        exact ⟨h2.1.symm, h2.2.symm⟩
/-- A text without two braces in a row, not ending with one: what stands behind it begins at the braces. -/
theorem find2_app {c : UInt8} : ∀ {s : List UInt8} (r : List UInt8), find2 c s = none → (∀ x, s.getLast? = some x → x ≠ c) → find2 c (s ++ c :: c :: r) = some s.length
  | [], r, _, _ => by simp [find2]
  | [a], r, _, h => by
    have ha : a ≠ c := h a rfl
    simp [find2, ha]
  | a :: b :: l, r, h, hl => by
    rw [find2] at h
    split at h
    · cases h
    · next hn =>
      have hf : find2 c (b :: l) = none := by
        cases hf : find2 c (b :: l) with
        | none => rfl
        | some k => rw [hf] at h; cases h
      have ih := find2_app r hf (fun x hx => hl x (by simpa using hx))
      simp only [List.cons_append] at ih ⊢
      rw [find2, if_neg hn, ih]
      simp
theorem find2_none_app {c d : UInt8} (hd : d ≠ c) : ∀ {s : List UInt8} (r : List UInt8), find2 c s = none → find2 c (d :: r) = none → find2 c (s ++ d :: r) = none
  | [], r, _, h => h
  | [a], r, _, h => by
    simp only [List.singleton_append]
    rw [find2, if_neg (by rintro ⟨-, h2⟩; exact hd h2), h]; rfl
  | a :: b :: l, r, h, hr => by
    rw [find2] at h
    split at h
    · cases h
    · next hn =>
      have hf : find2 c (b :: l) = none := by
        cases hf : find2 c (b :: l) with
        | none => rfl
        | some k => rw [hf] at h; cases h
      have ih := find2_none_app hd r hf hr
      simp only [List.cons_append] at ih ⊢
      rw [find2, if_neg hn, ih]; rfl

/-! ### Where an action ends -/
theorem clos_bound : ∀ (n : Nat) {q : Bool} {s : List UInt8} {e : Nat}, s.length ≤ n → clos q s = some e → e + 2 ≤ s.length
  | 0, q, s, e, hn, h => by
    have : s = [] := List.length_eq_zero_iff.1 (by omega)
    subst this; cases q <;> simp [clos] at h
  | n + 1, q, [], e, hn, h => by cases q <;> simp [clos] at h
  | n + 1, q, [a], e, hn, h => by cases q <;> simp [clos] at h
  | n + 1, q, a :: b :: l, e, hn, h => by
    have hl1 : (b :: l).length ≤ n := by simpa using hn
    have hl2 : l.length ≤ n := by simp at hl1; omega
    have go : ∀ (q' : Bool) (t : List UInt8) (k : Nat), t.length ≤ n → t.length + k = (a :: b :: l).length → (clos q' t).map (· + k) = some e → e + 2 ≤ (a :: b :: l).length := by
      intro q' t k ht hk hm
      cases hc : clos q' t with
      | none => rw [hc] at hm; cases hm
      | some x => rw [hc] at hm; simp only [Option.map_some, Option.some.injEq] at hm; have := clos_bound n ht hc; omega
    cases q
    · rw [clos] at h
      split at h
      · injection h with h; subst h; simp
      · split at h
        · exact go true _ 1 hl1 (by simp) h
        · exact go false _ 1 hl1 (by simp) h
    · rw [clos] at h
      split at h
      · exact go false _ 1 hl1 (by simp) h
      · split at h
        · exact go true _ 2 hl2 (by simp) h
        · exact go true _ 1 hl1 (by simp) h
/-- What has neither quotes nor closing braces, closed. -/
theorem clos_plain : ∀ {b : List UInt8} (r : List UInt8), (∀ x ∈ b, x ≠ 34 ∧ x ≠ 125) → clos false (b ++ 125 :: 125 :: r) = some b.length
  | [], r, _ => by simp [clos]
  | [a], r, h => by
    have := h a (by simp)
    simp [clos, this.1, this.2]
  | a :: b :: l, r, h => by
    have h1 := h a (by simp)
    have ih := clos_plain (b := b :: l) r (fun x hx => h x (by simp [hx]))
    simp only [List.cons_append] at ih ⊢
    rw [clos, if_neg (by rintro ⟨e, -⟩; exact h1.2 e), if_neg h1.1, ih]; simp
/-- What has no two closing braces in a row isn't closed. -/
theorem clos_none : ∀ (n : Nat) {q : Bool} {s : List UInt8}, s.length ≤ n → find2 125 s = none → clos q s = none
  | 0, q, s, hn, h => by
    have : s = [] := List.length_eq_zero_iff.1 (by omega)
    subst this; cases q <;> simp [clos]
  | n + 1, q, [], hn, h => by cases q <;> simp [clos]
  | n + 1, q, [a], hn, h => by cases q <;> simp [clos]
  | n + 1, q, a :: b :: l, hn, h => by
    rw [find2] at h
    split at h
    · cases h
    · next hne =>
      have hf : find2 125 (b :: l) = none := by
        cases hf : find2 125 (b :: l) with
        | none => rfl
        | some k => rw [hf] at h; cases h
      have hf2 : find2 125 l = none := by
        cases l with
        | nil => rfl
        | cons c l =>
          rw [find2] at hf
          split at hf
          · cases hf
          · cases hf2 : find2 125 (c :: l) with
            | none => rfl
            | some k => rw [hf2] at hf; cases hf
      have hl1 : (b :: l).length ≤ n := by simpa using hn
      have hl2 : l.length ≤ n := by simp at hl1; omega
      cases q
      · rw [clos, if_neg hne, clos_none n hl1 hf, clos_none n hl1 hf]; simp
      · rw [clos, clos_none n hl1 hf, clos_none n hl1 hf, clos_none n hl2 hf2]; simp

/-! ### The tokens -/
theorem splitM_nil (n i : Nat) (cut : Bool) : splitM n [] i cut = some [] := by cases n <;> simp [splitM]
theorem splitM_plain {n i : Nat} {cut : Bool} {s : List UInt8} (h : find2 123 s = none) : splitM (n + 1) s i cut = some (txt (ahead cut s) (i + (s.length - (ahead cut s).length))) := by
  by_cases hs : s = []
  · subst hs
    rw [splitM_nil]
    have : ahead cut [] = [] := by cases cut <;> simp [ahead, Lib.trimLeftS]
    rw [this]; rfl
  · rw [splitM, if_neg hs, h]
theorem splitM_open {n i : Nat} {cut : Bool} {s t : List UInt8} (h : find2 123 s = none) (hl : ∀ x, s.getLast? = some x → x ≠ 123) (hc : clos false t = none) : splitM (n + 1) (s ++ 123 :: 123 :: t) i cut = none := by
  rw [splitM, if_neg (by simp), find2_app t h hl]
  have e : (s ++ 123 :: 123 :: t).drop (s.length + 2) = t := by
    rw [List.drop_append, List.drop_eq_nil_of_le (by omega)]; simp
  simp only [e, hc]
/-- A text and an action behind it, then the rest. -/
theorem splitM_act {n i : Nat} {cut : Bool} {s raw r : List UInt8} (h : find2 123 s = none) (hl : ∀ x, s.getLast? = some x → x ≠ 123) (hc : clos false (raw ++ 125 :: 125 :: r) = some raw.length) :
    splitM (n + 1) (s ++ 123 :: 123 :: (raw ++ 125 :: 125 :: r)) i cut = (splitM n r (i + (s.length + 2 + (raw.length + 2))) (dashR raw)).map (fun r => txt (behind raw (ahead cut s)) (i + (s.length - (ahead cut s).length)) ++ (actn (body raw) (i + s.length) ++ r)) := by
  rw [splitM, if_neg (by simp), find2_app _ h hl]
  have e : (s ++ 123 :: 123 :: (raw ++ 125 :: 125 :: r)).drop (s.length + 2) = raw ++ 125 :: 125 :: r := by
    rw [List.drop_append, List.drop_eq_nil_of_le (by omega)]; simp
  have e1 : (s ++ 123 :: 123 :: (raw ++ 125 :: 125 :: r)).take s.length = s := by simp
  have e2 : (raw ++ 125 :: 125 :: r).take raw.length = raw := by simp
  have e3 : (s ++ 123 :: 123 :: (raw ++ 125 :: 125 :: r)).drop (s.length + 2 + (raw.length + 2)) = r := by
    rw [← List.drop_drop, e, List.drop_append, List.drop_eq_nil_of_le (by omega)]; simp
  simp only [e, hc, e1, e2, e3]

/-! ### Bodies -/
theorem dropWhile_keep {p : UInt8 → Bool} {l : List UInt8} (h : ∀ x, l.head? = some x → p x = false) : l.dropWhile p = l := by
  cases l with
  | nil => rfl
  | cons a l => rw [List.dropWhile_cons, if_neg (by rw [h a rfl]; simp)]
/-- What neither begins nor ends with a blank stays as it is. -/
theorem trimS_keep {l : List UInt8} (h1 : ∀ x, l.head? = some x → x ∉ blanks) (h2 : ∀ x, l.getLast? = some x → x ∉ blanks) : Lib.trimS l blanks = l := by
  have e2 : Lib.trimRightS l blanks = l := by
    unfold Lib.trimRightS
    rw [dropWhile_keep (fun x hx => by rw [List.head?_reverse] at hx; simpa using h2 x hx), List.reverse_reverse]
  unfold Lib.trimS
  rw [e2]
  exact dropWhile_keep (fun x hx => by simpa using h1 x hx)
end Go.Proofs.YtdgeegfoocoohaaDoor
