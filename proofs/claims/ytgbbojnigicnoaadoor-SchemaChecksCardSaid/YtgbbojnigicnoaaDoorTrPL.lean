/- Several texts as one. -/
import Derived.Lib.SlTrimSet
import Derived.Lib.Index
import Derived.Lib.ParseIntB
import Derived.Lib.ParseIntBTie
import Derived.Lib.ItoaNum
/- What trim.Split computes, plainly: the tokens of a template as lists of bytes, and what the laws ask of them. -/
namespace Go.Proofs.YtgbbojnigicnoaaDoor

/-- The bytes that are trimmed. -/
def blanks : List UInt8 := [32, 9, 10]
/-- A token: an action or a text, its bytes, where it begins. -/
structure Tok where
  act : Bool
  s : List UInt8
  at_ : Nat
deriving DecidableEq

/-- The first place of a byte that stands twice. -/
def find2 (c : UInt8) : List UInt8 → Option Nat
  | [] => none
  | [_] => none
  | a :: b :: l => if a = c ∧ b = c then some 0 else (find2 c (b :: l)).map (· + 1)

/-- Where two braces close, outside of quotes. -/
def clos : Bool → List UInt8 → Option Nat
  | _, [] => none
  | false, [_] => none
  | false, a :: b :: l => if a = 125 ∧ b = 125 then some 0 else if a = 34 then (clos true (b :: l)).map (· + 1) else (clos false (b :: l)).map (· + 1)
  | true, [_] => none
  | true, a :: b :: l => if a = 34 then (clos false (b :: l)).map (· + 1) else if a = 92 then (clos true l).map (· + 2) else (clos true (b :: l)).map (· + 1)
termination_by _ l => l.length

/-- Does an action trim what stands ahead? -/
def dashL (raw : List UInt8) : Bool := raw == [45] || Lib.hasPrefix raw [45, 32]
def raw1 (raw : List UInt8) : List UInt8 := if dashL raw then raw.drop 1 else raw
/-- Does it trim what stands behind? -/
def dashR (raw : List UInt8) : Bool := Lib.hasSuffix (raw1 raw) [32, 45]
def raw2 (raw : List UInt8) : List UInt8 := if dashR raw then (raw1 raw).take ((raw1 raw).length - 2) else raw1 raw
/-- What stands in an action. -/
def body (raw : List UInt8) : List UInt8 := Lib.trimS (raw2 raw) blanks
def comment (b : List UInt8) : Bool := Lib.hasPrefix b [47, 42] && Lib.hasSuffix b [42, 47] && decide (4 ≤ b.length)
def txt (s : List UInt8) (n : Nat) : List Tok := if s = [] then [] else [⟨false, s, n⟩]
def actn (b : List UInt8) (n : Nat) : List Tok := if comment b then [] else [⟨true, b, n⟩]
def ahead (cut : Bool) (s : List UInt8) : List UInt8 := if cut then Lib.trimLeftS s blanks else s
def behind (raw s : List UInt8) : List UInt8 := if dashL raw then Lib.trimRightS s blanks else s

/-- The tokens of what is left of a template, from a place on; none: an action isn't closed. -/
def splitM : Nat → List UInt8 → Nat → Bool → Option (List Tok)
  | 0, _, _, _ => some []
  | n + 1, s, i, cut =>
    if s = [] then some [] else
    match find2 123 s with
    | none => some (txt (ahead cut s) (i + (s.length - (ahead cut s).length)))
    | some o =>
      match clos false (s.drop (o + 2)) with
      | none => none
      | some e =>
        (splitM n (s.drop (o + 2 + (e + 2))) (i + (o + 2 + (e + 2))) (dashR ((s.drop (o + 2)).take e))).map
          (fun r => txt (behind ((s.drop (o + 2)).take e) (ahead cut (s.take o))) (i + (o - (ahead cut (s.take o)).length)) ++ (actn (body ((s.drop (o + 2)).take e)) (i + o) ++ r))

/-! ### Two braces in a row -/
theorem find2_bound {c : UInt8} : ∀ {s : List UInt8} {o : Nat}, find2 c s = some o → o + 2 ≤ s.length
  | [], o, h => by simp [find2] at h
  | [_], o, h => by simp [find2] at h
  | a :: b :: l, o, h => by
    rw [find2] at h
    split at h
    · injection h with h; subst h; simp
    · cases hf : find2 c (b :: l) with
      | none => rw [hf] at h; cases h
      | some k => rw [hf] at h; injection h with h; subst h; have := find2_bound hf; simp at this ⊢; omega
theorem find2_index (c : UInt8) : ∀ (s : List UInt8), Lib.index s [c, c] = match find2 c s with | some o => (o : Int) | none => -1
  | [] => rfl
  | [a] => by
    rw [Lib.index, find2]
    have : Lib.index [] [c, c] = -1 := rfl
    rw [this]
    simp [List.isPrefixOf]
  | a :: b :: l => by
    rw [Lib.index, find2_index c (b :: l), find2]
    by_cases h : a = c ∧ b = c
    · rw [if_pos h, if_pos]
      · rfl
      · obtain ⟨rfl, rfl⟩ := h; simp [List.isPrefixOf]
    · rw [if_neg h, if_neg]
      · cases hf : find2 c (b :: l) with
        | none => simp
        | some k =>
          have : ((k : Int) == -1) = false := by rw [beq_eq_false_iff_ne]; omega
          simp [this]
      · intro h2
        apply h
        simp [List.isPrefixOf] at h2
        exact ⟨h2.1.symm, h2.2.symm⟩
/-- A text without two braces in a row, not ending with one: what stands behind it begins at the braces. -/
theorem find2_app {c : UInt8} : ∀ {s : List UInt8} (r : List UInt8), find2 c s = none → (∀ x, s.getLast? = some x → x ≠ c) → find2 c (s ++ c :: c :: r) = some s.length
  | [], r, _, _ => by simp [find2]
  | [a], r, _, h => by
    have ha : a ≠ c := h a rfl
    simp [find2, ha]
  | a :: b :: l, r, h, hl => by
    rw [find2] at h
    split at h
    · cases h
    · next hn =>
      have hf : find2 c (b :: l) = none := by
        cases hf : find2 c (b :: l) with
        | none => rfl
        | some k => rw [hf] at h; cases h
      have ih := find2_app r hf (fun x hx => hl x (by simpa using hx))
      simp only [List.cons_append] at ih ⊢
      rw [find2, if_neg hn, ih]
      simp
theorem find2_none_app {c d : UInt8} (hd : d ≠ c) : ∀ {s : List UInt8} (r : List UInt8), find2 c s = none → find2 c (d :: r) = none → find2 c (s ++ d :: r) = none
  | [], r, _, h => h
  | [a], r, _, h => by
    simp only [List.singleton_append]
    rw [find2, if_neg (by rintro ⟨-, h2⟩; exact hd h2), h]; rfl
  | a :: b :: l, r, h, hr => by
    rw [find2] at h
    split at h
    · cases h
    · next hn =>
      have hf : find2 c (b :: l) = none := by
        cases hf : find2 c (b :: l) with
        | none => rfl
        | some k => rw [hf] at h; cases h
      have ih := find2_none_app hd r hf hr
      simp only [List.cons_append] at ih ⊢
      rw [find2, if_neg hn, ih]; rfl

/-! ### Where an action ends -/
theorem clos_bound : ∀ (n : Nat) {q : Bool} {s : List UInt8} {e : Nat}, s.length ≤ n → clos q s = some e → e + 2 ≤ s.length
  | 0, q, s, e, hn, h => by
    have : s = [] := List.length_eq_zero_iff.1 (by omega)
    subst this; cases q <;> simp [clos] at h
  | n + 1, q, [], e, hn, h => by cases q <;> simp [clos] at h
  | n + 1, q, [a], e, hn, h => by cases q <;> simp [clos] at h
  | n + 1, q, a :: b :: l, e, hn, h => by
    have hl1 : (b :: l).length ≤ n := by simpa using hn
    have hl2 : l.length ≤ n := by simp at hl1; omega
    have go : ∀ (q' : Bool) (t : List UInt8) (k : Nat), t.length ≤ n → t.length + k = (a :: b :: l).length → (clos q' t).map (· + k) = some e → e + 2 ≤ (a :: b :: l).length := by
      intro q' t k ht hk hm
      cases hc : clos q' t with
      | none => rw [hc] at hm; cases hm
      | some x => rw [hc] at hm; simp only [Option.map_some, Option.some.injEq] at hm; have := clos_bound n ht hc; omega
    cases q
    · rw [clos] at h
      split at h
      · injection h with h; subst h; simp
      · split at h
        · exact go true _ 1 hl1 (by simp) h
        · exact go false _ 1 hl1 (by simp) h
    · rw [clos] at h
      split at h
      · exact go false _ 1 hl1 (by simp) h
      · split at h
        · exact go true _ 2 hl2 (by simp) h
        · exact go true _ 1 hl1 (by simp) h
/-- What has neither quotes nor closing braces, closed. -/
theorem clos_plain : ∀ {b : List UInt8} (r : List UInt8), (∀ x ∈ b, x ≠ 34 ∧ x ≠ 125) → clos false (b ++ 125 :: 125 :: r) = some b.length
  | [], r, _ => by simp [clos]
  | [a], r, h => by
    have := h a (by simp)
    simp [clos, this.1, this.2]
  | a :: b :: l, r, h => by
    have h1 := h a (by simp)
    have ih := clos_plain (b := b :: l) r (fun x hx => h x (by simp [hx]))
    simp only [List.cons_append] at ih ⊢
    rw [clos, if_neg (by rintro ⟨e, -⟩; exact h1.2 e), if_neg h1.1, ih]; simp
/-- What has no two closing braces in a row isn't closed. -/
theorem clos_none : ∀ (n : Nat) {q : Bool} {s : List UInt8}, s.length ≤ n → find2 125 s = none → clos q s = none
  | 0, q, s, hn, h => by
    have : s = [] := List.length_eq_zero_iff.1 (by omega)
    subst this; cases q <;> simp [clos]
  | n + 1, q, [], hn, h => by cases q <;> simp [clos]
  | n + 1, q, [a], hn, h => by cases q <;> simp [clos]
  | n + 1, q, a :: b :: l, hn, h => by
    rw [find2] at h
    split at h
    · cases h
    · next hne =>
      have hf : find2 125 (b :: l) = none := by
        cases hf : find2 125 (b :: l) with
        | none => rfl
        | some k => rw [hf] at h; cases h
      have hf2 : find2 125 l = none := by
        cases l with
        | nil => rfl
        | cons c l =>
          rw [find2] at hf
          split at hf
          · cases hf
          · cases hf2 : find2 125 (c :: l) with
            | none => rfl
            | some k => rw [hf2] at hf; cases hf
      have hl1 : (b :: l).length ≤ n := by simpa using hn
      have hl2 : l.length ≤ n := by simp at hl1; omega
      cases q
      · rw [clos, if_neg hne, clos_none n hl1 hf, clos_none n hl1 hf]; simp
      · rw [clos, clos_none n hl1 hf, clos_none n hl1 hf, clos_none n hl2 hf2]; simp

/-! ### The tokens -/
theorem splitM_nil (n i : Nat) (cut : Bool) : splitM n [] i cut = some [] := by cases n <;> simp [splitM]
theorem splitM_plain {n i : Nat} {cut : Bool} {s : List UInt8} (h : find2 123 s = none) : splitM (n + 1) s i cut = some (txt (ahead cut s) (i + (s.length - (ahead cut s).length))) := by
  by_cases hs : s = []
  · subst hs
    rw [splitM_nil]
    have : ahead cut [] = [] := by cases cut <;> simp [ahead, Lib.trimLeftS]
    rw [this]; rfl
  · rw [splitM, if_neg hs, h]
theorem splitM_open {n i : Nat} {cut : Bool} {s t : List UInt8} (h : find2 123 s = none) (hl : ∀ x, s.getLast? = some x → x ≠ 123) (hc : clos false t = none) : splitM (n + 1) (s ++ 123 :: 123 :: t) i cut = none := by
  rw [splitM, if_neg (by simp), find2_app t h hl]
  have e : (s ++ 123 :: 123 :: t).drop (s.length + 2) = t := by
    rw [List.drop_append, List.drop_eq_nil_of_le (by omega)]; simp
  simp only [e, hc]
/-- A text and an action behind it, then the rest. -/
theorem splitM_act {n i : Nat} {cut : Bool} {s raw r : List UInt8} (h : find2 123 s = none) (hl : ∀ x, s.getLast? = some x → x ≠ 123) (hc : clos false (raw ++ 125 :: 125 :: r) = some raw.length) :
    splitM (n + 1) (s ++ 123 :: 123 :: (raw ++ 125 :: 125 :: r)) i cut = (splitM n r (i + (s.length + 2 + (raw.length + 2))) (dashR raw)).map (fun r => txt (behind raw (ahead cut s)) (i + (s.length - (ahead cut s).length)) ++ (actn (body raw) (i + s.length) ++ r)) := by
  rw [splitM, if_neg (by simp), find2_app _ h hl]
  have e : (s ++ 123 :: 123 :: (raw ++ 125 :: 125 :: r)).drop (s.length + 2) = raw ++ 125 :: 125 :: r := by
    rw [List.drop_append, List.drop_eq_nil_of_le (by omega)]; simp
  have e1 : (s ++ 123 :: 123 :: (raw ++ 125 :: 125 :: r)).take s.length = s := by simp
  have e2 : (raw ++ 125 :: 125 :: r).take raw.length = raw := by simp
  have e3 : (s ++ 123 :: 123 :: (raw ++ 125 :: 125 :: r)).drop (s.length + 2 + (raw.length + 2)) = r := by
    rw [← List.drop_drop, e, List.drop_append, List.drop_eq_nil_of_le (by omega)]; simp
  simp only [e, hc, e1, e2, e3]

/-! ### Bodies -/
theorem dropWhile_keep {p : UInt8 → Bool} {l : List UInt8} (h : ∀ x, l.head? = some x → p x = false) : l.dropWhile p = l := by
  cases l with
  | nil => rfl
  | cons a l => rw [List.dropWhile_cons, if_neg (by rw [h a rfl]; simp)]
/-- What neither begins nor ends with a blank stays as it is. -/
theorem trimS_keep {l : List UInt8} (h1 : ∀ x, l.head? = some x → x ∉ blanks) (h2 : ∀ x, l.getLast? = some x → x ∉ blanks) : Lib.trimS l blanks = l := by
  have e2 : Lib.trimRightS l blanks = l := by
    unfold Lib.trimRightS
    rw [dropWhile_keep (fun x hx => by rw [List.head?_reverse] at hx; simpa using h2 x hx), List.reverse_reverse]
  unfold Lib.trimS
  rw [e2]
  exact dropWhile_keep (fun x hx => by simpa using h1 x hx)
end Go.Proofs.YtgbbojnigicnoaaDoor

/- What the laws ask of trim.Split's tokens, plainly. -/
namespace Go.Proofs.YtgbbojnigicnoaaDoor

theorem splitM_fuel : ∀ (n m : Nat) {s : List UInt8} {i : Nat} {cut : Bool}, s.length < n → s.length < m → splitM n s i cut = splitM m s i cut
  | 0, m, s, i, cut, hn, hm => by omega
  | n + 1, 0, s, i, cut, hn, hm => by omega
  | n + 1, m + 1, s, i, cut, hn, hm => by
    rw [splitM, splitM]
    split
    · rfl
    · next hs =>
      have hs0 : 0 < s.length := List.length_pos_iff.2 hs
      cases hf : find2 123 s with
      | none => rfl
      | some o =>
        cases hc : clos false (s.drop (o + 2)) with
        | none => simp only [hc]
        | some e =>
          simp only [hc]
          rw [splitM_fuel n m (by rw [List.length_drop]; omega) (by rw [List.length_drop]; omega)]

/-- A text that an action may stand behind: no two open braces, none at its end. -/
def Fine (s : List UInt8) : Prop := find2 123 s = none ∧ ∀ x, s.getLast? = some x → x ≠ 123

theorem fine_nil : Fine [] := ⟨rfl, fun x h => by cases h⟩
theorem ahead_false (s : List UInt8) : ahead false s = s := rfl
theorem txt_plain (s : List UInt8) (i : Nat) : txt s (i + (s.length - s.length)) = txt s i := by rw [Nat.sub_self, Nat.add_zero]

/-! ### P6.2 -/
theorem law_plain {n : Nat} {s : List UInt8} (h : find2 123 s = none) : splitM (n + 1) s 0 false = some (txt s 0) := by
  rw [splitM_plain h, ahead_false, txt_plain]
def wrapped (s : List UInt8) : List UInt8 := [123, 123, 97, 125, 125] ++ s ++ [123, 123, 32, 98, 32, 125, 125]
theorem law_wrapped {n : Nat} {s : List UInt8} (h : Fine s) : splitM (n + 3) (wrapped s) 0 false = some (⟨true, [97], 0⟩ :: (txt s 5 ++ [⟨true, [98], 5 + s.length⟩])) := by
  have e : wrapped s = [] ++ 123 :: 123 :: ([97] ++ 125 :: 125 :: (s ++ 123 :: 123 :: ([32, 98, 32] ++ 125 :: 125 :: []))) := by simp [wrapped]
  rw [e, splitM_act fine_nil.1 fine_nil.2 (clos_plain _ (by decide))]
  have hd : dashR [97] = false := by decide
  rw [hd]
  rw [splitM_act h.1 h.2 (clos_plain _ (by decide))]
  have hd2 : dashR [32, 98, 32] = false := by decide
  have hb1 : body [97] = [97] := by decide
  have hb2 : body [32, 98, 32] = [98] := by decide
  have hc1 : comment [97] = false := by decide
  have hc2 : comment [98] = false := by decide
  have hl1 : dashL [97] = false := by decide
  have hl2 : dashL [32, 98, 32] = false := by decide
  rw [splitM_nil, hb1, hb2]
  simp [actn, hc1, hc2, ahead, behind, hl1, hl2, txt]

/-! ### P6.1: trimmed -/
def mid : List UInt8 := [45, 32, 47, 42, 32, 120, 32, 42, 47, 32, 45]
theorem law_trims {n : Nat} {a b : List UInt8} (ha : Fine a) (hb : find2 123 b = none) : ∃ k, splitM (n + 2) (a ++ 123 :: 123 :: (mid ++ 125 :: 125 :: b)) 0 false = some (txt (Lib.trimRightS a blanks) 0 ++ txt (Lib.trimLeftS b blanks) k) := by
  refine ⟨0 + (a.length + 2 + (mid.length + 2)) + (b.length - (ahead true b).length), ?_⟩
  rw [splitM_act ha.1 ha.2 (clos_plain _ (by decide))]
  have hd : dashR mid = true := by decide
  have hl : dashL mid = true := by decide
  have hb1 : comment (body mid) = true := by decide
  rw [hd, splitM_plain hb]
  simp [actn, hb1, ahead, behind, hl]

/-! ### The tokens are their own -/
/-- What stands in a plain action: no blanks, braces, quotes, dashes, slashes. -/
def Word (a : List UInt8) : Prop := ∀ c ∈ a, 32 < c ∧ c ≠ 123 ∧ c ≠ 125 ∧ c ≠ 34 ∧ c ≠ 45 ∧ c ≠ 47
theorem word_head {a : List UInt8} (h : Word a) : ∀ x, a.head? = some x → x ∉ blanks := fun x hx hb => by
  have := (h x (List.mem_of_mem_head? hx)).1
  simp only [blanks, List.mem_cons, List.not_mem_nil, or_false] at hb
  rcases hb with rfl | rfl | rfl <;> revert this <;> decide
theorem word_last {a : List UInt8} (h : Word a) : ∀ x, a.getLast? = some x → x ∉ blanks := fun x hx hb => by
  have := (h x (List.mem_of_getLast? hx)).1
  simp only [blanks, List.mem_cons, List.not_mem_nil, or_false] at hb
  rcases hb with rfl | rfl | rfl <;> revert this <;> decide
theorem word_dashL {a : List UInt8} (h : Word a) : dashL a = false := by
  cases a with
  | nil => rfl
  | cons c l =>
    have hc := (h c (by simp)).2.2.2.2.1
    simp [dashL, Lib.hasPrefix, List.isPrefixOf, hc, Ne.symm hc]
theorem word_dashR {a : List UInt8} (h : Word a) : dashR a = false := by
  unfold dashR raw1
  rw [word_dashL h]
  cases hs : Lib.hasSuffix a [32, 45] with
  | false => simpa using hs
  | true =>
    exfalso
    have : [32, 45] <:+ a := by simpa [Lib.hasSuffix] using hs
    have h45 : (45 : UInt8) ∈ a := this.subset (by simp)
    exact (h 45 h45).2.2.2.2.1 rfl
theorem word_body {a : List UInt8} (h : Word a) : body a = a := by
  have : raw2 a = a := by unfold raw2 raw1; rw [word_dashR h, word_dashL h]; rfl
  unfold body
  rw [this]
  exact trimS_keep (word_head h) (word_last h)
theorem word_comment {a : List UInt8} (h : Word a) : comment a = false := by
  cases a with
  | nil => rfl
  | cons c l =>
    have hc := (h c (by simp)).2.2.2.2.2
    simp [comment, Lib.hasPrefix, List.isPrefixOf, Ne.symm hc]
/-- Texts with actions between, laid one behind the other, and their tokens. -/
def joinS : List (List UInt8) → List (List UInt8) → List UInt8
  | [], _ => []
  | t :: _, [] => t
  | t :: ts, a :: as => t ++ 123 :: 123 :: (a ++ 125 :: 125 :: joinS ts as)
def wantS : List (List UInt8) → List (List UInt8) → Nat → List Tok
  | [], _, _ => []
  | t :: _, [], i => txt t i
  | t :: ts, a :: as, i => txt t i ++ ⟨true, a, i + t.length⟩ :: wantS ts as (i + (t.length + 2 + (a.length + 2)))
theorem law_joins : ∀ (ts as : List (List UInt8)) (n i : Nat), (joinS ts as).length < n → (∀ t ∈ ts, Fine t) → (∀ a ∈ as, Word a) → splitM n (joinS ts as) i false = some (wantS ts as i)
  | [], as, n, i, hn, ht, ha => by rw [joinS, splitM_nil]; cases as <;> rfl
  | t :: ts, [], 0, i, hn, ht, ha => by omega
  | t :: ts, [], n + 1, i, hn, ht, ha => by rw [joinS, splitM_plain (ht t (by simp)).1, ahead_false, txt_plain]; rfl
  | t :: ts, a :: as, 0, i, hn, ht, ha => by omega
  | t :: ts, a :: as, n + 1, i, hn, ht, ha => by
    have hw := ha a (by simp)
    have hf := ht t (by simp)
    rw [joinS] at hn ⊢
    rw [splitM_act hf.1 hf.2 (clos_plain _ (fun x hx => ⟨(hw x hx).2.2.2.1, (hw x hx).2.2.1⟩)), word_dashR hw]
    rw [law_joins ts as n _ (by simp at hn; omega) (fun x hx => ht x (by simp [hx])) (fun x hx => ha x (by simp [hx]))]
    simp [actn, word_body hw, word_comment hw, ahead, behind, word_dashL hw, wantS]

/-! ### Quotes -/
def esc1 (c : UInt8) : List UInt8 := if c = 10 then [92, 110] else if c = 9 then [92, 116] else if c = 34 ∨ c = 92 then [92, c] else [c]
def escL (s : List UInt8) : List UInt8 := s.flatMap esc1
def quoteL (s : List UInt8) : List UInt8 := 34 :: (escL s ++ [34])
theorem clos_step {a : UInt8} {r : List UInt8} (h1 : a ≠ 34) (h2 : a ≠ 125) (hr : r ≠ []) : clos false (a :: r) = (clos false r).map (· + 1) := by
  cases r with
  | nil => exact absurd rfl hr
  | cons b l => rw [clos, if_neg (by rintro ⟨e, -⟩; exact h2 e), if_neg h1]
theorem clos_quote {r : List UInt8} (hr : r ≠ []) : clos false (34 :: r) = (clos true r).map (· + 1) := by
  cases r with
  | nil => exact absurd rfl hr
  | cons b l => rw [clos, if_neg (by rintro ⟨e, -⟩; exact absurd e (by decide)), if_pos rfl]
theorem clos_unquote {r : List UInt8} (hr : r ≠ []) : clos true (34 :: r) = (clos false r).map (· + 1) := by
  cases r with
  | nil => exact absurd rfl hr
  | cons b l => rw [clos, if_pos rfl]
theorem clos_in {a : UInt8} {r : List UInt8} (h1 : a ≠ 34) (h2 : a ≠ 92) (hr : r ≠ []) : clos true (a :: r) = (clos true r).map (· + 1) := by
  cases r with
  | nil => exact absurd rfl hr
  | cons b l => rw [clos, if_neg h1, if_neg h2]
theorem clos_back {a : UInt8} {r : List UInt8} : clos true (92 :: a :: r) = (clos true r).map (· + 2) := by
  rw [clos, if_neg (by decide), if_pos rfl]
theorem map_map (o : Option Nat) (a b : Nat) : (o.map (· + a)).map (· + b) = o.map (· + (a + b)) := by
  cases o <;> simp [Nat.add_assoc]
theorem clos_skip : ∀ {b r : List UInt8}, (∀ x ∈ b, x ≠ 34 ∧ x ≠ 125) → r ≠ [] → clos false (b ++ r) = (clos false r).map (· + b.length)
  | [], r, h, hr => by simp
  | a :: b, r, h, hr => by
    rw [List.cons_append, clos_step (h a (by simp)).1 (h a (by simp)).2 (by simp [hr]), clos_skip (fun x hx => h x (by simp [hx])) hr, map_map]
    rfl
theorem clos_esc : ∀ (s : List UInt8) {r : List UInt8}, r ≠ [] → clos true (escL s ++ r) = (clos true r).map (· + (escL s).length)
  | [], r, hr => by simp [escL]
  | c :: s, r, hr => by
    have ih := clos_esc s hr
    have e : escL (c :: s) = esc1 c ++ escL s := by simp [escL]
    have hne : escL s ++ r ≠ [] := by simp [hr]
    rw [e, List.append_assoc]
    by_cases h1 : c = 10
    · rw [esc1, if_pos h1]
      show clos true (92 :: 110 :: (escL s ++ r)) = _
      rw [clos_back, ih, map_map]; have e2 : ([92, 110] ++ escL s).length = (escL s).length + 2 := by simp
      rw [e2]
    · by_cases h2 : c = 9
      · rw [esc1, if_neg h1, if_pos h2]
        show clos true (92 :: 116 :: (escL s ++ r)) = _
        rw [clos_back, ih, map_map]; have e2 : ([92, 116] ++ escL s).length = (escL s).length + 2 := by simp
        rw [e2]
      · by_cases h3 : c = 34 ∨ c = 92
        · rw [esc1, if_neg h1, if_neg h2, if_pos h3]
          show clos true (92 :: c :: (escL s ++ r)) = _
          rw [clos_back, ih, map_map]; have e2 : ([92, c] ++ escL s).length = (escL s).length + 2 := by simp
          rw [e2]
        · rw [esc1, if_neg h1, if_neg h2, if_neg h3]
          show clos true (c :: (escL s ++ r)) = _
          rw [clos_in (fun e => h3 (.inl e)) (fun e => h3 (.inr e)) hne, ih, map_map]; have e2 : ([c] ++ escL s).length = (escL s).length + 1 := by simp
          rw [e2]
def pr : List UInt8 := [32, 112, 114, 105, 110, 116, 32]
def prB : List UInt8 := [112, 114, 105, 110, 116, 32]
theorem quoted_clos (s r : List UInt8) : clos false ((pr ++ (quoteL s ++ [32])) ++ 125 :: 125 :: r) = some (pr ++ (quoteL s ++ [32])).length := by
  have e : (pr ++ (quoteL s ++ [32])) ++ 125 :: 125 :: r = pr ++ (34 :: (escL s ++ (34 :: ([32] ++ 125 :: 125 :: r)))) := by simp [quoteL]
  rw [e, clos_skip (by decide) (by simp), clos_quote (by simp), clos_esc s (by simp), clos_unquote (by simp), clos_plain _ (by decide)]
  simp [quoteL, pr]
  omega
theorem quoted_last (s : List UInt8) : ∃ u, pr ++ (quoteL s ++ [32]) = 32 :: (prB ++ 34 :: u ++ [34]) ++ [32] := ⟨escL s, by simp [quoteL, pr, prB]⟩
theorem quoted_dashL (s : List UInt8) : dashL (pr ++ (quoteL s ++ [32])) = false := by
  obtain ⟨u, e⟩ := quoted_last s
  rw [e]; simp [dashL, Lib.hasPrefix, List.isPrefixOf]
theorem quoted_dashR (s : List UInt8) : dashR (pr ++ (quoteL s ++ [32])) = false := by
  unfold dashR raw1
  rw [quoted_dashL]
  obtain ⟨u, e⟩ := quoted_last s
  rw [e]
  simp only [Bool.false_eq_true, if_false]
  cases hs : Lib.hasSuffix (32 :: (prB ++ 34 :: u ++ [34]) ++ [32]) [32, 45] with
  | false => rfl
  | true =>
    exfalso
    have h : [32, 45] <:+ (32 :: (prB ++ 34 :: u ++ [34]) ++ [32]) := by simpa [Lib.hasSuffix] using hs
    obtain ⟨t, ht⟩ := h
    have h1 := congrArg List.getLast? ht
    rw [List.getLast?_append, List.getLast?_append] at h1
    simp at h1
theorem trimR_one (l : List UInt8) : Lib.trimRightS (l ++ [34] ++ [32]) blanks = l ++ [34] := by
  unfold Lib.trimRightS
  have e : (l ++ [34] ++ [32]).reverse = 32 :: 34 :: l.reverse := by simp
  rw [e, List.dropWhile_cons, if_pos (by decide), List.dropWhile_cons, if_neg (by decide)]
  simp
theorem quoted_body (s : List UInt8) : body (pr ++ (quoteL s ++ [32])) = prB ++ quoteL s := by
  have h2 : raw2 (pr ++ (quoteL s ++ [32])) = pr ++ (quoteL s ++ [32]) := by unfold raw2 raw1; rw [quoted_dashR, quoted_dashL]; rfl
  have e0 : prB ++ quoteL s = prB ++ 34 :: escL s ++ [34] := by simp [quoteL]
  have e : pr ++ (quoteL s ++ [32]) = 32 :: (prB ++ 34 :: escL s ++ [34]) ++ [32] := by simp [quoteL, pr, prB]
  unfold body
  rw [h2, e, e0]
  unfold Lib.trimS
  have e1 : Lib.trimRightS (32 :: (prB ++ 34 :: escL s ++ [34]) ++ [32]) blanks = 32 :: (prB ++ 34 :: escL s ++ [34]) := trimR_one (32 :: (prB ++ 34 :: escL s))
  rw [e1]
  unfold Lib.trimLeftS
  simp [List.dropWhile, blanks, prB]
theorem quoted_comment (s : List UInt8) : comment (prB ++ quoteL s) = false := by
  simp [comment, Lib.hasPrefix, List.isPrefixOf, prB]
theorem law_quotes {n : Nat} {s t : List UInt8} (ht : find2 123 t = none) : ∃ k, splitM (n + 2) (123 :: 123 :: ((pr ++ (quoteL s ++ [32])) ++ 125 :: 125 :: t)) 0 false = some (⟨true, prB ++ quoteL s, 0⟩ :: txt t k) := by
  refine ⟨0 + (([] : List UInt8).length + 2 + ((pr ++ (quoteL s ++ [32])).length + 2)), ?_⟩
  have e : (123 :: 123 :: ((pr ++ (quoteL s ++ [32])) ++ 125 :: 125 :: t) : List UInt8) = [] ++ 123 :: 123 :: ((pr ++ (quoteL s ++ [32])) ++ 125 :: 125 :: t) := rfl
  rw [e, splitM_act fine_nil.1 fine_nil.2 (quoted_clos s t), quoted_dashR, splitM_plain ht, quoted_body]
  simp only [actn, quoted_comment, ahead, behind, quoted_dashL]
  simp [txt]

/-! ### What isn't closed -/
theorem law_open {n : Nat} {s t : List UInt8} (hs : Fine s) (ht : find2 125 t = none) : splitM (n + 1) (s ++ 123 :: 123 :: t) 0 false = none :=
  splitM_open hs.1 hs.2 (clos_none t.length (Nat.le_refl _) ht)
theorem law_ends {n : Nat} {s : List UInt8} (hs : find2 123 s = none) : splitM (n + 1) (s ++ [125, 125]) 0 false = some [⟨false, s ++ [125, 125], 0⟩] := by
  rw [law_plain (find2_none_app (d := 125) (by decide) [125] hs (by decide))]
  simp [txt]
end Go.Proofs.YtgbbojnigicnoaaDoor

/- What scalar computes, plainly: bare words, numbers, quotes. -/
namespace Go.Proofs.YtgbbojnigicnoaaDoor

/-! ### Numbers -/
def digitB (c : UInt8) : Bool := decide (48 ≤ c.toNat ∧ c.toNat ≤ 57)
/-- What digits spell. -/
def valFrom (acc : Nat) (l : List UInt8) : Nat := l.foldl (fun a c => a * 10 + (c.toNat - 48)) acc
theorem valFrom_nil (acc : Nat) : valFrom acc [] = acc := rfl
theorem valFrom_cons (acc : Nat) (c : UInt8) (r : List UInt8) : valFrom acc (c :: r) = valFrom (acc * 10 + (c.toNat - 48)) r := by unfold valFrom; rw [List.foldl_cons]
theorem valFrom_le : ∀ (l : List UInt8) (acc : Nat), acc ≤ valFrom acc l
  | [], acc => Nat.le_refl _
  | c :: r, acc => by
    have h := valFrom_le r (acc * 10 + (c.toNat - 48))
    rw [valFrom_cons]
    generalize valFrom (acc * 10 + (c.toNat - 48)) r = x at h ⊢
    omega
theorem valFrom_app : ∀ (l m : List UInt8) (acc : Nat), valFrom acc (l ++ m) = valFrom (valFrom acc l) m
  | [], m, acc => by rw [List.nil_append, valFrom_nil]
  | c :: r, m, acc => by rw [List.cons_append, valFrom_cons, valFrom_cons, valFrom_app r m]
theorem parseM_digits (M : Nat) (hM : M = 2 ^ 64 - 1) : ∀ (l : List UInt8) (acc : Nat), acc ≤ M → l.all digitB = true → Lib.parseUintM M acc l = if valFrom acc l ≤ M then .ok (valFrom acc l) else .range
  | [], acc, ha, _ => by simp [Lib.parseUintM, valFrom_nil, ha]
  | c :: r, acc, ha, hl => by
    rw [List.all_cons, Bool.and_eq_true] at hl
    have hd : 48 ≤ c.toNat ∧ c.toNat ≤ 57 := by simpa [digitB] using hl.1
    have hv := valFrom_le r (acc * 10 + (c.toNat - 48))
    rw [Lib.parseUintM, if_pos hd, valFrom_cons]
    by_cases h1 : 1844674407370955162 ≤ acc
    · rw [if_pos h1, if_neg (by omega)]
    · rw [if_neg h1]
      by_cases h2 : M < acc * 10 + (c.toNat - 48)
      · rw [if_pos h2, if_neg (by omega)]
      · rw [if_neg h2]
        exact parseM_digits M hM r _ (by omega) hl.2
/-- Is it digits, with a minus ahead or not? -/
def minus (l : List UInt8) : Bool := l.head? == some 45
def mag (l : List UInt8) : List UInt8 := if minus l then l.tail else l
def numL (l : List UInt8) : Bool := (mag l).all digitB && !(mag l).isEmpty
/-- The whole number that it spells, if there is room for it. -/
def intL (l : List UInt8) : Option Int :=
  if minus l then (if valFrom 0 (mag l) ≤ 9223372036854775808 then some (-(valFrom 0 (mag l) : Int)) else none)
  else (if valFrom 0 (mag l) < 9223372036854775808 then some (valFrom 0 (mag l) : Int) else none)
theorem parse_num {l : List UInt8} (h : numL l = true) : Lib.parseIntB 64 l = match intL l with | some v => .ok v | none => .range := by
  unfold numL at h
  rw [Bool.and_eq_true] at h
  obtain ⟨h1, h2⟩ := h
  have h3 : mag l ≠ [] := by intro e; rw [e] at h2; simp at h2
  have key : Lib.parseUintB 64 (mag l) = if valFrom 0 (mag l) ≤ 2 ^ 64 - 1 then .ok (valFrom 0 (mag l)) else .range := by
    rw [Lib.parseUintB, if_neg h3]
    exact parseM_digits _ rfl _ 0 (by omega) h1
  match l, h1, h3, key with
  | [], _, h3, _ => exact absurd rfl h3
  | c :: r, h1, h3, key =>
    by_cases hc : c = 45
    · subst hc
      have hm : minus (45 :: r) = true := by simp [minus]
      have hg : mag (45 :: r) = r := by simp [mag, hm]
      rw [hg] at key
      have e : Lib.parseIntB 64 (45 :: r) = match Lib.parseUintB 64 r with | .syntax => .syntax | .range => .range | .ok u => if ¬ True ∧ 2 ^ 63 ≤ u then .range else if True ∧ 2 ^ 63 < u then .range else .ok (-(u : Int)) := by
        unfold Lib.parseIntB
        simp
        cases Lib.parseUintB 64 r <;> rfl
      rw [e, key, intL, hm, hg]
      by_cases hv : valFrom 0 r ≤ 9223372036854775808
      · rw [if_pos (by omega)]
        simp [hv]
      · by_cases h4 : valFrom 0 r ≤ 2 ^ 64 - 1
        · rw [if_pos h4]; simp [hv]
        · rw [if_neg h4]; simp [hv]
    · have hm : minus (c :: r) = false := by simp [minus, hc]
      have hg : mag (c :: r) = c :: r := by simp [mag, hm]
      rw [hg] at key h1
      have hd : 48 ≤ c.toNat ∧ c.toNat ≤ 57 := by
        rw [List.all_cons, Bool.and_eq_true] at h1
        simpa [digitB] using h1.1
      have n45 : ¬ c.toNat = 45 := by omega
      have n43 : ¬ (c.toNat = 43 ∨ c.toNat = 45) := by omega
      have e : Lib.parseIntB 64 (c :: r) = match Lib.parseUintB 64 (c :: r) with | .syntax => .syntax | .range => .range | .ok u => if 2 ^ 63 ≤ u then .range else .ok (u : Int) := by
        have n43' : ¬ c.toNat = 43 := by omega
        unfold Lib.parseIntB
        simp [n45, n43']
        cases Lib.parseUintB 64 (c :: r) <;> rfl
      rw [e, key, intL, hm, hg]
      by_cases hv : valFrom 0 (c :: r) < 9223372036854775808
      · rw [if_pos (by omega)]
        have : ¬ 2 ^ 63 ≤ valFrom 0 (c :: r) := by omega
        simp [hv, this]
      · by_cases h4 : valFrom 0 (c :: r) ≤ 2 ^ 64 - 1
        · rw [if_pos h4]
          have : 2 ^ 63 ≤ valFrom 0 (c :: r) := by omega
          simp [hv, this]
        · rw [if_neg h4]; simp [hv]
/-! ### Printed numbers -/
theorem dec_digits : ∀ (n u : Nat), u ≤ n → (Lib.decDigits u).all digitB = true
  | n, u, h => by
    rw [Lib.decDigits]
    split
    · next h10 =>
      have e : (UInt8.ofNat (48 + u)).toNat = 48 + u := by rw [UInt8.toNat_ofNat']; omega
      simp [digitB]; omega
    · next h10 =>
      have e : (UInt8.ofNat (48 + u % 10)).toNat = 48 + u % 10 := by rw [UInt8.toNat_ofNat']; omega
      match n with
      | 0 => omega
      | n + 1 =>
        rw [List.all_append, dec_digits n (u / 10) (by omega)]
        simp [digitB]; omega
theorem dec_val : ∀ (n u : Nat), u ≤ n → valFrom 0 (Lib.decDigits u) = u
  | n, u, h => by
    rw [Lib.decDigits]
    split
    · next h10 =>
      have e : (UInt8.ofNat (48 + u)).toNat = 48 + u := by rw [UInt8.toNat_ofNat']; omega
      rw [valFrom_cons, valFrom_nil, e]; omega
    · next h10 =>
      have e : (UInt8.ofNat (48 + u % 10)).toNat = 48 + u % 10 := by rw [UInt8.toNat_ofNat']; omega
      match n with
      | 0 => omega
      | n + 1 =>
        rw [valFrom_app, dec_val n (u / 10) (by omega)]
        rw [valFrom_cons, valFrom_nil, e]; omega
theorem dec_ne (u : Nat) : Lib.decDigits u ≠ [] := by
  rw [Lib.decDigits]; split <;> simp
theorem dec_head (u : Nat) : ∃ c r, Lib.decDigits u = c :: r ∧ digitB c = true := by
  have h := dec_digits u u (Nat.le_refl _)
  cases hd : Lib.decDigits u with
  | nil => exact absurd hd (dec_ne u)
  | cons c r => rw [hd, List.all_cons, Bool.and_eq_true] at h; exact ⟨c, r, rfl, h.1⟩
theorem digit_ne {c : UInt8} (h : digitB c = true) : c ≠ 45 := by
  rintro rfl; revert h; decide
/-- Noughts ahead change nothing. -/
theorem val_pad : ∀ (k : Nat) (l : List UInt8), valFrom 0 (List.replicate k 48 ++ l) = valFrom 0 l
  | 0, l => rfl
  | k + 1, l => by
    rw [List.replicate_succ, List.cons_append, valFrom_cons]
    exact val_pad k l
theorem all_pad (k : Nat) {l : List UInt8} (h : l.all digitB = true) : (List.replicate k 48 ++ l).all digitB = true := by
  rw [List.all_append, h, Bool.and_true]
  rw [List.all_eq_true]
  intro x hx
  rw [List.eq_of_mem_replicate hx]; decide
/-- A word of digits, with a minus or not. -/
theorem num_pos {l : List UInt8} (h : l.all digitB = true) (hn : l ≠ []) : minus l = false ∧ mag l = l ∧ numL l = true := by
  have hm : minus l = false := by
    cases l with
    | nil => exact absurd rfl hn
    | cons c r =>
      rw [List.all_cons, Bool.and_eq_true] at h
      have := digit_ne h.1
      simp [minus, this]
  have hg : mag l = l := by simp [mag, hm]
  refine ⟨hm, hg, ?_⟩
  rw [numL, hg, h]; simpa using hn
theorem num_neg {l : List UInt8} (h : l.all digitB = true) (hn : l ≠ []) : minus (45 :: l) = true ∧ mag (45 :: l) = l ∧ numL (45 :: l) = true := by
  have hm : minus (45 :: l) = true := by simp [minus]
  have hg : mag (45 :: l) = l := by simp [mag, hm]
  refine ⟨hm, hg, ?_⟩
  rw [numL, hg, h]; simpa using hn
theorem itoa_num (n : Int) (h1 : -9223372036854775808 ≤ n) (h2 : n < 9223372036854775808) : numL (Lib.itoa n) = true ∧ intL (Lib.itoa n) = some n := by
  unfold Lib.itoa
  split
  · next h =>
    obtain ⟨a, b, c⟩ := num_neg (dec_digits _ _ (Nat.le_refl n.natAbs)) (dec_ne _)
    refine ⟨c, ?_⟩
    rw [intL, a, b, dec_val _ _ (Nat.le_refl _)]
    simp only [if_true]
    rw [if_pos (by omega)]
    congr 1; omega
  · next h =>
    obtain ⟨a, b, c⟩ := num_pos (dec_digits _ _ (Nat.le_refl n.toNat)) (dec_ne _)
    refine ⟨c, ?_⟩
    rw [intL, a, b, dec_val _ _ (Nat.le_refl _)]
    simp only [Bool.false_eq_true, if_false]
    rw [if_pos (by omega)]
    congr 1; omega

/-! ### Bare words -/
def letterB (c : UInt8) : Bool := decide ((97 ≤ c.toNat ∧ c.toNat ≤ 122) ∨ (65 ≤ c.toNat ∧ c.toNat ≤ 90))
def moreB (c : UInt8) : Bool := digitB c || c == 95 || c == 45 || c == 46 || c == 47
def nullW : List UInt8 := [110, 117, 108, 108]
def trueW : List UInt8 := [116, 114, 117, 101]
def falseW : List UInt8 := [102, 97, 108, 115, 101]
def okL : List UInt8 → Bool
  | [] => true
  | c :: r => letterB c && r.all (fun c => letterB c || moreB c)
def bareL (l : List UInt8) : Bool := okL l && !(l == [] || l == nullW || l == trueW || l == falseW)

/-! ### Quotes -/
/-- What stands in double quotes, behind the first one, and what stands behind it. -/
def dblL : List UInt8 → Option (List UInt8 × List UInt8)
  | [] => none
  | 34 :: r => some ([], r)
  | [92] => none
  | 92 :: c :: r => if c = 110 then (dblL r).map (fun p => (10 :: p.1, p.2)) else if c = 116 then (dblL r).map (fun p => (9 :: p.1, p.2)) else if c = 34 ∨ c = 92 then (dblL r).map (fun p => (c :: p.1, p.2)) else none
  | 10 :: _ => none
  | 9 :: _ => none
  | c :: r => (dblL r).map (fun p => (c :: p.1, p.2))
def sglL : List UInt8 → Option (List UInt8 × List UInt8)
  | [] => none
  | 39 :: 39 :: r => (sglL r).map (fun p => (39 :: p.1, p.2))
  | 39 :: r => some ([], r)
  | c :: r => (sglL r).map (fun p => (c :: p.1, p.2))
def sesc1 (c : UInt8) : List UInt8 := if c = 39 then [39, 39] else [c]
def sescL (s : List UInt8) : List UInt8 := s.flatMap sesc1
def singleL (s : List UInt8) : List UInt8 := 39 :: (sescL s ++ [39])
def unqL : List UInt8 → Option (List UInt8 × List UInt8)
  | 34 :: r => dblL r
  | 39 :: r => sglL r
  | _ => none
theorem dbl_esc : ∀ (s m : List UInt8), dblL (escL s ++ 34 :: m) = some (s, m)
  | [], m => by simp [escL, dblL]
  | c :: s, m => by
    have ih := dbl_esc s m
    have e : escL (c :: s) = esc1 c ++ escL s := by simp [escL]
    rw [e, List.append_assoc]
    by_cases h1 : c = 10
    · rw [esc1, if_pos h1]; show dblL (92 :: 110 :: (escL s ++ 34 :: m)) = _; rw [dblL, if_pos rfl, ih, h1]; rfl
    · by_cases h2 : c = 9
      · rw [esc1, if_neg h1, if_pos h2]; show dblL (92 :: 116 :: (escL s ++ 34 :: m)) = _; rw [dblL, if_neg (by decide), if_pos rfl, ih, h2]; rfl
      · by_cases h3 : c = 34 ∨ c = 92
        · rw [esc1, if_neg h1, if_neg h2, if_pos h3]; show dblL (92 :: c :: (escL s ++ 34 :: m)) = _
          rw [dblL, if_neg (by rintro rfl; simp at h3), if_neg (by rintro rfl; simp at h3), if_pos h3, ih]; rfl
        · rw [esc1, if_neg h1, if_neg h2, if_neg h3]; show dblL (c :: (escL s ++ 34 :: m)) = _
          rw [not_or] at h3
          rw [dblL, ih]
          · rfl
          all_goals simp_all
theorem dbl_back : ∀ (n : Nat) (l c d : List UInt8), l.length ≤ n → dblL l = some (c, d) → l = escL c ++ 34 :: d := by
  intro n
  induction n with
  | zero =>
    intro l c d hn h
    have : l = [] := List.length_eq_zero_iff.1 (by omega)
    subst this; rw [dblL] at h; cases h
  | succ n ih =>
    intro l c d hn h
    have cons : ∀ {a : UInt8} {pre r : List UInt8}, r.length ≤ n → esc1 a = pre → (dblL r).map (fun p => (a :: p.1, p.2)) = some (c, d) → pre ++ r = escL c ++ 34 :: d := by
      intro a pre r hr he hm
      cases hd : dblL r with
      | none => rw [hd] at hm; cases hm
      | some p =>
        rw [hd] at hm
        simp only [Option.map_some, Option.some.injEq, Prod.mk.injEq] at hm
        obtain ⟨rfl, rfl⟩ := hm
        rw [ih r p.1 p.2 hr hd, ← he]
        simp [escL]
    unfold dblL at h
    split at h
    · cases h
    · simp only [Option.some.injEq, Prod.mk.injEq] at h
      obtain ⟨rfl, rfl⟩ := h
      simp [escL]
    · cases h
    · next a r =>
      simp only [List.length_cons] at hn
      split at h
      · next e => subst e; exact cons (by omega) rfl h
      · split at h
        · next e => subst e; exact cons (by omega) rfl h
        · split at h
          · next e1 e2 e3 =>
            refine cons (pre := [92, a]) (by omega) ?_ h
            rw [esc1, if_neg (by rintro rfl; simp at e3), if_neg (by rintro rfl; simp at e3), if_pos e3]
          · cases h
    · cases h
    · cases h
    · next a r h34 h92 h92' h10 h9 =>
      simp only [List.length_cons] at hn
      refine cons (pre := [a]) (by omega) ?_ h
      have a34 : a ≠ 34 := fun e => h34 e
      have a10 : a ≠ 10 := fun e => h10 e
      have a9 : a ≠ 9 := fun e => h9 e
      have a92 : a ≠ 92 := fun e => by
        cases r with
        | nil => exact h92 e rfl
        | cons x r => exact h92' x r e rfl
      rw [esc1, if_neg a10, if_neg a9, if_neg (by rintro (h | h) <;> contradiction)]
theorem sgl_esc : ∀ (s m : List UInt8), m.head? ≠ some 39 → sglL (sescL s ++ 39 :: m) = some (s, m)
  | [], m, h => by
    simp only [sescL, List.flatMap_nil, List.nil_append]
    cases m with
    | nil => simp [sglL]
    | cons a m =>
      have : a ≠ 39 := fun e => h (by rw [e]; rfl)
      rw [sglL]
      intro r hr; injection hr with h1; exact this h1
  | c :: s, m, h => by
    have ih := sgl_esc s m h
    have e : sescL (c :: s) = sesc1 c ++ sescL s := by simp [sescL]
    rw [e, List.append_assoc]
    by_cases h1 : c = 39
    · rw [sesc1, if_pos h1]; show sglL (39 :: 39 :: (sescL s ++ 39 :: m)) = _; rw [sglL, ih, h1]; rfl
    · rw [sesc1, if_neg h1]; show sglL (c :: (sescL s ++ 39 :: m)) = _
      rw [sglL, ih]
      · rfl
      all_goals simp_all
theorem sgl_back : ∀ (n : Nat) (l c d : List UInt8), l.length ≤ n → sglL l = some (c, d) → l = sescL c ++ 39 :: d := by
  intro n
  induction n with
  | zero =>
    intro l c d hn h
    have : l = [] := List.length_eq_zero_iff.1 (by omega)
    subst this; rw [sglL] at h; cases h
  | succ n ih =>
    intro l c d hn h
    have cons : ∀ {a : UInt8} {pre r : List UInt8}, r.length ≤ n → sesc1 a = pre → (sglL r).map (fun p => (a :: p.1, p.2)) = some (c, d) → pre ++ r = sescL c ++ 39 :: d := by
      intro a pre r hr he hm
      cases hd : sglL r with
      | none => rw [hd] at hm; cases hm
      | some p =>
        rw [hd] at hm
        simp only [Option.map_some, Option.some.injEq, Prod.mk.injEq] at hm
        obtain ⟨rfl, rfl⟩ := hm
        rw [ih r p.1 p.2 hr hd, ← he]
        simp [sescL]
    unfold sglL at h
    split at h
    · cases h
    · next r => simp only [List.length_cons] at hn; exact cons (by omega) rfl h
    · simp only [Option.some.injEq, Prod.mk.injEq] at h
      obtain ⟨rfl, rfl⟩ := h
      simp [sescL]
    · next a r h39 h39' =>
      simp only [List.length_cons] at hn
      refine cons (pre := [a]) (by omega) ?_ h
      have a39 : a ≠ 39 := fun e => h39' e
      rw [sesc1, if_neg a39]
end Go.Proofs.YtgbbojnigicnoaaDoor

