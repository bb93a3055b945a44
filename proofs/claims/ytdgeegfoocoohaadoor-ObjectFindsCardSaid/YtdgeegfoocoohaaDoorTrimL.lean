/- What the laws ask of trim.Split's tokens, plainly. -/
import Derived.Test.YtdgeegfoocoohaaDoorTrimP
namespace Go.Proofs.YtdgeegfoocoohaaDoor

theorem splitM_fuel : ∀ (n m : Nat) {s : List UInt8} {i : Nat} {cut : Bool}, s.length < n → s.length < m → splitM n s i cut = splitM m s i cut
  | 0, m, s, i, cut, hn, hm => by omega
  | n + 1, 0, s, i, cut, hn, hm => by omega
  | n + 1, m + 1, s, i, cut, hn, hm => by
    rw [splitM, splitM]
    split
    · rfl
    · next hs =>
      have hs0 : 0 < s.length := List.length_pos_iff.2 hs
      cases hf : find2 123 s with
      | none => rfl
      | some o =>
        cases hc : clos false (s.drop (o + 2)) with
        | none => simp only [hc]
        | some e =>
          simp only [hc]
          rw [splitM_fuel n m (by rw [List.length_drop]; omega) (by rw [List.length_drop]; omega)]

/-- A text that an action may stand behind: no two open braces, none at its end. -/
def Fine (s : List UInt8) : Prop := find2 123 s = none ∧ ∀ x, s.getLast? = some x → x ≠ 123

theorem fine_nil : Fine [] := ⟨rfl, fun x h => by cases h⟩
theorem ahead_false (s : List UInt8) : ahead false s = s := rfl
theorem txt_plain (s : List UInt8) (i : Nat) : txt s (i + (s.length - s.length)) = txt s i := by rw [Nat.sub_self, Nat.add_zero]

/-! ### P6.2 -/
theorem law_plain {n : Nat} {s : List UInt8} (h : find2 123 s = none) : splitM (n + 1) s 0 false = some (txt s 0) := by
  rw [splitM_plain h, ahead_false, txt_plain]
def wrapped (s : List UInt8) : List UInt8 := [123, 123, 97, 125, 125] ++ s ++ [123, 123, 32, 98, 32, 125, 125]
theorem law_wrapped {n : Nat} {s : List UInt8} (h : Fine s) : splitM (n + 3) (wrapped s) 0 false = some (⟨true, [97], 0⟩ :: (txt s 5 ++ [⟨true, [98], 5 + s.length⟩])) := by
  have e : wrapped s = [] ++ 123 :: 123 :: ([97] ++ 125 :: 125 :: (s ++ 123 :: 123 :: ([32, 98, 32] ++ 125 :: 125 :: []))) := by simp [wrapped]
  rw [e, splitM_act fine_nil.1 fine_nil.2 (clos_plain _ (by decide))]
  have hd : dashR [97] = false := by decide
  rw [hd]
  rw [splitM_act h.1 h.2 (clos_plain _ (by decide))]
  have hd2 : dashR [32, 98, 32] = false := by decide
  have hb1 : body [97] = [97] := by decide
  have hb2 : body [32, 98, 32] = [98] := by decide
  have hc1 : comment [97] = false := by decide
  have hc2 : comment [98] = false := by decide
  have hl1 : dashL [97] = false := by decide
  have hl2 : dashL [32, 98, 32] = false := by decide
  rw [splitM_nil, hb1, hb2]
  simp [actn, hc1, hc2, ahead, behind, hl1, hl2, txt]

/-! ### P6.1: trimmed -/
def mid : List UInt8 := [45, 32, 47, 42, 32, 120, 32, 42, 47, 32, 45]
theorem law_trims {n : Nat} {a b : List UInt8} (ha : Fine a) (hb : find2 123 b = none) : ∃ k, splitM (n + 2) (a ++ 123 :: 123 :: (mid ++ 125 :: 125 :: b)) 0 false = some (txt (Lib.trimRightS a blanks) 0 ++ txt (Lib.trimLeftS b blanks) k) := by
  refine ⟨0 + (a.length + 2 + (mid.length + 2)) + (b.length - (ahead true b).length), ?_⟩
  rw [splitM_act ha.1 ha.2 (clos_plain _ (by decide))]
  have hd : dashR mid = true := by decide
  have hl : dashL mid = true := by decide
  have hb1 : comment (body mid) = true := by decide
  rw [hd, splitM_plain hb]
  simp [actn, hb1, ahead, behind, hl]

/-! ### The tokens are their own -/
/-- What stands in a plain action: no blanks, braces, quotes, dashes, slashes. -/
def Word (a : List UInt8) : Prop := ∀ c ∈ a, 32 < c ∧ c ≠ 123 ∧ c ≠ 125 ∧ c ≠ 34 ∧ c ≠ 45 ∧ c ≠ 47
theorem word_head {a : List UInt8} (h : Word a) : ∀ x, a.head? = some x → x ∉ blanks := fun x hx hb => by
  have := (h x (List.mem_of_mem_head? hx)).1
  simp only [blanks, List.mem_cons, List.not_mem_nil, or_false] at hb
  rcases hb with rfl | rfl | rfl <;> revert this <;> decide
theorem word_last {a : List UInt8} (h : Word a) : ∀ x, a.getLast? = some x → x ∉ blanks := fun x hx hb => by
  have := (h x (List.mem_of_getLast? hx)).1
  simp only [blanks, List.mem_cons, List.not_mem_nil, or_false] at hb
  rcases hb with rfl | rfl | rfl <;> revert this <;> decide
theorem word_dashL {a : List UInt8} (h : Word a) : dashL a = false := by
  cases a with
  | nil => rfl
  | cons c l =>
    have hc := (h c (by simp)).2.2.2.2.1
    simp [dashL, Lib.hasPrefix, List.isPrefixOf, hc, Ne.symm hc]
theorem word_dashR {a : List UInt8} (h : Word a) : dashR a = false := by
  unfold dashR raw1
  rw [word_dashL h]
  cases hs : Lib.hasSuffix a [32, 45] with
  | false => simpa using hs
  | true =>
    exfalso
    have : [32, 45] <:+ a := by simpa [Lib.hasSuffix] using hs
    have h45 : (45 : UInt8) ∈ a := this.subset (by simp)
    exact (h 45 h45).2.2.2.2.1 rfl
theorem word_body {a : List UInt8} (h : Word a) : body a = a := by
  have : raw2 a = a := by unfold raw2 raw1; rw [word_dashR h, word_dashL h]; rfl
  unfold body
  rw [this]
  exact trimS_keep (word_head h) (word_last h)
theorem word_comment {a : List UInt8} (h : Word a) : comment a = false := by
  cases a with
  | nil => rfl
  | cons c l =>
    have hc := (h c (by simp)).2.2.2.2.2
    simp [comment, Lib.hasPrefix, List.isPrefixOf, Ne.symm hc]
/-- Texts with actions between, laid one behind the other, and their tokens. -/
def joinS : List (List UInt8) → List (List UInt8) → List UInt8
  | [], _ => []
  | t :: _, [] => t
  | t :: ts, a :: as => t ++ 123 :: 123 :: (a ++ 125 :: 125 :: joinS ts as)
def wantS : List (List UInt8) → List (List UInt8) → Nat → List Tok
  | [], _, _ => []
  | t :: _, [], i => txt t i
  | t :: ts, a :: as, i => txt t i ++ ⟨true, a, i + t.length⟩ :: wantS ts as (i + (t.length + 2 + (a.length + 2)))
theorem law_joins : ∀ (ts as : List (List UInt8)) (n i : Nat), (joinS ts as).length < n → (∀ t ∈ ts, Fine t) → (∀ a ∈ as, Word a) → splitM n (joinS ts as) i false = some (wantS ts as i)
  | [], as, n, i, hn, ht, ha => by rw [joinS, splitM_nil]; cases as <;> rfl
  | t :: ts, [], 0, i, hn, ht, ha => by omega
  | t :: ts, [], n + 1, i, hn, ht, ha => by rw [joinS, splitM_plain (ht t (by simp)).1, ahead_false, txt_plain]; rfl
  | t :: ts, a :: as, 0, i, hn, ht, ha => by omega
  | t :: ts, a :: as, n + 1, i, hn, ht, ha => by
    have hw := ha a (by simp)
    have hf := ht t (by simp)
    rw [joinS] at hn ⊢
    rw [splitM_act hf.1 hf.2 (clos_plain _ (fun x hx => ⟨(hw x hx).2.2.2.1, (hw x hx).2.2.1⟩)), word_dashR hw]
    rw [law_joins ts as n _ (by simp at hn; omega) (fun x hx => ht x (by simp [hx])) (fun x hx => ha x (by simp [hx]))]
    simp [actn, word_body hw, word_comment hw, ahead, behind, word_dashL hw, wantS]

/-! ### Quotes -/
def esc1 (c : UInt8) : List UInt8 := if c = 10 then [92, 110] else if c = 9 then [92, 116] else if c = 34 ∨ c = 92 then [92, c] else [c]
def escL (s : List UInt8) : List UInt8 := s.flatMap esc1
def quoteL (s : List UInt8) : List UInt8 := 34 :: (escL s ++ [34])
theorem clos_step {a : UInt8} {r : List UInt8} (h1 : a ≠ 34) (h2 : a ≠ 125) (hr : r ≠ []) : clos false (a :: r) = (clos false r).map (· + 1) := by
  cases r with
  | nil => exact absurd rfl hr
  | cons b l => rw [clos, if_neg (by rintro ⟨e, -⟩; exact h2 e), if_neg h1]
theorem clos_quote {r : List UInt8} (hr : r ≠ []) : clos false (34 :: r) = (clos true r).map (· + 1) := by
  cases r with
  | nil => exact absurd rfl hr
  | cons b l => rw [clos, if_neg (by rintro ⟨e, -⟩; exact absurd e (by decide)), if_pos rfl]
theorem clos_unquote {r : List UInt8} (hr : r ≠ []) : clos true (34 :: r) = (clos false r).map (· + 1) := by
  cases r with
  | nil => exact absurd rfl hr
  | cons b l => rw [clos, if_pos rfl]
theorem clos_in {a : UInt8} {r : List UInt8} (h1 : a ≠ 34) (h2 : a ≠ 92) (hr : r ≠ []) : clos true (a :: r) = (clos true r).map (· + 1) := by
  cases r with
  | nil => exact absurd rfl hr
  | cons b l => rw [clos, if_neg h1, if_neg h2]
theorem clos_back {a : UInt8} {r : List UInt8} : clos true (92 :: a :: r) = (clos true r).map (· + 2) := by
  rw [clos, if_neg (by decide), if_pos rfl]
theorem map_map (o : Option Nat) (a b : Nat) : (o.map (· + a)).map (· + b) = o.map (· + (a + b)) := by
  cases o <;> simp [Nat.add_assoc]
theorem clos_skip : ∀ {b r : List UInt8}, (∀ x ∈ b, x ≠ 34 ∧ x ≠ 125) → r ≠ [] → clos false (b ++ r) = (clos false r).map (· + b.length)
  | [], r, h, hr => by simp
  | a :: b, r, h, hr => by
    rw [List.cons_append, clos_step (h a (by simp)).1 (h a (by simp)).2 (by simp [hr]), clos_skip (fun x hx => h x (by simp [hx])) hr, map_map]
    rfl
theorem clos_esc : ∀ (s : List UInt8) {r : List UInt8}, r ≠ [] → clos true (escL s ++ r) = (clos true r).map (· + (escL s).length)
  | [], r, hr => by simp [escL]
  | c :: s, r, hr => by
    have ih := clos_esc s hr
    have e : escL (c :: s) = esc1 c ++ escL s := by simp [escL]
    have hne : escL s ++ r ≠ [] := by simp [hr]
    rw [e, List.append_assoc]
    by_cases h1 : c = 10
    · rw [esc1, if_pos h1]
      show clos true (92 :: 110 :: (escL s ++ r)) = _
      rw [clos_back, ih, map_map]; have e2 : ([92, 110] ++ escL s).length = (escL s).length + 2 := by simp
      rw [e2]
    · by_cases h2 : c = 9
      · rw [esc1, if_neg h1, if_pos h2]
        show clos true (92 :: 116 :: (escL s ++ r)) = _
        rw [clos_back, ih, map_map]; have e2 : ([92, 116] ++ escL s).length = (escL s).length + 2 := by simp
        rw [e2]
      · by_cases h3 : c = 34 ∨ c = 92
        · rw [esc1, if_neg h1, if_neg h2, if_pos h3]
          show clos true (92 :: c :: (escL s ++ r)) = _
          rw [clos_back, ih, map_map]; have e2 : ([92, c] ++ escL s).length = (escL s).length + 2 := by simp
          rw [e2]
        · rw [esc1, if_neg h1, if_neg h2, if_neg h3]
          show clos true (c :: (escL s ++ r)) = _
          rw [clos_in (fun e => h3 (.inl e)) (fun e => h3 (.inr e)) hne, ih, map_map]; have e2 : ([c] ++ escL s).length = (escL s).length + 1 := by simp
          rw [e2]
def pr : List UInt8 := [32, 112, 114, 105, 110, 116, 32]
def prB : List UInt8 := [112, 114, 105, 110, 116, 32]
theorem quoted_clos (s r : List UInt8) : clos false ((pr ++ (quoteL s ++ [32])) ++ 125 :: 125 :: r) = some (pr ++ (quoteL s ++ [32])).length := by
  have e : (pr ++ (quoteL s ++ [32])) ++ 125 :: 125 :: r = pr ++ (34 :: (escL s ++ (34 :: ([32] ++ 125 :: 125 :: r)))) := by simp [quoteL]
  rw [e, clos_skip (by decide) (by simp), clos_quote (by simp), clos_esc s (by simp), clos_unquote (by simp), clos_plain _ (by decide)]
  simp [quoteL, pr]
  omega
theorem quoted_last (s : List UInt8) : ∃ u, pr ++ (quoteL s ++ [32]) = 32 :: (prB ++ 34 :: u ++ [34]) ++ [32] := ⟨escL s, by simp [quoteL, pr, prB]⟩
theorem quoted_dashL (s : List UInt8) : dashL (pr ++ (quoteL s ++ [32])) = false := by
  obtain ⟨u, e⟩ := quoted_last s
  rw [e]; simp [dashL, Lib.hasPrefix, List.isPrefixOf]
theorem quoted_dashR (s : List UInt8) : dashR (pr ++ (quoteL s ++ [32])) = false := by
  unfold dashR raw1
  rw [quoted_dashL]
  obtain ⟨u, e⟩ := quoted_last s
  rw [e]
  simp only [Bool.false_eq_true, if_false]
  cases hs : Lib.hasSuffix (32 :: (prB ++ 34 :: u ++ [34]) ++ [32]) [32, 45] with
  | false => rfl
  | true =>
    exfalso
    have h : [32, 45] <:+ (32 :: (prB ++ 34 :: u ++ [34]) ++ [32]) := by simpa [Lib.hasSuffix] using hs
    obtain ⟨t, ht⟩ := h
    have h1 := congrArg List.getLast? ht
    rw [List.getLast?_append, List.getLast?_append] at h1
    simp at h1
theorem trimR_one (l : List UInt8) : Lib.trimRightS (l ++ [34] ++ [32]) blanks = l ++ [34] := by
  unfold Lib.trimRightS
  have e : (l ++ [34] ++ [32]).reverse = 32 :: 34 :: l.reverse := by simp
  rw [e, List.dropWhile_cons, if_pos (by decide), List.dropWhile_cons, if_neg (by decide)]
  simp
theorem quoted_body (s : List UInt8) : body (pr ++ (quoteL s ++ [32])) = prB ++ quoteL s := by
  have h2 : raw2 (pr ++ (quoteL s ++ [32])) = pr ++ (quoteL s ++ [32]) := by unfold raw2 raw1; rw [quoted_dashR, quoted_dashL]; rfl
  have e0 : prB ++ quoteL s = prB ++ 34 :: escL s ++ [34] := by simp [quoteL]
  have e : pr ++ (quoteL s ++ [32]) = 32 :: (prB ++ 34 :: escL s ++ [34]) ++ [32] := by simp [quoteL, pr, prB]
  unfold body
  rw [h2, e, e0]
  unfold Lib.trimS
  have e1 : Lib.trimRightS (32 :: (prB ++ 34 :: escL s ++ [34]) ++ [32]) blanks = 32 :: (prB ++ 34 :: escL s ++ [34]) := trimR_one (32 :: (prB ++ 34 :: escL s))
  rw [e1]
  unfold Lib.trimLeftS
  simp [List.dropWhile, blanks, prB]
theorem quoted_comment (s : List UInt8) : comment (prB ++ quoteL s) = false := by
  simp [comment, Lib.hasPrefix, List.isPrefixOf, prB]
theorem law_quotes {n : Nat} {s t : List UInt8} (ht : find2 123 t = none) : ∃ k, splitM (n + 2) (123 :: 123 :: ((pr ++ (quoteL s ++ [32])) ++ 125 :: 125 :: t)) 0 false = some (⟨true, prB ++ quoteL s, 0⟩ :: txt t k) := by
  refine ⟨0 + (([] : List UInt8).length + 2 + ((pr ++ (quoteL s ++ [32])).length + 2)), ?_⟩
  have e : (123 :: 123 :: ((pr ++ (quoteL s ++ [32])) ++ 125 :: 125 :: t) : List UInt8) = [] ++ 123 :: 123 :: ((pr ++ (quoteL s ++ [32])) ++ 125 :: 125 :: t) := rfl
  rw [e, splitM_act fine_nil.1 fine_nil.2 (quoted_clos s t), quoted_dashR, splitM_plain ht, quoted_body]
  simp only [actn, quoted_comment, ahead, behind, quoted_dashL]
  simp [txt]

/-! ### What isn't closed -/
theorem law_open {n : Nat} {s t : List UInt8} (hs : Fine s) (ht : find2 125 t = none) : splitM (n + 1) (s ++ 123 :: 123 :: t) 0 false = none :=
  splitM_open hs.1 hs.2 (clos_none t.length (Nat.le_refl _) ht)
theorem law_ends {n : Nat} {s : List UInt8} (hs : find2 123 s = none) : splitM (n + 1) (s ++ [125, 125]) 0 false = some [⟨false, s ++ [125, 125], 0⟩] := by
  rw [law_plain (find2_none_app (d := 125) (by decide) [125] hs (by decide))]
  simp [txt]
end Go.Proofs.YtdgeegfoocoohaaDoor
