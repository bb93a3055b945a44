/- Several texts as one. -/
import Derived.Test.YtnblmhfgmehnnaaGreatDoorBdAB
import Derived.BigQuiet
import Derived.Test.YtnblmhfgmehnnaaGreatDoorBdAA
import Derived.ProofKit
import Derived.LaidMore
import Derived.OpenShut
import Derived.Stop.Joined
import Derived.Test.YtnblmhfgmehnnaaGreatDoorShelf
import Derived.Lib.ItoaNum
import Derived.Lib.LaidTab
import Derived.Stop.LaidErr
import Derived.Lib.ParseIntB
import Derived.Lib.ParseIntBTie
import Derived.Test.YtnblmhfgmehnnaaGreatDoorRows
import Derived.Deep.RegionHeld3
import Derived.Deep.DrawnRows
import Derived.Deep.DeepCutAuto
import Derived.Deep.QuietTactic
/- trim.Split by its tokens; the laws' own example; trim.Plain. -/
namespace Go.Proofs.YtnblmhfgmehnnaaGreatDoor
open Go.RowKit
attribute [local go_sem ↓] Go.wp_at_zero Go.wp_at_succ

/-- The global that strings.Index reads. -/
def MaxL (w : World) : Prop := ∃ m, w.cell? ⟨0, 0, none⟩ = some (.int .i64 m)
theorem MaxL.keep {w w' : World} (h : MaxL w) (hb : Below w.heap.size w w') : MaxL w' := by
  obtain ⟨m, hm⟩ := h
  exact ⟨m, (hb.cell (p := ⟨0, 0, none⟩) (block_lt_of_cell hm)).trans hm⟩
/-- Tokens handed back: the row, and old memory as it was. -/
def TokPost (w : World) (toks : List Tok) (e : Ending) (w' : World) : Prop :=
  ∃ A c, e = .returned (.tuple #[.slice A toks.length c, .int .i64 0]) ∧ RepE eltK w' (fun b => w.heap.size ≤ b) A toks ∧ toks.length ≤ c ∧ c ≤ maxLen ∧ Below w.heap.size w w'
theorem tsplit_ok {s : ByteArray} {toks : List Tok} (w : World) (hs : s.size ≤ 65536) (hm : MaxL w) (h : splitM (s.size + 1) s.data.toList 0 false = some toks) : Calls Tryz.prog 27 #[.string s] w (TokPost w toks) := by
  obtain ⟨m, hm⟩ := hm
  refine (tsplit s hs w m hm).mono ?_
  rintro e w' (⟨t2, A, c, h1, h2, h3, h4, h5, h6⟩ | ⟨h1, -⟩)
  · rw [h] at h1
    injection h1 with h1
    subst h1
    exact ⟨A, c, h2, h3, h4, h5, h6⟩
  · rw [h] at h1; cases h1
theorem tsplit_none {s : ByteArray} (w : World) (hs : s.size ≤ 65536) (hm : MaxL w) (h : splitM (s.size + 1) s.data.toList 0 false = none) : Calls Tryz.prog 27 #[.string s] w fun e w' => e = .returned (.tuple #[.slice none 0 0, .int .i64 21]) ∧ Below w.heap.size w w' := by
  obtain ⟨m, hm⟩ := hm
  refine (tsplit s hs w m hm).mono ?_
  rintro e w' (⟨t2, A, c, h1, -⟩ | ⟨-, h2, h3⟩)
  · rw [h] at h1; cases h1
  · exact ⟨h2, h3⟩
/-- What the tokens of a row read as. -/
theorem rep_tok {w : World} {S : Nat → Prop} {A : Option Addr} {toks : List Tok} (h : RepE eltK w S A toks) (hn : toks ≠ []) :
    ∃ b o, A = some ⟨b, o, none⟩ ∧ S b ∧ b < w.heap.size ∧ ∀ i t, toks[i]? = some t → w.cell? ⟨b, o + i * 3, none⟩ = some (.bool t.act) ∧ w.cell? ⟨b, o + i * 3 + 1, none⟩ = some (.string ⟨t.s.toArray⟩) ∧ w.cell? ⟨b, o + i * 3 + 2, none⟩ = some (.int .i64 t.at_) := by
  obtain ⟨b, o, cs, e, hb, hc, hr⟩ := h 0 (List.length_pos_iff.2 hn)
  have hcs := hr.1
  subst hcs
  refine ⟨b, o, e, hb, hc.lt, fun i t ht => ?_⟩
  obtain ⟨hi, rfl⟩ := List.getElem?_eq_some_iff.1 ht
  obtain ⟨b2, o2, cs2, e2, hb2, hc2, hr2⟩ := h i hi
  rw [e] at e2
  injection e2 with e2
  injection e2 with e2 e3
  subst e2 e3
  have hcs := hr2.1
  subst hcs
  exact ⟨hc2 0 _ rfl, hc2 1 _ rfl, hc2 2 _ rfl⟩

/-! ### The laws' example -/
def exS : ByteArray := ⟨#[97, 32, 123, 123, 45, 32, 120, 32, 45, 125, 125, 32, 98]⟩
theorem ex_toks : splitM (exS.size + 1) exS.data.toList 0 false = some [⟨false, [97], 0⟩, ⟨true, [120], 2⟩, ⟨false, [98], 12⟩] := by
  have e : exS.data.toList = [97, 32] ++ 123 :: 123 :: ([45, 32, 120, 32, 45] ++ 125 :: 125 :: [32, 98]) := by decide
  rw [e, splitM_act (by decide) (by simp) (clos_plain _ (by decide))]
  have hd : dashR [45, 32, 120, 32, 45] = true := by decide
  have e2 : exS.size = 12 + 1 := by decide
  rw [hd, e2, splitM_plain (by decide)]
  decide
theorem contains2 (c : UInt8) (l : List UInt8) : Lib.contains l [c, c] = (find2 c l).isSome := by
  unfold Lib.contains
  rw [find2_index c l]
  cases find2 c l with
  | none => rfl
  | some k => simp
def plain (s : ByteArray) : Bool := (find2 123 s.data.toList).isNone
theorem fine_of {s : ByteArray} (h1 : plain s = true) (h2 : Lib.hasSuffix s.data.toList [123] = false) : Fine s.data.toList := by
  refine ⟨?_, fun x hx e => ?_⟩
  · unfold plain at h1
    cases h : find2 123 s.data.toList with
    | none => rfl
    | some k => rw [h] at h1; cases h1
  · subst e
    have : [123] <:+ s.data.toList := by
      obtain ⟨l, e⟩ := List.getLast?_eq_some_iff.1 hx
      exact ⟨l, e.symm⟩
    have h3 : Lib.hasSuffix s.data.toList [123] = true := by simpa [Lib.hasSuffix] using this
    rw [h2] at h3; cases h3
end Go.Proofs.YtnblmhfgmehnnaaGreatDoor

/- A tied law's witness: what the text imports; strings.Index's variable. -/
namespace Go.Proofs.YtnblmhfgmehnnaaGreatDoor
open Go.ChangeShapes Go.WideShapes Go.ChangeAt Go.WideMaps Go.WideElems Go.RowKit

theorem max_of {W : World} (h : W.ShapedOpen Tryz.prog) : MaxL W := Tryz.laysM143.s1_3 W h
end Go.Proofs.YtnblmhfgmehnnaaGreatDoor

/- What scalar reads of the world: the library's table of powers of ten, and its error of what is too great. -/
namespace Go.Proofs.YtnblmhfgmehnnaaGreatDoor
open Go.RowKit

theorem var_keep {P : Program} {w w' : World} {n : String} {cs : Array Value} (h : w.var? P n = some cs) (hb : Below w.heap.size w w') : w'.var? P n = some cs := by
  unfold World.var? at h ⊢
  cases hg : P.globalNamed n with
  | none => simp [hg] at h
  | some g =>
    simp only [hg, Option.bind_some] at h ⊢
    have hlt : g < w.heap.size := by
      rcases Nat.lt_or_ge g w.heap.size with h' | h'
      · exact h'
      · simp [Array.getElem?_eq_none h'] at h
    rw [hb.block g hlt]
    exact h
/-- What strconv needs. -/
def ScalV (w : World) : Prop := Lib.TabIs Tryz.prog w "internal/strconv.uint64pow10" .u64 Lib.pow10Tab ∧ ∃ tp p, w.var? Tryz.prog "strconv.ErrRange" = some #[.iface tp p]
theorem ScalV.keep {w w' : World} (h : ScalV w) (hb : Below w.heap.size w w') : ScalV w' := by
  obtain ⟨h1, tp, p, h2⟩ := h
  exact ⟨var_keep h1 hb, tp, p, var_keep h2 hb⟩
end Go.Proofs.YtnblmhfgmehnnaaGreatDoor

/- A tied parse law's witness: what the rows list says of the library's variables. -/
namespace Go.Proofs.YtnblmhfgmehnnaaGreatDoor
open Go.ChangeShapes Go.WideShapes Go.ChangeAt Go.WideMaps Go.WideElems Go.RowKit

theorem star_err7 : "*" ++ "errors.errorString" = "*errors.errorString" := by decide
theorem row_err7 (u : TypeId) (h : Tryz.prog.typeName? 3 u = some "*errors.errorString") : u = 178 :=
  typeName_ptr_named (nm := "errors.errorString") (by rw [star_err7]; kernel_rfl) (by kernel_rfl) (by decide) u (by rw [star_err7]; exact h)
theorem scal_seven {W : World} (h : laidMetH Tryz.prog Rows.parseWrongRow.laid W) : ScalV W := by
  rw [MakeChecks.laidMetH_plain _ _ _ (by kernel_rfl)] at h
  have h1 : laidMet Tryz.prog (("internal/strconv.uint64pow10", Lib.tabData .u64 Lib.pow10Tab) :: ("unicode/utf8.acceptRanges", Rows.laid_unicode_utf8_acceptRanges) :: ("strconv.ErrRange", Rows.laid_strconv_ErrRange) :: ("strconv.ErrSyntax", Rows.laid_strconv_ErrSyntax) :: ("unicode/utf8.first", Rows.laid_unicode_utf8_first) :: []) W := laidMet.tail (laidMet.tail h)
  have h2 := h1.tail.tail
  have ht : Lib.TabIs Tryz.prog W "internal/strconv.uint64pow10" .u64 Lib.pow10Tab := Lib.tabIs_of_head (g := 5) (t := 188) (e := 122) (n := 20) (by kernel_rfl) (by kernel_rfl) (by kernel_rfl) (by kernel_rfl) (by kernel_rfl) (by kernel_rfl) h1
  obtain ⟨a, s, hv, -⟩ := laid_sentinel (g := 4) (ti := 92) (tp := 178) (te := 180) (ts := 9) h2 (by kernel_rfl) (by kernel_rfl) Tryz.underlying92 row_err7 Tryz.underlying178 Tryz.underlying180 rfl rfl Tryz.underlying9 (by kernel_rfl) (by kernel_rfl)
  exact ⟨ht, _, _, hv⟩
end Go.Proofs.YtnblmhfgmehnnaaGreatDoor

/- What scalar computes, plainly: bare words, numbers, quotes. -/
namespace Go.Proofs.YtnblmhfgmehnnaaGreatDoor

/-! ### Numbers -/
def digitB (c : UInt8) : Bool := decide (48 ≤ c.toNat ∧ c.toNat ≤ 57)
/-- What digits spell. -/
def valFrom (acc : Nat) (l : List UInt8) : Nat := l.foldl (fun a c => a * 10 + (c.toNat - 48)) acc
theorem valFrom_nil (acc : Nat) : valFrom acc [] = acc := rfl
theorem valFrom_cons (acc : Nat) (c : UInt8) (r : List UInt8) : valFrom acc (c :: r) = valFrom (acc * 10 + (c.toNat - 48)) r := by unfold valFrom; rw [List.foldl_cons]
theorem valFrom_le : ∀ (l : List UInt8) (acc : Nat), acc ≤ valFrom acc l
  | [], acc => Nat.le_refl _
  | c :: r, acc => by
    have h := valFrom_le r (acc * 10 + (c.toNat - 48))
    rw [valFrom_cons]
    generalize valFrom (acc * 10 + (c.toNat - 48)) r = x at h ⊢
    omega
theorem valFrom_app : ∀ (l m : List UInt8) (acc : Nat), valFrom acc (l ++ m) = valFrom (valFrom acc l) m
  | [], m, acc => by rw [List.nil_append, valFrom_nil]
  | c :: r, m, acc => by rw [List.cons_append, valFrom_cons, valFrom_cons, valFrom_app r m]
theorem parseM_digits (M : Nat) (hM : M = 2 ^ 64 - 1) : ∀ (l : List UInt8) (acc : Nat), acc ≤ M → l.all digitB = true → Lib.parseUintM M acc l = if valFrom acc l ≤ M then .ok (valFrom acc l) else .range
  | [], acc, ha, _ => by simp [Lib.parseUintM, valFrom_nil, ha]
  | c :: r, acc, ha, hl => by
    rw [List.all_cons, Bool.and_eq_true] at hl
    have hd : 48 ≤ c.toNat ∧ c.toNat ≤ 57 := by simpa [digitB] using hl.1
    have hv := valFrom_le r (acc * 10 + (c.toNat - 48))
    rw [Lib.parseUintM, if_pos hd, valFrom_cons]
    by_cases h1 : 1844674407370955162 ≤ acc
    · rw [if_pos h1, if_neg (by omega)]
    · rw [if_neg h1]
      by_cases h2 : M < acc * 10 + (c.toNat - 48)
      · rw [if_pos h2, if_neg (by omega)]
      · rw [if_neg h2]
        exact parseM_digits M hM r _ (by omega) hl.2
/-- Is it digits, with a minus ahead or not? -/
def minus (l : List UInt8) : Bool := l.head? == some 45
def mag (l : List UInt8) : List UInt8 := if minus l then l.tail else l
def numL (l : List UInt8) : Bool := (mag l).all digitB && !(mag l).isEmpty
/-- The whole number that it spells, if there is room for it. -/
def intL (l : List UInt8) : Option Int :=
  if minus l then (if valFrom 0 (mag l) ≤ 9223372036854775808 then some (-(valFrom 0 (mag l) : Int)) else none)
  else (if valFrom 0 (mag l) < 9223372036854775808 then some (valFrom 0 (mag l) : Int) else none)
theorem parse_num {l : List UInt8} (h : numL l = true) : Lib.parseIntB 64 l = match intL l with | some v => .ok v | none => .range := by
  unfold numL at h
  rw [Bool.and_eq_true] at h
  obtain ⟨h1, h2⟩ := h
  have h3 : mag l ≠ [] := by intro e; rw [e] at h2; simp at h2
  have key : Lib.parseUintB 64 (mag l) = if valFrom 0 (mag l) ≤ 2 ^ 64 - 1 then .ok (valFrom 0 (mag l)) else .range := by
    rw [Lib.parseUintB, if_neg h3]
    exact parseM_digits _ rfl _ 0 (by omega) h1
  match l, h1, h3, key with
  | [], _, h3, _ => exact absurd rfl h3
  | c :: r, h1, h3, key =>
    by_cases hc : c = 45
    · subst hc
      have hm : minus (45 :: r) = true := by simp [minus]
      have hg : mag (45 :: r) = r := by simp [mag, hm]
      rw [hg] at key
      have e : Lib.parseIntB 64 (45 :: r) = match Lib.parseUintB 64 r with | .syntax => .syntax | .range => .range | .ok u => if ¬ True ∧ 2 ^ 63 ≤ u then .range else if True ∧ 2 ^ 63 < u then .range else .ok (-(u : Int)) := by
        unfold Lib.parseIntB
        simp
        cases Lib.parseUintB 64 r <;> rfl
      rw [e, key, intL, hm, hg]
      by_cases hv : valFrom 0 r ≤ 9223372036854775808
      · rw [if_pos (by omega)]
        simp [hv]
      · by_cases h4 : valFrom 0 r ≤ 2 ^ 64 - 1
        · rw [if_pos h4]; simp [hv]
        · rw [if_neg h4]; simp [hv]
    · have hm : minus (c :: r) = false := by simp [minus, hc]
      have hg : mag (c :: r) = c :: r := by simp [mag, hm]
      rw [hg] at key h1
      have hd : 48 ≤ c.toNat ∧ c.toNat ≤ 57 := by
        rw [List.all_cons, Bool.and_eq_true] at h1
        simpa [digitB] using h1.1
      have n45 : ¬ c.toNat = 45 := by omega
      have n43 : ¬ (c.toNat = 43 ∨ c.toNat = 45) := by omega
      have e : Lib.parseIntB 64 (c :: r) = match Lib.parseUintB 64 (c :: r) with | .syntax => .syntax | .range => .range | .ok u => if 2 ^ 63 ≤ u then .range else .ok (u : Int) := by
        have n43' : ¬ c.toNat = 43 := by omega
        unfold Lib.parseIntB
        simp [n45, n43']
        cases Lib.parseUintB 64 (c :: r) <;> rfl
      rw [e, key, intL, hm, hg]
      by_cases hv : valFrom 0 (c :: r) < 9223372036854775808
      · rw [if_pos (by omega)]
        have : ¬ 2 ^ 63 ≤ valFrom 0 (c :: r) := by omega
        simp [hv, this]
      · by_cases h4 : valFrom 0 (c :: r) ≤ 2 ^ 64 - 1
        · rw [if_pos h4]
          have : 2 ^ 63 ≤ valFrom 0 (c :: r) := by omega
          simp [hv, this]
        · rw [if_neg h4]; simp [hv]
/-! ### Printed numbers -/
theorem dec_digits : ∀ (n u : Nat), u ≤ n → (Lib.decDigits u).all digitB = true
  | n, u, h => by
    rw [Lib.decDigits]
    split
    · next h10 =>
      have e : (UInt8.ofNat (48 + u)).toNat = 48 + u := by rw [UInt8.toNat_ofNat']; omega
      simp [digitB]; omega
    · next h10 =>
      have e : (UInt8.ofNat (48 + u % 10)).toNat = 48 + u % 10 := by rw [UInt8.toNat_ofNat']; omega
      match n with
      | 0 => omega
      | n + 1 =>
        rw [List.all_append, dec_digits n (u / 10) (by omega)]
        simp [digitB]; omega
theorem dec_val : ∀ (n u : Nat), u ≤ n → valFrom 0 (Lib.decDigits u) = u
  | n, u, h => by
    rw [Lib.decDigits]
    split
    · next h10 =>
      have e : (UInt8.ofNat (48 + u)).toNat = 48 + u := by rw [UInt8.toNat_ofNat']; omega
      rw [valFrom_cons, valFrom_nil, e]; omega
    · next h10 =>
      have e : (UInt8.ofNat (48 + u % 10)).toNat = 48 + u % 10 := by rw [UInt8.toNat_ofNat']; omega
      match n with
      | 0 => omega
      | n + 1 =>
        rw [valFrom_app, dec_val n (u / 10) (by omega)]
        rw [valFrom_cons, valFrom_nil, e]; omega
theorem dec_ne (u : Nat) : Lib.decDigits u ≠ [] := by
  rw [Lib.decDigits]; split <;> simp
theorem dec_head (u : Nat) : ∃ c r, Lib.decDigits u = c :: r ∧ digitB c = true := by
  have h := dec_digits u u (Nat.le_refl _)
  cases hd : Lib.decDigits u with
  | nil => exact absurd hd (dec_ne u)
  | cons c r => rw [hd, List.all_cons, Bool.and_eq_true] at h; exact ⟨c, r, rfl, h.1⟩
theorem digit_ne {c : UInt8} (h : digitB c = true) : c ≠ 45 := by
  rintro rfl; revert h; decide
/-- Noughts ahead change nothing. -/
theorem val_pad : ∀ (k : Nat) (l : List UInt8), valFrom 0 (List.replicate k 48 ++ l) = valFrom 0 l
  | 0, l => rfl
  | k + 1, l => by
    rw [List.replicate_succ, List.cons_append, valFrom_cons]
    exact val_pad k l
theorem all_pad (k : Nat) {l : List UInt8} (h : l.all digitB = true) : (List.replicate k 48 ++ l).all digitB = true := by
  rw [List.all_append, h, Bool.and_true]
  rw [List.all_eq_true]
  intro x hx
  rw [List.eq_of_mem_replicate hx]; decide
/-- A word of digits, with a minus or not. -/
theorem num_pos {l : List UInt8} (h : l.all digitB = true) (hn : l ≠ []) : minus l = false ∧ mag l = l ∧ numL l = true := by
  have hm : minus l = false := by
    cases l with
    | nil => exact absurd rfl hn
    | cons c r =>
      rw [List.all_cons, Bool.and_eq_true] at h
      have := digit_ne h.1
      simp [minus, this]
  have hg : mag l = l := by simp [mag, hm]
  refine ⟨hm, hg, ?_⟩
  rw [numL, hg, h]; simpa using hn
theorem num_neg {l : List UInt8} (h : l.all digitB = true) (hn : l ≠ []) : minus (45 :: l) = true ∧ mag (45 :: l) = l ∧ numL (45 :: l) = true := by
  have hm : minus (45 :: l) = true := by simp [minus]
  have hg : mag (45 :: l) = l := by simp [mag, hm]
  refine ⟨hm, hg, ?_⟩
  rw [numL, hg, h]; simpa using hn
theorem itoa_num (n : Int) (h1 : -9223372036854775808 ≤ n) (h2 : n < 9223372036854775808) : numL (Lib.itoa n) = true ∧ intL (Lib.itoa n) = some n := by
  unfold Lib.itoa
  split
  · next h =>
    obtain ⟨a, b, c⟩ := num_neg (dec_digits _ _ (Nat.le_refl n.natAbs)) (dec_ne _)
    refine ⟨c, ?_⟩
    rw [intL, a, b, dec_val _ _ (Nat.le_refl _)]
    simp only [if_true]
    rw [if_pos (by omega)]
    congr 1; omega
  · next h =>
    obtain ⟨a, b, c⟩ := num_pos (dec_digits _ _ (Nat.le_refl n.toNat)) (dec_ne _)
    refine ⟨c, ?_⟩
    rw [intL, a, b, dec_val _ _ (Nat.le_refl _)]
    simp only [Bool.false_eq_true, if_false]
    rw [if_pos (by omega)]
    congr 1; omega

/-! ### Bare words -/
def letterB (c : UInt8) : Bool := decide ((97 ≤ c.toNat ∧ c.toNat ≤ 122) ∨ (65 ≤ c.toNat ∧ c.toNat ≤ 90))
def moreB (c : UInt8) : Bool := digitB c || c == 95 || c == 45 || c == 46 || c == 47
def nullW : List UInt8 := [110, 117, 108, 108]
def trueW : List UInt8 := [116, 114, 117, 101]
def falseW : List UInt8 := [102, 97, 108, 115, 101]
def okL : List UInt8 → Bool
  | [] => true
  | c :: r => letterB c && r.all (fun c => letterB c || moreB c)
def bareL (l : List UInt8) : Bool := okL l && !(l == [] || l == nullW || l == trueW || l == falseW)

/-! ### Quotes -/
/-- What stands in double quotes, behind the first one, and what stands behind it. -/
def dblL : List UInt8 → Option (List UInt8 × List UInt8)
  | [] => none
  | 34 :: r => some ([], r)
  | [92] => none
  | 92 :: c :: r => if c = 110 then (dblL r).map (fun p => (10 :: p.1, p.2)) else if c = 116 then (dblL r).map (fun p => (9 :: p.1, p.2)) else if c = 34 ∨ c = 92 then (dblL r).map (fun p => (c :: p.1, p.2)) else none
  | 10 :: _ => none
  | 9 :: _ => none
  | c :: r => (dblL r).map (fun p => (c :: p.1, p.2))
def sglL : List UInt8 → Option (List UInt8 × List UInt8)
  | [] => none
  | 39 :: 39 :: r => (sglL r).map (fun p => (39 :: p.1, p.2))
  | 39 :: r => some ([], r)
  | c :: r => (sglL r).map (fun p => (c :: p.1, p.2))
def sesc1 (c : UInt8) : List UInt8 := if c = 39 then [39, 39] else [c]
def sescL (s : List UInt8) : List UInt8 := s.flatMap sesc1
def singleL (s : List UInt8) : List UInt8 := 39 :: (sescL s ++ [39])
def unqL : List UInt8 → Option (List UInt8 × List UInt8)
  | 34 :: r => dblL r
  | 39 :: r => sglL r
  | _ => none
theorem dbl_esc : ∀ (s m : List UInt8), dblL (escL s ++ 34 :: m) = some (s, m)
  | [], m => by simp [escL, dblL]
  | c :: s, m => by
    have ih := dbl_esc s m
    have e : escL (c :: s) = esc1 c ++ escL s := by simp [escL]
    rw [e, List.append_assoc]
    by_cases h1 : c = 10
    · rw [esc1, if_pos h1]; show dblL (92 :: 110 :: (escL s ++ 34 :: m)) = _; rw [dblL, if_pos rfl, ih, h1]; rfl
    · by_cases h2 : c = 9
      · rw [esc1, if_neg h1, if_pos h2]; show dblL (92 :: 116 :: (escL s ++ 34 :: m)) = _; rw [dblL, if_neg (by decide), if_pos rfl, ih, h2]; rfl
      · by_cases h3 : c = 34 ∨ c = 92
        · rw [esc1, if_neg h1, if_neg h2, if_pos h3]; show dblL (92 :: c :: (escL s ++ 34 :: m)) = _
          rw [dblL, if_neg (by rintro rfl; simp at h3), if_neg (by rintro rfl; simp at h3), if_pos h3, ih]; rfl
        · rw [esc1, if_neg h1, if_neg h2, if_neg h3]; show dblL (c :: (escL s ++ 34 :: m)) = _
          rw [not_or] at h3
          rw [dblL, ih]
          · rfl
          all_goals simp_all
theorem dbl_back : ∀ (n : Nat) (l c d : List UInt8), l.length ≤ n → dblL l = some (c, d) → l = escL c ++ 34 :: d := by
  intro n
  induction n with
  | zero =>
    intro l c d hn h
    have : l = [] := List.length_eq_zero_iff.1 (by omega)
    subst this; rw [dblL] at h; cases h
  | succ n ih =>
    intro l c d hn h
    have cons : ∀ {a : UInt8} {pre r : List UInt8}, r.length ≤ n → esc1 a = pre → (dblL r).map (fun p => (a :: p.1, p.2)) = some (c, d) → pre ++ r = escL c ++ 34 :: d := by
      intro a pre r hr he hm
      cases hd : dblL r with
      | none => rw [hd] at hm; cases hm
      | some p =>
        rw [hd] at hm
        simp only [Option.map_some, Option.some.injEq, Prod.mk.injEq] at hm
        obtain ⟨rfl, rfl⟩ := hm
        rw [ih r p.1 p.2 hr hd, ← he]
        simp [escL]
    unfold dblL at h
    split at h
    · cases h
    · simp only [Option.some.injEq, Prod.mk.injEq] at h
      obtain ⟨rfl, rfl⟩ := h
      simp [escL]
    · cases h
    · next a r =>
      simp only [List.length_cons] at hn
      split at h
      · next e => subst e; exact cons (by omega) rfl h
      · split at h
        · next e => subst e; exact cons (by omega) rfl h
        · split at h
          · next e1 e2 e3 =>
            refine cons (pre := [92, a]) (by omega) ?_ h
            rw [esc1, if_neg (by rintro rfl; simp at e3), if_neg (by rintro rfl; simp at e3), if_pos e3]
          · cases h
    · cases h
    · cases h
    · next a r h34 h92 h92' h10 h9 =>
      simp only [List.length_cons] at hn
      refine cons (pre := [a]) (by omega) ?_ h
      have a34 : a ≠ 34 := fun e => h34 e
      have a10 : a ≠ 10 := fun e => h10 e
      have a9 : a ≠ 9 := fun e => h9 e
      have a92 : a ≠ 92 := fun e => by
        cases r with
        | nil => exact h92 e rfl
        | cons x r => exact h92' x r e rfl
      rw [esc1, if_neg a10, if_neg a9, if_neg (by rintro (h | h) <;> contradiction)]
theorem sgl_esc : ∀ (s m : List UInt8), m.head? ≠ some 39 → sglL (sescL s ++ 39 :: m) = some (s, m)
  | [], m, h => by
    simp only [sescL, List.flatMap_nil, List.nil_append]
    cases m with
    | nil => simp [sglL]
    | cons a m =>
      have : a ≠ 39 := fun e => h (by rw [e]; rfl)
      rw [sglL]
      intro r hr; injection hr with h1; exact this h1
  | c :: s, m, h => by
    have ih := sgl_esc s m h
    have e : sescL (c :: s) = sesc1 c ++ sescL s := by simp [sescL]
    rw [e, List.append_assoc]
    by_cases h1 : c = 39
    · rw [sesc1, if_pos h1]; show sglL (39 :: 39 :: (sescL s ++ 39 :: m)) = _; rw [sglL, ih, h1]; rfl
    · rw [sesc1, if_neg h1]; show sglL (c :: (sescL s ++ 39 :: m)) = _
      rw [sglL, ih]
      · rfl
      all_goals simp_all
theorem sgl_back : ∀ (n : Nat) (l c d : List UInt8), l.length ≤ n → sglL l = some (c, d) → l = sescL c ++ 39 :: d := by
  intro n
  induction n with
  | zero =>
    intro l c d hn h
    have : l = [] := List.length_eq_zero_iff.1 (by omega)
    subst this; rw [sglL] at h; cases h
  | succ n ih =>
    intro l c d hn h
    have cons : ∀ {a : UInt8} {pre r : List UInt8}, r.length ≤ n → sesc1 a = pre → (sglL r).map (fun p => (a :: p.1, p.2)) = some (c, d) → pre ++ r = sescL c ++ 39 :: d := by
      intro a pre r hr he hm
      cases hd : sglL r with
      | none => rw [hd] at hm; cases hm
      | some p =>
        rw [hd] at hm
        simp only [Option.map_some, Option.some.injEq, Prod.mk.injEq] at hm
        obtain ⟨rfl, rfl⟩ := hm
        rw [ih r p.1 p.2 hr hd, ← he]
        simp [sescL]
    unfold sglL at h
    split at h
    · cases h
    · next r => simp only [List.length_cons] at hn; exact cons (by omega) rfl h
    · simp only [Option.some.injEq, Prod.mk.injEq] at h
      obtain ⟨rfl, rfl⟩ := h
      simp [sescL]
    · next a r h39 h39' =>
      simp only [List.length_cons] at hn
      refine cons (pre := [a]) (by omega) ?_ h
      have a39 : a ≠ 39 := fun e => h39' e
      rw [sesc1, if_neg a39]
end Go.Proofs.YtnblmhfgmehnnaaGreatDoor

/- Which texts, and which keys, may be: the program's two functions and the reference's two. -/
namespace Go.Proofs.YtnblmhfgmehnnaaGreatDoor
open Go.RowKit

/-- How a byte stands to the bounds that the tests ask. -/
theorem byte_cases (n : Nat) : (n < 9) ∨ n = 9 ∨ n = 10 ∨ (10 < n ∧ n < 32) ∨ (32 ≤ n ∧ n ≤ 126) ∨ 126 < n := by omega

theorem textB_of_keyB {s : ByteArray} (h : keyB s = true) : textB s = true := by
  simp only [keyB, textB, Bool.and_eq_true, decide_eq_true_eq, List.all_eq_true] at h ⊢
  refine ⟨fun c hc => ?_, by omega⟩
  have := h.1.1 c hc
  simp only [okKey, decide_eq_true_eq] at this
  simp only [okText, Bool.or_eq_true, decide_eq_true_eq]
  exact .inl (.inl this)
theorem index_ge (l : List UInt8) (c : UInt8) : -1 ≤ Lib.indexByte l c := by
  induction l with
  | nil => simp [Lib.indexByte]
  | cons b l ih => simp only [Lib.indexByte]; split <;> (try split) <;> omega
theorem index_neg (l : List UInt8) (c : UInt8) : (0 ≤ Lib.indexByte l c) ↔ c ∈ l := by
  induction l with
  | nil => simp [Lib.indexByte]
  | cons b l ih =>
    have := index_ge l c
    simp only [Lib.indexByte, List.mem_cons]
    by_cases h : b = c
    · simp [h]
    · have h' : ¬ c = b := fun e => h e.symm
      simp only [beq_iff_eq, h, h', if_false, false_or, ← ih]
      split <;> omega

theorem keyB_of {s : ByteArray} (h1 : 1 ≤ s.size) (h2 : s.size ≤ 256) (ht : textB s = true) (h10 : ¬ (10 : UInt8) ∈ s.data.toList) (h9 : ¬ (9 : UInt8) ∈ s.data.toList) : keyB s = true := by
  simp only [keyB, textB, Bool.and_eq_true, decide_eq_true_eq, List.all_eq_true] at ht ⊢
  refine ⟨⟨fun c hc => ?_, h1⟩, h2⟩
  have := ht.1 c hc
  simp only [okText, Bool.or_eq_true, decide_eq_true_eq] at this
  simp only [okKey, decide_eq_true_eq]
  rcases this with (h | h) | h
  · exact h
  · exact absurd (show c = 9 from UInt8.toNat_inj.1 h) (fun e => h9 (e ▸ hc))
  · exact absurd (show c = 10 from UInt8.toNat_inj.1 h) (fun e => h10 (e ▸ hc))
theorem keyB_not_mem {s : ByteArray} {c : UInt8} (hc : c ∈ s.data.toList) (h : okKey c = false) : keyB s = false := by
  cases hk : keyB s with
  | false => rfl
  | true =>
    simp only [keyB, Bool.and_eq_true, decide_eq_true_eq, List.all_eq_true] at hk
    have := hk.1.1 c hc
    rw [h] at this; cases this

end Go.Proofs.YtnblmhfgmehnnaaGreatDoor

/- What is wrong with a value, part by part: what the functions compute. -/
namespace Go.Proofs.YtnblmhfgmehnnaaGreatDoor
open Go.RowKit

/-- It has just what its kind has. -/
def T.bareB (t : T) : Bool :=
  decide (0 ≤ t.kind) && decide (t.kind ≤ 5) && (decide (t.kind = 1) || !t.bool) && (decide (t.kind = 2) || decide (t.int = 0)) && (decide (t.kind = 3) || t.str.toList.isEmpty) &&
    (decide (t.kind = 4) || t.list.isEmpty) && (decide (t.kind = 5) || t.map.isEmpty)

mutual
def T.parts : T → Int
  | .mk k b n s l m => if T.bareB (.mk k b n s l m) then (if textB s then (if T.partsL l ≠ 0 then T.partsL l else T.partsM none m) else 10) else 8
def T.partsL : List T → Int
  | [] => 0
  | x :: l => if x.parts ≠ 0 then x.parts else T.partsL l
def T.partsM : Option ByteArray → List (ByteArray × T) → Int
  | _, [] => 0
  | prev, p :: r => if keyB p.1 then (if (match prev with | some q => klt q p.1 | none => true) then (if T.partsP p ≠ 0 then T.partsP p else T.partsM (some p.1) r) else 13) else 7
def T.partsP : (ByteArray × T) → Int
  | (_, x) => x.parts
end
theorem T.partsP_eq (p : ByteArray × T) : T.partsP p = p.2.parts := by cases p; simp [T.partsP]
theorem partsM_cons (prev : Option ByteArray) (p : ByteArray × T) (r : List (ByteArray × T)) : T.partsM prev (p :: r) = if keyB p.1 then (if (match prev with | some q => klt q p.1 | none => true) then (if T.partsP p ≠ 0 then T.partsP p else T.partsM (some p.1) r) else 13) else 7 := by
  cases prev <;> simp [T.partsM]
theorem T.parts_eq (t : T) : t.parts = if t.bareB then (if textB t.str then (if T.partsL t.list ≠ 0 then T.partsL t.list else T.partsM none t.map) else 10) else 8 := by
  cases t; rw [T.parts]; rfl

theorem partsL_drop (l : List T) (q : Nat) (h : ∀ j (hj : j < l.length), j < q → l[j].parts = 0) : T.partsL l = T.partsL (l.drop q) := by
  induction q generalizing l with
  | zero => rfl
  | succ q ih =>
    cases l with
    | nil => rfl
    | cons x l =>
      rw [List.drop_succ_cons, T.partsL, if_neg (fun hne => hne (h 0 (by simp) (by omega)))]
      exact ih l fun j hj hq => h (j + 1) (by simpa using hj) (by omega)
theorem partsL_stop {l : List T} {q : Nat} (h : ∀ j (hj : j < l.length), j < q → l[j].parts = 0) (hq : q < l.length) (hne : l[q].parts ≠ 0) : T.partsL l = l[q].parts := by
  rw [partsL_drop l q h, List.drop_eq_getElem_cons hq, T.partsL, if_pos hne]
theorem partsL_all {l : List T} (h : ∀ j (hj : j < l.length), l[j].parts = 0) : T.partsL l = 0 := by
  rw [partsL_drop l l.length fun j hj _ => h j hj, List.drop_length, T.partsL]

/-- Pair j is as it should be. -/
def okAt (m : List (ByteArray × T)) (j : Nat) : Prop := ∀ h : j < m.length, keyB m[j].1 = true ∧ (∀ h0 : 0 < j, klt m[j - 1].1 m[j].1 = true) ∧ m[j].2.parts = 0
def prevOf (m : List (ByteArray × T)) (q : Nat) : Option ByteArray := if h : 0 < q ∧ q - 1 < m.length then some m[q - 1].1 else none
theorem partsM_drop (m : List (ByteArray × T)) (q : Nat) (hq : q ≤ m.length) (h : ∀ j, j < q → okAt m j) : T.partsM none m = T.partsM (prevOf m q) (m.drop q) := by
  induction q with
  | zero => simp [prevOf]
  | succ q ih =>
    have hlt : q < m.length := by omega
    rw [ih (by omega) fun j hj => h j (by omega), List.drop_eq_getElem_cons hlt, partsM_cons]
    obtain ⟨h1, h2, h3⟩ := h q (by omega) hlt
    rw [if_pos h1, if_pos, if_neg]
    · congr 1
      simp [prevOf, hlt]
    · rw [T.partsP_eq]; simp [h3]
    · by_cases h0 : 0 < q
      · rw [prevOf, dif_pos ⟨h0, by omega⟩]
        exact h2 h0
      · rw [prevOf, dif_neg (by omega)]
section
variable {m : List (ByteArray × T)} {q : Nat}
theorem partsM_key (h : ∀ j, j < q → okAt m j) (hq : q < m.length) (hk : keyB m[q].1 = false) : T.partsM none m = 7 := by
  rw [partsM_drop m q (by omega) h, List.drop_eq_getElem_cons hq, partsM_cons, if_neg (by simp [hk])]
theorem partsM_twice (h : ∀ j, j < q → okAt m j) (hq : q < m.length) (hk : keyB m[q].1 = true) (h0 : 0 < q) (hl : klt m[q - 1].1 m[q].1 = false) : T.partsM none m = 13 := by
  rw [partsM_drop m q (by omega) h, List.drop_eq_getElem_cons hq, partsM_cons, if_pos hk, prevOf, dif_pos ⟨h0, by omega⟩]
  simp [hl]
theorem partsM_val (h : ∀ j, j < q → okAt m j) (hq : q < m.length) (hk : keyB m[q].1 = true) (hl : ∀ h0 : 0 < q, klt m[q - 1].1 m[q].1 = true) (hne : m[q].2.parts ≠ 0) : T.partsM none m = m[q].2.parts := by
  rw [partsM_drop m q (by omega) h, List.drop_eq_getElem_cons hq, partsM_cons, if_pos hk, if_pos, T.partsP_eq, if_pos hne]
  by_cases h0 : 0 < q
  · rw [prevOf, dif_pos ⟨h0, by omega⟩]
    exact hl h0
  · rw [prevOf, dif_neg (by omega)]
theorem partsM_all (h : ∀ j, j < m.length → okAt m j) : T.partsM none m = 0 := by
  rw [partsM_drop m m.length (Nat.le_refl _) h, List.drop_length, T.partsM]
end
theorem parts_bare {t : T} (h : t.bareB = false) : t.parts = 8 := by rw [t.parts_eq]; simp [h]
theorem parts_text {t : T} (h : t.bareB = true) (h2 : textB t.str = false) : t.parts = 10 := by rw [t.parts_eq]; simp [h, h2]
theorem parts_list {t : T} (h : t.bareB = true) (h2 : textB t.str = true) (h3 : T.partsL t.list ≠ 0) : t.parts = T.partsL t.list := by rw [t.parts_eq]; simp [h, h2, h3]
theorem parts_map {t : T} (h : t.bareB = true) (h2 : textB t.str = true) (h3 : T.partsL t.list = 0) : t.parts = T.partsM none t.map := by rw [t.parts_eq]; simp [h, h2, h3]
/-- The error numbers that parts may answer. -/
theorem parts_range (t : T) : 0 ≤ t.parts ∧ t.parts ≤ 13 := by
  induction t using T.ind' with
  | h t ihl ihm =>
    rw [t.parts_eq]
    have hl : 0 ≤ T.partsL t.list ∧ T.partsL t.list ≤ 13 := by
      generalize t.list = l at ihl
      induction l with
      | nil => simp [T.partsL]
      | cons x l ih =>
        rw [T.partsL]
        split
        · exact ihl x (by simp)
        · exact ih fun y hy => ihl y (by simp [hy])
    have hm : ∀ o, 0 ≤ T.partsM o t.map ∧ T.partsM o t.map ≤ 13 := by
      generalize t.map = l at ihm
      induction l with
      | nil => simp [T.partsM]
      | cons x l ih =>
        intro o
        rw [partsM_cons, T.partsP_eq]
        have h1 := ihm x (by simp)
        have h2 := ih (fun y hy => ihm y (by simp [hy])) (some x.1)
        generalize (match o with | some q => klt q x.1 | none => true) = bb
        cases bb <;> (repeat' split) <;> omega
    split
    · split
      · split
        · exact hl
        · exact hm _
      · omega
    · omega

end Go.Proofs.YtnblmhfgmehnnaaGreatDoor

/- The reference's parts, and its Check. -/
namespace Go.Proofs.YtnblmhfgmehnnaaGreatDoor
open Go.RowKit
attribute [local go_sem ↓] Go.wp_at_zero Go.wp_at_succ

def PartsOk (f : Nat) (t : T) : Prop := ∀ (w : World) (S : Nat → Prop) (v : Value), RepT w S v t →
    Calls Tryz.prog f #[v] w fun e w' => e = .returned (.int .i64 t.parts) ∧ Below w.heap.size w w'

theorem str_empty {s : ByteArray} : (s.toList == []) = s.toList.isEmpty := by cases s.toList <;> rfl

theorem len_pos {α : Type} (l : List α) : decide (0 < l.length) = !l.isEmpty := by cases l <;> simp

end Go.Proofs.YtnblmhfgmehnnaaGreatDoor

/- The weight of a value: what it answers where it is small. -/
namespace Go.Proofs.YtnblmhfgmehnnaaGreatDoor
open Go.RowKit
attribute [local go_sem ↓] Go.wp_at_zero Go.wp_at_succ

mutual
def T.wt : T → Nat
  | .mk _ _ _ s l m => 1 + s.size + T.wtL l + T.wtM m
def T.wtL : List T → Nat
  | [] => 0
  | x :: l => x.wt + T.wtL l
def T.wtM : List (ByteArray × T) → Nat
  | [] => 0
  | p :: l => T.wtP p + T.wtM l
def T.wtP : (ByteArray × T) → Nat
  | (k, x) => x.wt + k.size
end
theorem T.wt_eq (t : T) : t.wt = 1 + t.str.size + T.wtL t.list + T.wtM t.map := by cases t; simp [T.wt, T.list, T.map, T.str]
theorem T.wtL_take (l : List T) (k : Nat) (h : k < l.length) : T.wtL (l.take (k + 1)) = T.wtL (l.take k) + l[k].wt := by
  induction l generalizing k with
  | nil => simp at h
  | cons x l ih =>
    cases k with
    | zero => simp [T.wtL]
    | succ k => simp only [List.take_succ_cons, T.wtL, List.getElem_cons_succ]; rw [ih k (by simpa using h)]; omega
theorem T.wtM_take (l : List (ByteArray × T)) (k : Nat) (h : k < l.length) : T.wtM (l.take (k + 1)) = T.wtM (l.take k) + (l[k].2.wt + l[k].1.size) := by
  induction l generalizing k with
  | nil => simp at h
  | cons x l ih =>
    cases k with
    | zero => cases x; simp [T.wtM, T.wtP]
    | succ k => simp only [List.take_succ_cons, T.wtM, List.getElem_cons_succ]; rw [ih k (by simpa using h)]; omega

/-- What the weight answers: within bounds, and exact enough where it is small. -/
def WtPost (w : World) (m : Nat) (d : Int) (e : Ending) (w' : World) : Prop :=
  ∃ n : Int, e = .returned (.int .i64 n) ∧ 0 ≤ n ∧ n ≤ 281474976710656 * (43 - d) ∧ (n ≤ 6000 → (m : Int) ≤ n) ∧ Below w.heap.size w w'
theorem wt_nonneg {m : Nat} {n d : Int} {w w' : World} (h0 : 0 ≤ n) (h1 : n ≤ 281474976710656 * (43 - d)) (h2 : n ≤ 6000 → (m : Int) ≤ n) (h3 : Below w.heap.size w w') : WtPost w m d (.returned (.int .i64 n)) w' := ⟨n, rfl, h0, h1, h2, h3⟩

theorem wt_sums {d n r z : Int} (hd0 : 0 ≤ d) (hz : z ≤ 140737488351232) (hn0 : 0 ≤ n) (hn1 : n ≤ 140737488351233) (hr0 : 0 ≤ r) (hr1 : r ≤ 281474976710656 * (43 - (d + 1))) (hz0 : 0 ≤ z) :
    IntKind.i64.wrap (r + z) = r + z ∧ IntKind.i64.wrap (n + (r + z)) = n + (r + z) := ⟨wrap_fit (by omega) (by omega), wrap_fit (by omega) (by omega)⟩

end Go.Proofs.YtnblmhfgmehnnaaGreatDoor

/- Which values are right: the reference's Check, Light, Right. -/
namespace Go.Proofs.YtnblmhfgmehnnaaGreatDoor
open Go.RowKit

/-- What is wrong with a value. -/
def T.check (t : T) : Int := if 16 < t.depth then 5 else if 4096 < t.size then 6 else t.parts
def Good (t : T) : Prop := t.wt ≤ 6000 ∧ t.check = 0

theorem size_le_wt (t : T) : t.size ≤ t.wt := by
  induction t using T.ind' with
  | h t ihl ihm =>
    rw [t.wt_eq, t.size_eq]
    have hl : T.sizeL t.list ≤ T.wtL t.list := by
      generalize t.list = l at ihl
      induction l with
      | nil => simp [T.sizeL]
      | cons x l ih =>
        have := ihl x (by simp)
        have := ih (fun y hy => ihl y (by simp [hy]))
        simp only [T.sizeL, T.wtL]; omega
    have hm : T.sizeM t.map ≤ T.wtM t.map := by
      generalize t.map = l at ihm
      induction l with
      | nil => simp [T.sizeM]
      | cons x l ih =>
        obtain ⟨k, x⟩ := x
        have := ihm (k, x) (by simp)
        have := ih (fun y hy => ihm y (by simp [hy]))
        simp only [T.sizeM, T.wtM, T.sizeP, T.wtP] at *; omega
    omega

def LightPost (w : World) (m : Nat) (e : Ending) (w' : World) : Prop := ∃ b : Bool, e = .returned (.bool b) ∧ (b = true → m ≤ 6000) ∧ Below w.heap.size w w'
def RightPost (w : World) (l : List T) (e : Ending) (w' : World) : Prop := ∃ b : Bool, e = .returned (.bool b) ∧ (b = true → ∀ t ∈ l, Good t) ∧ Below w.heap.size w w'
end Go.Proofs.YtnblmhfgmehnnaaGreatDoor

/- What scalar computes on trees, and what the laws ask of it, plainly. -/
namespace Go.Proofs.YtnblmhfgmehnnaaGreatDoor

def tN (n : Int) : T := .mk 2 false n ⟨#[]⟩ [] []
def tS (s : ByteArray) : T := .mk 3 false 0 s [] []
def tB (b : Bool) : T := .mk 1 b 0 ⟨#[]⟩ [] []
def nullish (l : List UInt8) : Prop := l = [] ∨ l = [126] ∨ l = nullW
instance (l : List UInt8) : Decidable (nullish l) := by unfold nullish; infer_instance
/-- The value of a word; none: too great. -/
def parseT (s : ByteArray) : Option T :=
  if nullish s.data.toList then some T.zero
  else if s.data.toList = trueW then some (tB true)
  else if s.data.toList = falseW then some (tB false)
  else if numL s.data.toList then (intL s.data.toList).map tN
  else some (tS s)
/-- A value's word. -/
def printL (t : T) : List UInt8 :=
  if t.kind = 1 then (if t.bool then trueW else falseW)
  else if t.kind = 2 then Lib.itoa t.int
  else if t.kind = 3 then (if bareL t.str.data.toList then t.str.data.toList else quoteL t.str.data.toList)
  else if t.kind = 4 then [91, 93]
  else if t.kind = 5 then [123, 125]
  else nullW
/-- A value as it stands in a text. -/
def textL (t : T) : List UInt8 := if t.kind = 0 then [] else if t.kind = 3 then t.str.data.toList else printL t

theorem num_special : numL [] = false ∧ numL [126] = false ∧ numL nullW = false ∧ numL trueW = false ∧ numL falseW = false := by decide
theorem num_plain {l : List UInt8} (h : numL l = true) : ¬ nullish l ∧ l ≠ trueW ∧ l ≠ falseW := by
  obtain ⟨a, b, c, d, e⟩ := num_special
  refine ⟨?_, ?_, ?_⟩
  · rintro (rfl | rfl | rfl)
    · rw [a] at h; cases h
    · rw [b] at h; cases h
    · rw [c] at h; cases h
  · rintro rfl; rw [d] at h; cases h
  · rintro rfl; rw [e] at h; cases h
theorem parse_int {s : ByteArray} {n : Int} (h : numL s.data.toList = true) (hn : intL s.data.toList = some n) : parseT s = some (tN n) := by
  obtain ⟨a, b, c⟩ := num_plain h
  rw [parseT, if_neg a, if_neg b, if_neg c, if_pos h, hn]; rfl
theorem letter_digit {c : UInt8} (h : letterB c = true) : digitB c = false ∧ c ≠ 45 ∧ c ≠ 126 ∧ c ≠ 34 ∧ c ≠ 39 := by
  have h1 : (97 ≤ c.toNat ∧ c.toNat ≤ 122) ∨ (65 ≤ c.toNat ∧ c.toNat ≤ 90) := by simpa [letterB] using h
  refine ⟨?_, ?_, ?_, ?_, ?_⟩
  · cases hd : digitB c with
    | false => rfl
    | true =>
      have h2 : 48 ≤ c.toNat ∧ c.toNat ≤ 57 := by simpa [digitB] using hd
      omega
  all_goals (rintro rfl; revert h1; decide)
theorem bare_parts {l : List UInt8} (h : bareL l = true) : okL l = true ∧ l ≠ [] ∧ l ≠ nullW ∧ l ≠ trueW ∧ l ≠ falseW := by
  unfold bareL at h
  simp only [Bool.and_eq_true, Bool.not_eq_true', Bool.or_eq_false_iff, beq_eq_false_iff_ne] at h
  exact ⟨h.1, h.2.1.1.1, h.2.1.1.2, h.2.1.2, h.2.2⟩
theorem bare_head {l : List UInt8} (h : bareL l = true) : ∃ c r, l = c :: r ∧ letterB c = true := by
  obtain ⟨h1, h2, -⟩ := bare_parts h
  cases l with
  | nil => exact absurd rfl h2
  | cons c r =>
    rw [okL, Bool.and_eq_true] at h1
    exact ⟨c, r, rfl, h1.1⟩
theorem bare_num {l : List UInt8} (h : bareL l = true) : numL l = false := by
  obtain ⟨c, r, rfl, hc⟩ := bare_head h
  obtain ⟨h1, h2, -⟩ := letter_digit hc
  have hm : minus (c :: r) = false := by simp [minus, h2]
  simp [numL, mag, hm, h1]
theorem parse_bare {s : ByteArray} (h : bareL s.data.toList = true) : parseT s = some (tS s) := by
  obtain ⟨h1, h2, h3, h4, h5⟩ := bare_parts h
  obtain ⟨c, r, e, hc⟩ := bare_head h
  have hz : ¬ nullish s.data.toList := by
    rintro (h | h | h)
    · exact h2 h
    · rw [e] at h; injection h with h _; exact (letter_digit hc).2.2.1 h
    · exact h3 h
  rw [parseT, if_neg hz, if_neg h4, if_neg h5, bare_num h]; rfl
/-- Bare texts, one byte longer. -/
theorem bare_more {l : List UInt8} {c : UInt8} (h : bareL l = true) (hc : (letterB c || moreB c) = true) (h1 : c ≠ 108) (h2 : c ≠ 101) : bareL (l ++ [c]) = true := by
  obtain ⟨a, b, -⟩ := bare_parts h
  have ho : okL (l ++ [c]) = true := by
    cases l with
    | nil => exact absurd rfl b
    | cons d r =>
      rw [okL, Bool.and_eq_true] at a
      rw [List.cons_append, okL, a.1, List.all_append, a.2]
      simpa using hc
  have hl : (l ++ [c]).getLast? = some c := by simp
  have ne : ∀ {w : List UInt8} {d : UInt8}, w.getLast? = some d → c ≠ d → (l ++ [c] == w) = false := fun hw hd => by
    rw [beq_eq_false_iff_ne]
    rintro e
    rw [e, hw] at hl
    injection hl with hl
    exact hd hl.symm
  unfold bareL
  rw [ho, ne (w := nullW) (d := 108) rfl h1, ne (w := trueW) (d := 101) rfl h2, ne (w := falseW) (d := 101) rfl h2]
  simp
theorem bare_not {c : UInt8} {l : List UInt8} (h : letterB c = false) : bareL (c :: l) = false := by
  simp [bareL, okL, h]
theorem digit_letter {c : UInt8} (h : digitB c = true) : letterB c = false := by
  have h2 : 48 ≤ c.toNat ∧ c.toNat ≤ 57 := by simpa [digitB] using h
  simp [letterB]; omega
theorem num_bare {l : List UInt8} (h : numL l = true) : bareL l = false := by
  cases hb : bareL l with
  | false => rfl
  | true => rw [bare_num hb] at h; cases h
theorem quote_num (l : List UInt8) : numL (quoteL l) = false := by
  have hm : minus (quoteL l) = false := by simp [minus, quoteL]
  have hg : mag (quoteL l) = quoteL l := by rw [mag, hm]; rfl
  rw [numL, hg]; simp [quoteL, digitB]
theorem parse_quote {s : ByteArray} {l : List UInt8} (h : s.data.toList = quoteL l) : parseT s = some (tS s) := by
  have hz : ¬ nullish s.data.toList := by rw [h]; rintro (h | h | h) <;> simp [quoteL, nullW] at h
  have h4 : s.data.toList ≠ trueW := by rw [h]; simp [quoteL, trueW]
  have h5 : s.data.toList ≠ falseW := by rw [h]; simp [quoteL, falseW]
  rw [parseT, if_neg hz, if_neg h4, if_neg h5, h, quote_num]; rfl
/-- Noughts ahead. -/
def padded (n : Int) (k : Nat) : List UInt8 := if n < 0 then 45 :: (List.replicate k 48 ++ Lib.decDigits n.natAbs) else List.replicate k 48 ++ Lib.decDigits n.toNat
theorem pad_num (n : Int) (k : Nat) (h1 : -9223372036854775808 ≤ n) (h2 : n < 9223372036854775808) : numL (padded n k) = true ∧ intL (padded n k) = some n := by
  unfold padded
  split
  · next h =>
    obtain ⟨a, b, c⟩ := num_neg (all_pad k (dec_digits _ _ (Nat.le_refl n.natAbs))) (by simp [dec_ne])
    refine ⟨c, ?_⟩
    rw [intL, a, b, val_pad, dec_val _ _ (Nat.le_refl _)]
    simp only [if_true]
    rw [if_pos (by omega)]
    congr 1; omega
  · next h =>
    obtain ⟨a, b, c⟩ := num_pos (all_pad k (dec_digits _ _ (Nat.le_refl n.toNat))) (by simp [dec_ne])
    refine ⟨c, ?_⟩
    rw [intL, a, b, val_pad, dec_val _ _ (Nat.le_refl _)]
    simp only [Bool.false_eq_true, if_false]
    rw [if_pos (by omega)]
    congr 1; omega

/-! ### A word that is printed is read as it was -/
theorem Good.leaf {t : T} (h : Good t) : 0 ≤ t.kind ∧ t.kind ≤ 5 ∧ (t.kind = 0 → t = T.zero) ∧ (t.kind = 1 → t = tB t.bool) ∧ (t.kind = 2 → t = tN t.int) ∧ (t.kind = 3 → t = tS t.str) := by
  have hp : t.parts = 0 := by
    have := h.2
    unfold T.check at this
    split at this
    · omega
    · split at this
      · omega
      · exact this
  have hb : t.bareB = true := by
    rw [T.parts_eq] at hp
    cases hb : t.bareB with
    | true => rfl
    | false => rw [hb] at hp; simp at hp
  unfold T.bareB at hb
  simp only [Bool.and_eq_true, Bool.or_eq_true, decide_eq_true_eq, Bool.not_eq_true', List.isEmpty_iff] at hb
  obtain ⟨⟨⟨⟨⟨⟨a, b⟩, h1⟩, h2⟩, h3⟩, h4⟩, h5⟩ := hb
  cases t with
  | mk k b0 n s l m =>
    simp only [T.kind, T.bool, T.int, T.str, T.list, T.map] at *
    have hs : s.toList = [] → s = ⟨#[]⟩ := fun e => list_ext (by rw [← ByteArray.toList_eq]; exact e)
    refine ⟨a, b, fun e => ?_, fun e => ?_, fun e => ?_, fun e => ?_⟩
    all_goals (subst e; simp at h1 h2 h3 h4 h5; simp only [T.zero, tB, tN, tS, T.mk.injEq, true_and]; simp_all)
/-- What P4.3 asks of a printed word, where it isn't in quotes. -/
theorem print_back {t : T} {s : ByteArray} (h : Good t) (hk : t.kind < 4) (hn : i64ok t.int) (hs : s.data.toList = printL t) (hq : t.kind = 3 → bareL t.str.data.toList = true) : parseT s = some t := by
  obtain ⟨a, b, h0, h1, h2, h3⟩ := h.leaf
  have hz : t.kind = 0 ∨ t.kind = 1 ∨ t.kind = 2 ∨ t.kind = 3 := by omega
  rcases hz with e | e | e | e
  · have hl : s.data.toList = nullW := by rw [hs]; simp [printL, e]
    rw [parseT, if_pos (by rw [hl]; exact .inr (.inr rfl)), ← h0 e]
  · cases hb : t.bool with
    | true =>
      have hl : s.data.toList = trueW := by rw [hs]; simp [printL, e, hb]
      rw [parseT, if_neg (by rw [hl]; decide), if_pos hl, h1 e, hb]
    | false =>
      have hl : s.data.toList = falseW := by rw [hs]; simp [printL, e, hb]
      rw [parseT, if_neg (by rw [hl]; decide), if_neg (by rw [hl]; decide), if_pos hl, h1 e, hb]
  · have hl : s.data.toList = Lib.itoa t.int := by rw [hs]; simp [printL, e]
    unfold i64ok at hn
    obtain ⟨p, q⟩ := itoa_num t.int (by omega) (by omega)
    rw [parse_int (by rw [hl]; exact p) (by rw [hl]; exact q), ← h2 e]
  · have hl : s.data.toList = t.str.data.toList := by rw [hs]; simp [printL, e, hq e]
    have es : s = t.str := list_ext hl
    rw [parse_bare (by rw [hl]; exact hq e), es, ← h3 e]
theorem print_quote {t : T} (e : t.kind = 3) (hq : bareL t.str.data.toList = false) : printL t = quoteL t.str.data.toList := by simp [printL, e, hq]
theorem print_bare {t : T} (e : t.kind = 3) (hq : bareL t.str.data.toList = true) : printL t = t.str.data.toList := by simp [printL, e, hq]

/-! ### Quotes -/
theorem unq_quote (s m : List UInt8) : unqL (quoteL s ++ m) = some (s, m) := by
  have e : quoteL s ++ m = 34 :: (escL s ++ 34 :: m) := by simp [quoteL]
  rw [e, unqL, dbl_esc]
theorem unq_single {s m : List UInt8} (h : m.head? ≠ some 39) : unqL (singleL s ++ m) = some (s, m) := by
  have e : singleL s ++ m = 39 :: (sescL s ++ 39 :: m) := by simp [singleL]
  rw [e, unqL, sgl_esc s m h]
theorem unq_back {l c d : List UInt8} (h : unqL l = some (c, d)) : l = quoteL c ++ d ∨ l = singleL c ++ d := by
  unfold unqL at h
  split at h
  · next r => left; rw [dbl_back r.length r c d (Nat.le_refl _) h]; simp [quoteL]
  · next r => right; rw [sgl_back r.length r c d (Nat.le_refl _) h]; simp [singleL]
  · cases h
theorem unq_bare {l : List UInt8} (h : bareL l = true) : unqL l = none := by
  obtain ⟨c, r, rfl, hc⟩ := bare_head h
  obtain ⟨-, -, -, h1, h2⟩ := letter_digit hc
  unfold unqL
  split
  · next e => injection e with e _; exact absurd e h1
  · next e => injection e with e _; exact absurd e h2
  · rfl
end Go.Proofs.YtnblmhfgmehnnaaGreatDoor

/- What parse computes, plainly: the trees of expressions and of nodes, and how they are read. -/
namespace Go.Proofs.YtnblmhfgmehnnaaGreatDoor

/-- A text of bytes. -/
abbrev bs (l : List UInt8) : ByteArray := ⟨l.toArray⟩
theorem bs_list (l : List UInt8) : (bs l).data.toList = l := rfl
theorem bs_of (b : ByteArray) : bs b.data.toList = b := rfl
theorem bs_size (l : List UInt8) : (bs l).size = l.length := by simp [ByteArray.size]
theorem bs_inj {l m : List UInt8} : bs l = bs m ↔ l = m := ⟨fun h => by have := congrArg (fun b => b.data.toList) h; simpa using this, fun h => by rw [h]⟩

/-- An expression: a literal 0, the dot's 1, a variable's 2, a call 3. -/
inductive Ex where
  | mk (kind : Int) (v : T) (name : ByteArray) (steps : List ByteArray) (args : List Ex)
def Ex.kind : Ex → Int | .mk k _ _ _ _ => k
def Ex.val : Ex → T | .mk _ v _ _ _ => v
def Ex.name : Ex → ByteArray | .mk _ _ n _ _ => n
def Ex.steps : Ex → List ByteArray | .mk _ _ _ s _ => s
def Ex.args : Ex → List Ex | .mk _ _ _ _ a => a
def Ex.zero : Ex := .mk 0 T.zero ⟨#[]⟩ [] []
def Ex.lit (t : T) : Ex := .mk 0 t ⟨#[]⟩ [] []
def Ex.call (n : ByteArray) (l : List Ex) : Ex := .mk 3 T.zero n [] l
/-- One argument more, the last one. -/
def Ex.push (y x : Ex) : Ex := .mk y.kind y.val y.name y.steps (y.args ++ [x])

/-- A node: a text 0, an output 1, if 2, with 3, range 4, let 5, define 6. -/
inductive Nd where
  | mk (kind : Int) (text : ByteArray) (x : Ex) (key name : ByteArray) (body els : List Nd)
def Nd.kind : Nd → Int | .mk k _ _ _ _ _ _ => k
def Nd.text : Nd → ByteArray | .mk _ t _ _ _ _ _ => t
def Nd.x : Nd → Ex | .mk _ _ x _ _ _ _ => x
def Nd.key : Nd → ByteArray | .mk _ _ _ k _ _ _ => k
def Nd.name : Nd → ByteArray | .mk _ _ _ _ n _ _ => n
def Nd.body : Nd → List Nd | .mk _ _ _ _ _ b _ => b
def Nd.els : Nd → List Nd | .mk _ _ _ _ _ _ e => e
def Nd.zero : Nd := .mk 0 ⟨#[]⟩ Ex.zero ⟨#[]⟩ ⟨#[]⟩ [] []

/-! ### Names -/
def nletB (c : UInt8) : Bool := letterB c || decide (c = 95)
def npartB (c : UInt8) : Bool := nletB c || digitB c
/-- How much of a text is a name that it begins with. -/
def nameK : List UInt8 → Nat
  | [] => 0
  | c :: r => if nletB c then 1 + (r.takeWhile npartB).length else 0
def nameL (l : List UInt8) : Bool := l.all npartB && (match l with | [] => false | c :: _ => nletB c) && decide (l.length ≤ 256)
theorem takeWhile_len {α : Type} (p : α → Bool) : ∀ l : List α, (l.takeWhile p).length ≤ l.length
  | [] => Nat.le_refl _
  | a :: l => by
    rw [List.takeWhile_cons]
    split
    · simp only [List.length_cons]; have := takeWhile_len p l; omega
    · simp
theorem nameK_le (l : List UInt8) : nameK l ≤ l.length := by
  cases l with
  | nil => exact Nat.le_refl _
  | cons c r =>
    rw [nameK]
    split
    · simp only [List.length_cons]; have := takeWhile_len npartB r; omega
    · exact Nat.zero_le _
def nameT (l : List UInt8) : ByteArray := bs (l.take (nameK l))
def nameD (l : List UInt8) : List UInt8 := l.drop (nameK l)
theorem nameD_len (l : List UInt8) : (nameD l).length + nameK l = l.length := by have := nameK_le l; unfold nameD; simp; omega
/-- Names with dots ahead. -/
def stepsL : Nat → List UInt8 → List ByteArray × List UInt8
  | 0, l => ([], l)
  | n + 1, 46 :: c :: r => if nletB c then (nameT (c :: r) :: (stepsL n (nameD (c :: r))).1, (stepsL n (nameD (c :: r))).2) else ([], 46 :: c :: r)
  | _ + 1, l => ([], l)
def skipB (l : List UInt8) : List UInt8 := Lib.trimLeftS l blanks

/-! ### Expressions -/
/-- Where a reader stands: what is left, how deep it is, what is wrong. -/
structure Rd where
  s : List UInt8
  deep : Int
  bad : Int
def Rd.fail (r : Rd) (e : Int) : Rd := ⟨[], r.deep, if r.bad = 0 then e else r.bad⟩
def Rd.go (r : Rd) (s : List UInt8) : Rd := ⟨s, r.deep, r.bad⟩
def numK (l : List UInt8) : Nat := 1 + (l.tail.takeWhile digitB).length
/-- A number's value; or what is wrong. -/
def numV (l : List UInt8) : Option T := match parseT (bs l) with
  | some t => if t.kind = 2 then some t else none
  | none => none
def numE (l : List UInt8) : Int := if (parseT (bs l)).isSome then 20 else 9
/-- What an operand comes to that isn't in brackets; none: brackets. -/
def plainOp (r : Rd) : Option ((Ex × Bool) × Rd) :=
  match skipB r.s with
  | [] => some ((Ex.zero, false), r.go [])
  | c :: l =>
    if c = 34 then match unqL (c :: l) with
      | some (t, rest) => some ((Ex.lit (tS (bs t)), true), r.go rest)
      | none => some ((Ex.zero, true), (r.go (c :: l)).fail 11)
    else if c = 45 ∨ digitB c then match numV ((c :: l).take (numK (c :: l))) with
      | some t => some ((Ex.lit t, true), r.go ((c :: l).drop (numK (c :: l))))
      | none => some ((Ex.zero, true), (r.go (c :: l)).fail (numE ((c :: l).take (numK (c :: l)))))
    else if c = 46 then match stepsL (l.length + 1) (c :: l) with
      | ([], rest) => some ((.mk 1 T.zero ⟨#[]⟩ [] [], true), r.go (rest.drop 1))
      | (s :: st, rest) => some ((.mk 1 T.zero ⟨#[]⟩ (s :: st) [], true), r.go rest)
    else if c = 36 then
      if nameK l = 0 then some ((Ex.zero, true), (r.go l).fail 20)
      else some ((.mk 2 T.zero (nameT l) (stepsL (l.length + 1) (nameD l)).1 [], true), r.go (stepsL (l.length + 1) (nameD l)).2)
    else if c = 40 then none
    else if nletB c then
      if (c :: l).take (nameK (c :: l)) = trueW then some ((Ex.lit (tB true), true), r.go (nameD (c :: l)))
      else if (c :: l).take (nameK (c :: l)) = falseW then some ((Ex.lit (tB false), true), r.go (nameD (c :: l)))
      else if (c :: l).take (nameK (c :: l)) = [110, 105, 108] then some ((Ex.zero, true), r.go (nameD (c :: l)))
      else some ((Ex.zero, false), r.go (c :: l))
    else some ((Ex.zero, false), r.go (c :: l))
mutual
def operandF : Nat → Rd → (Ex × Bool) × Rd
  | 0, r => ((Ex.zero, false), r)
  | n + 1, r => match plainOp r with
    | some q => q
    | none =>
      if 16 < r.deep + 1 then ((Ex.zero, true), (⟨skipB r.s, r.deep + 1, r.bad⟩ : Rd).fail 5)
      else
        let q := pipeF n ⟨(skipB r.s).drop 1, r.deep + 1, r.bad⟩
        match skipB q.2.s with
        | 41 :: l => ((q.1, true), ⟨l, q.2.deep - 1, q.2.bad⟩)
        | l => ((Ex.zero, true), (q.2.go l).fail 20)
def commandF : Nat → Rd → Ex × Rd
  | 0, r => (Ex.zero, r)
  | n + 1, r =>
    let q := operandF n r
    if q.1.2 then (q.1.1, q.2)
    else if nameK q.2.s = 0 then (Ex.zero, q.2.fail 20)
    else argsF n (Ex.call (nameT q.2.s) []) (q.2.go (nameD q.2.s))
def argsF : Nat → Ex → Rd → Ex × Rd
  | 0, x, r => (x, r)
  | n + 1, x, r =>
    let q := operandF n r
    if q.1.2 then argsF n (x.push q.1.1) q.2
    else if nameK q.2.s = 0 then (x, q.2)
    else argsF n (x.push (Ex.call (nameT q.2.s) [])) (q.2.go (nameD q.2.s))
def pipeF : Nat → Rd → Ex × Rd
  | 0, r => (Ex.zero, r)
  | n + 1, r => let q := commandF n r; barsF n q.1 q.2
def barsF : Nat → Ex → Rd → Ex × Rd
  | 0, x, r => (x, r)
  | n + 1, x, r => match skipB r.s with
    | 124 :: l =>
      let q := commandF n (r.go l)
      if q.1.kind ≠ 3 ∧ q.2.bad = 0 then (Ex.zero, q.2.fail 20)
      else barsF n (q.1.push x) q.2
    | l => (x, r.go l)
end
/-- How much fuel is enough. -/
def fuelX (l : List UInt8) : Nat := 4 * l.length + 8
/-- A pipe that is all of an action; or what is wrong. -/
def allF (s : List UInt8) : Ex × Int :=
  let q := pipeF (fuelX s) ⟨s, 0, 0⟩
  let b := if q.2.bad = 0 ∧ skipB q.2.s ≠ [] then 20 else q.2.bad
  if b = 0 then (q.1, 0) else (Ex.zero, b)

/-! ### Nodes -/
/-- A variable at the beginning: its name, what stands behind, is there one? -/
def varL (s : List UInt8) : ByteArray × List UInt8 × Bool :=
  match skipB s with
  | 36 :: l => (nameT l, skipB (nameD l), decide (nameK l ≠ 0))
  | _ => (⟨#[]⟩, [], false)
def setL (s : List UInt8) : ByteArray × List UInt8 × Bool :=
  let v := varL s
  if v.2.2 then match v.2.1 with
    | 58 :: 61 :: l => (v.1, l, true)
    | l => (v.1, l, false)
  else v
structure Mk where
  rest : List Tok
  deep : Int
  bad : Int
def Mk.fail (m : Mk) (e : Int) : Mk := ⟨[], m.deep, if m.bad = 0 then e else m.bad⟩
def mpipe (m : Mk) (s : List UInt8) : Ex × Mk := ((allF s).1, if (allF s).2 = 0 then m else m.fail (allF s).2)
def ifW : List UInt8 := [105, 102]
def withW : List UInt8 := [119, 105, 116, 104]
def rangeW : List UInt8 := [114, 97, 110, 103, 101]
def defineW : List UInt8 := [100, 101, 102, 105, 110, 101]
def elseW : List UInt8 := [101, 108, 115, 101]
def endW : List UInt8 := [101, 110, 100]
def wordL (s : List UInt8) : List UInt8 := s.take (nameK s)
/-- What stands behind a block's word. -/
def headF (w s : List UInt8) (m : Mk) : Nd × Mk :=
  if w = ifW then (.mk 2 ⟨#[]⟩ (mpipe m s).1 ⟨#[]⟩ ⟨#[]⟩ [] [], (mpipe m s).2)
  else if w = withW then (.mk 3 ⟨#[]⟩ (mpipe m s).1 ⟨#[]⟩ ⟨#[]⟩ [] [], (mpipe m s).2)
  else if w = defineW then
    let q := allF s
    let bad := q.2 ≠ 0 ∨ q.1.kind ≠ 0 ∨ q.1.val.kind ≠ 3 ∨ nameL q.1.val.str.data.toList = false ∨ 1 < m.deep
    (.mk 6 ⟨#[]⟩ Ex.zero ⟨#[]⟩ q.1.val.str [] [], if bad then m.fail (if q.2 = 0 then 22 else q.2) else m)
  else
    let v := varL s
    match v.2.2, v.2.1 with
    | true, 44 :: l =>
      let z := setL l
      if z.2.2 then (.mk 4 ⟨#[]⟩ (mpipe m z.2.1).1 v.1 z.1 [] [], (mpipe m z.2.1).2)
      else (.mk 4 ⟨#[]⟩ (mpipe m s).1 ⟨#[]⟩ ⟨#[]⟩ [] [], (mpipe m s).2)
    | _, _ =>
      let z := setL s
      if z.2.2 then (.mk 4 ⟨#[]⟩ (mpipe m z.2.1).1 ⟨#[]⟩ z.1 [] [], (mpipe m z.2.1).2)
      else (.mk 4 ⟨#[]⟩ (mpipe m s).1 ⟨#[]⟩ ⟨#[]⟩ [] [], (mpipe m s).2)
structure Stop where
  out : List Nd
  stop : List UInt8
  rest : List UInt8
def Nd.setBody (n : Nd) (b : List Nd) : Nd := .mk n.kind n.text n.x n.key n.name b n.els
def Nd.setEls (n : Nd) (b : List Nd) : Nd := .mk n.kind n.text n.x n.key n.name n.body b
def Mk.up (m : Mk) : Mk := ⟨m.rest, m.deep - 1, m.bad⟩
mutual
def nodesF : Nat → List Nd → Mk → Stop × Mk
  | 0, out, m => (⟨out, [], []⟩, m)
  | n + 1, out, m => match m.rest with
    | [] => (⟨out, [], []⟩, m)
    | t :: ts =>
      let m := (⟨ts, m.deep, m.bad⟩ : Mk)
      let w := wordL t.s
      if t.act = false then nodesF n (out ++ [.mk 0 (bs t.s) Ex.zero ⟨#[]⟩ ⟨#[]⟩ [] []]) m
      else if w = endW ∨ w = elseW then (⟨out, w, nameD t.s⟩, m)
      else if w = ifW ∨ w = withW ∨ w = rangeW ∨ w = defineW then
        let q := blockF n w (nameD t.s) m
        nodesF n (out ++ [q.1]) q.2
      else if (setL t.s).2.2 then
        let q := mpipe m (setL t.s).2.1
        nodesF n (out ++ [.mk 5 ⟨#[]⟩ q.1 ⟨#[]⟩ (setL t.s).1 [] []]) q.2
      else
        let q := mpipe m t.s
        nodesF n (out ++ [.mk 1 ⟨#[]⟩ q.1 ⟨#[]⟩ ⟨#[]⟩ [] []]) q.2
def blockF : Nat → List UInt8 → List UInt8 → Mk → Nd × Mk
  | 0, _, _, m => (Nd.zero, m)
  | n + 1, w, s, m =>
    let m := (⟨m.rest, m.deep + 1, m.bad⟩ : Mk)
    if 16 < m.deep then (Nd.zero, m.fail 5)
    else
      let h := headF w s m
      let b := nodesF n [] h.2
      let nd := h.1.setBody b.1.out
      let more := wordL (skipB b.1.rest)
      let tail := nameD (skipB b.1.rest)
      if b.1.stop = elseW ∧ w = ifW ∧ more = ifW then
        let e := blockF n ifW tail b.2
        (nd.setEls [e.1], e.2.up)
      else if b.1.stop = elseW ∧ w ≠ defineW ∧ skipB b.1.rest = [] then
        let e := nodesF n [] b.2
        (nd.setEls e.1.out, (if e.1.stop ≠ endW ∨ skipB e.1.rest ≠ [] then e.2.fail 21 else e.2).up)
      else (nd, (if b.1.stop ≠ endW ∨ skipB b.1.rest ≠ [] then b.2.fail 21 else b.2).up)
end
def fuelN (l : List Tok) : Nat := 2 * l.length + 4
/-- The nodes of a template; or what is wrong. -/
def parseF (s : List UInt8) : List Nd × Int :=
  if 65536 < s.length then ([], 6)
  else match splitM (s.length + 1) s 0 false with
    | none => ([], 21)
    | some toks =>
      let q := nodesF (fuelN toks) [] ⟨toks, 0, 0⟩
      let m := if q.1.stop ≠ [] then q.2.fail 21 else q.2
      if m.bad = 0 then (q.1.out, 0) else ([], m.bad)
end Go.Proofs.YtnblmhfgmehnnaaGreatDoor

/- Texts as elements of rows. -/
namespace Go.Proofs.YtnblmhfgmehnnaaGreatDoor
open Go.RowKit Go.Lib

theorem text_info : (Tryz.prog.info? 9).map (fun i => (i.zero, i.size, i.bytes)) = some (some (.string ⟨#[]⟩), 1, 16) := by kernel_rfl
def eltS : Elt ByteArray where
  ty := 9
  slt := 42
  sz := 1
  bytes := 16
  zero := .string ⟨#[]⟩
  R _ _ cs s := cs = [.string s] ∧ s.size ≤ 140737488351232
  len h := by rw [h.1]; rfl
  one h := by
    intro u hu
    rw [h.1, List.mem_singleton] at hu
    rw [hu]; rfl
  mono h _ _ := h
  pos := by decide
  hund := und_ss
  hinfo := text_info
  hzero := rfl
theorem RepS.mono {w w' : World} {S S' : Nat → Prop} {a : Option Addr} {l : List ByteArray} (h : RepS w S a l) (hS : ∀ b, S b → b < w.heap.size → S' b) (hw : ∀ b o, S b → b < w.heap.size → w'.cell? ⟨b, o, none⟩ = w.cell? ⟨b, o, none⟩) : RepS w' S' a l := fun i hi => by
  obtain ⟨b, o, e, hs, hlt, hc, hz⟩ := h i hi
  have hc2 := (hw b (o + i) hs hlt).trans hc
  exact ⟨b, o, e, hS b hs hlt, block_lt_of_cell (a := ⟨b, o + i, none⟩) hc2, hc2, hz⟩
theorem repS_of {w : World} {S : Nat → Prop} {a : Option Addr} {l : List ByteArray} (h : RepE eltS w S a l) : RepS w S a l := fun i hi => by
  obtain ⟨b, o, cs, e, hS, hc, hr⟩ := h i hi
  have h0 := hc 0 (.string l[i]) (by rw [hr.1]; rfl)
  rw [show o + i * eltS.sz + 0 = o + i by show o + i * 1 + 0 = o + i; omega] at h0
  exact ⟨b, o, e, hS, block_lt_of_cell (a := ⟨b, o + i, none⟩) h0, h0, hr.2⟩

end Go.Proofs.YtnblmhfgmehnnaaGreatDoor

/- When cells in memory read as an expression, or as a node. -/
namespace Go.Proofs.YtnblmhfgmehnnaaGreatDoor
open Go.RowKit Go.Lib

/-- The elements of a slice of texts, its length within its room. -/
def Room (n c b : Nat) : Prop := n ≤ c ∧ c ≤ maxLen ∧ n * b ≤ 140737488355328
inductive RepX (w : World) (S : Nat → Prop) : List Value → Ex → Prop
  | mk (k : Int) (v : T) (nm : ByteArray) (st : List ByteArray) (ar : List Ex) (la : Option Addr) (lc : Nat) (ma : Option Addr) (mc : Nat) (sa : Option Addr) (sc : Nat) (aa : Option Addr) (ac : Nat) (C : Nat → List Value)
      (hk : i64ok k) (hv : RepT w S (.agg #[.int .i64 v.kind, .bool v.bool, .int .i64 v.int, .string v.str, .slice la v.list.length lc, .slice ma v.map.length mc]) v) (hn : nm.size ≤ 140737488351232) (hs : RepS w S sa st) (hsr : Room st.length sc 16) (har : Room ar.length ac 160)
      (ha : ∀ i, i < ar.length → ∃ b o, aa = some ⟨b, o, none⟩ ∧ S b ∧ cellsAt w b (o + i * 10) (C i))
      (hr : ∀ i (h : i < ar.length), RepX w S (C i) ar[i]) :
      RepX w S [.int .i64 k, .int .i64 v.kind, .bool v.bool, .int .i64 v.int, .string v.str, .slice la v.list.length lc, .slice ma v.map.length mc, .string nm, .slice sa st.length sc, .slice aa ar.length ac] (.mk k v nm st ar)
/-- The elements of a slice of expressions. -/
def RepXs (w : World) (S : Nat → Prop) (a : Option Addr) (l : List Ex) : Prop :=
  ∀ i (h : i < l.length), ∃ b o cs, a = some ⟨b, o, none⟩ ∧ S b ∧ cellsAt w b (o + i * 10) cs ∧ RepX w S cs l[i]
/-- What an expression is, laid open. -/
structure PartsX (w : World) (S : Nat → Prop) (la : Option Addr) (lc : Nat) (ma : Option Addr) (mc : Nat) (sa : Option Addr) (sc : Nat) (aa : Option Addr) (ac : Nat) (x : Ex) : Prop where
  kind : i64ok x.kind
  val : RepT w S (.agg #[.int .i64 x.val.kind, .bool x.val.bool, .int .i64 x.val.int, .string x.val.str, .slice la x.val.list.length lc, .slice ma x.val.map.length mc]) x.val
  name : x.name.size ≤ 140737488351232
  steps : RepS w S sa x.steps
  sroom : Room x.steps.length sc 16
  aroom : Room x.args.length ac 160
  args : RepXs w S aa x.args
section
variable {w w' : World} {S S' : Nat → Prop} {cs : List Value} {x : Ex}
theorem RepX.inv (h : RepX w S cs x) : ∃ la lc ma mc sa sc aa ac, cs = [.int .i64 x.kind, .int .i64 x.val.kind, .bool x.val.bool, .int .i64 x.val.int, .string x.val.str, .slice la x.val.list.length lc, .slice ma x.val.map.length mc, .string x.name, .slice sa x.steps.length sc, .slice aa x.args.length ac] ∧ PartsX w S la lc ma mc sa sc aa ac x := by
  cases h with
  | mk k v nm st ar la lc ma mc sa sc aa ac C hk hv hn hs hsr har ha hr =>
    exact ⟨la, lc, ma, mc, sa, sc, aa, ac, rfl, hk, hv, hn, hs, hsr, har, fun i hi => by
      obtain ⟨b, o, e, hb, hc⟩ := ha i hi
      exact ⟨b, o, C i, e, hb, hc, hr i hi⟩⟩
theorem RepX.of {la : Option Addr} {lc : Nat} {ma : Option Addr} {mc : Nat} {sa : Option Addr} {sc : Nat} {aa : Option Addr} {ac : Nat} (h : PartsX w S la lc ma mc sa sc aa ac x) : RepX w S [.int .i64 x.kind, .int .i64 x.val.kind, .bool x.val.bool, .int .i64 x.val.int, .string x.val.str, .slice la x.val.list.length lc, .slice ma x.val.map.length mc, .string x.name, .slice sa x.steps.length sc, .slice aa x.args.length ac] x := by
  obtain ⟨hk, hv, hn, hs, hsr, har, hX⟩ := h
  cases x with
  | mk k v nm st ar =>
    have hX' : ∀ i, ∃ cs, ∀ h : i < ar.length, ∃ b o, aa = some ⟨b, o, none⟩ ∧ S b ∧ cellsAt w b (o + i * 10) cs ∧ RepX w S cs ar[i] := by
      intro i
      by_cases h : i < ar.length
      · obtain ⟨b, o, cs, r⟩ := hX i h
        exact ⟨cs, fun _ => ⟨b, o, r⟩⟩
      · exact ⟨[], fun h' => absurd h' h⟩
    refine .mk k v nm st ar la lc ma mc sa sc aa ac (fun i => Classical.choose (hX' i)) hk hv hn hs hsr har (fun i h => ?_) (fun i h => ?_)
    · obtain ⟨b, o, e, hb, hc, _⟩ := Classical.choose_spec (hX' i) h
      exact ⟨b, o, e, hb, hc⟩
    · obtain ⟨_, _, _, _, _, hr⟩ := Classical.choose_spec (hX' i) h
      exact hr
theorem RepX.len (h : RepX w S cs x) : cs.length = 10 := by obtain ⟨_, _, _, _, _, _, _, _, rfl, _⟩ := h.inv; rfl
theorem RepX.one (h : RepX w S cs x) : ∀ u ∈ cs, u.oneCell' = true := by
  obtain ⟨_, _, _, _, _, _, _, _, rfl, _⟩ := h.inv
  intro u hu
  simp only [List.mem_cons, List.not_mem_nil, or_false] at hu
  rcases hu with rfl | rfl | rfl | rfl | rfl | rfl | rfl | rfl | rfl | rfl <;> rfl
theorem RepX.mono (h : RepX w S cs x) (hS : ∀ b, S b → b < w.heap.size → S' b) (hw : ∀ b o, S b → b < w.heap.size → w'.cell? ⟨b, o, none⟩ = w.cell? ⟨b, o, none⟩) : RepX w' S' cs x := by
  induction h with
  | mk k v nm st ar la lc ma mc sa sc aa ac C hk hv hn hs hsr har ha hr ih =>
    refine .mk k v nm st ar la lc ma mc sa sc aa ac C hk (hv.mono hS hw) hn (hs.mono hS hw) hsr har (fun i hi => ?_) ih
    obtain ⟨b, o, e, hb, hc⟩ := ha i hi
    have hl := (hr i hi).len
    have hlt : b < w.heap.size := by
      generalize C i = cs at hc hl
      cases cs with
      | nil => simp at hl
      | cons c cs => exact hc.lt
    exact ⟨b, o, e, hS b hb hlt, hc.keep fun i => hw _ _ hb hlt⟩
theorem RepX.keep (h : RepX w S cs x) (hb : Below w.heap.size w w') : RepX w' S cs x := h.mono (fun _ h _ => h) fun _ _ _ hlt => hb.cell hlt
theorem RepX.weak (h : RepX w S cs x) (hS : ∀ b, S b → b < w.heap.size → S' b) : RepX w S' cs x := h.mono hS fun _ _ _ _ => rfl
theorem RepXs.mono {a : Option Addr} {l : List Ex} (h : RepXs w S a l) (hS : ∀ b, S b → b < w.heap.size → S' b) (hw : ∀ b o, S b → b < w.heap.size → w'.cell? ⟨b, o, none⟩ = w.cell? ⟨b, o, none⟩) : RepXs w' S' a l := by
  intro i hi
  obtain ⟨b, o, cs, e, hb, hc, hr⟩ := h i hi
  have hl := hr.len
  have hlt : b < w.heap.size := by
    cases cs with
    | nil => simp at hl
    | cons c cs => exact hc.lt
  exact ⟨b, o, cs, e, hS b hb hlt, hc.keep fun i => hw _ _ hb hlt, hr.mono hS hw⟩
theorem RepXs.keep {a : Option Addr} {l : List Ex} (h : RepXs w S a l) (hb : Below w.heap.size w w') : RepXs w' S a l := h.mono (fun _ h _ => h) fun _ _ _ hlt => hb.cell hlt
theorem RepXs.nil {a : Option Addr} : RepXs w S a [] := fun _ hi => absurd hi (Nat.not_lt_zero _)
theorem RepS.nil' {a : Option Addr} : RepS w S a [] := fun _ hi => absurd hi (Nat.not_lt_zero _)
theorem Room.nil (b : Nat) : Room 0 0 b := ⟨Nat.le_refl _, Nat.zero_le _, by omega⟩
theorem PartsX.mono {la : Option Addr} {lc : Nat} {ma : Option Addr} {mc : Nat} {sa : Option Addr} {sc : Nat} {aa : Option Addr} {ac : Nat} (h : PartsX w S la lc ma mc sa sc aa ac x) (hS : ∀ b, S b → b < w.heap.size → S' b) (hw : ∀ b o, S b → b < w.heap.size → w'.cell? ⟨b, o, none⟩ = w.cell? ⟨b, o, none⟩) : PartsX w' S' la lc ma mc sa sc aa ac x :=
  ⟨h.kind, h.val.mono hS hw, h.name, h.steps.mono hS hw, h.sroom, h.aroom, h.args.mono hS hw⟩
end
/-- Expressions as elements; the program's, and the document's. -/
def eltXof (ty slt : TypeId) (hund : Tryz.prog.underlying slt = some (.slice ty)) (hinfo : (Tryz.prog.info? ty).map (fun i => (i.zero, i.size, i.bytes)) = some (some (.agg #[.int .i64 0, .int .i64 0, .bool false, .int .i64 0, .string ⟨#[]⟩, .slice none 0 0, .slice none 0 0, .string ⟨#[]⟩, .slice none 0 0, .slice none 0 0]), 10, 160)) : Elt Ex where
  ty := ty
  slt := slt
  sz := 10
  bytes := 160
  zero := .agg #[.int .i64 0, .int .i64 0, .bool false, .int .i64 0, .string ⟨#[]⟩, .slice none 0 0, .slice none 0 0, .string ⟨#[]⟩, .slice none 0 0, .slice none 0 0]
  R := RepX
  len h := h.len
  one h := h.one
  mono h hS hw := h.mono hS hw
  pos := by decide
  hund := hund
  hinfo := hinfo
  hzero := rfl
def eltX : Elt Ex := eltXof 50 48 Tryz.underlying48 (by kernel_rfl)
def eltXR : Elt Ex := eltXof 45 43 Tryz.underlying43 (by kernel_rfl)

inductive RepN (w : World) (S : Nat → Prop) : List Value → Nd → Prop
  | mk (k : Int) (t : ByteArray) (x : Ex) (ky nm : ByteArray) (bo el : List Nd) (la : Option Addr) (lc : Nat) (ma : Option Addr) (mc : Nat) (sa : Option Addr) (sc : Nat) (aa : Option Addr) (ac : Nat) (ba : Option Addr) (bc : Nat) (ea : Option Addr) (ec : Nat) (C D : Nat → List Value)
      (hk : i64ok k) (ht : t.size ≤ 140737488351232) (hx : RepX w S [.int .i64 x.kind, .int .i64 x.val.kind, .bool x.val.bool, .int .i64 x.val.int, .string x.val.str, .slice la x.val.list.length lc, .slice ma x.val.map.length mc, .string x.name, .slice sa x.steps.length sc, .slice aa x.args.length ac] x) (hky : ky.size ≤ 140737488351232) (hn : nm.size ≤ 140737488351232) (hbr : Room bo.length bc 264) (her : Room el.length ec 264)
      (hb : ∀ i, i < bo.length → ∃ b o, ba = some ⟨b, o, none⟩ ∧ S b ∧ cellsAt w b (o + i * 16) (C i))
      (hc : ∀ i (h : i < bo.length), RepN w S (C i) bo[i])
      (he : ∀ i, i < el.length → ∃ b o, ea = some ⟨b, o, none⟩ ∧ S b ∧ cellsAt w b (o + i * 16) (D i))
      (hd : ∀ i (h : i < el.length), RepN w S (D i) el[i]) :
      RepN w S [.int .i64 k, .string t, .int .i64 x.kind, .int .i64 x.val.kind, .bool x.val.bool, .int .i64 x.val.int, .string x.val.str, .slice la x.val.list.length lc, .slice ma x.val.map.length mc, .string x.name, .slice sa x.steps.length sc, .slice aa x.args.length ac, .string ky, .string nm, .slice ba bo.length bc, .slice ea el.length ec] (.mk k t x ky nm bo el)
/-- The elements of a slice of nodes. -/
def RepNs (w : World) (S : Nat → Prop) (a : Option Addr) (l : List Nd) : Prop :=
  ∀ i (h : i < l.length), ∃ b o cs, a = some ⟨b, o, none⟩ ∧ S b ∧ cellsAt w b (o + i * 16) cs ∧ RepN w S cs l[i]
structure PartsN (w : World) (S : Nat → Prop) (la : Option Addr) (lc : Nat) (ma : Option Addr) (mc : Nat) (sa : Option Addr) (sc : Nat) (aa : Option Addr) (ac : Nat) (ba : Option Addr) (bc : Nat) (ea : Option Addr) (ec : Nat) (n : Nd) : Prop where
  kind : i64ok n.kind
  text : n.text.size ≤ 140737488351232
  x : RepX w S [.int .i64 n.x.kind, .int .i64 n.x.val.kind, .bool n.x.val.bool, .int .i64 n.x.val.int, .string n.x.val.str, .slice la n.x.val.list.length lc, .slice ma n.x.val.map.length mc, .string n.x.name, .slice sa n.x.steps.length sc, .slice aa n.x.args.length ac] n.x
  key : n.key.size ≤ 140737488351232
  name : n.name.size ≤ 140737488351232
  broom : Room n.body.length bc 264
  eroom : Room n.els.length ec 264
  body : RepNs w S ba n.body
  els : RepNs w S ea n.els
section
variable {w w' : World} {S S' : Nat → Prop} {cs : List Value} {n : Nd}
theorem RepN.inv (h : RepN w S cs n) : ∃ la lc ma mc sa sc aa ac ba bc ea ec, cs = [.int .i64 n.kind, .string n.text, .int .i64 n.x.kind, .int .i64 n.x.val.kind, .bool n.x.val.bool, .int .i64 n.x.val.int, .string n.x.val.str, .slice la n.x.val.list.length lc, .slice ma n.x.val.map.length mc, .string n.x.name, .slice sa n.x.steps.length sc, .slice aa n.x.args.length ac, .string n.key, .string n.name, .slice ba n.body.length bc, .slice ea n.els.length ec] ∧ PartsN w S la lc ma mc sa sc aa ac ba bc ea ec n := by
  cases h with
  | mk k t x ky nm bo el la lc ma mc sa sc aa ac ba bc ea ec C D hk ht hx hky hn hbr her hb hc he hd =>
    exact ⟨la, lc, ma, mc, sa, sc, aa, ac, ba, bc, ea, ec, rfl, hk, ht, hx, hky, hn, hbr, her, fun i hi => by
      obtain ⟨b, o, e, hS, hcs⟩ := hb i hi
      exact ⟨b, o, C i, e, hS, hcs, hc i hi⟩, fun i hi => by
      obtain ⟨b, o, e, hS, hcs⟩ := he i hi
      exact ⟨b, o, D i, e, hS, hcs, hd i hi⟩⟩
theorem RepN.of {la : Option Addr} {lc : Nat} {ma : Option Addr} {mc : Nat} {sa : Option Addr} {sc : Nat} {aa : Option Addr} {ac : Nat} {ba : Option Addr} {bc : Nat} {ea : Option Addr} {ec : Nat} (h : PartsN w S la lc ma mc sa sc aa ac ba bc ea ec n) : RepN w S [.int .i64 n.kind, .string n.text, .int .i64 n.x.kind, .int .i64 n.x.val.kind, .bool n.x.val.bool, .int .i64 n.x.val.int, .string n.x.val.str, .slice la n.x.val.list.length lc, .slice ma n.x.val.map.length mc, .string n.x.name, .slice sa n.x.steps.length sc, .slice aa n.x.args.length ac, .string n.key, .string n.name, .slice ba n.body.length bc, .slice ea n.els.length ec] n := by
  obtain ⟨hk, ht, hx, hky, hn, hbr, her, hB, hE⟩ := h
  cases n with
  | mk k t x ky nm bo el =>
    have go : ∀ (a : Option Addr) (l : List Nd), RepNs w S a l → ∃ C : Nat → List Value, ∀ i (h : i < l.length), ∃ b o, a = some ⟨b, o, none⟩ ∧ S b ∧ cellsAt w b (o + i * 16) (C i) ∧ RepN w S (C i) l[i] := by
      intro a l hl
      have h1 : ∀ i, ∃ cs, ∀ h : i < l.length, ∃ b o, a = some ⟨b, o, none⟩ ∧ S b ∧ cellsAt w b (o + i * 16) cs ∧ RepN w S cs l[i] := by
        intro i
        by_cases h : i < l.length
        · obtain ⟨b, o, cs, r⟩ := hl i h
          exact ⟨cs, fun _ => ⟨b, o, r⟩⟩
        · exact ⟨[], fun h' => absurd h' h⟩
      exact ⟨fun i => Classical.choose (h1 i), fun i h => Classical.choose_spec (h1 i) h⟩
    obtain ⟨C, hC⟩ := go ba bo hB
    obtain ⟨D, hD⟩ := go ea el hE
    refine .mk k t x ky nm bo el la lc ma mc sa sc aa ac ba bc ea ec C D hk ht hx hky hn hbr her (fun i h => ?_) (fun i h => ?_) (fun i h => ?_) (fun i h => ?_)
    · obtain ⟨b, o, e, hb, hc, _⟩ := hC i h; exact ⟨b, o, e, hb, hc⟩
    · obtain ⟨_, _, _, _, _, hr⟩ := hC i h; exact hr
    · obtain ⟨b, o, e, hb, hc, _⟩ := hD i h; exact ⟨b, o, e, hb, hc⟩
    · obtain ⟨_, _, _, _, _, hr⟩ := hD i h; exact hr
theorem RepN.len (h : RepN w S cs n) : cs.length = 16 := by obtain ⟨_, _, _, _, _, _, _, _, _, _, _, _, rfl, _⟩ := h.inv; rfl
theorem RepN.one (h : RepN w S cs n) : ∀ u ∈ cs, u.oneCell' = true := by
  obtain ⟨_, _, _, _, _, _, _, _, _, _, _, _, rfl, _⟩ := h.inv
  intro u hu
  simp only [List.mem_cons, List.not_mem_nil, or_false] at hu
  rcases hu with rfl | rfl | rfl | rfl | rfl | rfl | rfl | rfl | rfl | rfl | rfl | rfl | rfl | rfl | rfl | rfl <;> rfl
theorem RepN.mono (h : RepN w S cs n) (hS : ∀ b, S b → b < w.heap.size → S' b) (hw : ∀ b o, S b → b < w.heap.size → w'.cell? ⟨b, o, none⟩ = w.cell? ⟨b, o, none⟩) : RepN w' S' cs n := by
  induction h with
  | mk k t x ky nm bo el la lc ma mc sa sc aa ac ba bc ea ec C D hk ht hx hky hn hbr her hb hc he hd ih1 ih2 =>
    have go : ∀ (E : Nat → List Value) (m : Nat) (a : Option Addr), (∀ i, i < m → (E i).length = 16) → (∀ i, i < m → ∃ b o, a = some ⟨b, o, none⟩ ∧ S b ∧ cellsAt w b (o + i * 16) (E i)) → ∀ i, i < m → ∃ b o, a = some ⟨b, o, none⟩ ∧ S' b ∧ cellsAt w' b (o + i * 16) (E i) := by
      intro E m a hl h i hi
      obtain ⟨b, o, e, hb, hc⟩ := h i hi
      have hl := hl i hi
      have hlt : b < w.heap.size := by
        generalize E i = cs at hc hl
        cases cs with
        | nil => simp at hl
        | cons c cs => exact hc.lt
      exact ⟨b, o, e, hS b hb hlt, hc.keep fun i => hw _ _ hb hlt⟩
    exact .mk k t x ky nm bo el la lc ma mc sa sc aa ac ba bc ea ec C D hk ht (hx.mono hS hw) hky hn hbr her (go C _ _ (fun i h => (hc i h).len) hb) ih1 (go D _ _ (fun i h => (hd i h).len) he) ih2
theorem RepN.keep (h : RepN w S cs n) (hb : Below w.heap.size w w') : RepN w' S cs n := h.mono (fun _ h _ => h) fun _ _ _ hlt => hb.cell hlt
theorem RepN.weak (h : RepN w S cs n) (hS : ∀ b, S b → b < w.heap.size → S' b) : RepN w S' cs n := h.mono hS fun _ _ _ _ => rfl
theorem RepNs.mono {a : Option Addr} {l : List Nd} (h : RepNs w S a l) (hS : ∀ b, S b → b < w.heap.size → S' b) (hw : ∀ b o, S b → b < w.heap.size → w'.cell? ⟨b, o, none⟩ = w.cell? ⟨b, o, none⟩) : RepNs w' S' a l := by
  intro i hi
  obtain ⟨b, o, cs, e, hb, hc, hr⟩ := h i hi
  have hl := hr.len
  have hlt : b < w.heap.size := by
    cases cs with
    | nil => simp at hl
    | cons c cs => exact hc.lt
  exact ⟨b, o, cs, e, hS b hb hlt, hc.keep fun i => hw _ _ hb hlt, hr.mono hS hw⟩
theorem RepNs.keep {a : Option Addr} {l : List Nd} (h : RepNs w S a l) (hb : Below w.heap.size w w') : RepNs w' S a l := h.mono (fun _ h _ => h) fun _ _ _ hlt => hb.cell hlt
theorem RepNs.nil {a : Option Addr} : RepNs w S a [] := fun _ hi => absurd hi (Nat.not_lt_zero _)
end
def eltNof (ty slt : TypeId) (hund : Tryz.prog.underlying slt = some (.slice ty)) (hinfo : (Tryz.prog.info? ty).map (fun i => (i.zero, i.size, i.bytes)) = some (some (.agg #[.int .i64 0, .string ⟨#[]⟩, .int .i64 0, .int .i64 0, .bool false, .int .i64 0, .string ⟨#[]⟩, .slice none 0 0, .slice none 0 0, .string ⟨#[]⟩, .slice none 0 0, .slice none 0 0, .string ⟨#[]⟩, .string ⟨#[]⟩, .slice none 0 0, .slice none 0 0]), 16, 264)) : Elt Nd where
  ty := ty
  slt := slt
  sz := 16
  bytes := 264
  zero := .agg #[.int .i64 0, .string ⟨#[]⟩, .int .i64 0, .int .i64 0, .bool false, .int .i64 0, .string ⟨#[]⟩, .slice none 0 0, .slice none 0 0, .string ⟨#[]⟩, .slice none 0 0, .slice none 0 0, .string ⟨#[]⟩, .string ⟨#[]⟩, .slice none 0 0, .slice none 0 0]
  R := RepN
  len h := h.len
  one h := h.one
  mono h hS hw := h.mono hS hw
  pos := by decide
  hund := hund
  hinfo := hinfo
  hzero := rfl
def eltN : Elt Nd := eltNof 64 30 Tryz.underlying30 (by kernel_rfl)
def eltNR : Elt Nd := eltNof 70 22 Tryz.underlying22 (by kernel_rfl)
end Go.Proofs.YtnblmhfgmehnnaaGreatDoor

/- tree.Map: the pairs by rising keys; of one key the last one. -/
namespace Go.Proofs.YtnblmhfgmehnnaaGreatDoor
open Go.RowKit
attribute [local go_sem ↓] Go.wp_at_zero Go.wp_at_succ

def mkMap (m : List (ByteArray × T)) : T := .mk 5 false 0 ⟨#[]⟩ [] m
/-- How things stand in Map: the result's box, the map's box, the map's row. -/
def MapInv (w wr : World) (A : Option Addr) (c : Nat) (m : List (ByteArray × T)) : Prop :=
  Blk wr w.heap.size 41 zcells ∧ Blk wr (w.heap.size + 1) 41 #[.int .i64 5, .bool false, .int .i64 0, .string ⟨#[]⟩, .slice none 0 0, .slice A m.length c] ∧ Below w.heap.size w wr ∧ OwnM wr (w.heap.size + 2) A c m

theorem own_ne {w : World} {B : Nat} {A : Option Addr} {c k : Nat} {m : List (ByteArray × T)} (h : OwnM w B A c m) (hk : w.heap.size ≤ k) : Value.ownBlock (.slice A m.length c) ≠ some k := fun e => by
  have := (h.own k e).2
  omega

theorem map_new {w wr : World} {A : Option Addr} {c : Nat} {m : List (ByteArray × T)} (h : MapInv w wr A c m) (hm : m.length * 104 ≤ 140737488355328) :
    RepT (set6 wr w.heap.size 0 (.int .i64 5) (.bool false) (.int .i64 0) (.string ⟨#[]⟩) (.slice none 0 0) (.slice A m.length c)) (fun b => w.heap.size ≤ b) (.agg #[.int .i64 5, .bool false, .int .i64 0, .string ⟨#[]⟩, .slice none 0 0, .slice A m.length c]) (mkMap m) ∧
    Blk (set6 wr w.heap.size 0 (.int .i64 5) (.bool false) (.int .i64 0) (.string ⟨#[]⟩) (.slice none 0 0) (.slice A m.length c)) w.heap.size 41 #[.int .i64 5, .bool false, .int .i64 0, .string ⟨#[]⟩, .slice none 0 0, .slice A m.length c] ∧
    Below w.heap.size w (set6 wr w.heap.size 0 (.int .i64 5) (.bool false) (.int .i64 0) (.string ⟨#[]⟩) (.slice none 0 0) (.slice A m.length c)) := by
  obtain ⟨hb1, hb2, hbw, hown⟩ := h
  have hlen := hown.len
  refine ⟨RepT.of (t := mkMap m) (la := none) (lc := 0) (ma := A) (mc := c) ⟨(show i64ok 5 by unfold i64ok; omega), (show i64ok 0 by unfold i64ok; omega), by show ByteArray.size ⟨#[]⟩ ≤ _; simp [ByteArray.size], by simp [mkMap, T.list], hm, by simp [mkMap, T.list], hlen.1, by unfold maxLen; omega, hlen.2, fun i hi => by simp [mkMap, T.list] at hi, ?_⟩, ?_, set6_below hbw (Nat.le_refl _)⟩
  · exact RepM.mono (w := wr) (S := fun b => w.heap.size + 2 ≤ b) hown.rep (fun b (h : w.heap.size + 2 ≤ b) _ => by show w.heap.size ≤ b; omega) (fun b o (h : w.heap.size + 2 ≤ b) hlt => World.cell?_of_block (w := wr) (set6_heap (show b ≠ w.heap.size by omega)))
  · exact (((((hb1.set_ 0 _).set_ 1 _).set_ 2 _).set_ 3 _).set_ 4 _).set_ 5 _

/-- Before the new row is stored in the map's box. -/
def InsOut (w w3 : World) (A : Option Addr) (n c : Nat) (A' : Option Addr) (c' : Nat) (m' : List (ByteArray × T)) : Prop :=
  Blk w3 w.heap.size 41 zcells ∧ Blk w3 (w.heap.size + 1) 41 #[.int .i64 5, .bool false, .int .i64 0, .string ⟨#[]⟩, .slice none 0 0, .slice A n c] ∧ Below w.heap.size w w3 ∧ OwnM w3 (w.heap.size + 2) A' c' m'

theorem map_stored {w w3 : World} {A A' : Option Addr} {n c c' : Nat} {m' : List (ByteArray × T)} (h : InsOut w w3 A n c A' c' m') : MapInv w (w3.setCell ⟨w.heap.size + 1, 5, none⟩ (.slice A' m'.length c')) A' c' m' := by
  obtain ⟨g1, g2, hbw, xs, h1, h2, h3⟩ := h
  have hne : ∀ g, Value.ownBlock (.slice A' m'.length c') = some g → g ≠ w.heap.size + 1 := fun g hg => by
    have := (OwnM.own ⟨xs, h1, h2, h3⟩ g hg).1
    omega
  refine ⟨g1.far (by simp) _, g2.set_ 5 _, hbw.setCell (by simp) _, xs, ownsRow_of h1 (fun g hg => Below.heap_setCell _ _ _ g (hne g hg)), h2, fun i hi => ?_⟩
  obtain ⟨r, e, hz, hr⟩ := h3 i hi
  exact ⟨r, e, hz, hr.mono (fun b hb _ => hb) (fun b o hb hlt => World.cell?_of_block (a := ⟨b, o, none⟩) (Below.heap_setCell _ _ _ b (show b ≠ w.heap.size + 1 by have := hb.1; omega)))⟩

theorem map_set {w wr w1 w2 : World} {g c i : Nat} {m : List (ByteArray × T)} {k : ByteArray} {t : T} {c0 c1 c2 c3 c4 c5 : Value} (h : MapInv w wr (some ⟨g, 0, none⟩) c m) (hb1 : Below wr.heap.size wr w1) (hb2 : Below w1.heap.size w1 w2)
    (hr : RepT w2 (fun b => w1.heap.size ≤ b) (.agg #[c0, c1, c2, c3, c4, c5]) t) (hs : Srch m k i true) :
    MapInv w (set6 w2 g (i * 7 + 1) c0 c1 c2 c3 c4 c5) (some ⟨g, 0, none⟩) c (ins m k t) := by
  obtain ⟨g1, g2, hbw, hown⟩ := h
  have hl := g2.lt
  have h12 : Below wr.heap.size wr w2 := Below.next hb1 hb2
  have hs1 := hb1.size
  have hg := hown.own g rfl
  have hlen : (ins m k t).length = m.length := by rw [ins_found t hs]; simp
  refine ⟨(set6_heap (by omega)).trans (g1.keep h12), ?_, set6_below (hbw.trans (h12.mono hbw.size)) (by omega), own_set (hown.keep h12) hs (hr.weak (fun b (hb : w1.heap.size ≤ b) _ => ⟨by omega, by omega⟩))⟩
  rw [hlen]
  exact (set6_heap (by omega)).trans (g2.keep h12)

end Go.Proofs.YtnblmhfgmehnnaaGreatDoor

