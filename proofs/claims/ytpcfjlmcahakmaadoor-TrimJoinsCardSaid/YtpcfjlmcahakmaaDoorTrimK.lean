/- trim.Split by its tokens; the laws' own example; trim.Plain. -/
import Derived.Test.YtpcfjlmcahakmaaDoorTrimS
import Derived.BigQuiet
namespace Go.Proofs.YtpcfjlmcahakmaaDoor
open Go.RowKit
attribute [local go_sem ↓] Go.wp_at_zero Go.wp_at_succ

/-- The global that strings.Index reads. -/
def MaxL (w : World) : Prop := ∃ m, w.cell? ⟨0, 0, none⟩ = some (.int .i64 m)
theorem MaxL.keep {w w' : World} (h : MaxL w) (hb : Below w.heap.size w w') : MaxL w' := by
  obtain ⟨m, hm⟩ := h
  exact ⟨m, (hb.cell (p := ⟨0, 0, none⟩) (block_lt_of_cell hm)).trans hm⟩
/-- Tokens handed back: the row, and old memory as it was. -/
def TokPost (w : World) (toks : List Tok) (e : Ending) (w' : World) : Prop :=
  ∃ A c, e = .returned (.tuple #[.slice A toks.length c, .int .i64 0]) ∧ RepE eltK w' (fun b => w.heap.size ≤ b) A toks ∧ toks.length ≤ c ∧ c ≤ maxLen ∧ Below w.heap.size w w'
theorem tsplit_ok {s : ByteArray} {toks : List Tok} (w : World) (hs : s.size ≤ 65536) (hm : MaxL w) (h : splitM (s.size + 1) s.data.toList 0 false = some toks) : Calls Tryd.prog 11 #[.string s] w (TokPost w toks) := by
  obtain ⟨m, hm⟩ := hm
  refine (tsplit s hs w m hm).mono ?_
  rintro e w' (⟨t2, A, c, h1, h2, h3, h4, h5, h6⟩ | ⟨h1, -⟩)
  · rw [h] at h1
    injection h1 with h1
    subst h1
    exact ⟨A, c, h2, h3, h4, h5, h6⟩
  · rw [h] at h1; cases h1
theorem tsplit_none {s : ByteArray} (w : World) (hs : s.size ≤ 65536) (hm : MaxL w) (h : splitM (s.size + 1) s.data.toList 0 false = none) : Calls Tryd.prog 11 #[.string s] w fun e w' => e = .returned (.tuple #[.slice none 0 0, .int .i64 21]) ∧ Below w.heap.size w w' := by
  obtain ⟨m, hm⟩ := hm
  refine (tsplit s hs w m hm).mono ?_
  rintro e w' (⟨t2, A, c, h1, -⟩ | ⟨-, h2, h3⟩)
  · rw [h] at h1; cases h1
  · exact ⟨h2, h3⟩
/-- What the tokens of a row read as. -/
theorem rep_tok {w : World} {S : Nat → Prop} {A : Option Addr} {toks : List Tok} (h : RepE eltK w S A toks) (hn : toks ≠ []) :
    ∃ b o, A = some ⟨b, o, none⟩ ∧ S b ∧ b < w.heap.size ∧ ∀ i t, toks[i]? = some t → w.cell? ⟨b, o + i * 3, none⟩ = some (.bool t.act) ∧ w.cell? ⟨b, o + i * 3 + 1, none⟩ = some (.string ⟨t.s.toArray⟩) ∧ w.cell? ⟨b, o + i * 3 + 2, none⟩ = some (.int .i64 t.at_) := by
  obtain ⟨b, o, cs, e, hb, hc, hr⟩ := h 0 (List.length_pos_iff.2 hn)
  have hcs := hr.1
  subst hcs
  refine ⟨b, o, e, hb, hc.lt, fun i t ht => ?_⟩
  obtain ⟨hi, rfl⟩ := List.getElem?_eq_some_iff.1 ht
  obtain ⟨b2, o2, cs2, e2, hb2, hc2, hr2⟩ := h i hi
  rw [e] at e2
  injection e2 with e2
  injection e2 with e2 e3
  subst e2 e3
  have hcs := hr2.1
  subst hcs
  exact ⟨hc2 0 _ rfl, hc2 1 _ rfl, hc2 2 _ rfl⟩

/-! ### The laws' example -/
def exS : ByteArray := ⟨#[97, 32, 123, 123, 45, 32, 120, 32, 45, 125, 125, 32, 98]⟩
theorem ex_toks : splitM (exS.size + 1) exS.data.toList 0 false = some [⟨false, [97], 0⟩, ⟨true, [120], 2⟩, ⟨false, [98], 12⟩] := by
  have e : exS.data.toList = [97, 32] ++ 123 :: 123 :: ([45, 32, 120, 32, 45] ++ 125 :: 125 :: [32, 98]) := by decide
  rw [e, splitM_act (by decide) (by simp) (clos_plain _ (by decide))]
  have hd : dashR [45, 32, 120, 32, 45] = true := by decide
  have e2 : exS.size = 12 + 1 := by decide
  rw [hd, e2, splitM_plain (by decide)]
  decide
set_option maxRecDepth 100000 in
theorem tawake (w : World) (hm : MaxL w) : Calls Tryd.prog 10 #[] w fun e w' => e = .returned (.bool true) ∧ Below w.heap.size w w' := by
  have CS := Lib.hid (tsplit_ok (s := exS) w (by decide) hm ex_toks)
  clear hm
  go_enter Tryd.func10, Tryd.ntmps10
  go_wp2_with fail
  refine CS.out.mono ?_
  rintro e w' ⟨A, c, rfl, hr, hc1, hc2, hb⟩
  obtain ⟨b, o, rfl, hS, hbl, hcell⟩ := rep_tok hr (by simp)
  have HB := Lib.hid hb
  obtain ⟨x0, x1, x2⟩ := hcell 0 _ rfl
  obtain ⟨y0, y1, y2⟩ := hcell 1 _ rfl
  obtain ⟨z0, z1, z2⟩ := hcell 2 _ rfl
  clear hb hr hcell hS CS
  simp only [Nat.zero_mul, Nat.add_zero, Nat.one_mul, Nat.reduceMul, Nat.add_assoc, Nat.reduceAdd] at x0 x1 x2 y0 y1 y2 z0 z1 z2
  go_wp2_with fail
  go_ret
  exact ⟨rfl, HB.out⟩

/-! ### Plain texts -/
theorem app_list (a b : ByteArray) : (a ++ b).data.toList = a.data.toList ++ b.data.toList := by simp
theorem contains2 (c : UInt8) (l : List UInt8) : Lib.contains l [c, c] = (find2 c l).isSome := by
  unfold Lib.contains
  rw [find2_index c l]
  cases find2 c l with
  | none => rfl
  | some k => simp
theorem tcontains (c : UInt8) (s : ByteArray) (w : World) (hs : s.size ≤ 1000000) (hm : MaxL w) : Calls Tryd.prog 15 #[.string s, .string ⟨#[c, c]⟩] w fun e w' => e = .returned (.bool (find2 c s.data.toList).isSome) ∧ w = w' := by
  obtain ⟨m, hm⟩ := hm
  have h := Tryd.strings_Contains s ⟨#[c, c]⟩ m w (by omega) hm
  rw [show Lib.contains s.data.toList (⟨#[c, c]⟩ : ByteArray).data.toList = _ from contains2 c _] at h
  exact h.mono fun _ _ h => ⟨h.1, h.2.symm⟩
def plain (s : ByteArray) : Bool := (find2 123 s.data.toList).isNone
theorem tplain (s : ByteArray) (w : World) (hs : s.size ≤ 1000000) (hm : MaxL w) : Calls Tryd.prog 8 #[.string s] w fun e w' => e = .returned (.bool (plain s)) ∧ w = w' := by
  have CC := Lib.hid (tcontains 123 s w hs hm)
  clear hm
  go_enter Tryd.func8, Tryd.ntmps8
  go_wp2_with (go_at_call 15; refine CC.out.mono ?_; rintro e w9 ⟨rfl, rfl⟩)
  go_ret
  exact ⟨rfl, rfl⟩
theorem fine_of {s : ByteArray} (h1 : plain s = true) (h2 : Lib.hasSuffix s.data.toList [123] = false) : Fine s.data.toList := by
  refine ⟨?_, fun x hx e => ?_⟩
  · unfold plain at h1
    cases h : find2 123 s.data.toList with
    | none => rfl
    | some k => rw [h] at h1; cases h1
  · subst e
    have : [123] <:+ s.data.toList := by
      obtain ⟨l, e⟩ := List.getLast?_eq_some_iff.1 hx
      exact ⟨l, e.symm⟩
    have h3 : Lib.hasSuffix s.data.toList [123] = true := by simpa [Lib.hasSuffix] using this
    rw [h2] at h3; cases h3
end Go.Proofs.YtpcfjlmcahakmaaDoor
