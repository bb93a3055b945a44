/- Quotes' contracts with their answers known. -/
import Derived.Test.YtjnbjehcmckdeaaDoorScalA
import Derived.Test.YtjnbjehcmckdeaaDoorScalU
import Derived.Test.YtjnbjehcmckdeaaDoorScalQ
namespace Go.Proofs.YtjnbjehcmckdeaaDoor
open Go.RowKit

theorem tquote_call {s r : ByteArray} (h : quoteL s.data.toList = r.data.toList) (hs : s.size ≤ 1000000) (w : World) : Calls Tryd.prog 49 #[.string s] w fun e w' => e = .returned (.string r) ∧ Below w.heap.size w w' := by
  refine (tsquote s hs w).mono ?_
  rintro e w' ⟨q, rfl, hq, hb⟩
  obtain rfl : q = r := list_ext (by rw [hq, h])
  exact ⟨rfl, hb⟩
theorem rquote_call {s r : ByteArray} (h : quoteL s.data.toList = r.data.toList) (hs : s.size ≤ 1000000) (w : World) : Calls Tryd.prog 51 #[.string s] w fun e w' => e = .returned (.string r) ∧ Below w.heap.size w w' := by
  refine (rquote s hs w).mono ?_
  rintro e w' ⟨q, rfl, hq, rfl⟩
  obtain rfl : q = r := list_ext (by rw [hq, h])
  exact ⟨rfl, Below.refl _ _⟩
theorem rsingle_call {s r : ByteArray} (h : singleL s.data.toList = r.data.toList) (hs : s.size ≤ 1000000) (w : World) : Calls Tryd.prog 52 #[.string s] w fun e w' => e = .returned (.string r) ∧ Below w.heap.size w w' := by
  refine (rsingle s hs w).mono ?_
  rintro e w' ⟨q, rfl, hq, rfl⟩
  obtain rfl : q = r := list_ext (by rw [hq, h])
  exact ⟨rfl, Below.refl _ _⟩
theorem unq_some {s a b : ByteArray} (h : unqL s.data.toList = some (a.data.toList, b.data.toList)) (hs : s.size ≤ 10000000) (w : World) : Calls Tryd.prog 50 #[.string s] w fun e w' => e = .returned (.tuple #[.string a, .string b, .int .i64 0]) ∧ Below w.heap.size w w' := by
  refine (tunquote s hs w).mono ?_
  rintro e w' ⟨v1, v2, ec, rfl, hu, hb⟩
  rcases hu with ⟨c, d, h1, h2, h3, h4⟩ | ⟨h1, -⟩
  · rw [h] at h1
    simp only [Option.some.injEq, Prod.mk.injEq] at h1
    obtain rfl : v1 = a := list_ext (by rw [h2, h1.1])
    obtain rfl : v2 = b := list_ext (by rw [h3, h1.2])
    rw [h4]
    exact ⟨rfl, hb⟩
  · rw [h] at h1; cases h1
theorem unq_none {s : ByteArray} (h : unqL s.data.toList = none) (hs : s.size ≤ 10000000) (w : World) : Calls Tryd.prog 50 #[.string s] w fun e w' => e = .returned (.tuple #[.string ⟨#[]⟩, .string ⟨#[]⟩, .int .i64 11]) ∧ Below w.heap.size w w' := by
  refine (tunquote s hs w).mono ?_
  rintro e w' ⟨v1, v2, ec, rfl, hu, hb⟩
  rcases hu with ⟨c, d, h1, -⟩ | ⟨-, h2, h3, h4⟩
  · rw [h] at h1; cases h1
  · rw [h2, h3, h4]
    exact ⟨rfl, hb⟩
theorem unq_len {l c d : List UInt8} (h : unqL l = some (c, d)) : c.length + d.length ≤ l.length := by
  have e1 : ∀ x : List UInt8, x.length ≤ (escL x).length := by
    intro x
    induction x with
    | nil => simp
    | cons a x ih =>
      have e : escL (a :: x) = esc1 a ++ escL x := by simp [escL]
      have h1 : 1 ≤ (esc1 a).length := by unfold esc1; repeat (first | (split) | simp)
      rw [e, List.length_append, List.length_cons]; omega
  have e2 : ∀ x : List UInt8, x.length ≤ (sescL x).length := by
    intro x
    induction x with
    | nil => simp
    | cons a x ih =>
      have e : sescL (a :: x) = sesc1 a ++ sescL x := by simp [sescL]
      have h1 : 1 ≤ (sesc1 a).length := by unfold sesc1; repeat (first | (split) | simp)
      rw [e, List.length_append, List.length_cons]; omega
  rcases unq_back h with h | h
  · rw [h, quoteL]; have := e1 c; simp; omega
  · rw [h, singleL]; have := e2 c; simp; omega
end Go.Proofs.YtjnbjehcmckdeaaDoor
