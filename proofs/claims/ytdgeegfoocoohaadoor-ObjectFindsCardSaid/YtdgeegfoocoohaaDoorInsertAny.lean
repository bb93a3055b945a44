/- slices.Insert of one pair into a row of the call's own, whichever road it takes. -/
import Derived.Test.YtdgeegfoocoohaaDoorInsert
namespace Go.Proofs.YtdgeegfoocoohaaDoor
open Go.RowKit Go.Lib

theorem lay_shift {L xs es : List Value} {p q : Nat} (hq : es.length = q) (hp : p ≤ xs.length) (hL : p + q ≤ L.length) (ht : L.take p = xs.take p) :
    (((L.take (p + q) ++ xs.drop p ++ L.drop (p + q + (xs.drop p).length)).take p ++ es ++ (L.take (p + q) ++ xs.drop p ++ L.drop (p + q + (xs.drop p).length)).drop (p + es.length))).take (xs.length + q) = xs.take p ++ es ++ xs.drop p := by
  have h1 : (L.take (p + q)).length = p + q := by rw [List.length_take]; omega
  have h2 : (L.take (p + q) ++ xs.drop p ++ L.drop (p + q + (xs.drop p).length)).take p = xs.take p := by
    rw [List.append_assoc, List.take_append_of_le_length (by omega), List.take_take, show min p (p + q) = p by omega, ht]
  have h3 : (L.take (p + q) ++ xs.drop p ++ L.drop (p + q + (xs.drop p).length)).drop (p + es.length) = xs.drop p ++ L.drop (p + q + (xs.drop p).length) := by
    rw [List.append_assoc, hq, List.drop_append_of_le_length (by omega), List.drop_of_length_le (by omega), List.nil_append]
  rw [h2, h3, ← List.append_assoc, List.take_append_of_le_length (by simp; omega), List.take_of_length_le (by simp; omega)]

theorem lay_grow {L xs es : List Value} {p q : Nat} (hq : es.length = q) (hp : p ≤ xs.length) (hL : xs.length + q ≤ L.length) (ht : L.take p = xs.take p) :
    (((L.take p ++ es ++ L.drop (p + es.length)).take (p + q) ++ xs.drop p ++ (L.take p ++ es ++ L.drop (p + es.length)).drop (p + q + (xs.drop p).length))).take (xs.length + q) = xs.take p ++ es ++ xs.drop p := by
  have h1 : (L.take p ++ es).length = p + q := by rw [List.length_append, List.length_take]; omega
  have h2 : (L.take p ++ es ++ L.drop (p + es.length)).take (p + q) = xs.take p ++ es := by
    rw [List.take_append_of_le_length (by omega), List.take_of_length_le (by omega), ht]
  rw [h2, List.take_append_of_le_length (by simp; omega), List.take_of_length_le (by simp; omega)]

theorem Blk.shape {w : World} {g : Nat} {t : TypeId} {cs : Array Value} (h : Blk w g t cs) : w.shape? g = some (t, cs.size) := by
  unfold Blk at h
  simp [World.shape?, h]

theorem grown_refl (w : World) (row : Option Nat) : w.grownBy w row := World.grownBy.refl w row
theorem grown_drew {a w : World} {row : Option Nat} (h : a.grownBy w row) : a.grownBy w.drew row := ⟨h.os, h.tape, h.output, h.size, h.block⟩
theorem grown_alloc (w : World) (row : Option Nat) (o : Obj) : w.grownBy (w.alloc o) row :=
  ⟨rfl, rfl, rfl, by simp, fun k hk _ => Below.heap_alloc w o k hk⟩

end Go.Proofs.YtdgeegfoocoohaaDoor
