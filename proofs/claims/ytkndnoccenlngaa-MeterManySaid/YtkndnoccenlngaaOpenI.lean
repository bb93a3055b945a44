/- Lists of lists of numbers, and lists of small numbers, that came in. -/
import Derived.Test.YtkndnoccenlngaaMany
import Derived.Test.YtkndnoccenlngaaOpen
namespace Go.Proofs.Ytkndnoccenlngaa
open Go.ChangeShapes Go.WideShapes Go.ChangeAt Go.RowKit

section
variable {H : Type} {enc : TypeId × Value → H} {P : Program}
/-- What a list of numbers reads as. -/
theorem trod_nums {t e : TypeId} {k : IntKind} {W : World} {fuel : Nat} {cs : List Value} {x : DataW H × List MemPlace} (ht : P.underlying t = some (.slice e)) (he : P.underlying e = some (.int k)) (hc : P.cellsOf e = 1)
    (h : DataW.trod enc P W 0 (fun _ => true) true fuel t cs = some x) :
    ∃ a n c xs, cs = [.slice a n c] ∧ n = xs.length ∧ n ≤ 9223372036854775807 ∧ RepI W (fun b => b < W.heap.size) k a xs ∧ ∀ z ∈ xs, (Lit.int k z).wf = true := by
  rcases open_ints ht he hc h with ⟨hcs, hx⟩ | ⟨a, len', cap', zs, hcs, _, hl, hm, hz, hx, hcell, hwz⟩
  · exact ⟨none, 0, 0, [], hcs, rfl, by omega, fun i hi => by simp at hi, by simp⟩
  · rw [if_pos rfl] at hz
    have hlen : (zs.take len').length = len' := by rw [List.length_take]; omega
    refine ⟨some a, len', cap', zs.take len', hcs, hlen.symm, by unfold maxLen at hm; omega, fun i hi => ?_, fun z hz2 => hwz z (List.mem_of_mem_take hz2)⟩
    have hi' : i < len' := by omega
    have h0 := hcell 0 (by omega)
    have hs : a = ⟨a.block, a.off, none⟩ := by
      have : a.add 0 = a := by simp [Addr.add]
      rw [this] at h0
      exact spot_none h0
    have hi2 := hcell i (by omega)
    rw [hs, add_none] at hi2
    have hlt := block_lt_of_cell (a := ⟨a.block, a.off + i, none⟩) hi2
    refine ⟨a.block, a.off, by rw [← hs], hlt, hlt, ?_⟩
    rw [hi2]
    simp [List.getElem_take, show i < zs.length by omega]
end
set_option maxRecDepth 100000 in
theorem open_u8s {H : Type} {enc : TypeId × Value → H} {W : World} {r : Reach} {b0 : Nat} {v : Value} {d : DataW H} {p : List MemPlace} (hv : Value.okWide Try.prog W r b0 23 v) (h : DataW.Trod enc Try.prog W 0 (fun _ => true) true 23 v d p) :
    ∃ a l c, v = .slice a (List.length (α := Int) l) c ∧ RepI W (fun _ => True) .u8 a l ∧ l.length ≤ 9223372036854775807 ∧ ∀ t ∈ l, 0 ≤ t ∧ t ≤ 255 := by
  obtain ⟨a0, n0, c0, rfl⟩ := okWide_slice Try.underlying23 hv
  obtain ⟨fuel, hf⟩ := h
  obtain ⟨a, n, c, xs, hcs, rfl, h1, hr, hb⟩ := trod_nums Try.underlying23 Try.underlying5 (by kernel_rfl) hf
  simp [Value.cells] at hcs
  obtain ⟨rfl, rfl, rfl⟩ := hcs
  refine ⟨a0, xs, c0, rfl, fun i hi => ?_, h1, fun t ht => bounds_u8 (hb t ht)⟩
  obtain ⟨b, o, e, _, h2, h3⟩ := hr i hi
  exact ⟨b, o, e, trivial, h2, h3⟩
theorem und_LL : Try.prog.underlying 22 = some (.slice 37) := by kernel_rfl
set_option maxRecDepth 100000 in
theorem open_LL {H : Type} {enc : TypeId × Value → H} {W : World} {r : Reach} {b0 : Nat} {v : Value} {d : DataW H} {p : List MemPlace} (hv : Value.okWide Try.prog W r b0 22 v) (h : DataW.Trod enc Try.prog W 0 (fun _ => true) true 22 v d p)
    (hw : (d.weights Try.prog 22).all (· ≤ reachBytes) = true) : ∃ a l c, v = .slice a (List.length (α := List Int) l) c ∧ RepLL W.heap.size W a l ∧ l.length ≤ 9223372036854775807 := by
  obtain ⟨a0, n0, c0, rfl⟩ := okWide_slice und_LL hv
  obtain ⟨fuel, hf⟩ := h
  obtain ⟨a, n, c, k, hl, -, h1, h2, h3, he⟩ := trod_row und_LL (show Try.prog.cellsOf 37 = 1 by kernel_rfl) (by omega) hf hw
  simp [Value.cells] at hl
  obtain ⟨rfl, rfl, rfl⟩ := hl
  have hL : ∀ i, ∃ q : List Int, i < n0 → ∃ b o ai ci, a0 = some ⟨b, o, none⟩ ∧ W.cell? ⟨b, o + i, none⟩ = some (.slice ai q.length ci) ∧ RepI W (fun b => b < W.heap.size) .i64 ai q ∧ q.length ≤ 9223372036854775807 := fun i => by
    by_cases hi : i < n0
    · obtain ⟨b, o, es, y, e1, e2, e3, e4, e5⟩ := he i hi
      obtain ⟨ai, n, ci, xs, hcs, rfl, h4, hr, -⟩ := trod_nums Try.underlying37 Try.underlying3 (by kernel_rfl) e4
      subst hcs
      exact ⟨xs, fun _ => ⟨b, o, ai, ci, e1, by simpa using e3 0 _ rfl, hr, h4⟩⟩
    · exact ⟨[], fun h => absurd h hi⟩
  have hLc := fun i => Classical.choose_spec (hL i)
  refine ⟨a0, (List.range n0).map fun i => Classical.choose (hL i), c0, by simp, fun i hi => ?_, by simp; unfold maxLen at h2; omega⟩
  have hi' : i < n0 := by simpa using hi
  obtain ⟨b, o, ai, ci, e1, e2, e3, e4⟩ := hLc i hi'
  have hlt := block_lt_of_cell (a := ⟨b, o + i, none⟩) e2
  exact ⟨b, o, ai, ci, e1, hlt, hlt, by simpa using e2, by simpa using e3, by simpa using e4⟩
end Go.Proofs.Ytkndnoccenlngaa
