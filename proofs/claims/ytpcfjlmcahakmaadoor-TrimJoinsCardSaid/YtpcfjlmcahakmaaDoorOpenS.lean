/- What comes in, opened, where no tree is in sight: a text; a list of texts. -/
import Derived.Test.YtpcfjlmcahakmaaDoorFrame
import Derived.ChangeArms
import Derived.ChangeMaps5
namespace Go.Proofs.YtpcfjlmcahakmaaDoor
open Go.ChangeShapes Go.WideShapes Go.ChangeAt Go.RowKit

theorem und_s : Tryd.prog.underlying 9 = some .string := by kernel_rfl
theorem str_cells : Tryd.prog.cellsOf 9 = 1 := by kernel_rfl
section
variable {H : Type} {enc : TypeId × Value → H} {W : World}

theorem all_append {l m : List Nat} {p : Nat → Bool} (h : (l ++ m).all p = true) : l.all p = true ∧ m.all p = true := by simpa using h
theorem weightsAll_mem {P : Program} {e : TypeId} {l : List (DataW H)} (h : (DataW.weightsAll P e l).all (· ≤ reachBytes) = true) : ∀ d ∈ l, (d.weights P e).all (· ≤ reachBytes) = true := by
  induction l with
  | nil => simp
  | cons d r ih =>
    rw [DataW.weightsAll] at h
    obtain ⟨h1, h2⟩ := all_append h
    intro x hx
    rcases List.mem_cons.1 hx with rfl | hx
    · exact h1
    · exact ih h2 x hx

/-- A slice's elements, each by its own reading. -/
theorem trod_row {P : Program} {t e : TypeId} {sz : Nat} {fuel : Nat} {cs : List Value} {x : DataW H × List MemPlace} (hu : P.underlying t = some (.slice e)) (hc : P.cellsOf e = sz) (hpos : 0 < sz)
    (h : DataW.trod enc P W 0 (fun _ => true) true fuel t cs = some x) (hw : (x.1.weights P t).all (· ≤ reachBytes) = true) :
    ∃ (a : Option Addr) (n c : Nat) (k : Nat), cs = [.slice a n c] ∧ k < fuel ∧ n ≤ c ∧ c ≤ maxLen ∧ n * P.bytesOf e ≤ reachBytes ∧
      ∀ i, i < n → ∃ b o es y, a = some ⟨b, o, none⟩ ∧ es.length = sz ∧ cellsAt W b (o + i * sz) es ∧ DataW.trod enc P W 0 (fun _ => true) true k e es = some y ∧ (y.1.weights P e).all (· ≤ reachBytes) = true := by
  have hf0 : 0 < fuel := by
    cases fuel with
    | zero => simp [DataW.trod] at h
    | succ n => omega
  rcases DataW.trod_slice hu h with ⟨rfl, _⟩ | ⟨a, len, cap, elems, rest, n, rfl, rfl, rfl, hb, hl, hm, hlen, hel, hsp, hns⟩
  · exact ⟨none, 0, 0, 0, rfl, hf0, by omega, by unfold maxLen; omega, by omega, fun i hi => by omega⟩
  · simp only [DataW.weights, hu, List.all_cons, List.length_map, Bool.and_eq_true, decide_eq_true_eq] at hw
    obtain ⟨hw1, hw2⟩ := hw
    have hwe := weightsAll_mem (all_append hw2).1
    refine ⟨some a, len, cap, n, rfl, by omega, hl, hm, Nat.le_trans (Nat.mul_le_mul_right _ (by omega)) hw1, fun i hi => ?_⟩
    have hi2 := hel i hi
    have hie : i < elems.length := by omega
    rw [List.getElem?_eq_getElem hie, Option.bind_eq_some_iff] at hi2
    obtain ⟨es, he1, he2⟩ := hi2
    rw [hc] at he1
    obtain ⟨-, hes, hcell⟩ := World.cells?_some he1
    have ha : a = ⟨a.block, a.off, none⟩ := by
      have hi0 := hel 0 (by omega)
      rw [List.getElem?_eq_getElem (show 0 < elems.length by omega), Option.bind_eq_some_iff] at hi0
      obtain ⟨es0, he0, -⟩ := hi0
      rw [hc] at he0
      obtain ⟨-, hes0, hcell0⟩ := World.cells?_some he0
      have h0 := hcell0 0 hpos
      rw [List.getElem?_eq_getElem (by omega), Nat.zero_mul] at h0
      have : (a.add 0).add 0 = a := by simp [Addr.add]
      rw [this] at h0
      exact spot_none h0
    refine ⟨a.block, a.off, es, elems[i], by rw [← ha], hes, fun j v hv => ?_, he2, hwe _ (List.mem_map_of_mem (List.getElem_mem hie))⟩
    have hj : j < sz := by
      have := (List.getElem?_eq_some_iff.1 hv).1
      omega
    have := hcell j hj
    rw [ha, add_none, add_none, hv] at this
    exact this

theorem und_ss : Tryd.prog.underlying 32 = some (.slice 9) := by kernel_rfl
/-- The elements of a slice of texts. -/
def RepS (w : World) (S : Nat → Prop) (a : Option Addr) (l : List ByteArray) : Prop :=
  ∀ i (h : i < l.length), ∃ b o, a = some ⟨b, o, none⟩ ∧ S b ∧ b < w.heap.size ∧ w.cell? ⟨b, o + i, none⟩ = some (.string l[i]) ∧ l[i].size ≤ 140737488351232
set_option maxRecDepth 100000 in
/-- A list of texts that came in. -/
theorem open_texts {r : Reach} {b0 : Nat} {v : Value} {d : DataW H} {p : List MemPlace} (hv : Value.okWide Tryd.prog W r b0 32 v) (h : DataW.Trod enc Tryd.prog W 0 (fun _ => true) true 32 v d p)
    (hw : (d.weights Tryd.prog 32).all (· ≤ reachBytes) = true) : ∃ a l c, v = .slice a l.length c ∧ RepS W (fun _ => True) a l ∧ l.length ≤ c ∧ c ≤ maxLen ∧ l.length * 16 ≤ 140737488355328 := by
  obtain ⟨a0, n0, c0, rfl⟩ := okWide_slice und_ss hv
  obtain ⟨fuel, hf⟩ := h
  obtain ⟨a, n, c, k, hl, -, h1, h2, h3, he⟩ := trod_row und_ss str_cells (by omega) hf hw
  simp [Value.cells] at hl
  obtain ⟨rfl, rfl, rfl⟩ := hl
  rw [show Tryd.prog.bytesOf 9 = 16 by kernel_rfl] at h3
  have hL : ∀ i, ∃ s : ByteArray, i < n0 → ∃ b o, a0 = some ⟨b, o, none⟩ ∧ W.cell? ⟨b, o + i, none⟩ = some (.string s) ∧ s.size ≤ 140737488351232 := fun i => by
    by_cases hi : i < n0
    · obtain ⟨b, o, es, y, e1, e2, e3, e4, e5⟩ := he i hi
      obtain ⟨s, hs, hy, -⟩ := DataW.trod_string und_s e4
      subst hs
      rw [hy] at e5
      simp only [DataW.weights, List.all_cons, List.all_nil, Bool.and_true] at e5
      have := of_decide_eq_true e5
      exact ⟨s, fun _ => ⟨b, o, e1, by simpa using e3 0 _ rfl, by simpa [reachBytes] using this⟩⟩
    · exact ⟨⟨#[]⟩, fun h => absurd h hi⟩
  have hLc := fun i => Classical.choose_spec (hL i)
  refine ⟨a0, (List.range n0).map fun i => Classical.choose (hL i), c0, by simp, fun i hi => ?_, by simpa using h1, h2, by simp only [List.length_map, List.length_range]; unfold reachBytes at h3; omega⟩
  have hi' : i < n0 := by simpa using hi
  obtain ⟨b, o, e1, e2, e3⟩ := hLc i hi'
  exact ⟨b, o, e1, trivial, block_lt_of_cell (a := ⟨b, o + i, none⟩) e2, by simpa using e2, by simpa using e3⟩
theorem each_weights {P : Program} {t : TypeId} {ts : List TypeId} {d : DataW H} {ds : List (DataW H)} (h : (DataW.weightsEach P (t :: ts) (d :: ds)).all (· ≤ reachBytes) = true) : (d.weights P t).all (· ≤ reachBytes) = true ∧ (DataW.weightsEach P ts ds).all (· ≤ reachBytes) = true := by
  rw [DataW.weightsEach] at h
  exact all_append h
set_option maxRecDepth 100000 in
theorem open_text {r : Reach} {b0 : Nat} {v : Value} {d : DataW H} {p : List MemPlace} (hv : Value.okWide Tryd.prog W r b0 9 v) (h : DataW.Trod enc Tryd.prog W 0 (fun _ => true) true 9 v d p)
    (hw : (d.weights Tryd.prog 9).all (· ≤ reachBytes) = true) : ∃ s : ByteArray, v = .string s ∧ s.size ≤ 140737488351232 := by
  obtain ⟨s, rfl, rfl, -, -⟩ := Go.ChangeMaps.open_string und_s hv h
  simp only [DataW.weights, List.all_cons, List.all_nil, Bool.and_true] at hw
  have := of_decide_eq_true hw
  exact ⟨s, rfl, by simpa [reachBytes] using this⟩

end
end Go.Proofs.YtpcfjlmcahakmaaDoor
