/- What comes in, opened: a value that reads as data reads as a tree; a list of values; a list of texts. -/
import Derived.Test.YtkndnoccenlngaaFrame
import Derived.Test.YtkndnoccenlngaaRep
import Derived.ChangeArms
import Derived.ChangeMaps5
namespace Go.Proofs.Ytkndnoccenlngaa
open Go.ChangeShapes Go.WideShapes Go.ChangeAt Go.RowKit

def fieldsOf (P : Program) (t : TypeId) : Option (List (TypeId × Nat)) := (P.underlying t).bind fun d => match d with | .struct fs => some (fs.toList.map fun f => (f.type, f.offset)) | _ => none
theorem und_i : Try.prog.underlying 3 = some (.int .i64) := by kernel_rfl
theorem und_i64 : Try.prog.underlying 2 = some (.int .i64) := by kernel_rfl
theorem und_b : Try.prog.underlying 4 = some .bool := by kernel_rfl
theorem und_s : Try.prog.underlying 9 = some .string := by kernel_rfl

section
variable {H : Type} {enc : TypeId × Value → H} {W : World}

/-- A struct's data, field by field. -/
theorem trod_fields {P : Program} {t : TypeId} {l : List (TypeId × Nat)} {fuel : Nat} {cs : List Value} {x : DataW H × List MemPlace} (hf : fieldsOf P t = some l) (h : DataW.trod enc P W 0 (fun _ => true) true fuel t cs = some x) :
    ∃ (xs : List (DataW H × List MemPlace)) (n : Nat), fuel = n + 1 ∧ x.1 = .agg (xs.map (·.1)) ∧ x.1.weights P t = DataW.weightsEach P (l.map (·.1)) (xs.map (·.1)) ∧ cs.length = P.cellsOf t ∧ xs.length = l.length ∧
      ∀ (i : Nat) (y : TypeId × Nat), l[i]? = some y → DataW.trod enc P W 0 (fun _ => true) true n y.1 ((cs.drop y.2).take (P.cellsOf y.1)) = xs[i]? := by
  unfold fieldsOf at hf
  cases hu : P.underlying t with
  | none => rw [hu] at hf; cases hf
  | some d =>
    rw [hu] at hf
    cases d with
    | struct fs =>
      simp only [Option.bind_some, Option.some.injEq] at hf
      subst hf
      obtain ⟨xs, n, h1, h2, h3, h4, h5⟩ := DataW.trod_struct hu h
      refine ⟨xs, n, h1, by rw [h2], ?_, h3, by simpa using h4, fun i y hy => ?_⟩
      · rw [h2]
        simp only [DataW.weights, hu, List.map_map]
        rfl
      · rw [List.getElem?_map] at hy
        cases hfi : fs.toList[i]? with
        | none => rw [hfi] at hy; cases hy
        | some f =>
          rw [hfi] at hy
          injection hy with hy
          subst hy
          exact h5 i f (by simpa using hfi)
    | _ => simp at hf

theorem all_append {l m : List Nat} {p : Nat → Bool} (h : (l ++ m).all p = true) : l.all p = true ∧ m.all p = true := by simpa using h
theorem weightsAll_mem {P : Program} {e : TypeId} {l : List (DataW H)} (h : (DataW.weightsAll P e l).all (· ≤ reachBytes) = true) : ∀ d ∈ l, (d.weights P e).all (· ≤ reachBytes) = true := by
  induction l with
  | nil => simp
  | cons d r ih =>
    rw [DataW.weightsAll] at h
    obtain ⟨h1, h2⟩ := all_append h
    intro x hx
    rcases List.mem_cons.1 hx with rfl | hx
    · exact h1
    · exact ih h2 x hx

/-- A slice's elements, each by its own reading. -/
theorem trod_row {P : Program} {t e : TypeId} {sz : Nat} {fuel : Nat} {cs : List Value} {x : DataW H × List MemPlace} (hu : P.underlying t = some (.slice e)) (hc : P.cellsOf e = sz) (hpos : 0 < sz)
    (h : DataW.trod enc P W 0 (fun _ => true) true fuel t cs = some x) (hw : (x.1.weights P t).all (· ≤ reachBytes) = true) :
    ∃ (a : Option Addr) (n c : Nat) (k : Nat), cs = [.slice a n c] ∧ k < fuel ∧ n ≤ c ∧ c ≤ maxLen ∧ n * P.bytesOf e ≤ reachBytes ∧
      ∀ i, i < n → ∃ b o es y, a = some ⟨b, o, none⟩ ∧ es.length = sz ∧ cellsAt W b (o + i * sz) es ∧ DataW.trod enc P W 0 (fun _ => true) true k e es = some y ∧ (y.1.weights P e).all (· ≤ reachBytes) = true := by
  have hf0 : 0 < fuel := by
    cases fuel with
    | zero => simp [DataW.trod] at h
    | succ n => omega
  rcases DataW.trod_slice hu h with ⟨rfl, _⟩ | ⟨a, len, cap, elems, rest, n, rfl, rfl, rfl, hb, hl, hm, hlen, hel, hsp, hns⟩
  · exact ⟨none, 0, 0, 0, rfl, hf0, by omega, by unfold maxLen; omega, by omega, fun i hi => by omega⟩
  · simp only [DataW.weights, hu, List.all_cons, List.length_map, Bool.and_eq_true, decide_eq_true_eq] at hw
    obtain ⟨hw1, hw2⟩ := hw
    have hwe := weightsAll_mem (all_append hw2).1
    refine ⟨some a, len, cap, n, rfl, by omega, hl, hm, Nat.le_trans (Nat.mul_le_mul_right _ (by omega)) hw1, fun i hi => ?_⟩
    have hi2 := hel i hi
    have hie : i < elems.length := by omega
    rw [List.getElem?_eq_getElem hie, Option.bind_eq_some_iff] at hi2
    obtain ⟨es, he1, he2⟩ := hi2
    rw [hc] at he1
    obtain ⟨-, hes, hcell⟩ := World.cells?_some he1
    have ha : a = ⟨a.block, a.off, none⟩ := by
      have hi0 := hel 0 (by omega)
      rw [List.getElem?_eq_getElem (show 0 < elems.length by omega), Option.bind_eq_some_iff] at hi0
      obtain ⟨es0, he0, -⟩ := hi0
      rw [hc] at he0
      obtain ⟨-, hes0, hcell0⟩ := World.cells?_some he0
      have h0 := hcell0 0 hpos
      rw [List.getElem?_eq_getElem (by omega), Nat.zero_mul] at h0
      have : (a.add 0).add 0 = a := by simp [Addr.add]
      rw [this] at h0
      exact spot_none h0
    refine ⟨a.block, a.off, es, elems[i], by rw [← ha], hes, fun j v hv => ?_, he2, hwe _ (List.mem_map_of_mem (List.getElem_mem hie))⟩
    have hj : j < sz := by
      have := (List.getElem?_eq_some_iff.1 hv).1
      omega
    have := hcell j hj
    rw [ha, add_none, add_none, hv] at this
    exact this

theorem wf64 {n : Int} (h : (Lit.int .i64 n).wf = true) : i64ok n := by
  exact bounds_i64 h

/-- The elements of a slice of texts. -/
def RepS (w : World) (S : Nat → Prop) (a : Option Addr) (l : List ByteArray) : Prop :=
  ∀ i (h : i < l.length), ∃ b o, a = some ⟨b, o, none⟩ ∧ S b ∧ b < w.heap.size ∧ w.cell? ⟨b, o + i, none⟩ = some (.string l[i]) ∧ l[i].size ≤ 140737488351232
theorem each_weights {P : Program} {t : TypeId} {ts : List TypeId} {d : DataW H} {ds : List (DataW H)} (h : (DataW.weightsEach P (t :: ts) (d :: ds)).all (· ≤ reachBytes) = true) : (d.weights P t).all (· ≤ reachBytes) = true ∧ (DataW.weightsEach P ts ds).all (· ≤ reachBytes) = true := by
  rw [DataW.weightsEach] at h
  exact all_append h
set_option maxRecDepth 100000 in
theorem open_text {r : Reach} {b0 : Nat} {v : Value} {d : DataW H} {p : List MemPlace} (hv : Value.okWide Try.prog W r b0 9 v) (h : DataW.Trod enc Try.prog W 0 (fun _ => true) true 9 v d p)
    (hw : (d.weights Try.prog 9).all (· ≤ reachBytes) = true) : ∃ s : ByteArray, v = .string s ∧ s.size ≤ 140737488351232 := by
  obtain ⟨s, rfl, rfl, -, -⟩ := Go.ChangeMaps.open_string und_s hv h
  simp only [DataW.weights, List.all_cons, List.all_nil, Bool.and_true] at hw
  have := of_decide_eq_true hw
  exact ⟨s, rfl, by simpa [reachBytes] using this⟩

end
end Go.Proofs.Ytkndnoccenlngaa
