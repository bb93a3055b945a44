/- What comes in, opened: a value that reads as data reads as a tree; a list of values; a list of texts. -/
import Derived.Test.YtgbbojnigicnoaaDoorFrame
import Derived.Test.YtgbbojnigicnoaaDoorRep
import Derived.ChangeArms
import Derived.ChangeMaps5
namespace Go.Proofs.YtgbbojnigicnoaaDoor
open Go.ChangeShapes Go.WideShapes Go.ChangeAt Go.RowKit

def fieldsOf (P : Program) (t : TypeId) : Option (List (TypeId × Nat)) := (P.underlying t).bind fun d => match d with | .struct fs => some (fs.toList.map fun f => (f.type, f.offset)) | _ => none
theorem val_fields : fieldsOf Tryd.prog 25 = some [(3, 0), (4, 1), (2, 2), (9, 3), (22, 4), (23, 5)] := by kernel_rfl
theorem pair_fields : fieldsOf Tryd.prog 41 = some [(9, 0), (25, 1)] := by kernel_rfl
theorem val_cells : Tryd.prog.cellsOf 25 = 6 := by kernel_rfl
theorem pair_cells : Tryd.prog.cellsOf 41 = 7 := by kernel_rfl
theorem one_cells : Tryd.prog.cellsOf 3 = 1 ∧ Tryd.prog.cellsOf 4 = 1 ∧ Tryd.prog.cellsOf 2 = 1 ∧ Tryd.prog.cellsOf 9 = 1 ∧ Tryd.prog.cellsOf 22 = 1 ∧ Tryd.prog.cellsOf 23 = 1 :=
  ⟨by kernel_rfl, by kernel_rfl, by kernel_rfl, by kernel_rfl, by kernel_rfl, by kernel_rfl⟩
theorem val_bytes : Tryd.prog.bytesOf 25 = 88 := by kernel_rfl
theorem pair_bytes : Tryd.prog.bytesOf 41 = 104 := by kernel_rfl
theorem und_vals : Tryd.prog.underlying 22 = some (.slice 25) := by kernel_rfl
theorem und_prs : Tryd.prog.underlying 23 = some (.slice 41) := by kernel_rfl
theorem und_i : Tryd.prog.underlying 3 = some (.int .i64) := by kernel_rfl
theorem und_i64 : Tryd.prog.underlying 2 = some (.int .i64) := by kernel_rfl
theorem und_b : Tryd.prog.underlying 4 = some .bool := by kernel_rfl
theorem und_s : Tryd.prog.underlying 9 = some .string := by kernel_rfl

section
variable {H : Type} {enc : TypeId × Value → H} {W : World}

/-- A struct's data, field by field. -/
theorem trod_fields {P : Program} {t : TypeId} {l : List (TypeId × Nat)} {fuel : Nat} {cs : List Value} {x : DataW H × List MemPlace} (hf : fieldsOf P t = some l) (h : DataW.trod enc P W 0 (fun _ => true) true fuel t cs = some x) :
    ∃ (xs : List (DataW H × List MemPlace)) (n : Nat), fuel = n + 1 ∧ x.1 = .agg (xs.map (·.1)) ∧ x.1.weights P t = DataW.weightsEach P (l.map (·.1)) (xs.map (·.1)) ∧ cs.length = P.cellsOf t ∧ xs.length = l.length ∧
      ∀ (i : Nat) (y : TypeId × Nat), l[i]? = some y → DataW.trod enc P W 0 (fun _ => true) true n y.1 ((cs.drop y.2).take (P.cellsOf y.1)) = xs[i]? := by
  unfold fieldsOf at hf
  cases hu : P.underlying t with
  | none => rw [hu] at hf; cases hf
  | some d =>
    rw [hu] at hf
    cases d with
    | struct fs =>
      simp only [Option.bind_some, Option.some.injEq] at hf
      subst hf
      obtain ⟨xs, n, h1, h2, h3, h4, h5⟩ := DataW.trod_struct hu h
      refine ⟨xs, n, h1, by rw [h2], ?_, h3, by simpa using h4, fun i y hy => ?_⟩
      · rw [h2]
        simp only [DataW.weights, hu, List.map_map]
        rfl
      · rw [List.getElem?_map] at hy
        cases hfi : fs.toList[i]? with
        | none => rw [hfi] at hy; cases hy
        | some f =>
          rw [hfi] at hy
          injection hy with hy
          subst hy
          exact h5 i f (by simpa using hfi)
    | _ => simp at hf

theorem all_append {l m : List Nat} {p : Nat → Bool} (h : (l ++ m).all p = true) : l.all p = true ∧ m.all p = true := by simpa using h
theorem weightsAll_mem {P : Program} {e : TypeId} {l : List (DataW H)} (h : (DataW.weightsAll P e l).all (· ≤ reachBytes) = true) : ∀ d ∈ l, (d.weights P e).all (· ≤ reachBytes) = true := by
  induction l with
  | nil => simp
  | cons d r ih =>
    rw [DataW.weightsAll] at h
    obtain ⟨h1, h2⟩ := all_append h
    intro x hx
    rcases List.mem_cons.1 hx with rfl | hx
    · exact h1
    · exact ih h2 x hx

/-- A slice's elements, each by its own reading. -/
theorem trod_row {P : Program} {t e : TypeId} {sz : Nat} {fuel : Nat} {cs : List Value} {x : DataW H × List MemPlace} (hu : P.underlying t = some (.slice e)) (hc : P.cellsOf e = sz) (hpos : 0 < sz)
    (h : DataW.trod enc P W 0 (fun _ => true) true fuel t cs = some x) (hw : (x.1.weights P t).all (· ≤ reachBytes) = true) :
    ∃ (a : Option Addr) (n c : Nat) (k : Nat), cs = [.slice a n c] ∧ k < fuel ∧ n ≤ c ∧ c ≤ maxLen ∧ n * P.bytesOf e ≤ reachBytes ∧
      ∀ i, i < n → ∃ b o es y, a = some ⟨b, o, none⟩ ∧ es.length = sz ∧ cellsAt W b (o + i * sz) es ∧ DataW.trod enc P W 0 (fun _ => true) true k e es = some y ∧ (y.1.weights P e).all (· ≤ reachBytes) = true := by
  have hf0 : 0 < fuel := by
    cases fuel with
    | zero => simp [DataW.trod] at h
    | succ n => omega
  rcases DataW.trod_slice hu h with ⟨rfl, _⟩ | ⟨a, len, cap, elems, rest, n, rfl, rfl, rfl, hb, hl, hm, hlen, hel, hsp, hns⟩
  · exact ⟨none, 0, 0, 0, rfl, hf0, by omega, by unfold maxLen; omega, by omega, fun i hi => by omega⟩
  · simp only [DataW.weights, hu, List.all_cons, List.length_map, Bool.and_eq_true, decide_eq_true_eq] at hw
    obtain ⟨hw1, hw2⟩ := hw
    have hwe := weightsAll_mem (all_append hw2).1
    refine ⟨some a, len, cap, n, rfl, by omega, hl, hm, Nat.le_trans (Nat.mul_le_mul_right _ (by omega)) hw1, fun i hi => ?_⟩
    have hi2 := hel i hi
    have hie : i < elems.length := by omega
    rw [List.getElem?_eq_getElem hie, Option.bind_eq_some_iff] at hi2
    obtain ⟨es, he1, he2⟩ := hi2
    rw [hc] at he1
    obtain ⟨-, hes, hcell⟩ := World.cells?_some he1
    have ha : a = ⟨a.block, a.off, none⟩ := by
      have hi0 := hel 0 (by omega)
      rw [List.getElem?_eq_getElem (show 0 < elems.length by omega), Option.bind_eq_some_iff] at hi0
      obtain ⟨es0, he0, -⟩ := hi0
      rw [hc] at he0
      obtain ⟨-, hes0, hcell0⟩ := World.cells?_some he0
      have h0 := hcell0 0 hpos
      rw [List.getElem?_eq_getElem (by omega), Nat.zero_mul] at h0
      have : (a.add 0).add 0 = a := by simp [Addr.add]
      rw [this] at h0
      exact spot_none h0
    refine ⟨a.block, a.off, es, elems[i], by rw [← ha], hes, fun j v hv => ?_, he2, hwe _ (List.mem_map_of_mem (List.getElem_mem hie))⟩
    have hj : j < sz := by
      have := (List.getElem?_eq_some_iff.1 hv).1
      omega
    have := hcell j hj
    rw [ha, add_none, add_none, hv] at this
    exact this

theorem wf64 {n : Int} (h : (Lit.int .i64 n).wf = true) : i64ok n := by
  exact bounds_i64 h

set_option maxRecDepth 100000 in
/-- A value that reads as data reads as a tree. -/
theorem open_tree (fuel : Nat) : ∀ (cs : List Value) (x : DataW H × List MemPlace), DataW.trod enc Tryd.prog W 0 (fun _ => true) true fuel 25 cs = some x → (x.1.weights Tryd.prog 25).all (· ≤ reachBytes) = true →
    ∃ t, RepT W (fun _ => True) (.agg cs.toArray) t := by
  induction fuel using Nat.strongRecOn with
  | _ fuel ih =>
  intro cs x h hw
  obtain ⟨xs, n, rfl, -, hwe, hlen, hxl, hx⟩ := trod_fields val_fields h
  rw [val_cells] at hlen
  rw [hwe] at hw
  match cs, hlen with
  | [c0, c1, c2, c3, c4, c5], _ =>
  match xs, hxl with
  | [y0, y1, y2, y3, y4, y5], _ =>
  obtain ⟨q0, q1, q2, q3, q4, q5⟩ := one_cells
  have h0 := hx 0 _ rfl
  have h1 := hx 1 _ rfl
  have h2 := hx 2 _ rfl
  have h3 := hx 3 _ rfl
  have h4 := hx 4 _ rfl
  have h5 := hx 5 _ rfl
  simp only [q0, q1, q2, q3, q4, q5] at h0 h1 h2 h3 h4 h5
  obtain ⟨k, hk, -, hkw⟩ := DataW.trod_int und_i h0
  obtain ⟨b, hb, -⟩ := DataW.trod_bool und_b h1
  obtain ⟨m, hm, -, hmw⟩ := DataW.trod_int und_i64 h2
  obtain ⟨s, hs, hy3, -⟩ := DataW.trod_string und_s h3
  simp only [List.map_cons, List.map_nil, DataW.weightsEach] at hw
  obtain ⟨-, hw⟩ := all_append hw
  obtain ⟨-, hw⟩ := all_append hw
  obtain ⟨-, hw⟩ := all_append hw
  obtain ⟨hw3, hw⟩ := all_append hw
  obtain ⟨hw4, hw⟩ := all_append hw
  obtain ⟨hw5, -⟩ := all_append hw
  rw [hy3] at hw3
  simp [DataW.weights, reachBytes] at hw3
  obtain ⟨la, ln, lc, k4, hl, hk4, hl1, hl2, hl3, hle⟩ := trod_row und_vals val_cells (by omega) h4 hw4
  obtain ⟨ma, mn, mc, k5, hmm, hk5, hm1, hm2, hm3, hme⟩ := trod_row und_prs pair_cells (by omega) h5 hw5
  simp at hk hb hm hs hl hmm
  subst hk hb hm hs hl hmm
  rw [val_bytes] at hl3
  rw [pair_bytes] at hm3
  have hL : ∀ i, ∃ t, i < ln → ∃ b o es, la = some ⟨b, o, none⟩ ∧ cellsAt W b (o + i * 6) es ∧ RepT W (fun _ => True) (.agg es.toArray) t := fun i => by
    by_cases hi : i < ln
    · obtain ⟨b, o, es, y, e1, e2, e3, e4, e5⟩ := hle i hi
      obtain ⟨t, ht⟩ := ih k4 (by omega) es y e4 e5
      exact ⟨t, fun _ => ⟨b, o, es, e1, e3, ht⟩⟩
    · exact ⟨T.zero, fun h => absurd h hi⟩
  have hM : ∀ i, ∃ (p : ByteArray × T), i < mn → ∃ b o es, ma = some ⟨b, o, none⟩ ∧ p.1.size ≤ 140737488351232 ∧ cellsAt W b (o + i * 7) (.string p.1 :: es) ∧ RepT W (fun _ => True) (.agg es.toArray) p.2 := fun i => by
    by_cases hi : i < mn
    · obtain ⟨b, o, es, y, e1, e2, e3, e4, e5⟩ := hme i hi
      obtain ⟨zs, n2, hn2, -, hwe2, hlen2, hzl, hz⟩ := trod_fields pair_fields e4
      rw [hwe2] at e5
      match zs, hzl with
      | [z0, z1], _ =>
      match es, e2 with
      | e0 :: es, e2 =>
      have g0 := hz 0 _ rfl
      have g1 := hz 1 _ rfl
      simp only [q3, val_cells] at g0 g1
      obtain ⟨ks, hks, hz0, -⟩ := DataW.trod_string und_s g0
      simp only [List.map_cons, List.map_nil, DataW.weightsEach] at e5
      obtain ⟨e50, e5⟩ := all_append e5
      obtain ⟨e51, -⟩ := all_append e5
      rw [hz0] at e50
      simp [DataW.weights, reachBytes] at e50
      simp at hks
      subst hks
      have g1' : DataW.trod enc Tryd.prog W 0 (fun _ => true) true n2 25 es = some z1 := by
        have : List.take 6 (List.drop 1 (Value.string ks :: es)) = es := by
          rw [List.drop_succ_cons, List.drop_zero, List.take_of_length_le]
          simp at e2; omega
        rw [this] at g1
        simpa using g1
      obtain ⟨t, ht⟩ := ih n2 (by omega) es z1 g1' e51
      exact ⟨(ks, t), fun _ => ⟨b, o, es, e1, of_decide_eq_true e50, e3, ht⟩⟩
    · exact ⟨(⟨#[]⟩, T.zero), fun h => absurd h hi⟩
  have hLc := fun i => Classical.choose_spec (hL i)
  have hMc := fun i => Classical.choose_spec (hM i)
  refine ⟨.mk k b m s ((List.range ln).map fun i => Classical.choose (hL i)) ((List.range mn).map fun i => Classical.choose (hM i)), ?_⟩
  have := RepT.of (w := W) (S := fun _ => True) (t := .mk k b m s ((List.range ln).map fun i => Classical.choose (hL i)) ((List.range mn).map fun i => Classical.choose (hM i))) (la := la) (lc := lc) (ma := ma) (mc := mc)
    ⟨wf64 hkw, wf64 hmw, of_decide_eq_true hw3, (by simp only [T.list, List.length_map, List.length_range]; unfold reachBytes at hl3; omega), (by simp only [T.map, List.length_map, List.length_range]; unfold reachBytes at hm3; omega), (by simp only [T.list, List.length_map, List.length_range]; exact hl1), (by simp only [T.map, List.length_map, List.length_range]; exact hm1), hl2, hm2, fun i hi => ?_, fun i hi => ?_⟩
  · simpa [T.kind, T.bool, T.int, T.str, T.list, T.map] using this
  · have hi' : i < ln := by simpa [T.list] using hi
    obtain ⟨b, o, es, e1, e2, e3⟩ := hLc i hi'
    exact ⟨b, o, es, e1, trivial, e2, by simpa [T.list] using e3⟩
  · have hi' : i < mn := by simpa [T.map] using hi
    obtain ⟨b, o, es, e1, e2, e3, e4⟩ := hMc i hi'
    exact ⟨b, o, es, e1, trivial, by simpa [T.map] using e2, by simpa [T.map] using e3, by simpa [T.map] using e4⟩

set_option maxRecDepth 100000 in
/-- A value that came in. -/
theorem open_val {r : Reach} {b0 : Nat} {v : Value} {d : DataW H} {p : List MemPlace} (hv : Value.okWide Tryd.prog W r b0 25 v) (h : DataW.Trod enc Tryd.prog W 0 (fun _ => true) true 25 v d p)
    (hw : (d.weights Tryd.prog 25).all (· ≤ reachBytes) = true) : ∃ t, RepT W (fun _ => True) v t := by
  have hu : ∃ fs, Tryd.prog.underlying 25 = some (.struct fs) := by
    have := val_fields
    unfold fieldsOf at this
    cases hd : Tryd.prog.underlying 25 with
    | none => rw [hd] at this; cases this
    | some d =>
      rw [hd] at this
      cases d with
      | struct fs => exact ⟨fs, rfl⟩
      | _ => simp at this
  obtain ⟨fs, hu⟩ := hu
  obtain ⟨cs, rfl, _⟩ := okWide_struct hu hv
  obtain ⟨fuel, hf⟩ := h
  obtain ⟨t, ht⟩ := open_tree fuel cs.toList (d, p) hf hw
  exact ⟨t, by simpa using ht⟩
set_option maxRecDepth 100000 in
/-- A list of values that came in. -/
theorem open_vals {r : Reach} {b0 : Nat} {v : Value} {d : DataW H} {p : List MemPlace} (hv : Value.okWide Tryd.prog W r b0 22 v) (h : DataW.Trod enc Tryd.prog W 0 (fun _ => true) true 22 v d p)
    (hw : (d.weights Tryd.prog 22).all (· ≤ reachBytes) = true) : ∃ a l c, v = .slice a l.length c ∧ RepL W (fun _ => True) a l ∧ l.length ≤ c ∧ c ≤ maxLen ∧ l.length * 88 ≤ 140737488355328 := by
  obtain ⟨a0, n0, c0, rfl⟩ := okWide_slice und_vals hv
  obtain ⟨fuel, hf⟩ := h
  obtain ⟨a, n, c, k, hl, -, h1, h2, h3, he⟩ := trod_row und_vals val_cells (by omega) hf hw
  simp [Value.cells] at hl
  obtain ⟨rfl, rfl, rfl⟩ := hl
  rw [val_bytes] at h3
  have hL : ∀ i, ∃ t, i < n0 → ∃ b o es, a0 = some ⟨b, o, none⟩ ∧ cellsAt W b (o + i * 6) es ∧ RepT W (fun _ => True) (.agg es.toArray) t := fun i => by
    by_cases hi : i < n0
    · obtain ⟨b, o, es, y, e1, e2, e3, e4, e5⟩ := he i hi
      obtain ⟨t, ht⟩ := open_tree k es y e4 e5
      exact ⟨t, fun _ => ⟨b, o, es, e1, e3, ht⟩⟩
    · exact ⟨T.zero, fun h => absurd h hi⟩
  have hLc := fun i => Classical.choose_spec (hL i)
  refine ⟨a0, (List.range n0).map fun i => Classical.choose (hL i), c0, by simp, fun i hi => ?_, by simpa using h1, h2, by simp only [List.length_map, List.length_range]; unfold reachBytes at h3; omega⟩
  have hi' : i < n0 := by simpa using hi
  obtain ⟨b, o, es, e1, e2, e3⟩ := hLc i hi'
  exact ⟨b, o, es, e1, trivial, e2, by simpa using e3⟩
theorem und_ss : Tryd.prog.underlying 43 = some (.slice 9) := by kernel_rfl
/-- The elements of a slice of texts. -/
def RepS (w : World) (S : Nat → Prop) (a : Option Addr) (l : List ByteArray) : Prop :=
  ∀ i (h : i < l.length), ∃ b o, a = some ⟨b, o, none⟩ ∧ S b ∧ b < w.heap.size ∧ w.cell? ⟨b, o + i, none⟩ = some (.string l[i]) ∧ l[i].size ≤ 140737488351232
set_option maxRecDepth 100000 in
/-- A list of texts that came in. -/
theorem open_texts {r : Reach} {b0 : Nat} {v : Value} {d : DataW H} {p : List MemPlace} (hv : Value.okWide Tryd.prog W r b0 43 v) (h : DataW.Trod enc Tryd.prog W 0 (fun _ => true) true 43 v d p)
    (hw : (d.weights Tryd.prog 43).all (· ≤ reachBytes) = true) : ∃ a l c, v = .slice a l.length c ∧ RepS W (fun _ => True) a l ∧ l.length ≤ c ∧ c ≤ maxLen ∧ l.length * 16 ≤ 140737488355328 := by
  obtain ⟨a0, n0, c0, rfl⟩ := okWide_slice und_ss hv
  obtain ⟨fuel, hf⟩ := h
  obtain ⟨a, n, c, k, hl, -, h1, h2, h3, he⟩ := trod_row und_ss one_cells.2.2.2.1 (by omega) hf hw
  simp [Value.cells] at hl
  obtain ⟨rfl, rfl, rfl⟩ := hl
  rw [show Tryd.prog.bytesOf 9 = 16 by kernel_rfl] at h3
  have hL : ∀ i, ∃ s : ByteArray, i < n0 → ∃ b o, a0 = some ⟨b, o, none⟩ ∧ W.cell? ⟨b, o + i, none⟩ = some (.string s) ∧ s.size ≤ 140737488351232 := fun i => by
    by_cases hi : i < n0
    · obtain ⟨b, o, es, y, e1, e2, e3, e4, e5⟩ := he i hi
      obtain ⟨s, hs, hy, -⟩ := DataW.trod_string und_s e4
      subst hs
      rw [hy] at e5
      simp only [DataW.weights, List.all_cons, List.all_nil, Bool.and_true] at e5
      have := of_decide_eq_true e5
      exact ⟨s, fun _ => ⟨b, o, e1, by simpa using e3 0 _ rfl, by simpa [reachBytes] using this⟩⟩
    · exact ⟨⟨#[]⟩, fun h => absurd h hi⟩
  have hLc := fun i => Classical.choose_spec (hL i)
  refine ⟨a0, (List.range n0).map fun i => Classical.choose (hL i), c0, by simp, fun i hi => ?_, by simpa using h1, h2, by simp only [List.length_map, List.length_range]; unfold reachBytes at h3; omega⟩
  have hi' : i < n0 := by simpa using hi
  obtain ⟨b, o, e1, e2, e3⟩ := hLc i hi'
  exact ⟨b, o, e1, trivial, block_lt_of_cell (a := ⟨b, o + i, none⟩) e2, by simpa using e2, by simpa using e3⟩
theorem each_weights {P : Program} {t : TypeId} {ts : List TypeId} {d : DataW H} {ds : List (DataW H)} (h : (DataW.weightsEach P (t :: ts) (d :: ds)).all (· ≤ reachBytes) = true) : (d.weights P t).all (· ≤ reachBytes) = true ∧ (DataW.weightsEach P ts ds).all (· ≤ reachBytes) = true := by
  rw [DataW.weightsEach] at h
  exact all_append h
set_option maxRecDepth 100000 in
theorem open_text {r : Reach} {b0 : Nat} {v : Value} {d : DataW H} {p : List MemPlace} (hv : Value.okWide Tryd.prog W r b0 9 v) (h : DataW.Trod enc Tryd.prog W 0 (fun _ => true) true 9 v d p)
    (hw : (d.weights Tryd.prog 9).all (· ≤ reachBytes) = true) : ∃ s : ByteArray, v = .string s ∧ s.size ≤ 140737488351232 := by
  obtain ⟨s, rfl, rfl, -, -⟩ := Go.ChangeMaps.open_string und_s hv h
  simp only [DataW.weights, List.all_cons, List.all_nil, Bool.and_true] at hw
  have := of_decide_eq_true hw
  exact ⟨s, rfl, by simpa [reachBytes] using this⟩

end
end Go.Proofs.YtgbbojnigicnoaaDoor
