/- Objects that came in. -/
import Derived.Test.YtdgeegfoocoohaaDoorObjH
import Derived.Test.YtdgeegfoocoohaaDoorObjX
namespace Go.Proofs.YtdgeegfoocoohaaDoor
open Go.ChangeShapes Go.WideShapes Go.ChangeAt Go.WideMaps Go.WideElems Go.RowKit

theorem obj_fields : fieldsOf Tryd.prog 35 = some [(29, 0), (33, 3)] := by kernel_rfl
theorem obj_cells : Tryd.prog.cellsOf 35 = 9 := by kernel_rfl
theorem obj_bytes : Tryd.prog.bytesOf 35 = 136 := by kernel_rfl
set_option maxRecDepth 100000 in
/-- An ID's cells. -/
theorem open_ids {H : Type} {enc : TypeId × Value → H} {W : World} {fuel : Nat} {cs : List Value} {x : DataW H × List MemPlace} (hf : DataW.trod enc Tryd.prog W 0 (fun _ => true) true fuel 29 cs = some x)
    (hw : (x.1.weights Tryd.prog 29).all (· ≤ reachBytes) = true) : ∃ a : ID3, cs = [.string a.k, .string a.s, .string a.n] ∧ a.ok := by
  obtain ⟨xs, n, rfl, -, hwe, hlen, hxl, hx⟩ := trod_fields id_fields hf
  rw [id_cells] at hlen
  rw [hwe] at hw
  match cs, hlen with
  | [c0, c1, c2], _ =>
  match xs, hxl with
  | [y0, y1, y2], _ =>
  have h0 := hx 0 _ rfl
  have h1 := hx 1 _ rfl
  have h2 := hx 2 _ rfl
  simp only [str_cells] at h0 h1 h2
  obtain ⟨s0, e0, z0, -⟩ := DataW.trod_string und_s h0
  obtain ⟨s1, e1, z1, -⟩ := DataW.trod_string und_s h1
  obtain ⟨s2, e2, z2, -⟩ := DataW.trod_string und_s h2
  simp only [List.map_cons, List.map_nil, DataW.weightsEach] at hw
  obtain ⟨w0, hw⟩ := all_append hw
  obtain ⟨w1, hw⟩ := all_append hw
  obtain ⟨w2, -⟩ := all_append hw
  rw [z0] at w0
  rw [z1] at w1
  rw [z2] at w2
  simp [DataW.weights, reachBytes] at w0 w1 w2
  simp at e0 e1 e2
  subst e0 e1 e2
  exact ⟨⟨s0, s1, s2⟩, rfl, of_decide_eq_true w0, of_decide_eq_true w1, of_decide_eq_true w2⟩
set_option maxRecDepth 100000 in
/-- A list of objects that came in. -/
theorem open_objs {H : Type} {enc : TypeId × Value → H} {W : World} {r : Reach} {b0 : Nat} {v : Value} {d : DataW H} {p : List MemPlace} (hv : Value.okWide Tryd.prog W r b0 22 v) (h : DataW.Trod enc Tryd.prog W 0 (fun _ => true) true 22 v d p)
    (hw : (d.weights Tryd.prog 22).all (· ≤ reachBytes) = true) : ∃ a l c, v = .slice a l.length c ∧ RepE eltO W (fun _ => True) a l ∧ l.length ≤ c ∧ c ≤ maxLen ∧ l.length * 136 ≤ 140737488355328 := by
  obtain ⟨a0, n0, c0, rfl⟩ := okWide_slice und_objsO hv
  obtain ⟨fuel, hf⟩ := h
  obtain ⟨a, n, c, k, hl, -, h1, h2, h3, he⟩ := trod_row und_objsO obj_cells (by omega) hf hw
  simp [Value.cells] at hl
  obtain ⟨rfl, rfl, rfl⟩ := hl
  rw [obj_bytes] at h3
  have hL : ∀ i, ∃ q : ID3 × T, i < n0 → ∃ b o es, a0 = some ⟨b, o, none⟩ ∧ cellsAt W b (o + i * 9) es ∧ eltO.R W (fun _ => True) es q := fun i => by
    by_cases hi : i < n0
    · obtain ⟨b, o, es, y, e1, e2, e3, e4, e5⟩ := he i hi
      obtain ⟨zs, n2, hn2, -, hwe2, hlen2, hzl, hz⟩ := trod_fields obj_fields e4
      rw [hwe2] at e5
      match zs, hzl with
      | [z0, z1], _ =>
      have g0 := hz 0 _ rfl
      have g1 := hz 1 _ rfl
      simp only [id_cells, val_cells] at g0 g1
      simp only [List.map_cons, List.map_nil, DataW.weightsEach] at e5
      obtain ⟨e50, e5⟩ := all_append e5
      obtain ⟨e51, -⟩ := all_append e5
      rw [List.drop_zero] at g0
      obtain ⟨k3, hk3, hok⟩ := open_ids g0 e50
      have hd : List.take 6 (List.drop 3 es) = List.drop 3 es := List.take_of_length_le (by rw [List.length_drop]; omega)
      rw [hd] at g1
      obtain ⟨t, ht⟩ := open_tree n2 (List.drop 3 es) z1 g1 e51
      refine ⟨(k3, t), fun _ => ⟨b, o, es, e1, e3, List.drop 3 es, ?_, hok, ht⟩⟩
      conv => lhs; rw [← List.take_append_drop 3 es]
      rw [hk3]; rfl
    · exact ⟨(⟨⟨#[]⟩, ⟨#[]⟩, ⟨#[]⟩⟩, T.zero), fun h => absurd h hi⟩
  have hLc := fun i => Classical.choose_spec (hL i)
  refine ⟨a0, (List.range n0).map fun i => Classical.choose (hL i), c0, by simp, fun i hi => ?_, by simpa using h1, h2, by simp only [List.length_map, List.length_range]; unfold reachBytes at h3; omega⟩
  have hi' : i < n0 := by simpa using hi
  obtain ⟨b, o, es, e1, e2, e3⟩ := hLc i hi'
  exact ⟨b, o, es, e1, trivial, e2, by simpa using e3⟩
end Go.Proofs.YtdgeegfoocoohaaDoor
