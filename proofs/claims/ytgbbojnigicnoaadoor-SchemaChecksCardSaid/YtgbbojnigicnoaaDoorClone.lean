/- tree.Clone: the same value, in memory of its own. -/
import Derived.Test.YtgbbojnigicnoaaDoorOwn
import Derived.Test.YtgbbojnigicnoaaDoorSzD
import Derived.Deep.RegionHeld3
import Derived.Deep.RegionWith
import Derived.Deep.DrawnRows
import Derived.Deep.DeepCutAuto
namespace Go.Proofs.YtgbbojnigicnoaaDoor
open Go.RowKit
attribute [local go_sem ↓] Go.wp_at_zero Go.wp_at_succ

def zcells : Array Value := #[.int .i64 0, .bool false, .int .i64 0, .string ⟨#[]⟩, .slice none 0 0, .slice none 0 0]
/-- A value in new memory. -/
def NewPost (w : World) (t : T) (e : Ending) (w' : World) : Prop := ∃ v, e = .returned v ∧ RepT w' (fun b => w.heap.size ≤ b) v t ∧ Below w.heap.size w w'
def CloneOk (t : T) : Prop := ∀ (w : World) (S : Nat → Prop) (v : Value), RepT w S v t → Calls Tryd.prog 31 #[v] w (NewPost w t)

def SW (B g1 g2 q i b : Nat) : Prop := (i < q ∧ B + 2 ≤ b ∧ b ≠ g1 ∧ b ≠ g2) ∨ (q ≤ i ∧ b < B)
/-- How things stand in Clone while it copies: B is its own box, g1 and g2 the rows. -/
def Cl (w wr : World) (t : T) (lc mc : Nat) (A1 A2 : Option Addr) (g1 g2 q r : Nat) : Prop :=
  Blk wr w.heap.size 25 #[.int .i64 t.kind, .bool t.bool, .int .i64 t.int, .string t.str, .slice A1 t.list.length lc, .slice A2 t.map.length mc] ∧ Blk wr (w.heap.size + 1) 25 zcells ∧
  Below w.heap.size w wr ∧ g1 < wr.heap.size ∧ g2 < wr.heap.size ∧ (0 < t.list.length → 0 < t.map.length → g1 ≠ g2) ∧
  RowsG wr A1 g1 25 6 t.list.length (w.heap.size + 2) (ElemL wr (SW w.heap.size g1 g2 q) t.list) ∧
  RowsG wr A2 g2 41 7 t.map.length (w.heap.size + 2) (ElemM wr (SW w.heap.size g1 g2 r) t.map)

/-- A copied row, seen from a later world. -/
theorem rows_of_copy {W w1 w3 : World} {ty sz n lo cap : Nat} {A : Option Addr} {xs : List Value} {E : Nat → List Value → Prop} (hxl : xs.length = n * sz)
    (hc : n ≤ cap ∧ cap ≤ maxLen ∧ (A = none → n = 0 ∧ cap = 0) ∧ (∀ ad, A = some ad → ∃ g cur, ad = ⟨g, 0, none⟩ ∧ W.heap.size ≤ g ∧ Blk w1 g ty cur ∧ cur.size = cap * sz ∧ cur.toList.take (n * sz) = xs) ∧ Below W.heap.size W w1)
    (hlo : lo ≤ W.heap.size) (hpos : 0 < W.heap.size) (hw : ∀ g, W.heap.size ≤ g → g < w1.heap.size → w3.heap[g]? = w1.heap[g]?) (hE : ∀ i, i < n → E i ((xs.drop (i * sz)).take sz)) :
    ∃ g, (0 < n → W.heap.size ≤ g) ∧ g < w1.heap.size ∧ RowsG w3 A g ty sz n lo E := by
  obtain ⟨hcap, hmax, hnone, hsome, hb⟩ := hc
  cases A with
  | none => exact ⟨0, fun h => by have := (hnone rfl).1; omega, Nat.lt_of_lt_of_le hpos hb.size, fun h => by have := (hnone rfl).1; omega⟩
  | some ad =>
    obtain ⟨g, cur, rfl, hg, hbk, hcs, htk⟩ := hsome ad rfl
    refine ⟨g, fun _ => hg, hbk.lt, fun hn => ⟨rfl, by omega, cur, (hw g hg hbk.lt).trans hbk, by rw [hcs]; exact Nat.mul_le_mul_right _ hcap, fun i hi => ⟨(xs.drop (i * sz)).take sz, ?_, fun j hj => ?_, hE i hi⟩⟩⟩
    · have : (i + 1) * sz ≤ n * sz := Nat.mul_le_mul_right _ hi
      rw [Nat.add_mul, Nat.one_mul] at this
      rw [List.length_take, List.length_drop, hxl]; omega
    · have : (i + 1) * sz ≤ n * sz := Nat.mul_le_mul_right _ hi
      rw [Nat.add_mul, Nat.one_mul] at this
      rw [List.getElem?_take_of_lt hj, List.getElem?_drop, ← htk, List.getElem?_take_of_lt (by omega), Array.getElem?_toList]

theorem cl_start {w Wd w1 w2 : World} {t : T} {la lc ma mc A1 A2} {lc' mc' : Nat} {S : Nat → Prop} {xs ys : List Value}
    (hxl : xs.length = t.list.length * 6) (hyl : ys.length = t.map.length * 7)
    (hxr : ∀ i (hi : i < t.list.length), RepT w S (.agg ((xs.drop (i * 6)).take 6).toArray) t.list[i])
    (hyr : ∀ i (hi : i < t.map.length), ∃ r, (ys.drop (i * 7)).take 7 = .string t.map[i].1 :: r ∧ t.map[i].1.size ≤ 140737488351232 ∧ RepT w S (.agg r.toArray) t.map[i].2)
    (hbx : Below w.heap.size w Wd) (hsz : w.heap.size + 2 ≤ Wd.heap.size)
    (hb1 : Blk Wd w.heap.size 25 #[.int .i64 t.kind, .bool t.bool, .int .i64 t.int, .string t.str, .slice la t.list.length lc, .slice ma t.map.length mc]) (hb2 : Blk Wd (w.heap.size + 1) 25 zcells)
    (hc1 : t.list.length ≤ lc' ∧ lc' ≤ maxLen ∧ (A1 = none → t.list.length = 0 ∧ lc' = 0) ∧ (∀ ad, A1 = some ad → ∃ g cur, ad = ⟨g, 0, none⟩ ∧ Wd.heap.size ≤ g ∧ Blk w1 g 25 cur ∧ cur.size = lc' * 6 ∧ cur.toList.take (t.list.length * 6) = xs) ∧ Below Wd.heap.size Wd w1)
    (hc2 : t.map.length ≤ mc' ∧ mc' ≤ maxLen ∧ (A2 = none → t.map.length = 0 ∧ mc' = 0) ∧ (∀ ad, A2 = some ad → ∃ g cur, ad = ⟨g, 0, none⟩ ∧ w1.heap.size ≤ g ∧ Blk w2 g 41 cur ∧ cur.size = mc' * 7 ∧ cur.toList.take (t.map.length * 7) = ys) ∧ Below w1.heap.size w1 w2) :
    ∃ g1 g2, Cl w ((w2.setCell ⟨w.heap.size, 4, none⟩ (.slice A1 t.list.length lc')).setCell ⟨w.heap.size, 5, none⟩ (.slice A2 t.map.length mc')) t lc' mc' A1 A2 g1 g2 0 0 := by
  have h12 := hc2.2.2.2.2
  have h01 := hc1.2.2.2.2
  have hbw2 : Below w.heap.size w w2 := (hbx.trans (h01.mono hbx.size)).trans (h12.mono (Nat.le_trans hbx.size h01.size))
  have hbw : Below w.heap.size w ((w2.setCell ⟨w.heap.size, 4, none⟩ (.slice A1 t.list.length lc')).setCell ⟨w.heap.size, 5, none⟩ (.slice A2 t.map.length mc')) := (hbw2.setCell (Nat.le_refl _) _).setCell (Nat.le_refl _) _
  have hfar : ∀ g, g ≠ w.heap.size → ((w2.setCell ⟨w.heap.size, 4, none⟩ (.slice A1 t.list.length lc')).setCell ⟨w.heap.size, 5, none⟩ (.slice A2 t.map.length mc')).heap[g]? = w2.heap[g]? := fun g hg =>
    (Below.heap_setCell _ _ _ g hg).trans (Below.heap_setCell _ _ _ g hg)
  obtain ⟨g1, hg1, hl1, hr1⟩ := rows_of_copy (lo := w.heap.size + 2) (w3 := (w2.setCell ⟨w.heap.size, 4, none⟩ (.slice A1 t.list.length lc')).setCell ⟨w.heap.size, 5, none⟩ (.slice A2 t.map.length mc')) (E := ElemL ((w2.setCell ⟨w.heap.size, 4, none⟩ (.slice A1 t.list.length lc')).setCell ⟨w.heap.size, 5, none⟩ (.slice A2 t.map.length mc')) (fun _ b => b < w.heap.size) t.list) hxl hc1 hsz (by omega)
    (fun g h1 h2 => (hfar g (by omega)).trans (h12.block g h2)) (fun i _ hi => (hxr i hi).mono (fun b _ h => h) (fun b o _ hlt => hbw.cell hlt))
  obtain ⟨g2, hg2, hl2, hr2⟩ := rows_of_copy (lo := w.heap.size + 2) (w3 := (w2.setCell ⟨w.heap.size, 4, none⟩ (.slice A1 t.list.length lc')).setCell ⟨w.heap.size, 5, none⟩ (.slice A2 t.map.length mc')) (E := ElemM ((w2.setCell ⟨w.heap.size, 4, none⟩ (.slice A1 t.list.length lc')).setCell ⟨w.heap.size, 5, none⟩ (.slice A2 t.map.length mc')) (fun _ b => b < w.heap.size) t.map) hyl hc2 (Nat.le_trans hsz h01.size) (by have := h01.size; omega)
    (fun g h1 h2 => hfar g (by have := h01.size; omega)) (fun i _ hi => by
      obtain ⟨r, e, hz, hr⟩ := hyr i hi
      exact ⟨r, e, hz, hr.mono (fun b _ h => h) (fun b o _ hlt => hbw.cell hlt)⟩)
  refine ⟨g1, g2, ?_, ?_, hbw, by have := h12.size; simp [World.setCell]; omega, by simp [World.setCell]; omega, fun h1 h2 => ?_, ?_, ?_⟩
  · have hk := (hb1.keep h01).keep h12
    exact (hk.set_ 4 _).set_ 5 _
  · exact ((hb2.keep h01).keep h12 |>.far (by simp) _).far (by simp) _
  · have a2 := hg2 h2; omega
  · exact hr1.mono (fun _ => rfl) (fun k cs hk hE h => (hE h).weak (fun b hS _ => .inr ⟨Nat.zero_le _, hS⟩))
  · exact hr2.mono (fun _ => rfl) (fun k cs hk hE h => by
      obtain ⟨r, e, hz, hr⟩ := hE h
      exact ⟨r, e, hz, hr.weak (fun b hS _ => .inr ⟨Nat.zero_le _, hS⟩)⟩)

theorem cl_stepL {w wr w1 : World} {t : T} {lc mc : Nat} {A1 A2 : Option Addr} {g1 g2 q r : Nat} {c0 c1 c2 c3 c4 c5 : Value} (h : Cl w wr t lc mc A1 A2 g1 g2 q r) (hq : q < t.list.length) (hb : Below wr.heap.size wr w1)
    (hr : RepT w1 (fun b => wr.heap.size ≤ b) (.agg #[c0, c1, c2, c3, c4, c5]) t.list[q]) : Cl w (set6 w1 g1 (q * 6) c0 c1 c2 c3 c4 c5) t lc mc A1 A2 g1 g2 (q + 1) r := by
  obtain ⟨hb1, hb2, hbw, hg1, hg2, hne, hL, hM⟩ := h
  have hlo : w.heap.size + 2 ≤ g1 := (hL (by omega)).2.1
  have hsz := hb.size
  have hcell : ∀ b o, b < wr.heap.size → b ≠ g1 → (set6 w1 g1 (q * 6) c0 c1 c2 c3 c4 c5).cell? ⟨b, o, none⟩ = wr.cell? ⟨b, o, none⟩ := fun b o hlt hn =>
    World.cell?_of_block (w := wr) ((set6_heap hn).trans (hb.block b hlt))
  refine ⟨(set6_heap (by omega)).trans ((hb.block _ hb1.lt).trans hb1), (set6_heap (by omega)).trans ((hb.block _ hb2.lt).trans hb2), set6_below (hbw.trans (hb.mono hbw.size)) (by omega), by rw [set6_size]; omega, by rw [set6_size]; omega, hne, ?_, ?_⟩
  · refine RowsG.put (w := w1) (cs' := [c0, c1, c2, c3, c4, c5]) (E := ElemL wr (SW w.heap.size g1 g2 q) t.list) (hL.mono (fun _ => hb.block _ hg1) (fun _ _ _ h => h)) hq rfl (fun cur hcur hfit => Blk.store6 c0 c1 c2 c3 c4 c5 hcur hfit) ?_ ?_
    · intro k cs hk hkq hE hk'
      refine (hE hk').mono (fun b hS _ => by unfold SW at *; omega) (fun b o hS hlt => hcell b o hlt (by unfold SW at hS; omega))
    · intro hq'
      refine hr.mono (fun b (hS : wr.heap.size ≤ b) _ => ?_) (fun b o (hS : wr.heap.size ≤ b) hlt => World.cell?_of_block (w := w1) (set6_heap (show b ≠ g1 by omega)))
      have := hb2.lt; unfold SW; omega
  · refine hM.mono (fun hm => ?_) (fun k cs hk hE hk' => ?_)
    · exact (set6_heap (Ne.symm (hne (by omega) hm))).trans (hb.block _ hg2)
    · obtain ⟨rr, e, hz, hR⟩ := hE hk'
      exact ⟨rr, e, hz, hR.mono (fun b hS _ => hS) (fun b o hS hlt => hcell b o hlt (by unfold SW at hS; omega))⟩

theorem cl_stepM {w wr w1 : World} {t : T} {lc mc : Nat} {A1 A2 : Option Addr} {g1 g2 q r : Nat} {c0 c1 c2 c3 c4 c5 : Value} (h : Cl w wr t lc mc A1 A2 g1 g2 q r) (hq : r < t.map.length) (hb : Below wr.heap.size wr w1)
    (hr : RepT w1 (fun b => wr.heap.size ≤ b) (.agg #[c0, c1, c2, c3, c4, c5]) t.map[r].2) : Cl w (set6 w1 g2 (r * 7 + 1) c0 c1 c2 c3 c4 c5) t lc mc A1 A2 g1 g2 q (r + 1) := by
  obtain ⟨hb1, hb2, hbw, hg1, hg2, hne, hL, hM⟩ := h
  have hlo : w.heap.size + 2 ≤ g2 := (hM (by omega)).2.1
  have hsz := hb.size
  obtain ⟨-, -, cs0, hl0, -, -, hE0⟩ := hM.at_ hq
  obtain ⟨r0, rfl, hz0, -⟩ := hE0 hq
  have hcell : ∀ b o, b < wr.heap.size → b ≠ g2 → (set6 w1 g2 (r * 7 + 1) c0 c1 c2 c3 c4 c5).cell? ⟨b, o, none⟩ = wr.cell? ⟨b, o, none⟩ := fun b o hlt hn =>
    World.cell?_of_block (w := wr) ((set6_heap hn).trans (hb.block b hlt))
  refine ⟨(set6_heap (by omega)).trans ((hb.block _ hb1.lt).trans hb1), (set6_heap (by omega)).trans ((hb.block _ hb2.lt).trans hb2), set6_below (hbw.trans (hb.mono hbw.size)) (by omega), by rw [set6_size]; omega, by rw [set6_size]; omega, hne, ?_, ?_⟩
  · refine hL.mono (fun hm => ?_) (fun k cs hk hE hk' => ?_)
    · exact (set6_heap (hne hm (by omega))).trans (hb.block _ hg1)
    · exact (hE hk').mono (fun b hS _ => hS) (fun b o hS hlt => hcell b o hlt (by unfold SW at hS; omega))
  · have hMw := hM.mono (w' := w1) (fun _ => hb.block _ hg2) (fun _ _ _ h => h)
    obtain ⟨-, -, cs1, hl1, hc1, -, hE1⟩ := hMw.at_ hq
    obtain ⟨r1, rfl, -, -⟩ := hE1 hq
    refine RowsG.put (w := w1) (cs' := .string t.map[r].1 :: [c0, c1, c2, c3, c4, c5]) (E := ElemM wr (SW w.heap.size g1 g2 r) t.map) hMw hq rfl (fun cur hcur hfit => ?_) ?_ ?_
    · obtain ⟨cur', h1, h2, h3, h4⟩ := Blk.store6 (o := r * 7 + 1) c0 c1 c2 c3 c4 c5 hcur (by omega)
      refine ⟨cur', h1, h2, fun j hj => ?_, fun k hk => h4 k (by omega)⟩
      match j, hj with
      | 0, _ =>
        rw [h4 _ (by omega)]
        have := hc1 0 _ rfl
        rw [hcur.cell] at this
        exact this
      | j + 1, hj =>
        have := h3 j (by omega)
        rw [show r * 7 + (j + 1) = r * 7 + 1 + j by omega, this]
        rfl
    · intro k cs hk hkq hE hk'
      obtain ⟨rr, e, hz, hR⟩ := hE hk'
      exact ⟨rr, e, hz, hR.mono (fun b hS _ => by unfold SW at *; omega) (fun b o hS hlt => hcell b o hlt (by unfold SW at hS; omega))⟩
    · intro hq'
      refine ⟨_, rfl, hz0, hr.mono (fun b (hS : wr.heap.size ≤ b) _ => ?_) (fun b o (hS : wr.heap.size ≤ b) hlt => World.cell?_of_block (w := w1) (set6_heap (show b ≠ g2 by omega)))⟩
      have := hb2.lt; unfold SW; omega

/-- A struct's own cells: what a result that lies in memory is. -/
theorem ret_cell {fn : Func} {R : Ending → World → Prop} {a : Act} {w : World} {p : Tmp} {ty g t : Nat} {cs : Array Value} {fs : Array Field} (h : fn.results = #[.cell p ty]) (hp : a.tmps.getD p undef = .pointer (some ⟨g, 0, none⟩)) (hb : Blk w g t cs)
    (hu : Tryd.prog.underlying ty = some (.struct fs)) (hi : (Tryd.prog.info? ty).map (·.size) = some cs.size) (hdf : a.defers = []) (hR : R (.returned (.agg cs)) w) : bodyPost Tryd.prog fn R .ret a w :=
  bodyPost_ret (results_cell_row h _ w g t cs (0, 0) (.struct fs) hp hb hu rfl hi) hdf hR

/-- Clone's end: the result's box holds the copy. -/
theorem clone_new {w wr : World} {t : T} {lc mc : Nat} {A1 A2 : Option Addr} {g1 g2 : Nat} (h : Cl w wr t lc mc A1 A2 g1 g2 t.list.length t.map.length) (hl : t.list.length * 88 ≤ 140737488355328) (hm : t.map.length * 104 ≤ 140737488355328)
    (hk : i64ok t.kind) (hn : i64ok t.int) (hs : t.str.size ≤ 140737488351232) (hlc : t.list.length ≤ lc) (hmc : t.map.length ≤ mc) (hlx : lc ≤ maxLen) (hmx : mc ≤ maxLen) :
    RepT (set6 wr (w.heap.size + 1) 0 (.int .i64 t.kind) (.bool t.bool) (.int .i64 t.int) (.string t.str) (.slice A1 t.list.length lc) (.slice A2 t.map.length mc)) (fun b => w.heap.size ≤ b) (.agg #[.int .i64 t.kind, .bool t.bool, .int .i64 t.int, .string t.str, .slice A1 t.list.length lc, .slice A2 t.map.length mc]) t ∧
    Blk (set6 wr (w.heap.size + 1) 0 (.int .i64 t.kind) (.bool t.bool) (.int .i64 t.int) (.string t.str) (.slice A1 t.list.length lc) (.slice A2 t.map.length mc)) (w.heap.size + 1) 25 #[.int .i64 t.kind, .bool t.bool, .int .i64 t.int, .string t.str, .slice A1 t.list.length lc, .slice A2 t.map.length mc] ∧
    Below w.heap.size w (set6 wr (w.heap.size + 1) 0 (.int .i64 t.kind) (.bool t.bool) (.int .i64 t.int) (.string t.str) (.slice A1 t.list.length lc) (.slice A2 t.map.length mc)) := by
  obtain ⟨hb1, hb2, hbw, hg1, hg2, hne, hL, hM⟩ := h
  refine ⟨RepT.of ⟨hk, hn, hs, hl, hm, hlc, hmc, hlx, hmx, ?_, ?_⟩, ?_, set6_below hbw (by omega)⟩
  · by_cases h0 : 0 < t.list.length
    · have hlo := (hL h0).2.1
      refine RepL.mono (w := wr) (S := fun b => w.heap.size + 2 ≤ b) ?_ (fun b (h : w.heap.size + 2 ≤ b) _ => by show w.heap.size ≤ b; omega) (fun b o (h : w.heap.size + 2 ≤ b) hlt => World.cell?_of_block (w := wr) (set6_heap (show b ≠ w.heap.size + 1 by omega)))
      exact hL.repL hlo (fun i b hi hS _ => by unfold SW at hS; omega)
    · intro i hi; omega
  · by_cases h0 : 0 < t.map.length
    · have hlo := (hM h0).2.1
      refine RepM.mono (w := wr) (S := fun b => w.heap.size + 2 ≤ b) ?_ (fun b (h : w.heap.size + 2 ≤ b) _ => by show w.heap.size ≤ b; omega) (fun b o (h : w.heap.size + 2 ≤ b) hlt => World.cell?_of_block (w := wr) (set6_heap (show b ≠ w.heap.size + 1 by omega)))
      exact hM.repM hlo (fun i b hi hS _ => by unfold SW at hS; omega)
    · intro i hi; omega
  · exact (((((hb2.set_ 0 _).set_ 1 _).set_ 2 _).set_ 3 _).set_ 4 _).set_ 5 _

/-- What Clone leaves, whole. -/
def ClonePost (w : World) (t : T) (e : Ending) (w' : World) : Prop :=
  ∃ A1 lc A2 mc g1 g2 wr, e = .returned (.agg #[.int .i64 t.kind, .bool t.bool, .int .i64 t.int, .string t.str, .slice A1 t.list.length lc, .slice A2 t.map.length mc]) ∧ Cl w wr t lc mc A1 A2 g1 g2 t.list.length t.map.length ∧
    w' = set6 wr (w.heap.size + 1) 0 (.int .i64 t.kind) (.bool t.bool) (.int .i64 t.int) (.string t.str) (.slice A1 t.list.length lc) (.slice A2 t.map.length mc) ∧
    t.list.length ≤ lc ∧ t.map.length ≤ mc ∧ lc ≤ maxLen ∧ mc ≤ maxLen
def CloneOk2 (t : T) : Prop := ∀ (w : World) (S : Nat → Prop) (v : Value), RepT w S v t → Calls Tryd.prog 31 #[v] w (ClonePost w t)
theorem CloneOk2.to {t : T} (h : CloneOk2 t) : CloneOk t := fun w S v hr => (h w S v hr).mono fun e w' hp => by
  obtain ⟨_, _, _, _, _, hk, hn, hs, hl, hm, _⟩ := hr.inv
  obtain ⟨A1, lc, A2, mc, g1, g2, wr, rfl, hcl, rfl, h1, h2, h3, h4⟩ := hp
  obtain ⟨a, b, c⟩ := clone_new hcl hl hm hk hn hs h1 h2 h3 h4
  exact ⟨_, rfl, a, c⟩

theorem val_size : (Tryd.prog.info? 25).map (·.size) = some 6 := by kernel_rfl

set_option maxRecDepth 100000 in
set_option maxHeartbeats 4000000 in
theorem clone_full (t : T) : CloneOk2 t := by
  induction t using T.ind' with
  | h t ihl2 ihm2 =>
  have ihl := fun x hx => (ihl2 x hx).to
  have ihm := fun x hx => (ihm2 x hx).to
  clear ihl2 ihm2
  intro w S v h
  obtain ⟨la, lc, ma, mc, rfl, hp⟩ := h.inv
  obtain ⟨hk, hn, hs, hl, hm, hlc, hmc, hlx, hmx', hL, hM⟩ := hp
  obtain ⟨xs, hxl, hxs, hx1, hxr⟩ := hL.cells
  obtain ⟨ys, hyl, hys, hy1, hyr⟩ := hM.cells
  have HXL := Lib.hid hxl
  have HYL := Lib.hid hyl
  clear h hxl hyl
  go_enter Tryd.func31, Tryd.ntmps31
  go_upto_region 1 with fail
  go_cut [] (fun wx => ∃ lc' mc' A1 A2 g1 g2, Cl w wx t lc' mc' A1 A2 g1 g2 0 0 ∧ Hid (t.list.length ≤ lc' ∧ t.map.length ≤ mc' ∧ lc' ≤ maxLen ∧ mc' ≤ maxLen))
  case first =>
    have hbx : Below w.heap.size w ((w.alloc (.cells #[.int .i64 t.kind, .bool t.bool, .int .i64 t.int, .string t.str, .slice la t.list.length lc, .slice ma t.map.length mc] 25)).alloc (.cells zcells 25)).drew := Below.drew ((Below.new _ _).alloc (by simp) _)
    have hb1 : Blk ((w.alloc (.cells #[.int .i64 t.kind, .bool t.bool, .int .i64 t.int, .string t.str, .slice la t.list.length lc, .slice ma t.map.length mc] 25)).alloc (.cells zcells 25)).drew w.heap.size 25 #[.int .i64 t.kind, .bool t.bool, .int .i64 t.int, .string t.str, .slice la t.list.length lc, .slice ma t.map.length mc] := (Blk.new _ _ _).alloc _
    have hb2 : Blk ((w.alloc (.cells #[.int .i64 t.kind, .bool t.bool, .int .i64 t.int, .string t.str, .slice la t.list.length lc, .slice ma t.map.length mc] 25)).alloc (.cells zcells 25)).drew (w.heap.size + 1) 25 zcells := Blk.new_at _ _ _ (by simp)
    simp only [zcells] at hbx hb1 hb2
    have HBX := Lib.hid hbx
    have HB1 := Lib.hid hb1
    have HB2 := Lib.hid hb2
    clear hbx hb1 hb2
    go_region_with (first
      | (go_at_call 46; refine (sclone_v _ _ _ xs _ (hxs.keep HBX.out) HXL.out hx1 hl).mono ?_; rintro e w1 ⟨v1, rfl, A1, lc', rfl, hcp1⟩; have k4 := ((HB1.out.keep hcp1.2.2.2.2).cell 4 : _ = some _); have k5 := ((HB1.out.keep hcp1.2.2.2.2).cell 5 : _ = some _); have HC1 := Lib.hid hcp1; clear hcp1)
      | (go_at_call 47; refine (sclone_p _ _ _ ys _ ((hys.keep HBX.out).keep HC1.out.2.2.2.2) HYL.out hy1 hm).mono ?_; rintro e w2 ⟨v2, rfl, A2, mc', rfl, hcp2⟩; clear k4 k5; have k4 := (((HB1.out.keep HC1.out.2.2.2.2).keep hcp2.2.2.2.2).cell 4 : _ = some _); have k5 := (((HB1.out.keep HC1.out.2.2.2.2).keep hcp2.2.2.2.2).cell 5 : _ = some _); have f4 := ((HB1.out.keep HC1.out.2.2.2.2).keep hcp2.2.2.2.2).frozen 4; have f5 := ((HB1.out.keep HC1.out.2.2.2.2).keep hcp2.2.2.2.2).frozen 5; have HC2 := Lib.hid hcp2; clear hcp2))
    all_goals go_wp2_with fail
    all_goals go_meet
    all_goals (obtain ⟨g1, g2, hcl⟩ := cl_start HXL.out HYL.out hxr hyr HBX.out (by simp) HB1.out HB2.out HC1.out HC2.out; exact ⟨_, _, _, _, g1, g2, hcl, HC1.out.1, HC2.out.1, HC1.out.2.1, HC2.out.2.1⟩)
  case rest =>
    obtain ⟨lc2, mc2, A1, A2, g1, g2, hcl, HCAP⟩ := hcut
    have b4 : wc.cell? ⟨w.heap.size, 4, none⟩ = some (.slice A1 t.list.length lc2) := hcl.1.cell 4
    have HCL := Lib.hid hcl
    clear hcl
    go_wp2_with fail
    go_loopw [16] (fun i wr => ∃ q : Nat, q ≤ t.list.length ∧ i = .int .i64 q ∧ Cl w wr t lc2 mc2 A1 A2 g1 g2 q 0) (fun i _ => t.list.length - (intOf i).toNat)
    case atStart => exact ⟨0, Nat.zero_le _, rfl, HCL.out⟩
    case round =>
      clear b4 HCL
      obtain ⟨q, hq, rfl, hcl⟩ := hrel
      have b5 : wr.cell? ⟨w.heap.size, 5, none⟩ = some (.slice A2 t.map.length mc2) := hcl.1.cell 5
      have HCL := Lib.hid hcl
      by_cases hlt : q < t.list.length
      · obtain ⟨hA, hlo, cs, -, hc, hf, hE⟩ := hcl.2.2.2.2.2.2.1.at_ hlt
        subst hA
        have hr := hE hlt
        obtain ⟨la', lc', ma', mc', hv, -⟩ := hr.inv
        have := agg_list hv
        subst this
        have b4 : wr.cell? ⟨w.heap.size, 4, none⟩ = some (.slice (some ⟨g1, 0, none⟩) t.list.length lc2) := hcl.1.cell 4
        have hb1l := hcl.1.lt
        have hg1l := hcl.2.2.2.1
        have c0 : wr.cell? ⟨g1, q * 6, none⟩ = some (.int .i64 t.list[q].kind) := hc 0 _ rfl
        have c1 : wr.cell? ⟨g1, q * 6 + 1, none⟩ = some (.bool t.list[q].bool) := hc 1 _ rfl
        have c2 : wr.cell? ⟨g1, q * 6 + 2, none⟩ = some (.int .i64 t.list[q].int) := hc 2 _ rfl
        have c3 : wr.cell? ⟨g1, q * 6 + 3, none⟩ = some (.string t.list[q].str) := hc 3 _ rfl
        have c4 : wr.cell? ⟨g1, q * 6 + 4, none⟩ = some (.slice la' t.list[q].list.length lc') := hc 4 _ rfl
        have c5 : wr.cell? ⟨g1, q * 6 + 5, none⟩ = some (.slice ma' t.list[q].map.length mc') := hc 5 _ rfl
        have HR := Lib.hid hr
        have HF := Lib.hid hf
        have HIH := Lib.hid (fun w S v h => ihl _ (List.getElem_mem hlt) w S v h)
        have hi1 : (0 : Int) ≤ (q : Int) := by omega
        have hi2 : (q : Int) < (t.list.length : Int) := by omega
        have hne : ¬ g1 = w.heap.size := by omega
        have hne2 : ¬ w.heap.size = g1 := by omega
        clear hcl hc hf hE hv hr
        go_wp2_with fail
        go_region_with (first | (go_at_call 31; refine (HIH.out _ _ _ (HR.out.keep (by exact Below.drew (Below.refl _ _)))).mono ?_; rintro e w1 ⟨v1, rfl, hr1, hb1⟩; obtain ⟨la1, lc1, ma1, mc1, rfl, -⟩ := hr1.inv; have hbq := Below.next (Below.drew (Below.refl wr.heap.size wr)) hb1; have u4 := (hbq.cell (p := ⟨w.heap.size, 4, none⟩) hb1l).trans b4; have d0 := (hbq.cell (p := ⟨g1, q * 6, none⟩) hg1l).trans c0; have d1 := (hbq.cell (p := ⟨g1, q * 6 + 1, none⟩) hg1l).trans c1; have d2 := (hbq.cell (p := ⟨g1, q * 6 + 2, none⟩) hg1l).trans c2; have d3 := (hbq.cell (p := ⟨g1, q * 6 + 3, none⟩) hg1l).trans c3; have d4 := (hbq.cell (p := ⟨g1, q * 6 + 4, none⟩) hg1l).trans c4; have d5 := (hbq.cell (p := ⟨g1, q * 6 + 5, none⟩) hg1l).trans c5; have f0 := (hbq.frozen (p := ⟨g1, q * 6, none⟩) hg1l).trans (HF.out 0 (by omega)); have f1 := (hbq.frozen (p := ⟨g1, q * 6 + 1, none⟩) hg1l).trans (HF.out 1 (by omega)); have f2 := (hbq.frozen (p := ⟨g1, q * 6 + 2, none⟩) hg1l).trans (HF.out 2 (by omega)); have f3 := (hbq.frozen (p := ⟨g1, q * 6 + 3, none⟩) hg1l).trans (HF.out 3 (by omega)); have f4 := (hbq.frozen (p := ⟨g1, q * 6 + 4, none⟩) hg1l).trans (HF.out 4 (by omega)); have f5 := (hbq.frozen (p := ⟨g1, q * 6 + 5, none⟩) hg1l).trans (HF.out 5 (by omega)); have HBQ := Lib.hid hbq; have HR1 := Lib.hid hr1; clear hbq hr1 hb1))
        all_goals
          go_wp2_with fail
          go_roundw
          case rel => exact ⟨q + 1, by omega, by go_num, cl_stepL HCL.out hlt HBQ.out HR1.out⟩
          case measure => simp [intOf]; omega
      · have hq2 : q = t.list.length := by omega
        subst hq2
        have b4 : wr.cell? ⟨w.heap.size, 4, none⟩ = some (.slice A1 t.list.length lc2) := hcl.1.cell 4
        clear hcl
        go_wp2_with fail
        go_loopw [33] (fun i wr => ∃ r : Nat, r ≤ t.map.length ∧ i = .int .i64 r ∧ Cl w wr t lc2 mc2 A1 A2 g1 g2 t.list.length r) (fun i _ => t.map.length - (intOf i).toNat)
        case atStart => exact ⟨0, Nat.zero_le _, rfl, HCL.out⟩
        case round =>
          clear b4 b5 HCL hlt hq
          obtain ⟨r, hq, rfl, hcl⟩ := hrel
          have HCL := Lib.hid hcl
          by_cases hlt : r < t.map.length
          · obtain ⟨hA, hlo, cs, -, hc, hf, hE⟩ := hcl.2.2.2.2.2.2.2.at_ hlt
            subst hA
            obtain ⟨rr, hcs, hkz, hr⟩ := hE hlt
            subst hcs
            obtain ⟨la', lc', ma', mc', hv, -⟩ := hr.inv
            have := agg_list hv
            subst this
            have b5 : wr.cell? ⟨w.heap.size, 5, none⟩ = some (.slice (some ⟨g2, 0, none⟩) t.map.length mc2) := hcl.1.cell 5
            have hb1l := hcl.1.lt
            have hg2l := hcl.2.2.2.2.1
            have c0 : wr.cell? ⟨g2, r * 7 + 1, none⟩ = some (.int .i64 t.map[r].2.kind) := hc 1 _ rfl
            have c1 : wr.cell? ⟨g2, r * 7 + 2, none⟩ = some (.bool t.map[r].2.bool) := hc 2 _ rfl
            have c2 : wr.cell? ⟨g2, r * 7 + 3, none⟩ = some (.int .i64 t.map[r].2.int) := hc 3 _ rfl
            have c3 : wr.cell? ⟨g2, r * 7 + 4, none⟩ = some (.string t.map[r].2.str) := hc 4 _ rfl
            have c4 : wr.cell? ⟨g2, r * 7 + 5, none⟩ = some (.slice la' t.map[r].2.list.length lc') := hc 5 _ rfl
            have c5 : wr.cell? ⟨g2, r * 7 + 6, none⟩ = some (.slice ma' t.map[r].2.map.length mc') := hc 6 _ rfl
            have HR := Lib.hid hr
            have HF := Lib.hid hf
            have HIH := Lib.hid (fun w S v h => ihm _ (List.getElem_mem hlt) w S v h)
            have hi1 : (0 : Int) ≤ (r : Int) := by omega
            have hi2 : (r : Int) < (t.map.length : Int) := by omega
            have hne : ¬ g2 = w.heap.size := by omega
            have hne2 : ¬ w.heap.size = g2 := by omega
            clear hcl hc hf hE hv hr
            go_wp2_with fail
            go_region_with (first | (go_at_call 31; refine (HIH.out _ _ _ (HR.out.keep (by exact Below.drew (Below.refl _ _)))).mono ?_; rintro e w1 ⟨v1, rfl, hr1, hb1⟩; obtain ⟨la1, lc1, ma1, mc1, rfl, -⟩ := hr1.inv; have hbq := Below.next (Below.drew (Below.refl wr.heap.size wr)) hb1; have u5 := (hbq.cell (p := ⟨w.heap.size, 5, none⟩) hb1l).trans b5; have d0 := (hbq.cell (p := ⟨g2, r * 7 + 1, none⟩) hg2l).trans c0; have f0 := (hbq.frozen (p := ⟨g2, r * 7 + 1, none⟩) hg2l).trans (HF.out 1 (by omega)); have d1 := (hbq.cell (p := ⟨g2, r * 7 + 2, none⟩) hg2l).trans c1; have f1 := (hbq.frozen (p := ⟨g2, r * 7 + 2, none⟩) hg2l).trans (HF.out 2 (by omega)); have d2 := (hbq.cell (p := ⟨g2, r * 7 + 3, none⟩) hg2l).trans c2; have f2 := (hbq.frozen (p := ⟨g2, r * 7 + 3, none⟩) hg2l).trans (HF.out 3 (by omega)); have d3 := (hbq.cell (p := ⟨g2, r * 7 + 4, none⟩) hg2l).trans c3; have f3 := (hbq.frozen (p := ⟨g2, r * 7 + 4, none⟩) hg2l).trans (HF.out 4 (by omega)); have d4 := (hbq.cell (p := ⟨g2, r * 7 + 5, none⟩) hg2l).trans c4; have f4 := (hbq.frozen (p := ⟨g2, r * 7 + 5, none⟩) hg2l).trans (HF.out 5 (by omega)); have d5 := (hbq.cell (p := ⟨g2, r * 7 + 6, none⟩) hg2l).trans c5; have f5 := (hbq.frozen (p := ⟨g2, r * 7 + 6, none⟩) hg2l).trans (HF.out 6 (by omega)); have HBQ := Lib.hid hbq; have HR1 := Lib.hid hr1; clear hbq hr1 hb1))
            all_goals
              go_wp2_with fail
              go_roundw
              case rel => exact ⟨r + 1, by omega, by go_num, cl_stepM HCL.out hlt HBQ.out HR1.out⟩
              case measure => simp [intOf]; omega
          · have hq2 : r = t.map.length := by omega
            subst hq2
            have b5 : wr.cell? ⟨w.heap.size, 5, none⟩ = some (.slice A2 t.map.length mc2) := hcl.1.cell 5
            have b0 : wr.cell? ⟨w.heap.size, 0, none⟩ = some (.int .i64 t.kind) := hcl.1.cell 0
            have b1 : wr.cell? ⟨w.heap.size, 1, none⟩ = some (.bool t.bool) := hcl.1.cell 1
            have b2 : wr.cell? ⟨w.heap.size, 2, none⟩ = some (.int .i64 t.int) := hcl.1.cell 2
            have b3 : wr.cell? ⟨w.heap.size, 3, none⟩ = some (.string t.str) := hcl.1.cell 3
            have b4 : wr.cell? ⟨w.heap.size, 4, none⟩ = some (.slice A1 t.list.length lc2) := hcl.1.cell 4
            have e0 : wr.cell? ⟨w.heap.size + 1, 0, none⟩ = some (.int .i64 0) := hcl.2.1.cell 0
            have e1 : wr.cell? ⟨w.heap.size + 1, 1, none⟩ = some (.bool false) := hcl.2.1.cell 1
            have e2 : wr.cell? ⟨w.heap.size + 1, 2, none⟩ = some (.int .i64 0) := hcl.2.1.cell 2
            have e3 : wr.cell? ⟨w.heap.size + 1, 3, none⟩ = some (.string ⟨#[]⟩) := hcl.2.1.cell 3
            have e4 : wr.cell? ⟨w.heap.size + 1, 4, none⟩ = some (.slice none 0 0) := hcl.2.1.cell 4
            have e5 : wr.cell? ⟨w.heap.size + 1, 5, none⟩ = some (.slice none 0 0) := hcl.2.1.cell 5
            have f0 := hcl.2.1.frozen 0
            have f1 := hcl.2.1.frozen 1
            have f2 := hcl.2.1.frozen 2
            have f3 := hcl.2.1.frozen 3
            have f4 := hcl.2.1.frozen 4
            have f5 := hcl.2.1.frozen 5
            have hb1l := hcl.1.lt
            have hb2l := hcl.2.1.lt
            clear hcl
            go_wp2_with fail
            obtain ⟨-, h2, -⟩ := clone_new HCL.out hl hm hk hn hs HCAP.out.1 HCAP.out.2.1 HCAP.out.2.2.1 HCAP.out.2.2.2
            exact ret_cell rfl rfl h2 Tryd.underlying25 val_size rfl ⟨_, _, _, _, _, _, _, rfl, HCL.out, rfl, HCAP.out.1, HCAP.out.2.1, HCAP.out.2.2.1, HCAP.out.2.2.2⟩
theorem clone_any (t : T) : CloneOk t := (clone_full t).to

end Go.Proofs.YtgbbojnigicnoaaDoor
