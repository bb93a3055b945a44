/- Several texts as one. -/
import Derived.Test.YtgbbojnigicnoaaDoorGen
import Derived.Test.YtgbbojnigicnoaaDoorPure
import Derived.Lib.SliceRun
/- tree.Put: a map with a value under a key. -/
namespace Go.Proofs.YtgbbojnigicnoaaDoor
open Go.RowKit Go.Lib
attribute [local go_sem ↓] Go.wp_at_zero Go.wp_at_succ

def OwnPost {α : Type} (E : Elt α) (w : World) (l : List α) (e : Ending) (w' : World) : Prop :=
  ∃ A c, e = .returned (.slice A l.length c) ∧ OwnE E w' w.heap.size (fun b => b < w.heap.size) A c l ∧ Below w.heap.size w w'
theorem clone_pairs (m : List (ByteArray × T)) (a : Option Addr) (c : Nat) (w : World) (S : Nat → Prop) (h : RepM w S a m) (hm : m.length * 104 ≤ 140737488355328) :
    Calls Tryd.prog 47 #[.slice a m.length c] w (OwnPost eltP w m) := by
  obtain ⟨xs, hxl, hxs, hx1, hxr⟩ := (h.mono (w' := w) (S' := fun b => b < w.heap.size) (fun _ _ h => h) (fun _ _ _ _ => rfl)).cells
  refine (sclone_p a m.length c xs w hxs hxl hx1 hm).mono ?_
  rintro e w' ⟨v, rfl, hcp⟩
  obtain ⟨A, c', rfl, h1, h2⟩ := own_copied (E := eltP) hcp hxl hx1 (fun i hi => by
    obtain ⟨r, e, hz, hr⟩ := hxr i hi
    exact ⟨r, e, hz, hr⟩)
  exact ⟨A, c', rfl, h1, h2⟩

theorem put_append {w wc w1 wa : World} {A : Option Addr} {c g : Nat} {m : List (ByteArray × T)} {key : ByteArray} {x : T} {c0 c1 c2 c3 c4 c5 : Value} {S : Nat → Prop}
    (hown : OwnE eltP w1 wc.heap.size (fun b => b < wc.heap.size) A c m) (hb1 : Below wc.heap.size wc w1) (hwa : Below w1.heap.size w1 wa) (hbox : Blk wa g 41 #[.string key, c0, c1, c2, c3, c4, c5])
    (hg : g < wc.heap.size ∨ w1.heap.size ≤ g) (hw : Below w.heap.size w wc) (hx : RepT w S (.agg #[c0, c1, c2, c3, c4, c5]) x) (hk : key.size ≤ 140737488351232) (hbig : (m.length + 1) * 104 ≤ 140737488355328) :
    ∃ (l : List (ByteArray × T)) (A' : Option Addr) (c' : Nat) (w3 : World), Hid (l = m ++ [(key, x)]) ∧
      (Builtin.append_ #[23, 23] 23 #[.slice A m.length c, .slice (some ⟨g, 0, none⟩) 1 1]).run Tryd.prog wa = .ok (.slice A' l.length c') w3 ∧ RepM w3 (fun _ => True) A' l ∧ Below wc.heap.size wc w3 := by
  have hn := hown.ne hg
  have hsz := hb1.size
  have hsz2 := hwa.size
  have hbx : Below wc.heap.size wc wa := hb1.trans (hwa.mono hsz)
  obtain ⟨A', c', w3, hr, ho, hgr⟩ := own_append (E := eltP) (l2 := [(key, x)]) (es := [.string key, c0, c1, c2, c3, c4, c5]) (ad := ⟨g, 0, none⟩) (cc := 1) (ty := 23) (t := 23) rfl (hown.keep hwa) (by show (m.length + 1) * 104 ≤ _; exact hbig) (by simp; unfold maxLen; omega) (by omega) (by rfl)
    (fun j u hu => by rw [add_lit, Nat.zero_add, hbox.cell]; simpa using hu)
    (fun i hi => by
      obtain rfl : i = 0 := by simpa using hi
      refine ⟨[c0, c1, c2, c3, c4, c5], rfl, hk, hx.mono (fun b _ hlt => ⟨Nat.lt_of_lt_of_le hlt hw.size, fun e => ?_⟩) (fun b o _ hlt => (hbx.cell (p := ⟨b, o, none⟩) (Nat.lt_of_lt_of_le hlt hw.size)).trans (hw.cell hlt))⟩
      have h1 := (hown.own b e).1
      have h2 := Nat.lt_of_lt_of_le hlt hw.size
      omega)
  refine ⟨m ++ [(key, x)], A', c', w3, rfl, hr, (repE_M.1 ho.rep).mono (fun _ _ _ => trivial) (fun _ _ _ _ => rfl), ?_⟩
  refine ⟨hgr.os.trans hbx.os, hgr.tape.trans hbx.tape, hgr.output.trans hbx.output, Nat.le_trans hbx.size hgr.size, fun k hk => (hgr.block k (Nat.lt_of_lt_of_le hk hbx.size) (fun e => ?_)).trans (hbx.block k hk)⟩
  have := (hown.own k e.symm).1
  omega

section
variable {w w1 : World} {A : Option Addr} {c : Nat} {m : List (ByteArray × T)} {key : ByteArray} {x : T} {c0 c1 c2 c3 c4 c5 : Value} {S : Nat → Prop}
/-- The new pair is made first, then the copy. -/
theorem put_a (W0 : World) (hown : OwnE eltP w1 (W0.alloc (.cells #[.string key, c0, c1, c2, c3, c4, c5] 41)).drew.heap.size (fun b => b < (W0.alloc (.cells #[.string key, c0, c1, c2, c3, c4, c5] 41)).drew.heap.size) A c m)
    (hb1 : Below (W0.alloc (.cells #[.string key, c0, c1, c2, c3, c4, c5] 41)).drew.heap.size (W0.alloc (.cells #[.string key, c0, c1, c2, c3, c4, c5] 41)).drew w1)
    (hw : Below w.heap.size w W0) (hx : RepT w S (.agg #[c0, c1, c2, c3, c4, c5]) x) (hk : key.size ≤ 140737488351232) (hbig : (m.length + 1) * 104 ≤ 140737488355328) :
    ∃ (l : List (ByteArray × T)) (A' : Option Addr) (c' : Nat) (w3 : World), Hid (l = m ++ [(key, x)]) ∧
       (Builtin.append_ #[23, 23] 23 #[.slice A m.length c, .slice (some ⟨W0.heap.size, 0, none⟩) 1 1]).run Tryd.prog w1 = .ok (.slice A' l.length c') w3 ∧
      RepM w3 (fun _ => True) A' l ∧ Below W0.heap.size W0 w3 ∧ Below W0.heap.size W0 w1 := by
  have hb0 : Below W0.heap.size W0 w1 := Below.next (Below.new W0 (.cells #[.string key, c0, c1, c2, c3, c4, c5] 41)).drew hb1
  obtain ⟨l, A', c', w3, h1, h2, h3, h4⟩ := put_append (w := w) hown hb1 (Below.refl _ _) ((Blk.new _ _ _).drew.keep hb1) (.inl (by simp)) (hw.trans ((Below.new _ _).drew.mono hw.size)) hx hk hbig
  exact ⟨l, A', c', w3, h1, h2, h3, Below.next (Below.new W0 (.cells #[.string key, c0, c1, c2, c3, c4, c5] 41)).drew h4, hb0⟩
/-- The copy is made first, then the new pair. -/
theorem put_b (W0 : World) (hown : OwnE eltP w1 W0.drew.heap.size (fun b => b < W0.drew.heap.size) A c m) (hb1 : Below W0.drew.heap.size W0.drew w1)
    (hw : Below w.heap.size w W0) (hx : RepT w S (.agg #[c0, c1, c2, c3, c4, c5]) x) (hk : key.size ≤ 140737488351232) (hbig : (m.length + 1) * 104 ≤ 140737488355328) :
    ∃ (l : List (ByteArray × T)) (A' : Option Addr) (c' : Nat) (w3 : World), Hid (l = m ++ [(key, x)]) ∧
      (Builtin.append_ #[23, 23] 23 #[.slice A m.length c, .slice (some ⟨w1.heap.size, 0, none⟩) 1 1]).run Tryd.prog (w1.alloc (.cells #[.string key, c0, c1, c2, c3, c4, c5] 41)) = .ok (.slice A' l.length c') w3 ∧
      RepM w3 (fun _ => True) A' l ∧ Below W0.heap.size W0 w3 ∧ Below W0.heap.size W0 w1 := by
  obtain ⟨l, A', c', w3, h1, h2, h3, h4⟩ := put_append (w := w) hown hb1 (Below.new _ _) (Blk.new _ _ _) (.inr (Nat.le_refl _)) hw.drew hx hk hbig
  exact ⟨l, A', c', w3, h1, h2, h3, Below.next (Below.drew (Below.refl _ _)) h4, Below.next (Below.drew (Below.refl _ _)) hb1⟩
end

/-- The result's own box, behind the call that made the value. -/
theorem put_end {w W0 w3 w4 : World} {g : Nat} {v : Value} {t : T} {d0 d1 d2 d3 d4 d5 : Value} (h0 : Below w.heap.size w W0) (h3 : Below W0.heap.size W0 w3) (hr : RepT w4 (fun b => w3.heap.size ≤ b) v t) (_h4 : Below w3.heap.size w3 w4) (hg : g < W0.heap.size) :
    RepT (set6 w4 g 0 d0 d1 d2 d3 d4 d5) (fun b => w.heap.size ≤ b) v t := by
  have := h0.size
  have := h3.size
  exact hr.mono (fun b (hb : w3.heap.size ≤ b) _ => by show w.heap.size ≤ b; omega) (fun b o (hb : w3.heap.size ≤ b) hlt => World.cell?_of_block (w := w4) (set6_heap (o := 0) (show b ≠ g by omega)))

theorem baseM_len (t : T) : (baseM t).length ≤ t.map.length := by unfold baseM; split <;> simp

end Go.Proofs.YtgbbojnigicnoaaDoor

/- tree.Drop: a map without a key; slices.DeleteFunc and slices.IndexFunc over pairs. -/
namespace Go.Proofs.YtgbbojnigicnoaaDoor
open Go.RowKit
attribute [local go_sem ↓] Go.wp_at_zero Go.wp_at_succ

/-- Where a key stands first. -/
def Idx (m : List (ByteArray × T)) (key : ByteArray) (r : Int) : Prop :=
  (∃ q : Nat, ∃ h : q < m.length, r = q ∧ m[q].1 = key ∧ ∀ j (hj : j < m.length), j < q → m[j].1 ≠ key) ∨ (r = -1 ∧ ∀ j (hj : j < m.length), m[j].1 ≠ key)
def IdxPost (w : World) (m : List (ByteArray × T)) (key : ByteArray) (e : Ending) (w' : World) : Prop := ∃ r : Int, e = .returned (.int .i64 r) ∧ Idx m key r ∧ Below w.heap.size w w'

end Go.Proofs.YtgbbojnigicnoaaDoor

/- slices.DeleteFunc over pairs, by a key; tree.Drop. -/
namespace Go.Proofs.YtgbbojnigicnoaaDoor
open Go.RowKit
attribute [local go_sem ↓] Go.wp_at_zero Go.wp_at_succ

/-- clear at elements of sz cells. -/
theorem run_clear_wide {P : Program} (w : World) (t e ty : TypeId) (z : Value) (sz : Nat) (ht : P.underlying t = some (.slice e)) (hv : ∀ w, (zeroValue e).run P w = .ok z w) (hz : z.cells.size = sz) (h1 : ∀ i, i < sz → (z.cells[i]!).oneCell' = true) (hpos : 0 < sz) (b o n c : Nat) (hn : 0 < n)
    (hc : ∀ j, j < n * sz → (w.cell? ⟨b, o + j, none⟩).isSome = true) (hf : ∀ j, j < n * sz → w.frozen? ⟨b, o + j, none⟩ = false) :
    ∃ zs : List Value, zs.length = n * sz ∧ (Builtin.clear_ #[t] ty #[.slice (some ⟨b, o, none⟩) n c]).run P w = .ok (.tuple #[]) (w.setCells b o zs) := by
  have hlen : (Builtin.zeroCells z.cells n).toList.length = n * sz := by simp [Builtin.zeroCells, hz]
  have hone : ∀ v ∈ (Builtin.zeroCells z.cells n).toList, v.oneCell' = true := by
    intro v hv
    simp only [Builtin.zeroCells, Array.toList_map, List.mem_map] at hv
    obtain ⟨i, -, rfl⟩ := hv
    rw [hz]
    exact h1 _ (Nat.mod_lt _ hpos)
  have hst := run_storeCells_cells (P := P) b o (Builtin.zeroCells z.cells n).toList 0 w (by rw [hlen]; simpa using hc) (by rw [hlen]; simpa using hf) hone
  simp only [Nat.add_zero] at hst
  obtain ⟨m, rfl⟩ : ∃ m, n = m + 1 := ⟨n - 1, by omega⟩
  exact ⟨_, hlen, by simp [Builtin.clear_, run_underlying ht, hv, hst]⟩
theorem wpList_clear_run {P : Program} {ops : Array Oper} {rest : List Oper} {o : Oper} {a : Act} {w : World} {Q : Exit → Act → World → Prop}
    (hg : o.guard = none) (x : Operand) (t : TypeId) (hop : o.op = Op.call { callee := Callee.builtin Builtin.clear, args := #[x], argTypes := #[t] })
    {v v' : Value} {w' : World} (hrun : (Builtin.clear_ #[t] o.type #[v]).run P w = .ok v' w') (hx : a.eval x = v) (hK : wpList P ops Q rest (a.put o.dst v') w') :
    wpList P ops Q (o :: rest) a w := by
  refine wpList_plain hg fun K hk => ?_
  unfold Oper.wp
  simp only [execOp, hop, resolve, invoke, builtin, Sem.run_bind, Sem.run_pure, Result.andThen_ok, List.map_toArray, List.map_cons, List.map_nil, hx, hrun]
  exact hk _ _ hK
theorem pair_zero (w : World) : (zeroValue 41).run Tryd.prog w = .ok (.agg #[.string ⟨#[]⟩, .int .i64 0, .bool false, .int .i64 0, .string ⟨#[]⟩, .slice none 0 0, .slice none 0 0]) w := by kernel_rfl

def set7 (w : World) (g o : Nat) (c0 c1 c2 c3 c4 c5 c6 : Value) : World :=
  ((((((w.setCell ⟨g, o, none⟩ c0).setCell ⟨g, o + 1, none⟩ c1).setCell ⟨g, o + 2, none⟩ c2).setCell ⟨g, o + 3, none⟩ c3).setCell ⟨g, o + 4, none⟩ c4).setCell ⟨g, o + 5, none⟩ c5).setCell ⟨g, o + 6, none⟩ c6
section
variable {w : World} {g o : Nat} {c0 c1 c2 c3 c4 c5 c6 : Value}
theorem set7_heap {k : Nat} (h : k ≠ g) : (set7 w g o c0 c1 c2 c3 c4 c5 c6).heap[k]? = w.heap[k]? := by
  unfold set7
  rw [Below.heap_setCell _ _ _ _ h, Below.heap_setCell _ _ _ _ h, Below.heap_setCell _ _ _ _ h, Below.heap_setCell _ _ _ _ h, Below.heap_setCell _ _ _ _ h, Below.heap_setCell _ _ _ _ h, Below.heap_setCell _ _ _ _ h]
theorem set7_grown {a : World} (h : a.grownBy w (some g)) : a.grownBy (set7 w g o c0 c1 c2 c3 c4 c5 c6) (some g) := only_set (only_set (only_set (only_set (only_set (only_set (only_set h))))))
theorem Blk.store7 {ty : Nat} {cur : Array Value} (h : Blk w g ty cur) (ho : o + 7 ≤ cur.size) :
    ∃ cur', Blk (set7 w g o c0 c1 c2 c3 c4 c5 c6) g ty cur' ∧ cur'.size = cur.size ∧ (∀ j, j < 7 → cur'[o + j]? = [c0, c1, c2, c3, c4, c5, c6][j]?) ∧ ∀ k, (k < o ∨ o + 7 ≤ k) → cur'[k]? = cur[k]? := by
  refine ⟨_, ((((((h.set_ o c0).set_ (o + 1) c1).set_ (o + 2) c2).set_ (o + 3) c3).set_ (o + 4) c4).set_ (o + 5) c5).set_ (o + 6) c6, by simp, fun j hj => ?_, fun k hk => ?_⟩
  · match j, hj with
    | 0, _ => simp [Array.getElem?_setIfInBounds]; omega
    | 1, _ => simp [Array.getElem?_setIfInBounds]; omega
    | 2, _ => simp [Array.getElem?_setIfInBounds]; omega
    | 3, _ => simp [Array.getElem?_setIfInBounds]; omega
    | 4, _ => simp [Array.getElem?_setIfInBounds]; omega
    | 5, _ => simp [Array.getElem?_setIfInBounds]; omega
    | 6, _ => simp [Array.getElem?_setIfInBounds]; omega
  · simp only [Array.getElem?_setIfInBounds]
    rw [if_neg (by omega), if_neg (by omega), if_neg (by omega), if_neg (by omega), if_neg (by omega), if_neg (by omega), if_neg (by omega)]
end

/-- The row while pairs are taken out: what is kept of the first j, then all else as it lay. -/
def stM (m : List (ByteArray × T)) (key : ByteArray) (j : Nat) : List (ByteArray × T) := del (m.take j) key ++ m.drop (del (m.take j) key).length
theorem del_len (m : List (ByteArray × T)) (key : ByteArray) : (del m key).length ≤ m.length := List.length_filter_le _ _
theorem del_take_len (m : List (ByteArray × T)) (key : ByteArray) (j : Nat) : (del (m.take j) key).length ≤ j := Nat.le_trans (del_len _ _) (by rw [List.length_take]; omega)
theorem st_len {m : List (ByteArray × T)} {key : ByteArray} {j : Nat} (hj : j ≤ m.length) : (stM m key j).length = m.length := by
  have := del_take_len m key j
  simp [stM]; omega
theorem st_ge {m : List (ByteArray × T)} {key : ByteArray} {j p : Nat} (hp : (del (m.take j) key).length ≤ p) (h1 : p < m.length) (h2 : p < (stM m key j).length) : (stM m key j)[p] = m[p] := by
  have e : (stM m key j)[p]? = m[p]? := by
    unfold stM
    rw [List.getElem?_append_right hp, List.getElem?_drop]
    congr 1; omega
  rw [List.getElem?_eq_getElem h2, List.getElem?_eq_getElem h1] at e
  injection e
theorem del_take_succ {m : List (ByteArray × T)} {key : ByteArray} {j : Nat} (hj : j < m.length) : del (m.take (j + 1)) key = del (m.take j) key ++ (if m[j].1 = key then [] else [m[j]]) := by
  unfold del
  rw [List.take_succ_eq_append_getElem hj, List.filter_append]
  congr 1
  by_cases h : m[j].1 = key
  · rw [if_pos h]; simp [h]
  · rw [if_neg h]; simp [h]
theorem st_skip {m : List (ByteArray × T)} {key : ByteArray} {j : Nat} (hj : j < m.length) (h : m[j].1 = key) : stM m key (j + 1) = stM m key j ∧ (del (m.take (j + 1)) key).length = (del (m.take j) key).length := by
  have := del_take_succ (key := key) hj
  rw [if_pos h, List.append_nil] at this
  exact ⟨by unfold stM; rw [this], by rw [this]⟩
theorem st_put {m : List (ByteArray × T)} {key : ByteArray} {j : Nat} (hj : j < m.length) (h : m[j].1 ≠ key) : stM m key (j + 1) = (stM m key j).set (del (m.take j) key).length m[j] ∧ (del (m.take (j + 1)) key).length = (del (m.take j) key).length + 1 := by
  have e := del_take_succ (key := key) hj
  rw [if_neg h] at e
  have hl := del_take_len m key j
  refine ⟨?_, by rw [e]; simp⟩
  unfold stM
  rw [e, List.length_append, List.length_singleton, List.set_append_right _ _ (Nat.le_refl _), Nat.sub_self, List.drop_eq_getElem_cons (show (del (m.take j) key).length < m.length by omega), List.set_cons_zero, List.append_assoc]
  rfl
theorem st_first {m : List (ByteArray × T)} {key : ByteArray} {q : Nat} (hq : q < m.length) (h : m[q].1 = key) (hall : ∀ j (hj : j < m.length), j < q → m[j].1 ≠ key) : stM m key (q + 1) = m ∧ (del (m.take (q + 1)) key).length = q := by
  have e : del (m.take q) key = m.take q := del_none (fun p hp => by
    obtain ⟨i, hi, rfl⟩ := List.getElem_of_mem hp
    rw [List.length_take] at hi
    rw [List.getElem_take]
    exact hall i (by omega) (by omega))
  obtain ⟨h1, h2⟩ := st_skip hq h
  have hl : (m.take q).length = q := by rw [List.length_take]; omega
  rw [h1, h2, e]
  unfold stM
  rw [e, hl]
  exact ⟨List.take_append_drop _ _, rfl⟩

/-- The pairs of a row, what they lead to in S and not in the row. -/
def RowP (w : World) (A : Option Addr) (g n lo : Nat) (S : Nat → Prop) (m : List (ByteArray × T)) : Prop := RowsG w A g 41 7 n lo (ElemM w (fun _ b => S b ∧ b ≠ g) m)
theorem RowP.keep {w w' : World} {A : Option Addr} {g n lo : Nat} {S : Nat → Prop} {m : List (ByteArray × T)} (h : RowP w A g n lo S m) (hb : Below w.heap.size w w') : RowP w' A g n lo S m :=
  RowsG.mono h (fun hn => hb.block _ (RowsG.lt h hn)) (fun i cs _ hE hi => by
    obtain ⟨r, e, hz, hr⟩ := hE hi
    exact ⟨r, e, hz, hr.keep hb⟩)
theorem RowP.put {w : World} {A : Option Addr} {g n lo i : Nat} {S : Nat → Prop} {m : List (ByteArray × T)} {k : ByteArray} {x : T} {c0 c1 c2 c3 c4 c5 : Value} (h : RowP w A g n lo S m) (hi : i < n) (hk : k.size ≤ 140737488351232)
    (hr : RepT w (fun b => S b ∧ b ≠ g) (.agg #[c0, c1, c2, c3, c4, c5]) x) : RowP (set7 w g (i * 7) (.string k) c0 c1 c2 c3 c4 c5) A g n lo S (m.set i (k, x)) := by
  have hcell : ∀ b o, b ≠ g → (set7 w g (i * 7) (.string k) c0 c1 c2 c3 c4 c5).cell? ⟨b, o, none⟩ = w.cell? ⟨b, o, none⟩ := fun b o hn => World.cell?_of_block (set7_heap hn)
  refine RowsG.put (cs' := [.string k, c0, c1, c2, c3, c4, c5]) h hi rfl (fun cur hcur hfit => Blk.store7 hcur hfit) ?_ ?_
  · intro j cs hj hji hE hj'
    obtain ⟨r, e, hz, hR⟩ := hE (by simpa using hj')
    rw [List.getElem_set_ne (Ne.symm hji)]
    exact ⟨r, e, hz, hR.mono (fun b hb _ => hb) (fun b o hb _ => hcell b o hb.2)⟩
  · intro hi'
    rw [List.getElem_set_self]
    exact ⟨_, rfl, hk, hr.mono (fun b hb _ => hb) (fun b o hb _ => hcell b o hb.2)⟩
/-- The first pairs of a row, the cells behind them turned. -/
theorem RowP.cut {w : World} {A : Option Addr} {g n k lo : Nat} {S : Nat → Prop} {m : List (ByteArray × T)} {zs : List Value} (h : RowP w A g n lo S m) (hm : n = m.length) (hk : k ≤ n) (hz : zs.length = (n - k) * 7) : RowP (w.setCells g (k * 7) zs) A g k lo S (m.take k) := by
  intro h0
  obtain ⟨e, hlo, cur, hb, hs, hall⟩ := h (by omega)
  have hkn : k * 7 + (n - k) * 7 = n * 7 := by rw [← Nat.add_mul]; congr 1; omega
  refine ⟨e, hlo, _, hb.setCells zs (k * 7) (by omega), by simp; omega, fun i hi => ?_⟩
  obtain ⟨cs, h1, h2, h3⟩ := hall i (by omega)
  refine ⟨cs, h1, fun j hj => ?_, fun hi' => ?_⟩
  · rw [← h2 j hj]
    have hlt : i * 7 + j < k * 7 := by
      have : (i + 1) * 7 ≤ k * 7 := Nat.mul_le_mul_right _ hi
      omega
    rw [List.getElem?_toArray, List.append_assoc, List.getElem?_append_left (by rw [List.length_take]; simp; omega), List.getElem?_take_of_lt hlt, Array.getElem?_toList]
  · obtain ⟨r, er, hz, hr⟩ := h3 (by omega)
    rw [List.getElem_take]
    exact ⟨r, er, hz, hr.mono (fun b hb _ => hb) (fun b o hb _ => World.cell?_of_block (heap_setCells g zs (k * 7) w b hb.2))⟩

def DelPost (w : World) (A : Option Addr) (g c lo : Nat) (S : Nat → Prop) (m : List (ByteArray × T)) (e : Ending) (w' : World) : Prop :=
  e = .returned (.slice A m.length c) ∧ RowP w' A g m.length lo S m ∧ w.grownBy w' (some g)

/-- What Clone leaves, for one who goes on to write in the map's row. -/
theorem clone_rows {w wr : World} {t : T} {lc mc : Nat} {A1 A2 : Option Addr} {g1 g2 : Nat} {d0 d1 d2 d3 d4 d5 : Value} (h : Cl w wr t lc mc A1 A2 g1 g2 t.list.length t.map.length) :
    Below w.heap.size w (set6 wr (w.heap.size + 1) 0 d0 d1 d2 d3 d4 d5) ∧ ∃ g, w.heap.size + 1 ≤ g ∧ g < (set6 wr (w.heap.size + 1) 0 d0 d1 d2 d3 d4 d5).heap.size ∧
      RowP (set6 wr (w.heap.size + 1) 0 d0 d1 d2 d3 d4 d5) A2 g t.map.length (w.heap.size + 2) (fun b => w.heap.size + 2 ≤ b) t.map ∧
      RepL (set6 wr (w.heap.size + 1) 0 d0 d1 d2 d3 d4 d5) (fun b => w.heap.size + 2 ≤ b ∧ b ≠ g) A1 t.list := by
  obtain ⟨hb1, hb2, hbw, hg1, hg2, hne, hL, hM⟩ := h
  have hl := hb2.lt
  have hcl : ∀ b o, b ≠ w.heap.size + 1 → (set6 wr (w.heap.size + 1) 0 d0 d1 d2 d3 d4 d5).cell? ⟨b, o, none⟩ = wr.cell? ⟨b, o, none⟩ := fun b o hb => World.cell?_of_block (set6_heap hb)
  have hlist : ∀ g, (0 < t.map.length → g = g2) → (¬ 0 < t.map.length → g = w.heap.size + 1) → RepL (set6 wr (w.heap.size + 1) 0 d0 d1 d2 d3 d4 d5) (fun b => w.heap.size + 2 ≤ b ∧ b ≠ g) A1 t.list := fun g hg hg' => by
    by_cases h0 : 0 < t.list.length
    · have hlo := (hL h0).2.1
      have hng : g1 ≠ g := by
        by_cases hm0 : 0 < t.map.length
        · rw [hg hm0]; exact hne h0 hm0
        · rw [hg' hm0]; omega
      refine RepL.mono (w := wr) (S := fun b => w.heap.size + 2 ≤ b ∧ b ≠ g) ?_ (fun b h _ => h) (fun b o h _ => hcl b o (by omega))
      refine hL.repL ⟨hlo, hng⟩ (fun i b hi hS _ => ?_)
      unfold SW at hS
      refine ⟨by omega, ?_⟩
      by_cases hm0 : 0 < t.map.length
      · rw [hg hm0]; omega
      · rw [hg' hm0]; omega
    · intro i hi; omega
  refine ⟨set6_below hbw (by omega), ?_⟩
  by_cases hm0 : 0 < t.map.length
  · have hlo := (hM hm0).2.1
    refine ⟨g2, by omega, by rw [set6_size]; omega, ?_, hlist g2 (fun _ => rfl) (fun h => absurd hm0 h)⟩
    refine RowsG.mono hM (fun _ => set6_heap (by omega)) (fun i cs hi hE hi' => ?_)
    obtain ⟨r, e, hz, hr⟩ := hE hi'
    refine ⟨r, e, hz, hr.mono (fun b hS _ => ?_) (fun b o hS _ => hcl b o ?_)⟩
    · unfold SW at hS; exact ⟨by omega, by omega⟩
    · unfold SW at hS; omega
  · exact ⟨w.heap.size + 1, Nat.le_refl _, by rw [set6_size]; omega, fun h => absurd h hm0, hlist _ (fun h => absurd h hm0) (fun _ => rfl)⟩
theorem RowP.rep {w : World} {A : Option Addr} {g lo : Nat} {S S' : Nat → Prop} {m : List (ByteArray × T)} (h : RowP w A g m.length lo S m) (hg : 0 < m.length → S' g) (hS : ∀ b, S b → S' b) : RepM w S' A m := by
  by_cases h0 : 0 < m.length
  · exact RowsG.repM h (hg h0) (fun i b _ hb _ => hS b hb.1)
  · intro i hi; omega
theorem RowP.lo {w : World} {A : Option Addr} {g lo n : Nat} {S : Nat → Prop} {m : List (ByteArray × T)} (h : RowP w A g n lo S m) (h0 : 0 < n) : lo ≤ g := (h h0).2.1
theorem RowP.far {w : World} {A : Option Addr} {g lo n : Nat} {S : Nat → Prop} {m : List (ByteArray × T)} (h : RowP w A g n lo S m) {w' : World} (hg : 0 < n → w'.heap[g]? = w.heap[g]?) (hw : ∀ b, S b → w'.heap[b]? = w.heap[b]?) : RowP w' A g n lo S m :=
  RowsG.mono h hg (fun i cs _ hE hi => by
    obtain ⟨r, e, hz, hr⟩ := hE hi
    exact ⟨r, e, hz, hr.mono (fun b hb _ => hb) (fun b o hb _ => World.cell?_of_block (hw b hb.1))⟩)
theorem grown_below {w a b : World} {g : Nat} (h : Below w.heap.size w a) (k : a.grownBy b (some g)) (hg : w.heap.size ≤ g) : Below w.heap.size w b :=
  ⟨k.os.trans h.os, k.tape.trans h.tape, k.output.trans h.output, Nat.le_trans h.size k.size, fun i hi => (k.block i (Nat.lt_of_lt_of_le hi h.size) (fun e => by injection e with e; omega)).trans (h.block i hi)⟩

end Go.Proofs.YtgbbojnigicnoaaDoor

