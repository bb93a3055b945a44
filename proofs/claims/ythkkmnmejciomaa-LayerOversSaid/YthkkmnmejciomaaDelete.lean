/- slices.DeleteFunc over pairs, by a key; tree.Drop. -/
import Derived.Test.YthkkmnmejciomaaDrop
import Derived.Lib.SliceRun
namespace Go.Proofs.Ythkkmnmejciomaa
open Go.RowKit
attribute [local go_sem ↓] Go.wp_at_zero Go.wp_at_succ

/-- clear at elements of sz cells. -/
theorem run_clear_wide {P : Program} (w : World) (t e ty : TypeId) (z : Value) (sz : Nat) (ht : P.underlying t = some (.slice e)) (hv : ∀ w, (zeroValue e).run P w = .ok z w) (hz : z.cells.size = sz) (h1 : ∀ i, i < sz → (z.cells[i]!).oneCell' = true) (hpos : 0 < sz) (b o n c : Nat) (hn : 0 < n)
    (hc : ∀ j, j < n * sz → (w.cell? ⟨b, o + j, none⟩).isSome = true) (hf : ∀ j, j < n * sz → w.frozen? ⟨b, o + j, none⟩ = false) :
    ∃ zs : List Value, zs.length = n * sz ∧ (Builtin.clear_ #[t] ty #[.slice (some ⟨b, o, none⟩) n c]).run P w = .ok (.tuple #[]) (w.setCells b o zs) := by
  have hlen : (Builtin.zeroCells z.cells n).toList.length = n * sz := by simp [Builtin.zeroCells, hz]
  have hone : ∀ v ∈ (Builtin.zeroCells z.cells n).toList, v.oneCell' = true := by
    intro v hv
    simp only [Builtin.zeroCells, Array.toList_map, List.mem_map] at hv
    obtain ⟨i, -, rfl⟩ := hv
    rw [hz]
    exact h1 _ (Nat.mod_lt _ hpos)
  have hst := run_storeCells_cells (P := P) b o (Builtin.zeroCells z.cells n).toList 0 w (by rw [hlen]; simpa using hc) (by rw [hlen]; simpa using hf) hone
  simp only [Nat.add_zero] at hst
  obtain ⟨m, rfl⟩ : ∃ m, n = m + 1 := ⟨n - 1, by omega⟩
  exact ⟨_, hlen, by simp [Builtin.clear_, run_underlying ht, hv, hst]⟩
theorem wpList_clear_run {P : Program} {ops : Array Oper} {rest : List Oper} {o : Oper} {a : Act} {w : World} {Q : Exit → Act → World → Prop}
    (hg : o.guard = none) (x : Operand) (t : TypeId) (hop : o.op = Op.call { callee := Callee.builtin Builtin.clear, args := #[x], argTypes := #[t] })
    {v v' : Value} {w' : World} (hrun : (Builtin.clear_ #[t] o.type #[v]).run P w = .ok v' w') (hx : a.eval x = v) (hK : wpList P ops Q rest (a.put o.dst v') w') :
    wpList P ops Q (o :: rest) a w := by
  refine wpList_plain hg fun K hk => ?_
  unfold Oper.wp
  simp only [execOp, hop, resolve, invoke, builtin, Sem.run_bind, Sem.run_pure, Result.andThen_ok, List.map_toArray, List.map_cons, List.map_nil, hx, hrun]
  exact hk _ _ hK
theorem pair_zero (w : World) : (zeroValue 38).run Try.prog w = .ok (.agg #[.string ⟨#[]⟩, .int .i64 0, .bool false, .int .i64 0, .string ⟨#[]⟩, .slice none 0 0, .slice none 0 0]) w := by kernel_rfl

def set7 (w : World) (g o : Nat) (c0 c1 c2 c3 c4 c5 c6 : Value) : World :=
  ((((((w.setCell ⟨g, o, none⟩ c0).setCell ⟨g, o + 1, none⟩ c1).setCell ⟨g, o + 2, none⟩ c2).setCell ⟨g, o + 3, none⟩ c3).setCell ⟨g, o + 4, none⟩ c4).setCell ⟨g, o + 5, none⟩ c5).setCell ⟨g, o + 6, none⟩ c6
section
variable {w : World} {g o : Nat} {c0 c1 c2 c3 c4 c5 c6 : Value}
theorem set7_heap {k : Nat} (h : k ≠ g) : (set7 w g o c0 c1 c2 c3 c4 c5 c6).heap[k]? = w.heap[k]? := by
  unfold set7
  rw [Below.heap_setCell _ _ _ _ h, Below.heap_setCell _ _ _ _ h, Below.heap_setCell _ _ _ _ h, Below.heap_setCell _ _ _ _ h, Below.heap_setCell _ _ _ _ h, Below.heap_setCell _ _ _ _ h, Below.heap_setCell _ _ _ _ h]
theorem set7_grown {a : World} (h : a.grownBy w (some g)) : a.grownBy (set7 w g o c0 c1 c2 c3 c4 c5 c6) (some g) := only_set (only_set (only_set (only_set (only_set (only_set (only_set h))))))
theorem Blk.store7 {ty : Nat} {cur : Array Value} (h : Blk w g ty cur) (ho : o + 7 ≤ cur.size) :
    ∃ cur', Blk (set7 w g o c0 c1 c2 c3 c4 c5 c6) g ty cur' ∧ cur'.size = cur.size ∧ (∀ j, j < 7 → cur'[o + j]? = [c0, c1, c2, c3, c4, c5, c6][j]?) ∧ ∀ k, (k < o ∨ o + 7 ≤ k) → cur'[k]? = cur[k]? := by
  refine ⟨_, ((((((h.set_ o c0).set_ (o + 1) c1).set_ (o + 2) c2).set_ (o + 3) c3).set_ (o + 4) c4).set_ (o + 5) c5).set_ (o + 6) c6, by simp, fun j hj => ?_, fun k hk => ?_⟩
  · match j, hj with
    | 0, _ => simp [Array.getElem?_setIfInBounds]; omega
    | 1, _ => simp [Array.getElem?_setIfInBounds]; omega
    | 2, _ => simp [Array.getElem?_setIfInBounds]; omega
    | 3, _ => simp [Array.getElem?_setIfInBounds]; omega
    | 4, _ => simp [Array.getElem?_setIfInBounds]; omega
    | 5, _ => simp [Array.getElem?_setIfInBounds]; omega
    | 6, _ => simp [Array.getElem?_setIfInBounds]; omega
  · simp only [Array.getElem?_setIfInBounds]
    rw [if_neg (by omega), if_neg (by omega), if_neg (by omega), if_neg (by omega), if_neg (by omega), if_neg (by omega), if_neg (by omega)]
end

/-- The row while pairs are taken out: what is kept of the first j, then all else as it lay. -/
def stM (m : List (ByteArray × T)) (key : ByteArray) (j : Nat) : List (ByteArray × T) := del (m.take j) key ++ m.drop (del (m.take j) key).length
theorem del_len (m : List (ByteArray × T)) (key : ByteArray) : (del m key).length ≤ m.length := List.length_filter_le _ _
theorem del_take_len (m : List (ByteArray × T)) (key : ByteArray) (j : Nat) : (del (m.take j) key).length ≤ j := Nat.le_trans (del_len _ _) (by rw [List.length_take]; omega)
theorem st_len {m : List (ByteArray × T)} {key : ByteArray} {j : Nat} (hj : j ≤ m.length) : (stM m key j).length = m.length := by
  have := del_take_len m key j
  simp [stM]; omega
theorem st_ge {m : List (ByteArray × T)} {key : ByteArray} {j p : Nat} (hp : (del (m.take j) key).length ≤ p) (h1 : p < m.length) (h2 : p < (stM m key j).length) : (stM m key j)[p] = m[p] := by
  have e : (stM m key j)[p]? = m[p]? := by
    unfold stM
    rw [List.getElem?_append_right hp, List.getElem?_drop]
    congr 1; omega
  rw [List.getElem?_eq_getElem h2, List.getElem?_eq_getElem h1] at e
  injection e
theorem del_take_succ {m : List (ByteArray × T)} {key : ByteArray} {j : Nat} (hj : j < m.length) : del (m.take (j + 1)) key = del (m.take j) key ++ (if m[j].1 = key then [] else [m[j]]) := by
  unfold del
  rw [List.take_succ_eq_append_getElem hj, List.filter_append]
  congr 1
  by_cases h : m[j].1 = key
  · rw [if_pos h]; simp [h]
  · rw [if_neg h]; simp [h]
theorem st_skip {m : List (ByteArray × T)} {key : ByteArray} {j : Nat} (hj : j < m.length) (h : m[j].1 = key) : stM m key (j + 1) = stM m key j ∧ (del (m.take (j + 1)) key).length = (del (m.take j) key).length := by
  have := del_take_succ (key := key) hj
  rw [if_pos h, List.append_nil] at this
  exact ⟨by unfold stM; rw [this], by rw [this]⟩
theorem st_put {m : List (ByteArray × T)} {key : ByteArray} {j : Nat} (hj : j < m.length) (h : m[j].1 ≠ key) : stM m key (j + 1) = (stM m key j).set (del (m.take j) key).length m[j] ∧ (del (m.take (j + 1)) key).length = (del (m.take j) key).length + 1 := by
  have e := del_take_succ (key := key) hj
  rw [if_neg h] at e
  have hl := del_take_len m key j
  refine ⟨?_, by rw [e]; simp⟩
  unfold stM
  rw [e, List.length_append, List.length_singleton, List.set_append_right _ _ (Nat.le_refl _), Nat.sub_self, List.drop_eq_getElem_cons (show (del (m.take j) key).length < m.length by omega), List.set_cons_zero, List.append_assoc]
  rfl
theorem st_first {m : List (ByteArray × T)} {key : ByteArray} {q : Nat} (hq : q < m.length) (h : m[q].1 = key) (hall : ∀ j (hj : j < m.length), j < q → m[j].1 ≠ key) : stM m key (q + 1) = m ∧ (del (m.take (q + 1)) key).length = q := by
  have e : del (m.take q) key = m.take q := del_none (fun p hp => by
    obtain ⟨i, hi, rfl⟩ := List.getElem_of_mem hp
    rw [List.length_take] at hi
    rw [List.getElem_take]
    exact hall i (by omega) (by omega))
  obtain ⟨h1, h2⟩ := st_skip hq h
  have hl : (m.take q).length = q := by rw [List.length_take]; omega
  rw [h1, h2, e]
  unfold stM
  rw [e, hl]
  exact ⟨List.take_append_drop _ _, rfl⟩

/-- The pairs of a row, what they lead to in S and not in the row. -/
def RowP (w : World) (A : Option Addr) (g n lo : Nat) (S : Nat → Prop) (m : List (ByteArray × T)) : Prop := RowsG w A g 38 7 n lo (ElemM w (fun _ b => S b ∧ b ≠ g) m)
theorem RowP.keep {w w' : World} {A : Option Addr} {g n lo : Nat} {S : Nat → Prop} {m : List (ByteArray × T)} (h : RowP w A g n lo S m) (hb : Below w.heap.size w w') : RowP w' A g n lo S m :=
  RowsG.mono h (fun hn => hb.block _ (RowsG.lt h hn)) (fun i cs _ hE hi => by
    obtain ⟨r, e, hz, hr⟩ := hE hi
    exact ⟨r, e, hz, hr.keep hb⟩)
theorem RowP.put {w : World} {A : Option Addr} {g n lo i : Nat} {S : Nat → Prop} {m : List (ByteArray × T)} {k : ByteArray} {x : T} {c0 c1 c2 c3 c4 c5 : Value} (h : RowP w A g n lo S m) (hi : i < n) (hk : k.size ≤ 140737488351232)
    (hr : RepT w (fun b => S b ∧ b ≠ g) (.agg #[c0, c1, c2, c3, c4, c5]) x) : RowP (set7 w g (i * 7) (.string k) c0 c1 c2 c3 c4 c5) A g n lo S (m.set i (k, x)) := by
  have hcell : ∀ b o, b ≠ g → (set7 w g (i * 7) (.string k) c0 c1 c2 c3 c4 c5).cell? ⟨b, o, none⟩ = w.cell? ⟨b, o, none⟩ := fun b o hn => World.cell?_of_block (set7_heap hn)
  refine RowsG.put (cs' := [.string k, c0, c1, c2, c3, c4, c5]) h hi rfl (fun cur hcur hfit => Blk.store7 hcur hfit) ?_ ?_
  · intro j cs hj hji hE hj'
    obtain ⟨r, e, hz, hR⟩ := hE (by simpa using hj')
    rw [List.getElem_set_ne (Ne.symm hji)]
    exact ⟨r, e, hz, hR.mono (fun b hb _ => hb) (fun b o hb _ => hcell b o hb.2)⟩
  · intro hi'
    rw [List.getElem_set_self]
    exact ⟨_, rfl, hk, hr.mono (fun b hb _ => hb) (fun b o hb _ => hcell b o hb.2)⟩
/-- The first pairs of a row, the cells behind them turned. -/
theorem RowP.cut {w : World} {A : Option Addr} {g n k lo : Nat} {S : Nat → Prop} {m : List (ByteArray × T)} {zs : List Value} (h : RowP w A g n lo S m) (hm : n = m.length) (hk : k ≤ n) (hz : zs.length = (n - k) * 7) : RowP (w.setCells g (k * 7) zs) A g k lo S (m.take k) := by
  intro h0
  obtain ⟨e, hlo, cur, hb, hs, hall⟩ := h (by omega)
  have hkn : k * 7 + (n - k) * 7 = n * 7 := by rw [← Nat.add_mul]; congr 1; omega
  refine ⟨e, hlo, _, hb.setCells zs (k * 7) (by omega), by simp; omega, fun i hi => ?_⟩
  obtain ⟨cs, h1, h2, h3⟩ := hall i (by omega)
  refine ⟨cs, h1, fun j hj => ?_, fun hi' => ?_⟩
  · rw [← h2 j hj]
    have hlt : i * 7 + j < k * 7 := by
      have : (i + 1) * 7 ≤ k * 7 := Nat.mul_le_mul_right _ hi
      omega
    rw [List.getElem?_toArray, List.append_assoc, List.getElem?_append_left (by rw [List.length_take]; simp; omega), List.getElem?_take_of_lt hlt, Array.getElem?_toList]
  · obtain ⟨r, er, hz, hr⟩ := h3 (by omega)
    rw [List.getElem_take]
    exact ⟨r, er, hz, hr.mono (fun b hb _ => hb) (fun b o hb _ => World.cell?_of_block (heap_setCells g zs (k * 7) w b hb.2))⟩

def DelPost (w : World) (A : Option Addr) (g c lo : Nat) (S : Nat → Prop) (m : List (ByteArray × T)) (e : Ending) (w' : World) : Prop :=
  e = .returned (.slice A m.length c) ∧ RowP w' A g m.length lo S m ∧ w.grownBy w' (some g)

set_option maxRecDepth 100000 in
set_option maxHeartbeats 4000000 in
theorem delete_key (m : List (ByteArray × T)) (key : ByteArray) (A : Option Addr) (g c gk lo : Nat) (w : World) (S : Nat → Prop) (h : RowP w A g m.length lo S m) (hg : g < w.heap.size) (hk : w.cell? ⟨gk, 0, none⟩ = some (.string key)) (hgk : gk ≠ g)
    (hrep : RepM w (fun _ => True) A m) (hl : m.length * 104 ≤ 140737488355328) (hc : m.length ≤ c) (hcm : c ≤ maxLen) :
    Calls Try.prog 38 #[.slice A m.length c, .func (.func 39) #[] #[.pointer (some ⟨gk, 0, none⟩)]] w (DelPost w A g c lo S (del m key)) := by
  have HK := Lib.hid hk
  have HKL := Lib.hid (block_lt_of_cell hk)
  have HROW := Lib.hid h
  unfold maxLen at hcm
  clear hk h
  go_enter Try.func38, Try.ntmps38
  go_wp2_with fail
  refine (index_key m key A c gk w (fun _ => True) hrep HK.out (by omega)).mono ?_
  rintro e w1 ⟨r, rfl, hidx, hb1⟩
  rcases hidx with ⟨q, hq, rfl, hqk, hall⟩ | ⟨rfl, hall⟩
  · obtain ⟨hs1, hs2⟩ := st_first hq hqk hall
    have HST := Lib.hid hs1
    have HSL := Lib.hid hs2
    have hb1' : w.grownBy w1 (some g) := ⟨hb1.os, hb1.tape, hb1.output, hb1.size, fun k hk _ => hb1.block k hk⟩
    have HR1 := Lib.hid (HROW.out.keep hb1)
    have HG1 := Lib.hid hb1'
    obtain ⟨hA, -⟩ := RowsG.at_ HROW.out hq
    have HQK := Lib.hid hqk
    subst hA
    clear hs1 hs2 hb1 hb1' hqk hall hrep
    go_wp2_with fail
    go_loopw [5, 6] (fun x y wr => ∃ i j : Nat, x = .int .i64 i ∧ y = .int .i64 j ∧ j ≤ m.length ∧ i < j ∧ Hid ((del (m.take j) key).length = i) ∧ RowP wr (some ⟨g, 0, none⟩) g m.length lo S (stM m key j) ∧ w.grownBy wr (some g)) (fun _ y _ => m.length - (intOf y).toNat)
    case atStart => exact ⟨q, q + 1, rfl, by go_num, by omega, by omega, HSL.out, by rw [HST.out]; exact HR1.out, HG1.out⟩
    case round =>
      obtain ⟨i, j, rfl, rfl, hj, hij, hI, hrow, hgr⟩ := hrel
      have hgl : g < wr.heap.size := Nat.lt_of_lt_of_le hg hgr.size
      by_cases hlt : j < m.length
      · obtain ⟨-, -, cs, -, hca, -, hE⟩ := RowsG.at_ hrow hlt
        have hst := st_ge (show (del (m.take j) key).length ≤ j by rw [hI.out]; omega) hlt (by rw [st_len hj]; exact hlt)
        obtain ⟨rr, rfl, hkz, hr⟩ := hE (by rw [st_len hj]; exact hlt)
        rw [hst] at hr hkz hca
        obtain ⟨la, lc, ma, mc, hv, -⟩ := hr.inv
        have := agg_list hv
        subst this
        have d0 := hca 0 _ rfl
        have d1 := hca 1 _ rfl
        have d2 := hca 2 _ rfl
        have d3 := hca 3 _ rfl
        have d4 := hca 4 _ rfl
        have d5 := hca 5 _ rfl
        have d6 := hca 6 _ rfl
        simp only [Nat.add_zero] at d0
        have HR := Lib.hid hr
        have HROWJ := Lib.hid hrow
        have HD := Lib.hid (drop1 m[j].1 key)
        have HGR := Lib.hid hgr
        have hkc : (wr.alloc (.cells #[.string m[j].1, .int .i64 m[j].2.kind, .bool m[j].2.bool, .int .i64 m[j].2.int, .string m[j].2.str, .slice la m[j].2.list.length lc, .slice ma m[j].2.map.length mc] 38)).cell? ⟨gk, 0, none⟩ = some (.string key) :=
          ((Below.new wr (.cells #[.string m[j].1, .int .i64 m[j].2.kind, .bool m[j].2.bool, .int .i64 m[j].2.int, .string m[j].2.str, .slice la m[j].2.list.length lc, .slice ma m[j].2.map.length mc] 38)).cell (p := ⟨gk, 0, none⟩) (Nat.lt_of_lt_of_le HKL.out hgr.size)).trans ((World.cell?_of_block (hgr.block gk HKL.out (by simpa using hgk))).trans HK.out)
        have HKC := Lib.hid hkc
        have hj1 : (0 : Int) ≤ (j : Int) := by omega
        have hj2 : (j : Int) < (m.length : Int) := by omega
        clear hst hv hrow hca hE hr hgr hkc
        by_cases he : m[j].1 = key
        · obtain ⟨hs1, hs2⟩ := st_skip hlt he
          have HS1 := Lib.hid hs1
          have HS2 := Lib.hid hs2
          have hd : decide (m[j].1 = key) = true := decide_eq_true he
          rw [hd] at HD
          clear he hd hs1 hs2
          generalize m[j].1 = kj at *
          generalize m[j].2 = tj at *
          go_wp2_with fail
          refine (HD.out _ _ _ _ _ _ _ _ HKC.out).mono ?_
          rintro e w2 ⟨rfl, hb2⟩
          have HB2 := Lib.hid (Below.next (Below.new _ _) hb2)
          clear hb2
          go_wp2_with fail
          go_roundw
          case rel =>
            have REL : ∃ i2 j2 : Nat, Value.int .i64 (i : Int) = .int .i64 i2 ∧ Value.int .i64 ((j : Int) + 1) = .int .i64 j2 ∧ j2 ≤ m.length ∧ i2 < j2 ∧ Hid ((del (m.take j2) key).length = i2) ∧ RowP w2 (some ⟨g, 0, none⟩) g m.length lo S (stM m key j2) ∧ w.grownBy w2 (some g) :=
              ⟨i, j + 1, rfl, by go_num, by omega, by omega, by rw [HS2.out]; exact hI, by rw [HS1.out]; exact HROWJ.out.keep HB2.out, ⟨HB2.out.os.trans HGR.out.os, HB2.out.tape.trans HGR.out.tape, HB2.out.output.trans HGR.out.output, Nat.le_trans HGR.out.size HB2.out.size, fun k hk hne => (HB2.out.block k (Nat.lt_of_lt_of_le hk HGR.out.size)).trans (HGR.out.block k hk hne)⟩⟩
            first | exact REL | ((repeat apply Exists.intro); exact ⟨REL, rfl⟩)
          case measure => simp [intOf]; omega
        · obtain ⟨hs1, hs2⟩ := st_put hlt he
          have HS1 := Lib.hid hs1
          have HS2 := Lib.hid hs2
          have hd : decide (m[j].1 = key) = false := decide_eq_false he
          rw [hd] at HD
          rw [hI.out] at HS1 HS2
          have HMJ : Hid (m[j] = (m[j].1, m[j].2)) := rfl
          rw [HMJ.out] at HS1
          clear he hd hs1 hs2 HMJ
          generalize m[j].1 = kj at *
          generalize m[j].2 = tj at *
          go_wp2_with fail
          refine (HD.out _ _ _ _ _ _ _ _ HKC.out).mono ?_
          rintro e w2 ⟨rfl, hb2⟩
          have HB2 := Lib.hid (Below.next (Below.new _ _) hb2)
          have hbx := ((Blk.new wr 38 #[.string kj, .int .i64 tj.kind, .bool tj.bool, .int .i64 tj.int, .string tj.str, .slice la tj.list.length lc, .slice ma tj.map.length mc]).keep hb2).cell
          have hbl := ((Blk.new wr 38 #[.string kj, .int .i64 tj.kind, .bool tj.bool, .int .i64 tj.int, .string tj.str, .slice la tj.list.length lc, .slice ma tj.map.length mc]).keep hb2).lt
          have HRW2 := Lib.hid (HROWJ.out.keep HB2.out)
          obtain ⟨-, -, cs2, hcl2, hca2, hfz2, -⟩ := RowsG.at_ HRW2.out (show i < m.length by omega)
          match cs2, hcl2 with
          | [x0, x1, x2, x3, x4, x5, x6], _ =>
          have y0 := hca2 0 _ rfl
          have y1 := hca2 1 _ rfl
          have y2 := hca2 2 _ rfl
          have y3 := hca2 3 _ rfl
          have y4 := hca2 4 _ rfl
          have y5 := hca2 5 _ rfl
          have y6 := hca2 6 _ rfl
          have z0 := hfz2 0 (by omega)
          have z1 := hfz2 1 (by omega)
          have z2 := hfz2 2 (by omega)
          have z3 := hfz2 3 (by omega)
          have z4 := hfz2 4 (by omega)
          have z5 := hfz2 5 (by omega)
          have z6 := hfz2 6 (by omega)
          simp only [Nat.add_zero] at y0 z0
          have hi1 : (0 : Int) ≤ (i : Int) := by omega
          have hi2 : (i : Int) < (m.length : Int) := by omega
          have hne : ¬ g = wr.heap.size := by omega
          have hne2 : ¬ wr.heap.size = g := by omega
          clear hb2 hca2 hfz2 d0 d1 d2 d3 d4 d5 d6
          go_wp2_with fail
          go_roundw
          case rel =>
            have REL : ∃ i2 j2 : Nat, Value.int .i64 ((i : Int) + 1) = .int .i64 i2 ∧ Value.int .i64 ((j : Int) + 1) = .int .i64 j2 ∧ j2 ≤ m.length ∧ i2 < j2 ∧ Hid ((del (m.take j2) key).length = i2) ∧ RowP (set7 w2 g (i * 7) (.string kj) (.int .i64 tj.kind) (.bool tj.bool) (.int .i64 tj.int) (.string tj.str) (.slice la tj.list.length lc) (.slice ma tj.map.length mc)) (some ⟨g, 0, none⟩) g m.length lo S (stM m key j2) ∧ w.grownBy (set7 w2 g (i * 7) (.string kj) (.int .i64 tj.kind) (.bool tj.bool) (.int .i64 tj.int) (.string tj.str) (.slice la tj.list.length lc) (.slice ma tj.map.length mc)) (some g) :=
              ⟨i + 1, j + 1, by go_num, by go_num, by omega, by omega, HS2, by rw [HS1.out]; exact RowP.put HRW2.out (by omega) hkz (HR.out.keep HB2.out), set7_grown (o := i * 7) ⟨HB2.out.os.trans HGR.out.os, HB2.out.tape.trans HGR.out.tape, HB2.out.output.trans HGR.out.output, Nat.le_trans HGR.out.size HB2.out.size, fun k hk hne => (HB2.out.block k (Nat.lt_of_lt_of_le hk HGR.out.size)).trans (HGR.out.block k hk hne)⟩⟩
            first | exact REL | ((repeat apply Exists.intro); exact ⟨REL, rfl⟩)
          case measure => simp [intOf]; omega
      · obtain rfl : j = m.length := by omega
        have hdl : (del m key).length = i := by have := hI.out; rw [List.take_length] at this; exact this
        have HDL := Lib.hid hdl
        have HROWJ := Lib.hid hrow
        have HGR := Lib.hid hgr
        obtain ⟨zs, hzl, hclr⟩ := run_clear_wide (P := Try.prog) wr 23 38 0 _ 7 und_pairs pair_zero rfl (by decide) (by omega) g (i * 7) (m.length - i) (c - i) (by omega)
          (fun j hj => by
            obtain ⟨-, -, cur, hb, hs, -⟩ := hrow (by omega)
            have : i * 7 + (m.length - i) * 7 = m.length * 7 := by rw [← Nat.add_mul]; congr 1; omega
            rw [hb.cell, Array.getElem?_eq_getElem (by omega)]; rfl)
          (fun j hj => by
            obtain ⟨-, -, cur, hb, -, -⟩ := hrow (by omega)
            exact hb.frozen _)
        have HZL := Lib.hid hzl
        have hi1 : (0 : Int) ≤ (i : Int) := by omega
        have hi2 : (i : Int) ≤ (m.length : Int) := by omega
        have hi3 : (i : Int) ≤ (c : Int) := by omega
        have hi4 : ¬ c = i := by omega
        have hi5 : (m.length : Int) ≤ (c : Int) := by omega
        clear hdl hrow hgr hzl
        go_wp2_with (at_builtin; refine wpList_clear_run rfl (.tmp 38) 23 rfl hclr rfl ?_)
        go_ret
        have htk : (stM m key m.length).take i = del m key := by
          unfold stM
          rw [List.take_length, List.take_append_of_le_length (by rw [HDL.out]; exact Nat.le_refl _), List.take_of_length_le (by rw [HDL.out]; exact Nat.le_refl _)]
        refine ⟨by rw [HDL.out]; rfl, ?_, grown_setCells HGR.out (.inl rfl) _ _⟩
        rw [HDL.out, ← htk]
        exact RowP.cut HROWJ.out (st_len (Nat.le_refl _)).symm (by omega) HZL.out
  · have HD : Hid (del m key = m) := del_none (fun p hp => by
      obtain ⟨i, hi, rfl⟩ := List.getElem_of_mem hp
      exact hall i hi)
    have HR1 := Lib.hid (HROW.out.keep hb1)
    have HG1 : Hid (w.grownBy w1 (some g)) := ⟨hb1.os, hb1.tape, hb1.output, hb1.size, fun k hk _ => hb1.block k hk⟩
    clear hb1 hall
    go_wp2_with fail
    go_ret
    exact ⟨by rw [HD.out]; rfl, by rw [HD.out]; exact HR1.out, HG1.out⟩

/-- What Clone leaves, for one who goes on to write in the map's row. -/
theorem clone_rows {w wr : World} {t : T} {lc mc : Nat} {A1 A2 : Option Addr} {g1 g2 : Nat} {d0 d1 d2 d3 d4 d5 : Value} (h : Cl w wr t lc mc A1 A2 g1 g2 t.list.length t.map.length) :
    Below w.heap.size w (set6 wr (w.heap.size + 1) 0 d0 d1 d2 d3 d4 d5) ∧ ∃ g, w.heap.size + 1 ≤ g ∧ g < (set6 wr (w.heap.size + 1) 0 d0 d1 d2 d3 d4 d5).heap.size ∧
      RowP (set6 wr (w.heap.size + 1) 0 d0 d1 d2 d3 d4 d5) A2 g t.map.length (w.heap.size + 2) (fun b => w.heap.size + 2 ≤ b) t.map ∧
      RepL (set6 wr (w.heap.size + 1) 0 d0 d1 d2 d3 d4 d5) (fun b => w.heap.size + 2 ≤ b ∧ b ≠ g) A1 t.list := by
  obtain ⟨hb1, hb2, hbw, hg1, hg2, hne, hL, hM⟩ := h
  have hl := hb2.lt
  have hcl : ∀ b o, b ≠ w.heap.size + 1 → (set6 wr (w.heap.size + 1) 0 d0 d1 d2 d3 d4 d5).cell? ⟨b, o, none⟩ = wr.cell? ⟨b, o, none⟩ := fun b o hb => World.cell?_of_block (set6_heap hb)
  have hlist : ∀ g, (0 < t.map.length → g = g2) → (¬ 0 < t.map.length → g = w.heap.size + 1) → RepL (set6 wr (w.heap.size + 1) 0 d0 d1 d2 d3 d4 d5) (fun b => w.heap.size + 2 ≤ b ∧ b ≠ g) A1 t.list := fun g hg hg' => by
    by_cases h0 : 0 < t.list.length
    · have hlo := (hL h0).2.1
      have hng : g1 ≠ g := by
        by_cases hm0 : 0 < t.map.length
        · rw [hg hm0]; exact hne h0 hm0
        · rw [hg' hm0]; omega
      refine RepL.mono (w := wr) (S := fun b => w.heap.size + 2 ≤ b ∧ b ≠ g) ?_ (fun b h _ => h) (fun b o h _ => hcl b o (by omega))
      refine hL.repL ⟨hlo, hng⟩ (fun i b hi hS _ => ?_)
      unfold SW at hS
      refine ⟨by omega, ?_⟩
      by_cases hm0 : 0 < t.map.length
      · rw [hg hm0]; omega
      · rw [hg' hm0]; omega
    · intro i hi; omega
  refine ⟨set6_below hbw (by omega), ?_⟩
  by_cases hm0 : 0 < t.map.length
  · have hlo := (hM hm0).2.1
    refine ⟨g2, by omega, by rw [set6_size]; omega, ?_, hlist g2 (fun _ => rfl) (fun h => absurd hm0 h)⟩
    refine RowsG.mono hM (fun _ => set6_heap (by omega)) (fun i cs hi hE hi' => ?_)
    obtain ⟨r, e, hz, hr⟩ := hE hi'
    refine ⟨r, e, hz, hr.mono (fun b hS _ => ?_) (fun b o hS _ => hcl b o ?_)⟩
    · unfold SW at hS; exact ⟨by omega, by omega⟩
    · unfold SW at hS; omega
  · exact ⟨w.heap.size + 1, Nat.le_refl _, by rw [set6_size]; omega, fun h => absurd h hm0, hlist _ (fun h => absurd h hm0) (fun _ => rfl)⟩
theorem RowP.rep {w : World} {A : Option Addr} {g lo : Nat} {S S' : Nat → Prop} {m : List (ByteArray × T)} (h : RowP w A g m.length lo S m) (hg : 0 < m.length → S' g) (hS : ∀ b, S b → S' b) : RepM w S' A m := by
  by_cases h0 : 0 < m.length
  · exact RowsG.repM h (hg h0) (fun i b _ hb _ => hS b hb.1)
  · intro i hi; omega
theorem RowP.lo {w : World} {A : Option Addr} {g lo n : Nat} {S : Nat → Prop} {m : List (ByteArray × T)} (h : RowP w A g n lo S m) (h0 : 0 < n) : lo ≤ g := (h h0).2.1
theorem RowP.far {w : World} {A : Option Addr} {g lo n : Nat} {S : Nat → Prop} {m : List (ByteArray × T)} (h : RowP w A g n lo S m) {w' : World} (hg : 0 < n → w'.heap[g]? = w.heap[g]?) (hw : ∀ b, S b → w'.heap[b]? = w.heap[b]?) : RowP w' A g n lo S m :=
  RowsG.mono h hg (fun i cs _ hE hi => by
    obtain ⟨r, e, hz, hr⟩ := hE hi
    exact ⟨r, e, hz, hr.mono (fun b hb _ => hb) (fun b o hb _ => World.cell?_of_block (hw b hb.1))⟩)
theorem grown_below {w a b : World} {g : Nat} (h : Below w.heap.size w a) (k : a.grownBy b (some g)) (hg : w.heap.size ≤ g) : Below w.heap.size w b :=
  ⟨k.os.trans h.os, k.tape.trans h.tape, k.output.trans h.output, Nat.le_trans h.size k.size, fun i hi => (k.block i (Nat.lt_of_lt_of_le hi h.size) (fun e => by injection e with e; omega)).trans (h.block i hi)⟩

set_option maxRecDepth 100000 in
set_option maxHeartbeats 4000000 in
theorem tdrop (t : T) (key : ByteArray) (v : Value) (w : World) (S : Nat → Prop) (h : RepT w S v t) : Calls Try.prog 24 #[v, .string key] w (NewPost w (dropT t key)) := by
  have HC := Lib.hid (fun w v h => clone_full t w S v h)
  obtain ⟨la, lc, ma, mc, rfl, hp⟩ := h.inv
  obtain ⟨hk, hn, hs, hl, hm, -, -, -, -, -, -⟩ := hp
  have HR := Lib.hid h
  have HN := Lib.hid (show i64ok t.kind ∧ i64ok t.int ∧ t.str.size ≤ 140737488351232 from ⟨hk, hn, hs⟩)
  clear h hk hn hs
  go_enter Try.func24, Try.ntmps24
  go_wp2_with fail
  have hB1 : Blk (((w.alloc (.cells #[.int .i64 t.kind, .bool t.bool, .int .i64 t.int, .string t.str, .slice la t.list.length lc, .slice ma t.map.length mc] 25)).alloc (.cells #[.string key] 9)).alloc (.cells #[.int .i64 0, .bool false, .int .i64 0, .string ⟨#[]⟩, .slice none 0 0, .slice none 0 0] 25)) w.heap.size 25 #[.int .i64 t.kind, .bool t.bool, .int .i64 t.int, .string t.str, .slice la t.list.length lc, .slice ma t.map.length mc] := ((Blk.new _ _ _).alloc _).alloc _
  have hB2 : Blk (((w.alloc (.cells #[.int .i64 t.kind, .bool t.bool, .int .i64 t.int, .string t.str, .slice la t.list.length lc, .slice ma t.map.length mc] 25)).alloc (.cells #[.string key] 9)).alloc (.cells #[.int .i64 0, .bool false, .int .i64 0, .string ⟨#[]⟩, .slice none 0 0, .slice none 0 0] 25)) (w.heap.size + 1) 9 #[.string key] := (Blk.new_at _ _ _ (by simp)).alloc _
  have hB3 : Blk (((w.alloc (.cells #[.int .i64 t.kind, .bool t.bool, .int .i64 t.int, .string t.str, .slice la t.list.length lc, .slice ma t.map.length mc] 25)).alloc (.cells #[.string key] 9)).alloc (.cells #[.int .i64 0, .bool false, .int .i64 0, .string ⟨#[]⟩, .slice none 0 0, .slice none 0 0] 25)) (w.heap.size + 1 + 1) 25 #[.int .i64 0, .bool false, .int .i64 0, .string ⟨#[]⟩, .slice none 0 0, .slice none 0 0] := Blk.new_at _ _ _ (by simp)
  have hBW : Below w.heap.size w (((w.alloc (.cells #[.int .i64 t.kind, .bool t.bool, .int .i64 t.int, .string t.str, .slice la t.list.length lc, .slice ma t.map.length mc] 25)).alloc (.cells #[.string key] 9)).alloc (.cells #[.int .i64 0, .bool false, .int .i64 0, .string ⟨#[]⟩, .slice none 0 0, .slice none 0 0] 25)) := ((Below.new _ _).alloc (by simp) _).alloc (by simp; omega) _
  generalize (((w.alloc (.cells #[.int .i64 t.kind, .bool t.bool, .int .i64 t.int, .string t.str, .slice la t.list.length lc, .slice ma t.map.length mc] 25)).alloc (.cells #[.string key] 9)).alloc (.cells #[.int .i64 0, .bool false, .int .i64 0, .string ⟨#[]⟩, .slice none 0 0, .slice none 0 0] 25)) = W0 at hB1 hB2 hB3 hBW ⊢
  have HBW := Lib.hid hBW
  refine (HC.out _ _ (HR.out.keep hBW)).mono ?_
  rintro e w1 ⟨A1, lc1, A2, mc1, g1, g2, wr, rfl, hcl, hw1, hc1, hc2, hc3, hc4⟩
  obtain ⟨hb01, g, hg1, hg2, hrow, hlist⟩ := clone_rows (d0 := .int .i64 t.kind) (d1 := .bool t.bool) (d2 := .int .i64 t.int) (d3 := .string t.str) (d4 := .slice A1 t.list.length lc1) (d5 := .slice A2 t.map.length mc1) hcl
  rw [← hw1] at hb01 hg2 hrow hlist
  have hl3 := hB3.lt
  have hk1 := (hB1.keep hb01).cell
  have hf1 := (hB1.keep hb01).frozen
  have HK1 := Lib.hid (hB1.keep hb01)
  have HK2 := Lib.hid (hB2.keep hb01)
  have HK3 := Lib.hid (hB3.keep hb01)
  have HB01 := Lib.hid hb01
  have HROW := Lib.hid hrow
  have HLIST := Lib.hid hlist
  have hsz01 := hb01.size
  clear hw1 hcl hb01 hrow hlist hB1 hB2 hB3 hBW
  go_wp2_with fail
  have hwx : ∀ k, k ≠ w.heap.size → (((((((w1.setCell ⟨w.heap.size, 0, none⟩ (.int .i64 t.kind)).setCell ⟨w.heap.size, 1, none⟩ (.bool t.bool)).setCell ⟨w.heap.size, 2, none⟩ (.int .i64 t.int)).setCell ⟨w.heap.size, 3, none⟩ (.string t.str)).setCell ⟨w.heap.size, 4, none⟩ (.slice A1 t.list.length lc1)).setCell ⟨w.heap.size, 5, none⟩ (.slice A2 t.map.length mc1))).heap[k]? = w1.heap[k]? := fun k hk => set6_heap (o := 0) hk
  have hX1 : Blk ((((((w1.setCell ⟨w.heap.size, 0, none⟩ (.int .i64 t.kind)).setCell ⟨w.heap.size, 1, none⟩ (.bool t.bool)).setCell ⟨w.heap.size, 2, none⟩ (.int .i64 t.int)).setCell ⟨w.heap.size, 3, none⟩ (.string t.str)).setCell ⟨w.heap.size, 4, none⟩ (.slice A1 t.list.length lc1)).setCell ⟨w.heap.size, 5, none⟩ (.slice A2 t.map.length mc1)) w.heap.size 25 #[.int .i64 t.kind, .bool t.bool, .int .i64 t.int, .string t.str, .slice A1 t.list.length lc1, .slice A2 t.map.length mc1] := (((((HK1.out.set_ 0 _).set_ 1 _).set_ 2 _).set_ 3 _).set_ 4 _).set_ 5 _
  have hXS : (((((((w1.setCell ⟨w.heap.size, 0, none⟩ (.int .i64 t.kind)).setCell ⟨w.heap.size, 1, none⟩ (.bool t.bool)).setCell ⟨w.heap.size, 2, none⟩ (.int .i64 t.int)).setCell ⟨w.heap.size, 3, none⟩ (.string t.str)).setCell ⟨w.heap.size, 4, none⟩ (.slice A1 t.list.length lc1)).setCell ⟨w.heap.size, 5, none⟩ (.slice A2 t.map.length mc1))).heap.size = w1.heap.size := set6_size (o := 0)
  have hXB : Below w.heap.size w ((((((w1.setCell ⟨w.heap.size, 0, none⟩ (.int .i64 t.kind)).setCell ⟨w.heap.size, 1, none⟩ (.bool t.bool)).setCell ⟨w.heap.size, 2, none⟩ (.int .i64 t.int)).setCell ⟨w.heap.size, 3, none⟩ (.string t.str)).setCell ⟨w.heap.size, 4, none⟩ (.slice A1 t.list.length lc1)).setCell ⟨w.heap.size, 5, none⟩ (.slice A2 t.map.length mc1)) := set6_below (o := 0) (Below.next HBW.out HB01.out) (Nat.le_refl _)
  generalize ((((((w1.setCell ⟨w.heap.size, 0, none⟩ (.int .i64 t.kind)).setCell ⟨w.heap.size, 1, none⟩ (.bool t.bool)).setCell ⟨w.heap.size, 2, none⟩ (.int .i64 t.int)).setCell ⟨w.heap.size, 3, none⟩ (.string t.str)).setCell ⟨w.heap.size, 4, none⟩ (.slice A1 t.list.length lc1)).setCell ⟨w.heap.size, 5, none⟩ (.slice A2 t.map.length mc1)) = w2 at hwx hX1 hXS hXB ⊢
  have hX2 : Blk w2 (w.heap.size + 1) 9 #[.string key] := (hwx _ (by omega)).trans HK2.out
  have hX3 : Blk w2 (w.heap.size + 1 + 1) 25 #[.int .i64 0, .bool false, .int .i64 0, .string ⟨#[]⟩, .slice none 0 0, .slice none 0 0] := (hwx _ (by omega)).trans HK3.out
  have hrow2 : RowP w2 A2 g t.map.length (W0.heap.size + 2) (fun b => W0.heap.size + 2 ≤ b) t.map := HROW.out.far (fun _ => hwx _ (by omega)) (fun b hb => hwx b (by omega))
  have hlist2 : RepL w2 (fun b => W0.heap.size + 2 ≤ b ∧ b ≠ g) A1 t.list := HLIST.out.mono (fun _ h _ => h) (fun b o h _ => World.cell?_of_block (hwx b (by omega)))
  have hrep2 : RepM w2 (fun _ => True) A2 t.map := hrow2.rep (fun _ => trivial) (fun _ _ => trivial)
  refine (delete_key t.map key A2 g mc1 (w.heap.size + 1) (W0.heap.size + 2) w2 (fun b => W0.heap.size + 2 ≤ b) hrow2 (by omega) (hX2.cell 0) (by omega) hrep2 hm hc2 hc4).mono ?_
  rintro e w3 ⟨rfl, hrow3, hgr3⟩
  have hY1 := hX1.grown hgr3 (by simp; omega)
  have hY3 := hX3.grown hgr3 (by simp; omega)
  have hyk := hY1.cell
  have hyf := hY1.frozen
  have hzk := hY3.cell
  have hzf := hY3.frozen
  have hyl := hY3.lt
  have HY1 := Lib.hid hY1
  have HY3 := Lib.hid hY3
  have HROW3 := Lib.hid hrow3
  have HLIST3 := Lib.hid (show RepL w3 (fun b => W0.heap.size + 2 ≤ b ∧ b ≠ g) A1 t.list from hlist2.mono (fun _ h _ => h) (fun b o h hlt => World.cell?_of_block (hgr3.block b hlt (fun e => h.2 (by injection e)))))
  have HB3 := Lib.hid (grown_below hXB hgr3 (by omega))
  have HD := Lib.hid (del_len t.map key)
  clear hwx hX1 hXS hXB hX2 hX3 hrow2 hlist2 hrep2 hrow3 hgr3 hY1 hY3 hk1 hf1
  have HDK : Hid (dropT t key = .mk t.kind t.bool t.int t.str t.list (del t.map key)) := rfl
  generalize del t.map key = m at *
  go_wp2_with fail
  refine ret_cell rfl rfl ((((((((HY3.out.far (show w.heap.size + 1 + 1 ≠ w.heap.size by omega) _).set_ 0 _).set_ 1 _).set_ 2 _).set_ 3 _).set_ 4 _).set_ 5 _)) Try.underlying25 val_size rfl ⟨_, rfl, ?_, set6_below (o := 0) (HB3.out.setCell (by simp) _) (by omega)⟩
  rw [HDK.out]
  have hfar : ∀ k, W0.heap.size + 1 ≤ k → (set6 (w3.setCell ⟨w.heap.size, 5, none⟩ (.slice A2 m.length mc1)) (w.heap.size + 1 + 1) 0 (.int .i64 t.kind) (.bool t.bool) (.int .i64 t.int) (.string t.str) (.slice A1 t.list.length lc1) (.slice A2 m.length mc1)).heap[k]? = w3.heap[k]? := fun k hk =>
    (set6_heap (by omega)).trans (Below.heap_setCell _ _ _ k (by simp; omega))
  have hmd := HD.out
  refine RepT.of (t := .mk t.kind t.bool t.int t.str t.list m) ⟨HN.out.1, HN.out.2.1, HN.out.2.2, hl, show m.length * 104 ≤ _ by omega, hc1, Nat.le_trans hmd hc2, hc3, hc4, ?_, ?_⟩
  · exact HLIST3.out.mono (fun b h _ => by show w.heap.size ≤ b; omega) (fun b o h _ => World.cell?_of_block (hfar b (by omega)))
  · have hr := HROW3.out.rep (S' := fun b => W0.heap.size + 1 ≤ b) (fun _ => hg1) (fun b hb => by omega)
    exact hr.mono (fun b (h : W0.heap.size + 1 ≤ b) _ => by show w.heap.size ≤ b; omega) (fun b o h _ => World.cell?_of_block (hfar b h))

end Go.Proofs.Ythkkmnmejciomaa
