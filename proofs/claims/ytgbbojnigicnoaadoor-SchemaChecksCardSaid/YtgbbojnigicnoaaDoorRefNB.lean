/- Several texts as one. -/
import Derived.Test.YtgbbojnigicnoaaDoorRfX
import Derived.Test.YtgbbojnigicnoaaDoorPath
/- The reference's Get, Put and Drop, with the blocks that their results lie in: those that what comes in lies in, or new ones. -/
namespace Go.Proofs.YtgbbojnigicnoaaDoor
open Go.RowKit
attribute [local go_sem ↓] Go.wp_at_zero Go.wp_at_succ

def GotRS (S : Nat → Prop) (w : World) (b : Bool) (x : T) (e : Ending) (w' : World) : Prop := ∃ v, e = .returned (.tuple #[v, .bool b]) ∧ RepT w' S v x ∧ Below w.heap.size w w'

set_option maxRecDepth 100000 in
set_option maxHeartbeats 2000000 in
theorem rget_N (S : Nat → Prop) (t : T) (key : ByteArray) (v : Value) (w : World) (h : RepT w S v t) : Calls Tryd.prog 21 #[v, .string key] w (GotRS S w (look t.map key).isSome ((look t.map key).getD T.zero)) := by
  obtain ⟨la, lc, ma, mc, rfl, hp⟩ := h.inv
  obtain ⟨-, -, -, -, hm, -, -, -, -, -, hM⟩ := hp
  clear h
  go_enter Tryd.func21, Tryd.ntmps21
  go_wp2_with fail
  have hB1 : Blk ((w.alloc (.cells #[.int .i64 t.kind, .bool t.bool, .int .i64 t.int, .string t.str, .slice la t.list.length lc, .slice ma t.map.length mc] 25)).alloc (.cells #[.int .i64 0, .bool false, .int .i64 0, .string ⟨#[]⟩, .slice none 0 0, .slice none 0 0] 25)) w.heap.size 25 #[.int .i64 t.kind, .bool t.bool, .int .i64 t.int, .string t.str, .slice la t.list.length lc, .slice ma t.map.length mc] := (Blk.new _ _ _).alloc _
  have hB2 : Blk ((w.alloc (.cells #[.int .i64 t.kind, .bool t.bool, .int .i64 t.int, .string t.str, .slice la t.list.length lc, .slice ma t.map.length mc] 25)).alloc (.cells #[.int .i64 0, .bool false, .int .i64 0, .string ⟨#[]⟩, .slice none 0 0, .slice none 0 0] 25)) (w.heap.size + 1) 25 #[.int .i64 0, .bool false, .int .i64 0, .string ⟨#[]⟩, .slice none 0 0, .slice none 0 0] := Blk.new_at _ _ _ (by simp)
  have hBW : Below w.heap.size w ((w.alloc (.cells #[.int .i64 t.kind, .bool t.bool, .int .i64 t.int, .string t.str, .slice la t.list.length lc, .slice ma t.map.length mc] 25)).alloc (.cells #[.int .i64 0, .bool false, .int .i64 0, .string ⟨#[]⟩, .slice none 0 0, .slice none 0 0] 25)) := (Below.new _ _).alloc (by simp) _
  generalize ((w.alloc (.cells #[.int .i64 t.kind, .bool t.bool, .int .i64 t.int, .string t.str, .slice la t.list.length lc, .slice ma t.map.length mc] 25)).alloc (.cells #[.int .i64 0, .bool false, .int .i64 0, .string ⟨#[]⟩, .slice none 0 0, .slice none 0 0] 25)) = W0 at hB1 hB2 hBW ⊢
  have HM := Lib.hid ((hM.mono (w' := w) (S' := fun b => S b ∧ b < w.heap.size) (fun _ h1 h => ⟨h1, h⟩) (fun _ _ _ _ => rfl)).keep hBW)
  have HB2 := Lib.hid hB2
  have HBW := Lib.hid hBW
  have hk1 := hB1.cell
  have hk2 := hB2.cell
  have hf2 := hB2.frozen
  have hl1 := hB1.lt
  have hl2 := hB2.lt
  clear hM hB1 hB2 hBW
  generalize t.map = m at *
  go_loop [6] (fun i => ∃ q : Nat, q ≤ m.length ∧ i = .int .i64 q ∧ Hid (∀ j (hj : j < m.length), j < q → m[j].1 ≠ key)) (fun i => m.length - (intOf i).toNat)
  case atStart => exact ⟨0, Nat.zero_le _, rfl, fun j _ h => by omega⟩
  case round =>
    obtain ⟨q, hq, rfl, hall⟩ := hrel
    by_cases hlt : q < m.length
    · obtain ⟨b, o, la1, lc1, ma1, mc1, rfl, -, hbl, -, ⟨c0, c1, c2, c3, c4, c5, c6⟩, hr⟩ := HM.out.at_ hlt
      by_cases he : m[q].1 = key
      · have hke : (m[q].1.toList == key.toList) = true := by rw [he]; simp
        have HL := Lib.hid (look_first hlt he hall.out)
        have HR := Lib.hid hr
        clear he hall hr
        generalize m[q].1 = kq at *
        generalize m[q].2 = tq at *
        go_wp2_with fail
        refine ret_cell2 rfl rfl rfl ((((((HB2.out.set_ 0 _).set_ 1 _).set_ 2 _).set_ 3 _).set_ 4 _).set_ 5 _) Tryd.underlying25 val_size rfl ⟨_, by rw [HL.out]; rfl, ?_, set6_below (o := 0) HBW.out (by omega)⟩
        rw [HL.out]
        exact HR.out.mono (fun _ h _ => h.1) (fun b o (hb : S b ∧ b < w.heap.size) _ => World.cell?_of_block (w := W0) (set6_heap (o := 0) (show b ≠ w.heap.size + 1 by have := hb.2; omega)))
      · have hke : (m[q].1.toList == key.toList) = false := by rw [keq_iff]; exact decide_eq_false he
        have HN : Hid (∀ j (hj : j < m.length), j < q + 1 → m[j].1 ≠ key) := fun j hj h2 => by
          rcases Nat.lt_or_ge j q with h3 | h3
          · exact hall.out j hj h3
          · obtain rfl : j = q := by omega
            exact he
        clear he hall hr
        generalize m[q].1 = kq at *
        go_wp2_with fail
        go_round
        case rel => exact ⟨q + 1, by omega, by go_num, HN⟩
        case measure => simp [intOf]; omega
    · obtain rfl : q = m.length := by omega
      have HL : Hid (look m key = none) := look_not (fun p hp => by
        obtain ⟨i, hi, rfl⟩ := List.getElem_of_mem hp
        exact hall.out i hi hi)
      clear hall
      go_wp2_with fail
      exact ret_cell2 rfl rfl rfl ((((((HB2.out.set_ 0 _).set_ 1 _).set_ 2 _).set_ 3 _).set_ 4 _).set_ 5 _) Tryd.underlying25 val_size rfl ⟨_, by rw [HL.out]; rfl, by rw [HL.out]; exact rep_zero _ _, set6_below (o := 0) HBW.out (by omega)⟩


def DNv (S : Nat → Prop) (w wr : World) (vb : Array Value) (k b n s ls : Value) (A : Option Addr) (c : Nat) (l : List (ByteArray × T)) : Prop :=
  Blk wr w.heap.size 25 vb ∧ Blk wr (w.heap.size + 1) 25 #[.int .i64 0, .bool false, .int .i64 0, .string ⟨#[]⟩, .slice none 0 0, .slice none 0 0] ∧ Blk wr (w.heap.size + 1 + 1) 25 #[k, b, n, s, ls, .slice A l.length c] ∧ Below w.heap.size w wr ∧ OwnE eltP wr (w.heap.size + 1 + 1 + 1) (fun b => S b ∧ b < w.heap.size) A c l
theorem dnv_next {S : Nat → Prop} {w wr : World} {vb : Array Value} {k b n s ls : Value} {A : Option Addr} {c : Nat} {l : List (ByteArray × T)} {kq : ByteArray} {x : T} {c0 c1 c2 c3 c4 c5 : Value} (h : DNv S w wr vb k b n s ls A c l)
    (hx : RepT wr (fun b => S b ∧ b < w.heap.size) (.agg #[c0, c1, c2, c3, c4, c5]) x) (hk : kq.size ≤ 140737488351232) (hbig : (l.length + 1) * 104 ≤ 140737488355328) :
    ∃ (l2 : List (ByteArray × T)) (A' : Option Addr) (c' : Nat) (w3 : World), Hid (l2 = l ++ [(kq, x)]) ∧
      (Builtin.append_ #[23, 23] 23 #[.slice A l.length c, .slice (some ⟨wr.heap.size, 0, none⟩) 1 1]).run Tryd.prog (wr.alloc (.cells #[.string kq, c0, c1, c2, c3, c4, c5] 41)).drew = .ok (.slice A' l2.length c') w3 ∧
      Blk w3 (w.heap.size + 1 + 1) 25 #[k, b, n, s, ls, .slice A l.length c] ∧ DNv S w (w3.setCell ⟨w.heap.size + 1 + 1, 5, none⟩ (.slice A' l2.length c')) vb k b n s ls A' c' l2 := by
  obtain ⟨h1, h2, h3, hb, ho⟩ := h
  have hl := h3.lt
  obtain ⟨l2, A', c', w3, e, hr, ho3, hb3⟩ := pair_append_S (wr := wr.drew) (ho.keep (Below.drew (Below.refl _ _))) (hx.keep (Below.drew (Below.refl _ _))) hk hbig (show w.heap.size + 1 + 1 + 1 ≤ wr.heap.size by omega) (by omega)
  have kp : ∀ {g ty cs}, Blk wr g ty cs → g < w.heap.size + 1 + 1 + 1 → Blk w3 g ty cs := fun hh hg => hh.drew.below hb3 hg
  have hbw : Below w.heap.size w w3 := hb.drew.trans (hb3.mono (by omega))
  refine ⟨l2, A', c', w3, e, hr, kp h3 (by omega), (kp h1 (by omega)).far (show w.heap.size ≠ w.heap.size + 1 + 1 by omega) _, (kp h2 (by omega)).far (show w.heap.size + 1 ≠ w.heap.size + 1 + 1 by omega) _, (kp h3 (by omega)).set_ 5 _, hbw.setCell (show w.heap.size ≤ w.heap.size + 1 + 1 by omega) _, ?_⟩
  exact ho3.far _ (fun g hg => by have := (ho3.own g hg).1; show g ≠ w.heap.size + 1 + 1; omega) (fun hh => by have : w.heap.size + 1 + 1 < w.heap.size := hh.2; omega)

end Go.Proofs.YtgbbojnigicnoaaDoor

/- The reference of paths: Get, Put, Drop, Prune. -/
namespace Go.Proofs.YtgbbojnigicnoaaDoor
open Go.RowKit
attribute [local go_sem ↓] Go.wp_at_zero Go.wp_at_succ

/-- A value in a box that was made in a region: it lies in blocks of S or in new ones. -/
structure BoxedS (S : Nat → Prop) (W0 W' : World) (g : Nat) (x : T) (la : Option Addr) (lc : Nat) (ma : Option Addr) (mc : Nat) : Prop where
  bel : Below W0.heap.size W0 W'
  low : W0.heap.size ≤ g
  box : Blk W' g 25 #[.int .i64 x.kind, .bool x.bool, .int .i64 x.int, .string x.str, .slice la x.list.length lc, .slice ma x.map.length mc]
  rep : RepT W' (fun b => S b ∨ (W0.heap.size ≤ b ∧ b ≠ g)) (.agg #[.int .i64 x.kind, .bool x.bool, .int .i64 x.int, .string x.str, .slice la x.list.length lc, .slice ma x.map.length mc]) x
/-- The same, where it lies in blocks of S alone. -/
structure BoxedO (S : Nat → Prop) (W0 W' : World) (g : Nat) (x : T) (la : Option Addr) (lc : Nat) (ma : Option Addr) (mc : Nat) : Prop where
  bel : Below W0.heap.size W0 W'
  low : W0.heap.size ≤ g
  box : Blk W' g 25 #[.int .i64 x.kind, .bool x.bool, .int .i64 x.int, .string x.str, .slice la x.list.length lc, .slice ma x.map.length mc]
  rep : RepT W' S (.agg #[.int .i64 x.kind, .bool x.bool, .int .i64 x.int, .string x.str, .slice la x.list.length lc, .slice ma x.map.length mc]) x
section
variable {S : Nat → Prop} {w W0 Wc w1 w3 : World} {x : T} {la : Option Addr} {lc : Nat} {ma : Option Addr} {mc : Nat}
theorem BoxedS.ahead (hS : ∀ b, S b → b < W0.heap.size) (hb : Below (W0.alloc (.cells #[.int .i64 0, .bool false, .int .i64 0, .string ⟨#[]⟩, .slice none 0 0, .slice none 0 0] 25)).drew.heap.size (W0.alloc (.cells #[.int .i64 0, .bool false, .int .i64 0, .string ⟨#[]⟩, .slice none 0 0, .slice none 0 0] 25)).drew w1) (hr : RepT w1 (fun b => S b ∨ (W0.alloc (.cells #[.int .i64 0, .bool false, .int .i64 0, .string ⟨#[]⟩, .slice none 0 0, .slice none 0 0] 25)).drew.heap.size ≤ b) (.agg #[.int .i64 x.kind, .bool x.bool, .int .i64 x.int, .string x.str, .slice la x.list.length lc, .slice ma x.map.length mc]) x) :
    BoxedS S W0 (set6 w1 W0.heap.size 0 (.int .i64 x.kind) (.bool x.bool) (.int .i64 x.int) (.string x.str) (.slice la x.list.length lc) (.slice ma x.map.length mc)) W0.heap.size x la lc ma mc := by
  have h0 : Below W0.heap.size W0 w1 := Below.next ((Below.new _ _).drew) hb
  have hn : Blk w1 W0.heap.size 25 #[.int .i64 0, .bool false, .int .i64 0, .string ⟨#[]⟩, .slice none 0 0, .slice none 0 0] := ((Blk.new W0 25 #[.int .i64 0, .bool false, .int .i64 0, .string ⟨#[]⟩, .slice none 0 0, .slice none 0 0]).drew).keep hb
  rw [alloc_drew_size] at hr
  refine ⟨set6_below h0 (Nat.le_refl _), Nat.le_refl _, (((((hn.set_ 0 _).set_ 1 _).set_ 2 _).set_ 3 _).set_ 4 _).set_ 5 _, ?_⟩
  exact hr.mono (fun b (hb : S b ∨ W0.heap.size + 1 ≤ b) _ => hb.elim .inl fun h => .inr ⟨by omega, by omega⟩) (fun b o (hb : S b ∨ W0.heap.size + 1 ≤ b) _ => World.cell?_of_block (w := w1) (set6_heap (o := 0) (show b ≠ W0.heap.size by
    rcases hb with hb | hb
    · have := hS b hb; omega
    · omega)))
theorem BoxedS.behind (hb : Below W0.drew.heap.size W0.drew w1) (hr : RepT w1 (fun b => S b ∨ W0.drew.heap.size ≤ b) (.agg #[.int .i64 x.kind, .bool x.bool, .int .i64 x.int, .string x.str, .slice la x.list.length lc, .slice ma x.map.length mc]) x) : BoxedS S W0 (w1.alloc (.cells #[.int .i64 x.kind, .bool x.bool, .int .i64 x.int, .string x.str, .slice la x.list.length lc, .slice ma x.map.length mc] 25)) w1.heap.size x la lc ma mc := by
  have h0 : Below W0.heap.size W0 w1 := Below.next ((Below.refl _ _).drew) hb
  refine ⟨Below.next h0 (Below.new _ _), h0.size, Blk.new _ _ _, RepT.keep ?_ (Below.new _ _)⟩
  exact hr.mono (fun b (h : S b ∨ W0.heap.size ≤ b) h2 => h.elim .inl fun h => .inr ⟨h, by omega⟩) (fun _ _ _ _ => rfl)
theorem BoxedO.ahead (hS : ∀ b, S b → b < W0.heap.size) (hb : Below (W0.alloc (.cells #[.int .i64 0, .bool false, .int .i64 0, .string ⟨#[]⟩, .slice none 0 0, .slice none 0 0] 25)).drew.heap.size (W0.alloc (.cells #[.int .i64 0, .bool false, .int .i64 0, .string ⟨#[]⟩, .slice none 0 0, .slice none 0 0] 25)).drew w1) (hr : RepT w1 S (.agg #[.int .i64 x.kind, .bool x.bool, .int .i64 x.int, .string x.str, .slice la x.list.length lc, .slice ma x.map.length mc]) x) :
    BoxedO S W0 (set6 w1 W0.heap.size 0 (.int .i64 x.kind) (.bool x.bool) (.int .i64 x.int) (.string x.str) (.slice la x.list.length lc) (.slice ma x.map.length mc)) W0.heap.size x la lc ma mc := by
  have h0 : Below W0.heap.size W0 w1 := Below.next ((Below.new _ _).drew) hb
  have hn : Blk w1 W0.heap.size 25 #[.int .i64 0, .bool false, .int .i64 0, .string ⟨#[]⟩, .slice none 0 0, .slice none 0 0] := ((Blk.new W0 25 #[.int .i64 0, .bool false, .int .i64 0, .string ⟨#[]⟩, .slice none 0 0, .slice none 0 0]).drew).keep hb
  refine ⟨set6_below h0 (Nat.le_refl _), Nat.le_refl _, (((((hn.set_ 0 _).set_ 1 _).set_ 2 _).set_ 3 _).set_ 4 _).set_ 5 _, ?_⟩
  exact hr.mono (fun b hb _ => hb) (fun b o hb _ => World.cell?_of_block (w := w1) (set6_heap (o := 0) (show b ≠ W0.heap.size by have := hS b hb; omega)))
theorem BoxedO.behind (hb : Below W0.drew.heap.size W0.drew w1) (hr : RepT w1 S (.agg #[.int .i64 x.kind, .bool x.bool, .int .i64 x.int, .string x.str, .slice la x.list.length lc, .slice ma x.map.length mc]) x) : BoxedO S W0 (w1.alloc (.cells #[.int .i64 x.kind, .bool x.bool, .int .i64 x.int, .string x.str, .slice la x.list.length lc, .slice ma x.map.length mc] 25)) w1.heap.size x la lc ma mc := by
  have h0 : Below W0.heap.size W0 w1 := Below.next ((Below.refl _ _).drew) hb
  exact ⟨Below.next h0 (Below.new _ _), h0.size, Blk.new _ _ _, hr.keep (Below.new _ _)⟩
/-- The store of a result. -/
theorem retS {R : Nat} (hR1 : w.heap.size ≤ R) (hR2 : R < Wc.heap.size) (hbel : Below w.heap.size w w3) (hr : RepT w3 (fun b => (S b ∧ b < w.heap.size) ∨ Wc.heap.size ≤ b) (.agg #[.int .i64 x.kind, .bool x.bool, .int .i64 x.int, .string x.str, .slice la x.list.length lc, .slice ma x.map.length mc]) x) :
    ValPostS S w x (.returned (.agg #[.int .i64 x.kind, .bool x.bool, .int .i64 x.int, .string x.str, .slice la x.list.length lc, .slice ma x.map.length mc])) (set6 w3 R 0 (.int .i64 x.kind) (.bool x.bool) (.int .i64 x.int) (.string x.str) (.slice la x.list.length lc) (.slice ma x.map.length mc)) :=
  ⟨_, rfl, hr.mono (fun b (h : (S b ∧ b < w.heap.size) ∨ Wc.heap.size ≤ b) _ => h.elim (fun h => .inl h.1) (fun h => .inr (by omega))) (fun b o (h : (S b ∧ b < w.heap.size) ∨ Wc.heap.size ≤ b) _ => World.cell?_of_block (w := w3) (set6_heap (o := 0) (show b ≠ R by
    rcases h with h | h
    · have := h.2; omega
    · omega))), set6_below (o := 0) hbel hR1⟩
end

end Go.Proofs.YtgbbojnigicnoaaDoor

