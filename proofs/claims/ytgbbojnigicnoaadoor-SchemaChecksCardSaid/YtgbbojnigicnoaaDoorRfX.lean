/- Several texts as one. -/
import Derived.Test.YtgbbojnigicnoaaDoorRfPD
/- The reference's Get, Put and Drop. -/
namespace Go.Proofs.YtgbbojnigicnoaaDoor
open Go.RowKit
attribute [local go_sem ↓] Go.wp_at_zero Go.wp_at_succ

/-- A value, wherever what it leads to lies. -/
def ValPost (w : World) (t : T) (e : Ending) (w' : World) : Prop := ∃ v, e = .returned v ∧ RepT w' (fun _ => True) v t ∧ Below w.heap.size w w'
def GotR (w : World) (b : Bool) (x : T) (e : Ending) (w' : World) : Prop := ∃ v, e = .returned (.tuple #[v, .bool b]) ∧ RepT w' (fun _ => True) v x ∧ Below w.heap.size w w'

theorem look_first {m : List (ByteArray × T)} {key : ByteArray} {q : Nat} (hq : q < m.length) (h : m[q].1 = key) (hall : ∀ j (hj : j < m.length), j < q → m[j].1 ≠ key) : look m key = some m[q].2 := by
  induction m generalizing q with
  | nil => simp at hq
  | cons p r ih =>
    cases q with
    | zero => rw [look, if_pos (by simpa using h)]; rfl
    | succ q =>
      have h0 : p.1 ≠ key := hall 0 (by simp) (by omega)
      rw [look, if_neg h0]
      exact ih (by simpa using hq) (by simpa using h) (fun j hj h2 => hall (j + 1) (by simpa using hj) (by omega))

set_option maxRecDepth 100000 in
set_option maxHeartbeats 2000000 in
theorem rget (t : T) (key : ByteArray) (v : Value) (w : World) (h : RepT w (fun _ => True) v t) : Calls Tryd.prog 21 #[v, .string key] w (GotR w (look t.map key).isSome ((look t.map key).getD T.zero)) := by
  obtain ⟨la, lc, ma, mc, rfl, hp⟩ := h.inv
  obtain ⟨-, -, -, -, hm, -, -, -, -, -, hM⟩ := hp
  clear h
  go_enter Tryd.func21, Tryd.ntmps21
  go_wp2_with fail
  have hB1 : Blk ((w.alloc (.cells #[.int .i64 t.kind, .bool t.bool, .int .i64 t.int, .string t.str, .slice la t.list.length lc, .slice ma t.map.length mc] 25)).alloc (.cells #[.int .i64 0, .bool false, .int .i64 0, .string ⟨#[]⟩, .slice none 0 0, .slice none 0 0] 25)) w.heap.size 25 #[.int .i64 t.kind, .bool t.bool, .int .i64 t.int, .string t.str, .slice la t.list.length lc, .slice ma t.map.length mc] := (Blk.new _ _ _).alloc _
  have hB2 : Blk ((w.alloc (.cells #[.int .i64 t.kind, .bool t.bool, .int .i64 t.int, .string t.str, .slice la t.list.length lc, .slice ma t.map.length mc] 25)).alloc (.cells #[.int .i64 0, .bool false, .int .i64 0, .string ⟨#[]⟩, .slice none 0 0, .slice none 0 0] 25)) (w.heap.size + 1) 25 #[.int .i64 0, .bool false, .int .i64 0, .string ⟨#[]⟩, .slice none 0 0, .slice none 0 0] := Blk.new_at _ _ _ (by simp)
  have hBW : Below w.heap.size w ((w.alloc (.cells #[.int .i64 t.kind, .bool t.bool, .int .i64 t.int, .string t.str, .slice la t.list.length lc, .slice ma t.map.length mc] 25)).alloc (.cells #[.int .i64 0, .bool false, .int .i64 0, .string ⟨#[]⟩, .slice none 0 0, .slice none 0 0] 25)) := (Below.new _ _).alloc (by simp) _
  generalize ((w.alloc (.cells #[.int .i64 t.kind, .bool t.bool, .int .i64 t.int, .string t.str, .slice la t.list.length lc, .slice ma t.map.length mc] 25)).alloc (.cells #[.int .i64 0, .bool false, .int .i64 0, .string ⟨#[]⟩, .slice none 0 0, .slice none 0 0] 25)) = W0 at hB1 hB2 hBW ⊢
  have HM := Lib.hid ((hM.mono (w' := w) (S' := fun b => b < w.heap.size) (fun _ _ h => h) (fun _ _ _ _ => rfl)).keep hBW)
  have HB2 := Lib.hid hB2
  have HBW := Lib.hid hBW
  have hk1 := hB1.cell
  have hk2 := hB2.cell
  have hf2 := hB2.frozen
  have hl1 := hB1.lt
  have hl2 := hB2.lt
  clear hM hB1 hB2 hBW
  generalize t.map = m at *
  go_loop [6] (fun i => ∃ q : Nat, q ≤ m.length ∧ i = .int .i64 q ∧ Hid (∀ j (hj : j < m.length), j < q → m[j].1 ≠ key)) (fun i => m.length - (intOf i).toNat)
  case atStart => exact ⟨0, Nat.zero_le _, rfl, fun j _ h => by omega⟩
  case round =>
    obtain ⟨q, hq, rfl, hall⟩ := hrel
    by_cases hlt : q < m.length
    · obtain ⟨b, o, la1, lc1, ma1, mc1, rfl, -, hbl, -, ⟨c0, c1, c2, c3, c4, c5, c6⟩, hr⟩ := HM.out.at_ hlt
      by_cases he : m[q].1 = key
      · have hke : (m[q].1.toList == key.toList) = true := by rw [he]; simp
        have HL := Lib.hid (look_first hlt he hall.out)
        have HR := Lib.hid hr
        clear he hall hr
        generalize m[q].1 = kq at *
        generalize m[q].2 = tq at *
        go_wp2_with fail
        refine ret_cell2 rfl rfl rfl ((((((HB2.out.set_ 0 _).set_ 1 _).set_ 2 _).set_ 3 _).set_ 4 _).set_ 5 _) Tryd.underlying25 val_size rfl ⟨_, by rw [HL.out]; rfl, ?_, set6_below (o := 0) HBW.out (by omega)⟩
        rw [HL.out]
        exact HR.out.mono (fun _ _ _ => trivial) (fun b o (hb : b < w.heap.size) _ => World.cell?_of_block (w := W0) (set6_heap (o := 0) (show b ≠ w.heap.size + 1 by omega)))
      · have hke : (m[q].1.toList == key.toList) = false := by rw [keq_iff]; exact decide_eq_false he
        have HN : Hid (∀ j (hj : j < m.length), j < q + 1 → m[j].1 ≠ key) := fun j hj h2 => by
          rcases Nat.lt_or_ge j q with h3 | h3
          · exact hall.out j hj h3
          · obtain rfl : j = q := by omega
            exact he
        clear he hall hr
        generalize m[q].1 = kq at *
        go_wp2_with fail
        go_round
        case rel => exact ⟨q + 1, by omega, by go_num, HN⟩
        case measure => simp [intOf]; omega
    · obtain rfl : q = m.length := by omega
      have HL : Hid (look m key = none) := look_not (fun p hp => by
        obtain ⟨i, hi, rfl⟩ := List.getElem_of_mem hp
        exact hall.out i hi hi)
      clear hall
      go_wp2_with fail
      exact ret_cell2 rfl rfl rfl ((((((HB2.out.set_ 0 _).set_ 1 _).set_ 2 _).set_ 3 _).set_ 4 _).set_ 5 _) Tryd.underlying25 val_size rfl ⟨_, by rw [HL.out]; rfl, by rw [HL.out]; exact rep_zero _ _, set6_below (o := 0) HBW.out (by omega)⟩

/-- One pair more at the end of a row of the call's own. -/
theorem pair_append {wr : World} {B B0 c : Nat} {A : Option Addr} {l : List (ByteArray × T)} {k : ByteArray} {x : T} {c0 c1 c2 c3 c4 c5 : Value} (hown : OwnE eltP wr B (fun b => b < B0) A c l) (hx : RepT wr (fun b => b < B0) (.agg #[c0, c1, c2, c3, c4, c5]) x)
    (hk : k.size ≤ 140737488351232) (hbig : (l.length + 1) * 104 ≤ 140737488355328) (hB : B ≤ wr.heap.size) (h0 : B0 ≤ B) :
    ∃ (l2 : List (ByteArray × T)) (A' : Option Addr) (c' : Nat) (w3 : World), Hid (l2 = l ++ [(k, x)]) ∧
      (Builtin.append_ #[23, 23] 23 #[.slice A l.length c, .slice (some ⟨wr.heap.size, 0, none⟩) 1 1]).run Tryd.prog (wr.alloc (.cells #[.string k, c0, c1, c2, c3, c4, c5] 41)) = .ok (.slice A' l2.length c') w3 ∧
      OwnE eltP w3 B (fun b => b < B0) A' c' l2 ∧ Below B wr w3 := by
  have ha : Below wr.heap.size wr (wr.alloc (.cells #[.string k, c0, c1, c2, c3, c4, c5] 41)) := Below.new _ _
  obtain ⟨A', c', w3, hrun, ho, hgr⟩ := own_append (E := eltP) (l2 := [(k, x)]) (es := [.string k, c0, c1, c2, c3, c4, c5]) (ad := ⟨wr.heap.size, 0, none⟩) (cc := 1) (ty := 23) (t := 23) rfl (hown.keep ha) (by show (l.length + 1) * 104 ≤ _; exact hbig) (by simp; unfold maxLen; omega) (by simp; omega) (by rfl)
    (fun j u hu => by rw [add_lit, Nat.zero_add, (Blk.new wr 41 #[.string k, c0, c1, c2, c3, c4, c5]).cell]; simpa using hu)
    (fun i hi => by
      obtain rfl : i = 0 := by simpa using hi
      exact ⟨_, rfl, hk, (hx.keep ha).weak (fun b (hb : b < B0) _ => ⟨hb, hown.ne (.inl (by omega))⟩)⟩)
  refine ⟨l ++ [(k, x)], A', c', w3, rfl, hrun, ho, ?_⟩
  have hba : Below B wr (wr.alloc (.cells #[.string k, c0, c1, c2, c3, c4, c5] 41)) := ha.mono hB
  exact ⟨hgr.os.trans hba.os, hgr.tape.trans hba.tape, hgr.output.trans hba.output, Nat.le_trans hba.size hgr.size, fun g hg => (hgr.block g (Nat.lt_of_lt_of_le (Nat.lt_of_lt_of_le hg hB) hba.size) (fun e => by have := (hown.own g e.symm).1; omega)).trans (hba.block g hg)⟩

theorem rput_tlen (k : ByteArray) (x : T) (m : List (ByteArray × T)) : (rput k x true m).length ≤ m.length := by
  induction m with
  | nil => simp [rput]
  | cons p r ih =>
    rw [rput, if_neg (by simp), Bool.true_or]
    simp only [List.nil_append, List.length_append, List.length_cons]
    split <;> simp <;> omega
theorem rput_len (k : ByteArray) (x : T) (laid : Bool) (m : List (ByteArray × T)) : (rput k x laid m).length ≤ m.length + 1 := by
  cases laid with
  | true => exact Nat.le_succ_of_le (rput_tlen k x m)
  | false =>
    induction m with
    | nil => simp [rput]
    | cons p r ih =>
      rw [rput]
      cases hk : klt p.1 k with
      | true =>
        simp only [Bool.not_true, Bool.or_false, List.length_append, List.length_cons]
        split <;> split <;> simp_all <;> omega
      | false =>
        have := rput_tlen k x r
        simp only [Bool.not_false, Bool.or_true, List.length_append, List.length_cons]
        by_cases he : p.1 = k
        · simp [he]; omega
        · simp [he]; omega

end Go.Proofs.YtgbbojnigicnoaaDoor

/- The reference's Put and Drop: the walks. -/
namespace Go.Proofs.YtgbbojnigicnoaaDoor
open Go.RowKit
attribute [local go_sem ↓] Go.wp_at_zero Go.wp_at_succ

/-- A result that lies in blocks of S or in new ones. -/
def ValPostS (S : Nat → Prop) (w : World) (t : T) (e : Ending) (w' : World) : Prop := ∃ v, e = .returned v ∧ RepT w' (fun b => S b ∨ w.heap.size ≤ b) v t ∧ Below w.heap.size w w'
/-- One pair more at the end of a row of the call's own. -/
theorem pair_append_S {S : Nat → Prop} {wr : World} {B B0 c : Nat} {A : Option Addr} {l : List (ByteArray × T)} {k : ByteArray} {x : T} {c0 c1 c2 c3 c4 c5 : Value} (hown : OwnE eltP wr B (fun b => S b ∧ b < B0) A c l) (hx : RepT wr (fun b => S b ∧ b < B0) (.agg #[c0, c1, c2, c3, c4, c5]) x)
    (hk : k.size ≤ 140737488351232) (hbig : (l.length + 1) * 104 ≤ 140737488355328) (hB : B ≤ wr.heap.size) (h0 : B0 ≤ B) :
    ∃ (l2 : List (ByteArray × T)) (A' : Option Addr) (c' : Nat) (w3 : World), Hid (l2 = l ++ [(k, x)]) ∧
      (Builtin.append_ #[23, 23] 23 #[.slice A l.length c, .slice (some ⟨wr.heap.size, 0, none⟩) 1 1]).run Tryd.prog (wr.alloc (.cells #[.string k, c0, c1, c2, c3, c4, c5] 41)) = .ok (.slice A' l2.length c') w3 ∧
      OwnE eltP w3 B (fun b => S b ∧ b < B0) A' c' l2 ∧ Below B wr w3 := by
  have ha : Below wr.heap.size wr (wr.alloc (.cells #[.string k, c0, c1, c2, c3, c4, c5] 41)) := Below.new _ _
  obtain ⟨A', c', w3, hrun, ho, hgr⟩ := own_append (E := eltP) (l2 := [(k, x)]) (es := [.string k, c0, c1, c2, c3, c4, c5]) (ad := ⟨wr.heap.size, 0, none⟩) (cc := 1) (ty := 23) (t := 23) rfl (hown.keep ha) (by show (l.length + 1) * 104 ≤ _; exact hbig) (by simp; unfold maxLen; omega) (by simp; omega) (by rfl)
    (fun j u hu => by rw [add_lit, Nat.zero_add, (Blk.new wr 41 #[.string k, c0, c1, c2, c3, c4, c5]).cell]; simpa using hu)
    (fun i hi => by
      obtain rfl : i = 0 := by simpa using hi
      exact ⟨_, rfl, hk, (hx.keep ha).weak (fun b (hb : S b ∧ b < B0) _ => ⟨hb, hown.ne (.inl (by have := hb.2; omega))⟩)⟩)
  refine ⟨l ++ [(k, x)], A', c', w3, rfl, hrun, ho, ?_⟩
  have hba : Below B wr (wr.alloc (.cells #[.string k, c0, c1, c2, c3, c4, c5] 41)) := ha.mono hB
  exact ⟨hgr.os.trans hba.os, hgr.tape.trans hba.tape, hgr.output.trans hba.output, Nat.le_trans hba.size hgr.size, fun g hg => (hgr.block g (Nat.lt_of_lt_of_le (Nat.lt_of_lt_of_le hg hB) hba.size) (fun e => by have := (hown.own g e.symm).1; omega)).trans (hba.block g hg)⟩

/-- How things stand in Put: the boxes, and the row that is made. -/
def PInv (S : Nat → Prop) (w wr : World) (vb xb : Array Value) (A : Option Addr) (c : Nat) (l : List (ByteArray × T)) : Prop :=
  Blk wr w.heap.size 25 vb ∧ Blk wr (w.heap.size + 1) 25 xb ∧ Blk wr (w.heap.size + 1 + 1) 25 #[.int .i64 0, .bool false, .int .i64 0, .string ⟨#[]⟩, .slice none 0 0, .slice none 0 0] ∧
    Blk wr (w.heap.size + 1 + 1 + 1) 25 #[.int .i64 5, .bool false, .int .i64 0, .string ⟨#[]⟩, .slice none 0 0, .slice A l.length c] ∧ Below w.heap.size w wr ∧ OwnE eltP wr (w.heap.size + 1 + 1 + 1 + 1) (fun b => S b ∧ b < w.heap.size) A c l
theorem pinv_next {S : Nat → Prop} {w wr : World} {n : Nat} {vb xb : Array Value} {A : Option Addr} {c : Nat} {l : List (ByteArray × T)} {k : ByteArray} {x : T} {c0 c1 c2 c3 c4 c5 : Value} (h : PInv S w wr vb xb A c l) (hn : n = wr.heap.size)
    (hx : RepT wr (fun b => S b ∧ b < w.heap.size) (.agg #[c0, c1, c2, c3, c4, c5]) x) (hk : k.size ≤ 140737488351232) (hbig : (l.length + 1) * 104 ≤ 140737488355328) :
    ∃ (l2 : List (ByteArray × T)) (A' : Option Addr) (c' : Nat) (w3 : World), Hid (l2 = l ++ [(k, x)]) ∧
      (Builtin.append_ #[23, 23] 23 #[.slice A l.length c, .slice (some ⟨n, 0, none⟩) 1 1]).run Tryd.prog (wr.alloc (.cells #[.string k, c0, c1, c2, c3, c4, c5] 41)) = .ok (.slice A' l2.length c') w3 ∧
      Blk w3 w.heap.size 25 vb ∧ Blk w3 (w.heap.size + 1) 25 xb ∧ Blk w3 (w.heap.size + 1 + 1 + 1) 25 #[.int .i64 5, .bool false, .int .i64 0, .string ⟨#[]⟩, .slice none 0 0, .slice A l.length c] ∧ Below w.heap.size w w3 ∧
      PInv S w (w3.setCell ⟨w.heap.size + 1 + 1 + 1, 5, none⟩ (.slice A' l2.length c')) vb xb A' c' l2 := by
  subst hn
  obtain ⟨h1, h2, h3, h4, hb, ho⟩ := h
  have hl := h4.lt
  obtain ⟨l2, A', c', w3, e, hr, ho3, hb3⟩ := pair_append_S ho hx hk hbig (by omega) (by omega)
  have kp : ∀ {g ty cs}, Blk wr g ty cs → g < w.heap.size + 1 + 1 + 1 + 1 → Blk w3 g ty cs := fun hh hg => hh.below hb3 hg
  have hbw : Below w.heap.size w w3 := hb.trans (hb3.mono (by omega))
  refine ⟨l2, A', c', w3, e, hr, kp h1 (by omega), kp h2 (by omega), kp h4 (by omega), hbw, (kp h1 (by omega)).far (show w.heap.size ≠ w.heap.size + 1 + 1 + 1 by omega) _, (kp h2 (by omega)).far (show w.heap.size + 1 ≠ w.heap.size + 1 + 1 + 1 by omega) _, (kp h3 (by omega)).far (show w.heap.size + 1 + 1 ≠ w.heap.size + 1 + 1 + 1 by omega) _, (kp h4 (by omega)).set_ 5 _, hbw.setCell (show w.heap.size ≤ w.heap.size + 1 + 1 + 1 by omega) _, ?_⟩
  exact ho3.far _ (fun g hg => by have := (ho3.own g hg).1; show g ≠ w.heap.size + 1 + 1 + 1; omega) (fun hh => by have : w.heap.size + 1 + 1 + 1 < w.heap.size := hh.2; omega)
/-- The same behind a draw. -/
theorem pinv_next_drew {S : Nat → Prop} {w wr : World} {n : Nat} {vb xb : Array Value} {A : Option Addr} {c : Nat} {l : List (ByteArray × T)} {k : ByteArray} {x : T} {c0 c1 c2 c3 c4 c5 : Value} (h : PInv S w wr vb xb A c l) (hn : n = wr.heap.size)
    (hx : RepT wr (fun b => S b ∧ b < w.heap.size) (.agg #[c0, c1, c2, c3, c4, c5]) x) (hk : k.size ≤ 140737488351232) (hbig : (l.length + 1) * 104 ≤ 140737488355328) :
    ∃ (l2 : List (ByteArray × T)) (A' : Option Addr) (c' : Nat) (w3 : World), Hid (l2 = l ++ [(k, x)]) ∧
      (Builtin.append_ #[23, 23] 23 #[.slice A l.length c, .slice (some ⟨n, 0, none⟩) 1 1]).run Tryd.prog (wr.alloc (.cells #[.string k, c0, c1, c2, c3, c4, c5] 41)).drew = .ok (.slice A' l2.length c') w3 ∧
      Blk w3 w.heap.size 25 vb ∧ Blk w3 (w.heap.size + 1) 25 xb ∧ Blk w3 (w.heap.size + 1 + 1 + 1) 25 #[.int .i64 5, .bool false, .int .i64 0, .string ⟨#[]⟩, .slice none 0 0, .slice A l.length c] ∧ Below w.heap.size w w3 ∧
      PInv S w (w3.setCell ⟨w.heap.size + 1 + 1 + 1, 5, none⟩ (.slice A' l2.length c')) vb xb A' c' l2 := by
  have hd : PInv S w wr.drew vb xb A c l := ⟨h.1.drew, h.2.1.drew, h.2.2.1.drew, h.2.2.2.1.drew, h.2.2.2.2.1.drew, h.2.2.2.2.2.keep (Below.drew (Below.refl _ _))⟩
  exact pinv_next (wr := wr.drew) hd hn (hx.keep (Below.drew (Below.refl _ _))) hk hbig

theorem pinv_end {S : Nat → Prop} {w wr : World} {vb xb : Array Value} {A : Option Addr} {c : Nat} {l : List (ByteArray × T)} (h : PInv S w wr vb xb A c l) (hm : l.length * 104 ≤ 140737488355328) :
    RepT (set6 wr (w.heap.size + 1 + 1) 0 (.int .i64 5) (.bool false) (.int .i64 0) (.string ⟨#[]⟩) (.slice none 0 0) (.slice A l.length c)) (fun b => S b ∨ w.heap.size ≤ b) (.agg #[.int .i64 5, .bool false, .int .i64 0, .string ⟨#[]⟩, .slice none 0 0, .slice A l.length c]) (mkMap l) := by
  obtain ⟨h1, h2, h3, h4, hb, ho⟩ := h
  have hlen := ho.len
  refine RepT.of (t := mkMap l) (la := none) (lc := 0) (ma := A) (mc := c) ⟨(show i64ok 5 by unfold i64ok; omega), (show i64ok 0 by unfold i64ok; omega), by show ByteArray.size ⟨#[]⟩ ≤ _; simp [ByteArray.size], by simp [mkMap, T.list], hm, by simp [mkMap, T.list], hlen.1, by unfold maxLen; omega, hlen.2, fun i hi => by simp [mkMap, T.list] at hi, ?_⟩
  exact RepM.mono (w := wr) (repE_M.1 ho.rep) (fun b (h : (S b ∧ b < w.heap.size) ∨ w.heap.size + 1 + 1 + 1 + 1 ≤ b) _ => h.elim (fun h => .inl h.1) (fun h => .inr (by omega))) (fun b o (h : (S b ∧ b < w.heap.size) ∨ w.heap.size + 1 + 1 + 1 + 1 ≤ b) hlt => World.cell?_of_block (w := wr) (set6_heap (show b ≠ w.heap.size + 1 + 1 by omega)))

theorem rput_step {key : ByteArray} {x : T} {laid : Bool} {m : List (ByteArray × T)} {q : Nat} (hq : q < m.length) : rput key x laid (m.drop q) = (if klt m[q].1 key = false ∧ laid = false then [(key, x)] else []) ++ (if m[q].1 ≠ key then [m[q]] else []) ++ rput key x (laid || !klt m[q].1 key) (m.drop (q + 1)) := by
  rw [List.drop_eq_getElem_cons hq, rput]

section
variable {key : ByteArray} {x : T} {laid : Bool} {m : List (ByteArray × T)} {q : Nat}
theorem rp_A (hq : q < m.length) (hk : klt m[q].1 key = true) : rput key x laid (m.drop q) = (m[q].1, m[q].2) :: rput key x laid (m.drop (q + 1)) := by
  rw [rput_step hq, hk, if_neg (by simp), if_pos (klt_ne hk), Bool.not_true, Bool.or_false]; rfl
theorem rp_BE (hq : q < m.length) (hk : klt m[q].1 key = false) (he : m[q].1 = key) : rput key x false (m.drop q) = (key, x) :: rput key x true (m.drop (q + 1)) := by
  rw [rput_step hq, hk, if_pos ⟨rfl, rfl⟩, if_neg (fun h => h he)]; rfl
theorem rp_CE (hq : q < m.length) (hk : klt m[q].1 key = false) (he : m[q].1 = key) : rput key x true (m.drop q) = rput key x true (m.drop (q + 1)) := by
  rw [rput_step hq, hk, if_neg (by simp), if_neg (fun h => h he)]; rfl
theorem rp_BN (hq : q < m.length) (hk : klt m[q].1 key = false) (he : m[q].1 ≠ key) : rput key x false (m.drop q) = (key, x) :: (m[q].1, m[q].2) :: rput key x true (m.drop (q + 1)) := by
  rw [rput_step hq, hk, if_pos ⟨rfl, rfl⟩, if_pos he]; rfl
theorem rp_CN (hq : q < m.length) (hk : klt m[q].1 key = false) (he : m[q].1 ≠ key) : rput key x true (m.drop q) = (m[q].1, m[q].2) :: rput key x true (m.drop (q + 1)) := by
  rw [rput_step hq, hk, if_neg (by simp), if_pos he]; rfl
end

end Go.Proofs.YtgbbojnigicnoaaDoor

/- The reference's Drop: the walk. -/
namespace Go.Proofs.YtgbbojnigicnoaaDoor
open Go.RowKit
attribute [local go_sem ↓] Go.wp_at_zero Go.wp_at_succ

def DInv (w wr : World) (vb : Array Value) (k b n s ls : Value) (A : Option Addr) (c : Nat) (l : List (ByteArray × T)) : Prop :=
  Blk wr w.heap.size 25 vb ∧ Blk wr (w.heap.size + 1) 25 #[.int .i64 0, .bool false, .int .i64 0, .string ⟨#[]⟩, .slice none 0 0, .slice none 0 0] ∧ Blk wr (w.heap.size + 1 + 1) 25 #[k, b, n, s, ls, .slice A l.length c] ∧ Below w.heap.size w wr ∧ OwnE eltP wr (w.heap.size + 1 + 1 + 1) (fun b => b < w.heap.size) A c l
theorem dinv_next {w wr : World} {vb : Array Value} {k b n s ls : Value} {A : Option Addr} {c : Nat} {l : List (ByteArray × T)} {kq : ByteArray} {x : T} {c0 c1 c2 c3 c4 c5 : Value} (h : DInv w wr vb k b n s ls A c l)
    (hx : RepT wr (fun b => b < w.heap.size) (.agg #[c0, c1, c2, c3, c4, c5]) x) (hk : kq.size ≤ 140737488351232) (hbig : (l.length + 1) * 104 ≤ 140737488355328) :
    ∃ (l2 : List (ByteArray × T)) (A' : Option Addr) (c' : Nat) (w3 : World), Hid (l2 = l ++ [(kq, x)]) ∧
      (Builtin.append_ #[23, 23] 23 #[.slice A l.length c, .slice (some ⟨wr.heap.size, 0, none⟩) 1 1]).run Tryd.prog (wr.alloc (.cells #[.string kq, c0, c1, c2, c3, c4, c5] 41)).drew = .ok (.slice A' l2.length c') w3 ∧
      Blk w3 (w.heap.size + 1 + 1) 25 #[k, b, n, s, ls, .slice A l.length c] ∧ DInv w (w3.setCell ⟨w.heap.size + 1 + 1, 5, none⟩ (.slice A' l2.length c')) vb k b n s ls A' c' l2 := by
  obtain ⟨h1, h2, h3, hb, ho⟩ := h
  have hl := h3.lt
  obtain ⟨l2, A', c', w3, e, hr, ho3, hb3⟩ := pair_append (wr := wr.drew) (ho.keep (Below.drew (Below.refl _ _))) (hx.keep (Below.drew (Below.refl _ _))) hk hbig (show w.heap.size + 1 + 1 + 1 ≤ wr.heap.size by omega) (by omega)
  have kp : ∀ {g ty cs}, Blk wr g ty cs → g < w.heap.size + 1 + 1 + 1 → Blk w3 g ty cs := fun hh hg => hh.drew.below hb3 hg
  have hbw : Below w.heap.size w w3 := hb.drew.trans (hb3.mono (by omega))
  refine ⟨l2, A', c', w3, e, hr, kp h3 (by omega), (kp h1 (by omega)).far (show w.heap.size ≠ w.heap.size + 1 + 1 by omega) _, (kp h2 (by omega)).far (show w.heap.size + 1 ≠ w.heap.size + 1 + 1 by omega) _, (kp h3 (by omega)).set_ 5 _, hbw.setCell (show w.heap.size ≤ w.heap.size + 1 + 1 by omega) _, ?_⟩
  exact ho3.far _ (fun g hg => by have := (ho3.own g hg).1; show g ≠ w.heap.size + 1 + 1; omega) (fun hh => by have : w.heap.size + 1 + 1 < w.heap.size := hh; omega)

end Go.Proofs.YtgbbojnigicnoaaDoor

