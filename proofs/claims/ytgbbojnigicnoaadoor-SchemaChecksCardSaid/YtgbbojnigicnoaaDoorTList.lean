/- tree.List: a list of values. -/
import Derived.Test.YtgbbojnigicnoaaDoorRfPD
namespace Go.Proofs.YtgbbojnigicnoaaDoor
open Go.RowKit
attribute [local go_sem ↓] Go.wp_at_zero Go.wp_at_succ

def mkList (l : List T) : T := .mk 4 false 0 ⟨#[]⟩ l []
/-- How things stand in List: the result's box, the list's box, the list's row. -/
def ListInv (w wr : World) (A : Option Addr) (c : Nat) (l : List T) : Prop :=
  Blk wr w.heap.size 25 #[.int .i64 0, .bool false, .int .i64 0, .string ⟨#[]⟩, .slice none 0 0, .slice none 0 0] ∧ Blk wr (w.heap.size + 1) 25 #[.int .i64 4, .bool false, .int .i64 0, .string ⟨#[]⟩, .slice A l.length c, .slice none 0 0] ∧ Below w.heap.size w wr ∧ OwnE eltV wr (w.heap.size + 2) (fun b => w.heap.size + 2 ≤ b) A c l

theorem list_new {w wr : World} {A : Option Addr} {c : Nat} {l : List T} (h : ListInv w wr A c l) (hl : l.length * 88 ≤ 140737488355328) :
    RepT (set6 wr w.heap.size 0 (.int .i64 4) (.bool false) (.int .i64 0) (.string ⟨#[]⟩) (.slice A l.length c) (.slice none 0 0)) (fun b => w.heap.size ≤ b) (.agg #[.int .i64 4, .bool false, .int .i64 0, .string ⟨#[]⟩, .slice A l.length c, .slice none 0 0]) (mkList l) := by
  obtain ⟨hb1, hb2, hbw, hown⟩ := h
  have hlen := hown.len
  refine RepT.of (t := mkList l) (la := A) (lc := c) (ma := none) (mc := 0) ⟨(show i64ok 4 by unfold i64ok; omega), (show i64ok 0 by unfold i64ok; omega), by show ByteArray.size ⟨#[]⟩ ≤ _; simp [ByteArray.size], hl, by simp [mkList, T.map], hlen.1, by simp [mkList, T.map], hlen.2, by unfold maxLen; omega, ?_, fun i hi => by simp [mkList, T.map] at hi⟩
  exact RepL.mono (w := wr) (repE_L.1 hown.rep) (fun b (h : w.heap.size + 2 ≤ b ∨ w.heap.size + 2 ≤ b) _ => by show w.heap.size ≤ b; omega) (fun b o (h : w.heap.size + 2 ≤ b ∨ w.heap.size + 2 ≤ b) hlt => World.cell?_of_block (w := wr) (set6_heap (show b ≠ w.heap.size by omega)))

/-- One more value: the copy, its box, the row that has grown. -/
theorem list_append {w wr w1 : World} {A : Option Addr} {c : Nat} {l : List T} {x : T} {c0 c1 c2 c3 c4 c5 : Value} (h : ListInv w wr A c l) (hb1 : Below wr.heap.size wr w1) (hr : RepT w1 (fun b => wr.heap.size ≤ b) (.agg #[c0, c1, c2, c3, c4, c5]) x) (hbig : (l.length + 1) * 88 ≤ 140737488355328) :
    ∃ (l2 : List T) (A' : Option Addr) (c' : Nat) (w3 : World), Hid (l2 = l ++ [x]) ∧
      (Builtin.append_ #[22, 22] 22 #[.slice A l.length c, .slice (some ⟨w1.heap.size, 0, none⟩) 1 1]).run Tryd.prog (w1.alloc (.cells #[c0, c1, c2, c3, c4, c5] 25)) = .ok (.slice A' l2.length c') w3 ∧
      Blk w3 w.heap.size 25 #[.int .i64 0, .bool false, .int .i64 0, .string ⟨#[]⟩, .slice none 0 0, .slice none 0 0] ∧ Blk w3 (w.heap.size + 1) 25 #[.int .i64 4, .bool false, .int .i64 0, .string ⟨#[]⟩, .slice A l.length c, .slice none 0 0] ∧ Below w.heap.size w w3 ∧ OwnE eltV w3 (w.heap.size + 2) (fun b => w.heap.size + 2 ≤ b) A' c' l2 := by
  obtain ⟨g1, g2, hbw, hown⟩ := h
  have hl := g2.lt
  have hs1 := hb1.size
  have ha : Below wr.heap.size wr (w1.alloc (.cells #[c0, c1, c2, c3, c4, c5] 25)) := hb1.alloc hs1 _
  obtain ⟨A', c', w3, hrun, ho, hgr⟩ := own_append (E := eltV) (l2 := [x]) (es := [c0, c1, c2, c3, c4, c5]) (ad := ⟨w1.heap.size, 0, none⟩) (cc := 1) (ty := 22) (t := 22) rfl (hown.keep ha) (by show (l.length + 1) * 88 ≤ _; exact hbig) (by simp; unfold maxLen; omega) (by simp; omega) (by rfl)
    (fun j u hu => by rw [add_lit, Nat.zero_add, (Blk.new w1 25 #[c0, c1, c2, c3, c4, c5]).cell]; simpa using hu)
    (fun i hi => by
      obtain rfl : i = 0 := by simpa using hi
      exact (hr.keep (Below.new _ _)).weak (fun b (hb : wr.heap.size ≤ b) _ => ⟨show w.heap.size + 2 ≤ b by omega, hown.ne (.inr hb)⟩))
  have hne : ∀ g, g < w.heap.size + 2 → some g ≠ Value.ownBlock (.slice A l.length c) := fun g hg e => by
    have := (hown.own g e.symm).1
    omega
  have hba : Below w.heap.size w (w1.alloc (.cells #[c0, c1, c2, c3, c4, c5] 25)) := hbw.trans (ha.mono hbw.size)
  exact ⟨l ++ [x], A', c', w3, rfl, hrun, (g1.keep ha).grown hgr (hne _ (by omega)), (g2.keep ha).grown hgr (hne _ (by omega)),
    ⟨hgr.os.trans hba.os, hgr.tape.trans hba.tape, hgr.output.trans hba.output, Nat.le_trans hba.size hgr.size, fun g hg => (hgr.block g (Nat.lt_of_lt_of_le hg hba.size) (hne g (by omega))).trans (hba.block g hg)⟩, ho⟩

theorem ListInv.keep {w wr wr' : World} {A : Option Addr} {c : Nat} {l : List T} (h : ListInv w wr A c l) (hb : Below wr.heap.size wr wr') : ListInv w wr' A c l :=
  ⟨h.1.keep hb, h.2.1.keep hb, Below.next h.2.2.1 hb, h.2.2.2.keep hb⟩
theorem list_next {w wr w1 : World} {o : Obj} {A : Option Addr} {c : Nat} {l : List T} {x : T} {c0 c1 c2 c3 c4 c5 : Value} (h : ListInv w wr A c l) (hb1 : Below (wr.alloc o).drew.heap.size (wr.alloc o).drew w1) (hr : RepT w1 (fun b => (wr.alloc o).drew.heap.size ≤ b) (.agg #[c0, c1, c2, c3, c4, c5]) x) (hbig : (l.length + 1) * 88 ≤ 140737488355328) :
    ∃ (l2 : List T) (A' : Option Addr) (c' : Nat) (w3 : World), Hid (l2 = l ++ [x]) ∧
      (Builtin.append_ #[22, 22] 22 #[.slice A l.length c, .slice (some ⟨w1.heap.size, 0, none⟩) 1 1]).run Tryd.prog (w1.alloc (.cells #[c0, c1, c2, c3, c4, c5] 25)) = .ok (.slice A' l2.length c') w3 ∧
      Blk w3 w.heap.size 25 #[.int .i64 0, .bool false, .int .i64 0, .string ⟨#[]⟩, .slice none 0 0, .slice none 0 0] ∧ Blk w3 (w.heap.size + 1) 25 #[.int .i64 4, .bool false, .int .i64 0, .string ⟨#[]⟩, .slice A l.length c, .slice none 0 0] ∧ Below w.heap.size w w3 ∧ OwnE eltV w3 (w.heap.size + 2) (fun b => w.heap.size + 2 ≤ b) A' c' l2 ∧
      Blk w1 (w.heap.size + 1) 25 #[.int .i64 4, .bool false, .int .i64 0, .string ⟨#[]⟩, .slice A l.length c, .slice none 0 0] := by
  obtain ⟨l2, A', c', w3, h1, h2, h3, h4, h5, h6⟩ := list_append (h.keep (Below.new wr o).drew) hb1 hr hbig
  exact ⟨l2, A', c', w3, h1, h2, h3, h4, h5, h6, ((h.keep (Below.new wr o).drew).keep hb1).2.1⟩

theorem list_stored {w w3 : World} {A A' : Option Addr} {n c c' : Nat} {l2 : List T} (h1 : Blk w3 w.heap.size 25 #[.int .i64 0, .bool false, .int .i64 0, .string ⟨#[]⟩, .slice none 0 0, .slice none 0 0]) (h2 : Blk w3 (w.heap.size + 1) 25 #[.int .i64 4, .bool false, .int .i64 0, .string ⟨#[]⟩, .slice A n c, .slice none 0 0])
    (hb : Below w.heap.size w w3) (ho : OwnE eltV w3 (w.heap.size + 2) (fun b => w.heap.size + 2 ≤ b) A' c' l2) : ListInv w (w3.setCell ⟨w.heap.size + 1, 4, none⟩ (.slice A' l2.length c')) A' c' l2 :=
  ⟨h1.far (by simp) _, h2.set_ 4 _, hb.setCell (by simp) _, ho.far _ (fun g hg => by have := (ho.own g hg).1; show g ≠ w.heap.size + 1; omega) (fun h => by have : w.heap.size + 2 ≤ w.heap.size + 1 := h; omega)⟩

set_option maxRecDepth 100000 in
set_option maxHeartbeats 4000000 in
theorem tlist (l : List T) (a : Option Addr) (cc : Nat) (w : World) (S : Nat → Prop) (h : RepL w S a l) (hl : l.length * 88 ≤ 140737488355328) :
    Calls Tryd.prog 15 #[.slice a l.length cc] w (NewPost w (mkList l)) := by
  go_enter Tryd.func15, Tryd.ntmps15
  go_wp2_with fail
  go_loopw [9] (fun x wr => ∃ (q : Nat) (l2 : List T) (A : Option Addr) (c : Nat), q ≤ l.length ∧ x = .int .i64 q ∧ Hid (l2 = l.take q) ∧ ListInv w wr A c l2) (fun x _ => l.length - (intOf x).toNat)
  case atStart =>
    exact ⟨0, [], none, 0, Nat.zero_le _, rfl, by simp [Hid], (Blk.new _ _ _).alloc _, Blk.new_at _ _ _ (by simp), (Below.new _ _).alloc (by simp) _, OwnE.nil⟩
  case round =>
    obtain ⟨q, l2, A, c, hq, rfl, HL2, hinv⟩ := hrel
    have HINV := Lib.hid hinv
    by_cases hlt : q < l.length
    · have hll : (l2.length + 1) * 88 ≤ 140737488355328 := by rw [HL2.out, List.length_take]; omega
      have HNX : Hid (∀ x, x = l2 ++ [l[q]] → x = l.take (q + 1)) := fun x e => by rw [e, HL2.out, List.take_succ_eq_append_getElem hlt]
      obtain ⟨b, o, la, lc, ma, mc, rfl, hS, hbl, ⟨c0, c1, c2, c3, c4, c5⟩, hr⟩ := (h.keep (hinv.2.2.1)).at_ hlt
      have hk5 := hinv.2.1.cell
      have hB1 := hinv.2.1.lt
      have HR := Lib.hid hr
      clear hinv hr
      generalize l[q] = x at *
      go_wp2_with fail
      go_region_law (first
        | (go_simp; go_at_call 31; refine (clone_any x _ _ _ (HR.out.keep (by exact Below.drew (Below.new _ _)))).mono ?_; rintro e w1 ⟨v1, rfl, hr1, hb1⟩; obtain ⟨la1, lc1, ma1, mc1, rfl, -⟩ := hr1.inv; obtain ⟨l3, A', c', w3, HL3, hrun, hz1, hz2, hzw, ho, hz3⟩ := list_next HINV.out hb1 hr1 hll; have hk4 := hz2.cell; have hk4b := hz3.cell; have hl4b := hz3.lt; have hf4 := hz2.frozen; have HZ1 := Lib.hid hz1; have HZ2 := Lib.hid hz2; have HZW := Lib.hid hzw; have HO := Lib.hid ho; clear hr1 hb1 hz1 hz2 hzw ho hz3)
        | (refine step_append_run rfl (.tmp 14) (.tmp 17) 22 rfl hrun rfl rfl ?_))
      all_goals
        go_wp2_with fail
        go_roundw
        case rel => exact ⟨q + 1, _, _, _, by omega, by go_num, HNX.out _ HL3.out, list_stored HZ1.out HZ2.out HZW.out HO.out⟩
        case measure => simp [intOf]; omega
    · obtain rfl : q = l.length := by omega
      have hk0 := hinv.1.cell
      have hf0 := hinv.1.frozen
      have hk1 := hinv.2.1.cell
      have hl1 := hinv.2.1.lt
      have hl0 := hinv.1.lt
      have HLL : Hid (l2 = l) := by have e := HL2.out; rw [List.take_length] at e; exact e
      clear hinv
      go_wp2_with fail
      have hb0 := HINV.out.1
      exact ret_cell rfl rfl ((((((hb0.set_ 0 _).set_ 1 _).set_ 2 _).set_ 3 _).set_ 4 _).set_ 5 _) Tryd.underlying25 val_size rfl ⟨_, rfl, by rw [← HLL.out]; exact list_new HINV.out (by rw [HLL.out]; exact hl), set6_below (o := 0) HINV.out.2.2.1 (Nat.le_refl _)⟩

end Go.Proofs.YtgbbojnigicnoaaDoor
