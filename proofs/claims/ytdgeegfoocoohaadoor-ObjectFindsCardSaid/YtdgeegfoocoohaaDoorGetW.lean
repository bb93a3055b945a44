/- tree.Get: the walk.  -/
import Derived.Test.YtdgeegfoocoohaaDoorGet
namespace Go.Proofs.YtdgeegfoocoohaaDoor
open Go.RowKit

set_option maxRecDepth 100000 in
set_option maxHeartbeats 4000000 in
theorem tget (t : T) (key : ByteArray) (v : Value) (w : World) (S : Nat → Prop) (h : RepT w S v t) (hks : KS t.map) : Calls Tryd.prog 19 #[v, .string key] w (GetPost w (getT t key)) := by
  obtain ⟨la, lc, ma, mc, rfl, hp⟩ := h.inv
  obtain ⟨hk, hn, hs, hl, hm, hlc, hmc, hlx, hmx, hL, hM⟩ := hp
  have HB0 : Blk ((w.alloc (.cells #[.int .i64 t.kind, .bool t.bool, .int .i64 t.int, .string t.str, .slice la t.list.length lc, .slice ma t.map.length mc] 33)).alloc (.cells zcells 33)) (w.heap.size + 1) 33 zcells := Blk.new_at _ _ _ (by simp)
  have HBW : Below w.heap.size w ((w.alloc (.cells #[.int .i64 t.kind, .bool t.bool, .int .i64 t.int, .string t.str, .slice la t.list.length lc, .slice ma t.map.length mc] 33)).alloc (.cells zcells 33)) := (Below.new _ _).alloc (by simp) _
  by_cases h5 : t.kind = 5
  · have HO : Hid (getT t key = look t.map key) := by unfold getT; rw [if_pos h5]; rfl
    have hg : (t.kind != 5) = false := by rw [h5]; rfl
    have hl1 : w.heap.size + 1 < ((w.alloc (.cells #[.int .i64 t.kind, .bool t.bool, .int .i64 t.int, .string t.str, .slice la t.list.length lc, .slice ma t.map.length mc] 33)).alloc (.cells zcells 33)).heap.size := HB0.lt
    clear h5
    go_enter Tryd.func19, Tryd.ntmps19
    go_wp2_with fail
    refine (search t.map key ma mc _ _ (hM.keep HBW) (by omega) hks).mono ?_
    rintro e w1 ⟨i, f, rfl, hs, hb1⟩
    have HBB := Lib.hid ((Blk.new w 33 #[.int .i64 t.kind, .bool t.bool, .int .i64 t.int, .string t.str, .slice la t.list.length lc, .slice ma t.map.length mc]).alloc (.cells zcells 33) |>.keep hb1)
    have k5 : w1.cell? ⟨w.heap.size, 5, none⟩ = some (.slice ma t.map.length mc) := HBB.out.cell 5
    have e0 : w1.cell? ⟨w.heap.size + 1, 0, none⟩ = some (.int .i64 0) := (HB0.keep hb1).cell 0
    have f0 := (HB0.keep hb1).frozen 0
    have e1 : w1.cell? ⟨w.heap.size + 1, 1, none⟩ = some (.bool false) := (HB0.keep hb1).cell 1
    have f1 := (HB0.keep hb1).frozen 1
    have e2 : w1.cell? ⟨w.heap.size + 1, 2, none⟩ = some (.int .i64 0) := (HB0.keep hb1).cell 2
    have f2 := (HB0.keep hb1).frozen 2
    have e3 : w1.cell? ⟨w.heap.size + 1, 3, none⟩ = some (.string ⟨#[]⟩) := (HB0.keep hb1).cell 3
    have f3 := (HB0.keep hb1).frozen 3
    have e4 : w1.cell? ⟨w.heap.size + 1, 4, none⟩ = some (.slice none 0 0) := (HB0.keep hb1).cell 4
    have f4 := (HB0.keep hb1).frozen 4
    have e5 : w1.cell? ⟨w.heap.size + 1, 5, none⟩ = some (.slice none 0 0) := (HB0.keep hb1).cell 5
    have f5 := (HB0.keep hb1).frozen 5
    have HZ := Lib.hid (HB0.keep hb1)
    have HW1 : Hid (Below w.heap.size w w1) := HBW.trans (hb1.mono HBW.size)
    have hz1 := HZ.out.lt
    have HM1 := Lib.hid (hM.keep HW1.out)
    cases f with
    | false =>
      have HL0 := Lib.hid (look_none hks hs)
      clear hs hks hb1
      go_wp2_with fail
      exact ret_cell2 rfl rfl rfl ((((((HZ.out.set_ 0 _).set_ 1 _).set_ 2 _).set_ 3 _).set_ 4 _).set_ 5 _) Tryd.underlying33 val_size rfl ⟨_, by rw [HO.out, HL0.out]; rfl, by rw [HO.out, HL0.out]; exact rep_zero _ _, set6_below (o := 0) HW1.out (by omega)⟩
    | true =>
      obtain ⟨hi, -⟩ := hs.2.2.2.1 rfl
      have HL0 := Lib.hid (look_found hi hs)
      obtain ⟨bl, ol, la', lc', ma', mc', rfl, -, hbl, hkz, ⟨c0, c1, c2, c3, c4, c5, c6⟩, hr⟩ := HM1.out.at_ hi
      have HR := Lib.hid hr
      clear hs hks hb1 hr
      go_wp2_with fail
      refine (clone_any t.map[i].2 _ _ _ HR.out).mono ?_
      rintro e w2 ⟨v1, rfl, hr1, hb2⟩
      obtain ⟨la1, lc1, ma1, mc1, rfl, -⟩ := hr1.inv
      have g0 : w2.cell? ⟨w.heap.size + 1, 0, none⟩ = some (.int .i64 0) := (HZ.out.keep hb2).cell 0
      have q0 := (HZ.out.keep hb2).frozen 0
      have g1 : w2.cell? ⟨w.heap.size + 1, 1, none⟩ = some (.bool false) := (HZ.out.keep hb2).cell 1
      have q1 := (HZ.out.keep hb2).frozen 1
      have g2 : w2.cell? ⟨w.heap.size + 1, 2, none⟩ = some (.int .i64 0) := (HZ.out.keep hb2).cell 2
      have q2 := (HZ.out.keep hb2).frozen 2
      have g3 : w2.cell? ⟨w.heap.size + 1, 3, none⟩ = some (.string ⟨#[]⟩) := (HZ.out.keep hb2).cell 3
      have q3 := (HZ.out.keep hb2).frozen 3
      have g4 : w2.cell? ⟨w.heap.size + 1, 4, none⟩ = some (.slice none 0 0) := (HZ.out.keep hb2).cell 4
      have q4 := (HZ.out.keep hb2).frozen 4
      have g5 : w2.cell? ⟨w.heap.size + 1, 5, none⟩ = some (.slice none 0 0) := (HZ.out.keep hb2).cell 5
      have q5 := (HZ.out.keep hb2).frozen 5
      have HZ2 := Lib.hid (HZ.out.keep hb2)
      have HW2 := Lib.hid (Below.next HW1.out hb2)
      have HR1 := Lib.hid hr1
      have hlt2 : w.heap.size ≤ w1.heap.size := HW1.out.size
      clear hr1 hb2
      go_wp2_with fail
      exact ret_cell2 rfl rfl rfl ((((((HZ2.out.set_ 0 _).set_ 1 _).set_ 2 _).set_ 3 _).set_ 4 _).set_ 5 _) Tryd.underlying33 val_size rfl ⟨_, by rw [HO.out, HL0.out]; rfl, by rw [HO.out, HL0.out]; exact HR1.out.mono (fun b (hb : w1.heap.size ≤ b) _ => by show w.heap.size ≤ b; omega) (fun b o (hb : w1.heap.size ≤ b) hlt => World.cell?_of_block (w := w2) (set6_heap (o := 0) (show b ≠ w.heap.size + 1 by omega))), set6_below (o := 0) HW2.out (by omega)⟩
  · have hg : (t.kind != 5) = true := bne_iff_ne.2 h5
    have HO : Hid (getT t key = none) := by unfold getT; rw [if_neg h5]; rfl
    clear h5
    go_enter Tryd.func19, Tryd.ntmps19
    go_wp2_with fail
    exact ret_cell2 rfl rfl rfl HB0 Tryd.underlying33 val_size rfl ⟨_, by rw [HO.out]; rfl, by rw [HO.out]; exact rep_zero _ _, HBW⟩

end Go.Proofs.YtdgeegfoocoohaaDoor
