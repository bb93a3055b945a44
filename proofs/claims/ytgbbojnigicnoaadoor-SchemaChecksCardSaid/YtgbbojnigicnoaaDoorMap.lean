/- tree.Map: the pairs by rising keys; of one key the last one. -/
import Derived.Test.YtgbbojnigicnoaaDoorOwnM
namespace Go.Proofs.YtgbbojnigicnoaaDoor
open Go.RowKit
attribute [local go_sem ↓] Go.wp_at_zero Go.wp_at_succ

def mkMap (m : List (ByteArray × T)) : T := .mk 5 false 0 ⟨#[]⟩ [] m
/-- How things stand in Map: the result's box, the map's box, the map's row. -/
def MapInv (w wr : World) (A : Option Addr) (c : Nat) (m : List (ByteArray × T)) : Prop :=
  Blk wr w.heap.size 25 zcells ∧ Blk wr (w.heap.size + 1) 25 #[.int .i64 5, .bool false, .int .i64 0, .string ⟨#[]⟩, .slice none 0 0, .slice A m.length c] ∧ Below w.heap.size w wr ∧ OwnM wr (w.heap.size + 2) A c m

theorem own_ne {w : World} {B : Nat} {A : Option Addr} {c k : Nat} {m : List (ByteArray × T)} (h : OwnM w B A c m) (hk : w.heap.size ≤ k) : Value.ownBlock (.slice A m.length c) ≠ some k := fun e => by
  have := (h.own k e).2
  omega

theorem map_new {w wr : World} {A : Option Addr} {c : Nat} {m : List (ByteArray × T)} (h : MapInv w wr A c m) (hm : m.length * 104 ≤ 140737488355328) :
    RepT (set6 wr w.heap.size 0 (.int .i64 5) (.bool false) (.int .i64 0) (.string ⟨#[]⟩) (.slice none 0 0) (.slice A m.length c)) (fun b => w.heap.size ≤ b) (.agg #[.int .i64 5, .bool false, .int .i64 0, .string ⟨#[]⟩, .slice none 0 0, .slice A m.length c]) (mkMap m) ∧
    Blk (set6 wr w.heap.size 0 (.int .i64 5) (.bool false) (.int .i64 0) (.string ⟨#[]⟩) (.slice none 0 0) (.slice A m.length c)) w.heap.size 25 #[.int .i64 5, .bool false, .int .i64 0, .string ⟨#[]⟩, .slice none 0 0, .slice A m.length c] ∧
    Below w.heap.size w (set6 wr w.heap.size 0 (.int .i64 5) (.bool false) (.int .i64 0) (.string ⟨#[]⟩) (.slice none 0 0) (.slice A m.length c)) := by
  obtain ⟨hb1, hb2, hbw, hown⟩ := h
  have hlen := hown.len
  refine ⟨RepT.of (t := mkMap m) (la := none) (lc := 0) (ma := A) (mc := c) ⟨(show i64ok 5 by unfold i64ok; omega), (show i64ok 0 by unfold i64ok; omega), by show ByteArray.size ⟨#[]⟩ ≤ _; simp [ByteArray.size], by simp [mkMap, T.list], hm, by simp [mkMap, T.list], hlen.1, by unfold maxLen; omega, hlen.2, fun i hi => by simp [mkMap, T.list] at hi, ?_⟩, ?_, set6_below hbw (Nat.le_refl _)⟩
  · exact RepM.mono (w := wr) (S := fun b => w.heap.size + 2 ≤ b) hown.rep (fun b (h : w.heap.size + 2 ≤ b) _ => by show w.heap.size ≤ b; omega) (fun b o (h : w.heap.size + 2 ≤ b) hlt => World.cell?_of_block (w := wr) (set6_heap (show b ≠ w.heap.size by omega)))
  · exact (((((hb1.set_ 0 _).set_ 1 _).set_ 2 _).set_ 3 _).set_ 4 _).set_ 5 _

/-- Before the new row is stored in the map's box. -/
def InsOut (w w3 : World) (A : Option Addr) (n c : Nat) (A' : Option Addr) (c' : Nat) (m' : List (ByteArray × T)) : Prop :=
  Blk w3 w.heap.size 25 zcells ∧ Blk w3 (w.heap.size + 1) 25 #[.int .i64 5, .bool false, .int .i64 0, .string ⟨#[]⟩, .slice none 0 0, .slice A n c] ∧ Below w.heap.size w w3 ∧ OwnM w3 (w.heap.size + 2) A' c' m'

theorem map_insert {w wr w1 w2 : World} {A : Option Addr} {c i : Nat} {m : List (ByteArray × T)} {k : ByteArray} {t : T} {c0 c1 c2 c3 c4 c5 : Value} (h : MapInv w wr A c m) (hb1 : Below wr.heap.size wr w1) (hb2 : Below w1.heap.size w1 w2)
    (hr : RepT w2 (fun b => w1.heap.size ≤ b) (.agg #[c0, c1, c2, c3, c4, c5]) t) (hs : Srch m k i false) (hbig : (m.length + 1) * 104 ≤ 140737488355328) (hk : k.size ≤ 140737488351232) :
    Calls Tryd.prog 32 #[.slice A m.length c, .int .i64 i, .slice (some ⟨w2.heap.size, 0, none⟩) 1 1] (w2.alloc (.cells #[.string k, c0, c1, c2, c3, c4, c5] 41)) fun e w3 =>
      ∃ A' c', e = .returned (.slice A' (ins m k t).length c') ∧ InsOut w w3 A m.length c A' c' (ins m k t) := by
  obtain ⟨g1, g2, hbw, hown⟩ := h
  have hl := g2.lt
  have h12 : Below wr.heap.size wr w2 := Below.next hb1 hb2
  have ha : Below wr.heap.size wr (w2.alloc (.cells #[.string k, c0, c1, c2, c3, c4, c5] 41)) := h12.alloc h12.size _
  have hs1 := hb1.size
  have hs2 := hb2.size
  refine (own_insert (vb := w2.heap.size) (r := [c0, c1, c2, c3, c4, c5]) (hown.keep ha) hs hbig (by simp; omega) hk (Blk.new _ _ _) (own_ne hown (by omega)) ((hr.keep (Below.new _ _)).weak (fun b (hb : w1.heap.size ≤ b) _ => ⟨by omega, own_ne hown (by omega)⟩))).mono ?_
  rintro e w3 ⟨A', c', rfl, hown3, hgr⟩
  have hne : ∀ g, g < w.heap.size + 2 → some g ≠ Value.ownBlock (.slice A m.length c) := fun g hg e => by
    have := (hown.own g e.symm).1
    omega
  refine ⟨A', c', rfl, (g1.keep ha).grown hgr (hne _ (by omega)), (g2.keep ha).grown hgr (hne _ (by omega)), ?_, hown3⟩
  have hba : Below w.heap.size w (w2.alloc (.cells #[.string k, c0, c1, c2, c3, c4, c5] 41)) := hbw.trans (ha.mono hbw.size)
  exact ⟨hgr.os.trans hba.os, hgr.tape.trans hba.tape, hgr.output.trans hba.output, Nat.le_trans hba.size hgr.size, fun g hg => (hgr.block g (Nat.lt_of_lt_of_le hg hba.size) (hne g (by omega))).trans (hba.block g hg)⟩

theorem map_stored {w w3 : World} {A A' : Option Addr} {n c c' : Nat} {m' : List (ByteArray × T)} (h : InsOut w w3 A n c A' c' m') : MapInv w (w3.setCell ⟨w.heap.size + 1, 5, none⟩ (.slice A' m'.length c')) A' c' m' := by
  obtain ⟨g1, g2, hbw, xs, h1, h2, h3⟩ := h
  have hne : ∀ g, Value.ownBlock (.slice A' m'.length c') = some g → g ≠ w.heap.size + 1 := fun g hg => by
    have := (OwnM.own ⟨xs, h1, h2, h3⟩ g hg).1
    omega
  refine ⟨g1.far (by simp) _, g2.set_ 5 _, hbw.setCell (by simp) _, xs, ownsRow_of h1 (fun g hg => Below.heap_setCell _ _ _ g (hne g hg)), h2, fun i hi => ?_⟩
  obtain ⟨r, e, hz, hr⟩ := h3 i hi
  exact ⟨r, e, hz, hr.mono (fun b hb _ => hb) (fun b o hb hlt => World.cell?_of_block (a := ⟨b, o, none⟩) (Below.heap_setCell _ _ _ b (show b ≠ w.heap.size + 1 by have := hb.1; omega)))⟩

theorem map_set {w wr w1 w2 : World} {g c i : Nat} {m : List (ByteArray × T)} {k : ByteArray} {t : T} {c0 c1 c2 c3 c4 c5 : Value} (h : MapInv w wr (some ⟨g, 0, none⟩) c m) (hb1 : Below wr.heap.size wr w1) (hb2 : Below w1.heap.size w1 w2)
    (hr : RepT w2 (fun b => w1.heap.size ≤ b) (.agg #[c0, c1, c2, c3, c4, c5]) t) (hs : Srch m k i true) :
    MapInv w (set6 w2 g (i * 7 + 1) c0 c1 c2 c3 c4 c5) (some ⟨g, 0, none⟩) c (ins m k t) := by
  obtain ⟨g1, g2, hbw, hown⟩ := h
  have hl := g2.lt
  have h12 : Below wr.heap.size wr w2 := Below.next hb1 hb2
  have hs1 := hb1.size
  have hg := hown.own g rfl
  have hlen : (ins m k t).length = m.length := by rw [ins_found t hs]; simp
  refine ⟨(set6_heap (by omega)).trans (g1.keep h12), ?_, set6_below (hbw.trans (h12.mono hbw.size)) (by omega), own_set (hown.keep h12) hs (hr.weak (fun b (hb : w1.heap.size ≤ b) _ => ⟨by omega, by omega⟩))⟩
  rw [hlen]
  exact (set6_heap (by omega)).trans (g2.keep h12)

set_option maxRecDepth 100000 in
set_option maxHeartbeats 4000000 in
theorem tmap (l : List (ByteArray × T)) (a : Option Addr) (cc : Nat) (w : World) (S : Nat → Prop) (h : RepM w S a l) (hl : l.length * 104 ≤ 140737488355328) :
    Calls Tryd.prog 13 #[.slice a l.length cc] w (NewPost w (mkMap (mapT l))) := by
  go_enter Tryd.func13, Tryd.ntmps13
  go_wp2_with fail
  go_loopw [11] (fun x wr => ∃ (q : Nat) (A : Option Addr) (c : Nat), q ≤ l.length ∧ x = .int .i64 q ∧ MapInv w wr A c (mapT (l.take q))) (fun x _ => l.length - (intOf x).toNat)
  case atStart =>
    exact ⟨0, none, 0, Nat.zero_le _, rfl, (Blk.new _ _ _).alloc _, Blk.new_at _ _ _ (by simp), (Below.new _ _).alloc (by simp) _, OwnM.nil _ _⟩
  case round =>
    obtain ⟨q, A, c, hq, rfl, hinv⟩ := hrel
    have HINV := Lib.hid hinv
    by_cases hlt : q < l.length
    · have HTK := Lib.hid (mapT_take_succ hlt)
      have HKS := Lib.hid (mapT_KS (l.take q))
      have hml : (mapT (l.take q)).length ≤ q := Nat.le_trans (mapT_length _) (by rw [List.length_take]; omega)
      obtain ⟨b, o, la, lc, ma, mc, rfl, hS, hbl, hkz, ⟨c0, c1, c2, c3, c4, c5, c6⟩, hr⟩ := (h.keep (hinv.2.2.1)).at_ hlt
      have k5 : wr.cell? ⟨w.heap.size + 1, 5, none⟩ = some (.slice A (mapT (l.take q)).length c) := hinv.2.1.cell 5
      have hB1 := hinv.2.1.lt
      have HR := Lib.hid hr
      clear hinv hr
      generalize mapT (l.take q) = m at *
      have hml2 : (m.length + 1) * 104 ≤ 140737488355328 := by omega
      go_wp2_with fail
      refine (search m _ A c _ _ (HINV.out.2.2.2.rep.keep (Below.new _ _)) (by omega) HKS.out).mono ?_
      rintro e w1 ⟨i, f, rfl, hs, hb1⟩
      have hbx := Below.next (Below.new _ _) hb1
      have hbb := (Blk.new wr 41 #[.string l[q].1, .int .i64 l[q].2.kind, .bool l[q].2.bool, .int .i64 l[q].2.int, .string l[q].2.str, .slice la l[q].2.list.length lc, .slice ma l[q].2.map.length mc]).keep hb1
      have p0 : w1.cell? ⟨wr.heap.size, 0, none⟩ = some (.string l[q].1) := hbb.cell 0
      have p1 : w1.cell? ⟨wr.heap.size, 1, none⟩ = some (.int .i64 l[q].2.kind) := hbb.cell 1
      have p2 : w1.cell? ⟨wr.heap.size, 2, none⟩ = some (.bool l[q].2.bool) := hbb.cell 2
      have p3 : w1.cell? ⟨wr.heap.size, 3, none⟩ = some (.int .i64 l[q].2.int) := hbb.cell 3
      have p4 : w1.cell? ⟨wr.heap.size, 4, none⟩ = some (.string l[q].2.str) := hbb.cell 4
      have p5 : w1.cell? ⟨wr.heap.size, 5, none⟩ = some (.slice la l[q].2.list.length lc) := hbb.cell 5
      have p6 : w1.cell? ⟨wr.heap.size, 6, none⟩ = some (.slice ma l[q].2.map.length mc) := hbb.cell 6
      have k5' := (hbx.cell (p := ⟨w.heap.size + 1, 5, none⟩) hB1).trans k5
      have hbl1 := hbb.lt
      have hB1w : w.heap.size + 1 < w1.heap.size := by omega
      have HBX := Lib.hid hbx
      have HS := Lib.hid hs
      clear hbx hbb hb1 c0 c1 c2 c3 c4 c5 c6 k5
      cases f with
      | false =>
        clear hs
        go_wp2_with fail
        go_region_with (first
          | (go_at_call 31; refine (clone_any l[q].2 _ _ _ (HR.out.keep (by exact Below.drew HBX.out))).mono ?_; rintro e w2 ⟨v1, rfl, hr1, hb2⟩; obtain ⟨la1, lc1, ma1, mc1, rfl, -⟩ := hr1.inv; have hbq := Below.next (Below.drew (Below.refl w1.heap.size w1)) hb2; have u5 := (hbq.cell (p := ⟨w.heap.size + 1, 5, none⟩) hB1w).trans k5'; have v0 := (hbq.cell (p := ⟨wr.heap.size, 0, none⟩) hbl1).trans p0; have hB2w : w.heap.size + 1 < w2.heap.size := Nat.lt_of_lt_of_le hB1w hbq.size; have HBQ := Lib.hid hbq; have HR1 := Lib.hid hr1; clear hbq hr1 hb2)
          | (go_at_call 32; go_must (refine (map_insert HINV.out HBX.out HBQ.out HR1.out HS.out hml2 hkz).mono ?_); rintro e w3 ⟨A', c', rfl, hio⟩; have n5 : w3.cell? ⟨w.heap.size + 1, 5, none⟩ = some (.slice A m.length c) := hio.2.1.cell 5; have z5 := hio.2.1.frozen 5; have HIO := Lib.hid hio; clear hio))
        all_goals
          go_wp2_with fail
          go_roundw
          case rel => exact ⟨q + 1, _, _, by omega, by go_num, by rw [HTK.out]; exact map_stored HIO.out⟩
          case measure => simp [intOf]; omega
      | true =>
        obtain ⟨hi, -⟩ := hs.2.2.2.1 rfl
        clear hs
        obtain ⟨g, cur, r, rfl, hg, hblk, hfit, hrl, hca, -, hrt⟩ := HINV.out.2.2.2.cells hi
        obtain ⟨la2, lc2, ma2, mc2, hv, -⟩ := hrt.inv
        have := agg_list hv
        subst this
        have hgl := hblk.lt
        have d1 := ((HBX.out.cell (p := ⟨g, i * 7 + 1, none⟩) hgl).trans (hca 1 _ rfl))
        have d2 := ((HBX.out.cell (p := ⟨g, i * 7 + 2, none⟩) hgl).trans (hca 2 _ rfl))
        have d3 := ((HBX.out.cell (p := ⟨g, i * 7 + 3, none⟩) hgl).trans (hca 3 _ rfl))
        have d4 := ((HBX.out.cell (p := ⟨g, i * 7 + 4, none⟩) hgl).trans (hca 4 _ rfl))
        have d5 := ((HBX.out.cell (p := ⟨g, i * 7 + 5, none⟩) hgl).trans (hca 5 _ rfl))
        have d6 := ((HBX.out.cell (p := ⟨g, i * 7 + 6, none⟩) hgl).trans (hca 6 _ rfl))
        have HF := Lib.hid (fun j => (HBX.out.frozen (p := ⟨g, i * 7 + j, none⟩) hgl).trans (hblk.frozen (i * 7 + j)))
        have hgl1 : g < w1.heap.size := Nat.lt_of_lt_of_le hgl HBX.out.size
        have hi1 : (0 : Int) ≤ (i : Int) := by omega
        have hi2 : (i : Int) < (m.length : Int) := by omega
        have hne : ¬ g = w.heap.size + 1 := by omega
        have hne2 : ¬ w.heap.size + 1 = g := by omega
        have hne3 : ¬ g = wr.heap.size := by omega
        have hne4 : ¬ wr.heap.size = g := by omega
        clear hca hrt hv hblk
        go_wp2_with fail
        go_region_with (first
          | (go_at_call 31; refine (clone_any l[q].2 _ _ _ (HR.out.keep (by exact Below.drew HBX.out))).mono ?_; rintro e w2 ⟨v1, rfl, hr1, hb2⟩; obtain ⟨la1, lc1, ma1, mc1, rfl, -⟩ := hr1.inv; have hbq := Below.next (Below.drew (Below.refl w1.heap.size w1)) hb2; have u5 := (hbq.cell (p := ⟨w.heap.size + 1, 5, none⟩) hB1w).trans k5'; have v0 := (hbq.cell (p := ⟨wr.heap.size, 0, none⟩) hbl1).trans p0; have q1 := (hbq.cell (p := ⟨g, i * 7 + 1, none⟩) hgl1).trans d1; have f1 := (hbq.frozen (p := ⟨g, i * 7 + 1, none⟩) hgl1).trans (HF.out 1); have q2 := (hbq.cell (p := ⟨g, i * 7 + 2, none⟩) hgl1).trans d2; have f2 := (hbq.frozen (p := ⟨g, i * 7 + 2, none⟩) hgl1).trans (HF.out 2); have q3 := (hbq.cell (p := ⟨g, i * 7 + 3, none⟩) hgl1).trans d3; have f3 := (hbq.frozen (p := ⟨g, i * 7 + 3, none⟩) hgl1).trans (HF.out 3); have q4 := (hbq.cell (p := ⟨g, i * 7 + 4, none⟩) hgl1).trans d4; have f4 := (hbq.frozen (p := ⟨g, i * 7 + 4, none⟩) hgl1).trans (HF.out 4); have q5 := (hbq.cell (p := ⟨g, i * 7 + 5, none⟩) hgl1).trans d5; have f5 := (hbq.frozen (p := ⟨g, i * 7 + 5, none⟩) hgl1).trans (HF.out 5); have q6 := (hbq.cell (p := ⟨g, i * 7 + 6, none⟩) hgl1).trans d6; have f6 := (hbq.frozen (p := ⟨g, i * 7 + 6, none⟩) hgl1).trans (HF.out 6); have HBQ := Lib.hid hbq; have HR1 := Lib.hid hr1; clear hbq hr1 hb2))
        all_goals
          go_wp2_with fail
          go_roundw
          case rel => exact ⟨q + 1, _, _, by omega, by go_num, by rw [HTK.out]; exact map_set HINV.out HBX.out HBQ.out HR1.out HS.out⟩
          case measure => simp [intOf]; omega
    · obtain rfl : q = l.length := by omega
      rw [List.take_length] at HINV hinv
      have HLEN : Hid ((mapT l).length * 104 ≤ 140737488355328) := Nat.le_trans (Nat.mul_le_mul_right _ (mapT_length l)) hl
      generalize mapT l = m at *
      have k0 : wr.cell? ⟨w.heap.size + 1, 0, none⟩ = some (.int .i64 5) := hinv.2.1.cell 0
      have k1 : wr.cell? ⟨w.heap.size + 1, 1, none⟩ = some (.bool false) := hinv.2.1.cell 1
      have k2 : wr.cell? ⟨w.heap.size + 1, 2, none⟩ = some (.int .i64 0) := hinv.2.1.cell 2
      have k3 : wr.cell? ⟨w.heap.size + 1, 3, none⟩ = some (.string ⟨#[]⟩) := hinv.2.1.cell 3
      have k4 : wr.cell? ⟨w.heap.size + 1, 4, none⟩ = some (.slice none 0 0) := hinv.2.1.cell 4
      have k5 : wr.cell? ⟨w.heap.size + 1, 5, none⟩ = some (.slice A m.length c) := hinv.2.1.cell 5
      have e0 : wr.cell? ⟨w.heap.size, 0, none⟩ = some (.int .i64 0) := hinv.1.cell 0
      have e1 : wr.cell? ⟨w.heap.size, 1, none⟩ = some (.bool false) := hinv.1.cell 1
      have e2 : wr.cell? ⟨w.heap.size, 2, none⟩ = some (.int .i64 0) := hinv.1.cell 2
      have e3 : wr.cell? ⟨w.heap.size, 3, none⟩ = some (.string ⟨#[]⟩) := hinv.1.cell 3
      have e4 : wr.cell? ⟨w.heap.size, 4, none⟩ = some (.slice none 0 0) := hinv.1.cell 4
      have e5 : wr.cell? ⟨w.heap.size, 5, none⟩ = some (.slice none 0 0) := hinv.1.cell 5
      have f0 := hinv.1.frozen 0
      have f1 := hinv.1.frozen 1
      have f2 := hinv.1.frozen 2
      have f3 := hinv.1.frozen 3
      have f4 := hinv.1.frozen 4
      have f5 := hinv.1.frozen 5
      have hb1l := hinv.1.lt
      have hb2l := hinv.2.1.lt
      clear hinv
      go_wp2_with fail
      obtain ⟨h1, h2, h3⟩ := map_new HINV.out HLEN.out
      exact ret_cell rfl rfl h2 Tryd.underlying25 val_size rfl ⟨_, rfl, h1, h3⟩

end Go.Proofs.YtgbbojnigicnoaaDoor
