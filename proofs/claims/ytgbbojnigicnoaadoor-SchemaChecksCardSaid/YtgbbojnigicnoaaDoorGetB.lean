/- Several texts as one. -/
import Derived.Test.YtgbbojnigicnoaaDoorMap
/- tree.Get, Int, and what a map has under a key. -/
namespace Go.Proofs.YtgbbojnigicnoaaDoor
open Go.RowKit

/-- What a map has under a key. -/
def look : List (ByteArray × T) → ByteArray → Option T
  | [], _ => none
  | p :: r, k => if p.1 = k then some p.2 else look r k
def getT (t : T) (k : ByteArray) : Option T := if t.kind = 5 then look t.map k else none

theorem look_found {m : List (ByteArray × T)} {k : ByteArray} {i : Nat} (hi : i < m.length) (h : Srch m k i true) : look m k = some m[i].2 := by
  induction m generalizing i with
  | nil => simp at hi
  | cons p r ih =>
    match i, h with
    | 0, h =>
      obtain ⟨_, he⟩ := h.2.2.2.1 rfl
      simp at he
      simp [look, he]
    | i + 1, h =>
      have h0 := h.2.1 0 (by simp) (by omega)
      have hne : ¬ p.1 = k := fun e => by
        simp [e, klt_irrefl] at h0
      simp [look, hne, ih (by simpa using hi) (srch_cons h)]
theorem look_none {m : List (ByteArray × T)} {k : ByteArray} {i : Nat} (hks : KS m) (h : Srch m k i false) : look m k = none := by
  have hall : ∀ j (hj : j < m.length), m[j].1 ≠ k := fun j hj e => by
    rcases Nat.lt_trichotomy j i with hlt | rfl | hgt
    · have := h.2.1 j hj hlt
      rw [e, klt_irrefl] at this
      cases this
    · have := h.2.2.2.2 ⟨hj, e⟩
      cases this
    · have h1 := h.2.2.1 i (by omega) (Nat.le_refl _)
      have h2 := hks i j hj hgt
      rw [e, h1] at h2
      cases h2
  clear hks h
  induction m with
  | nil => rfl
  | cons p r ih =>
    have h0 : ¬ p.1 = k := hall 0 (by simp)
    simp only [look, if_neg h0]
    exact ih (fun j hj => hall (j + 1) (by simpa using hj))

def GetPost (w : World) (o : Option T) (e : Ending) (w' : World) : Prop :=
  ∃ v, e = .returned (.tuple #[v, .bool o.isSome]) ∧ RepT w' (fun b => w.heap.size ≤ b) v (o.getD T.zero) ∧ Below w.heap.size w w'

theorem rep_zero (w : World) (S : Nat → Prop) : RepT w S (.agg zcells) T.zero :=
  RepT.of (t := T.zero) (la := none) (lc := 0) (ma := none) (mc := 0) ⟨(show i64ok 0 by unfold i64ok; omega), (show i64ok 0 by unfold i64ok; omega), by show ByteArray.size ⟨#[]⟩ ≤ _; simp [ByteArray.size], by simp [T.zero, T.list], by simp [T.zero, T.map], by simp [T.zero, T.list], by simp [T.zero, T.map], by unfold maxLen; omega, by unfold maxLen; omega, fun i hi => by simp [T.zero, T.list] at hi, fun i hi => by simp [T.zero, T.map] at hi⟩

/-- A struct in memory and a truth: what two results are. -/
theorem ret_cell2 {fn : Func} {R : Ending → World → Prop} {a : Act} {w : World} {p q : Tmp} {ty g t : Nat} {cs : Array Value} {v : Value} {fs : Array Field} (h : fn.results = #[.cell p ty, .tmp q]) (hp : a.tmps.getD p undef = .pointer (some ⟨g, 0, none⟩)) (hq : a.tmps.getD q undef = v) (hb : Blk w g t cs)
    (hu : Tryd.prog.underlying ty = some (.struct fs)) (hi : (Tryd.prog.info? ty).map (·.size) = some cs.size) (hdf : a.defers = []) (hR : R (.returned (.tuple #[.agg cs, v])) w) : bodyPost Tryd.prog fn R .ret a w := by
  refine bodyPost_ret ?_ hdf hR
  have hp' : a.tmps[p]?.getD undef = .pointer (some ⟨g, 0, none⟩) := by simpa using hp
  have hq' : a.tmps[q]?.getD undef = v := by simpa using hq
  simp [results, h, hp', hq', asAddr, run_loadVar_row w g t ty cs (0, 0) (.struct fs) hb hu rfl hi]

end Go.Proofs.YtgbbojnigicnoaaDoor

/- tree.Get: the walk.  -/
namespace Go.Proofs.YtgbbojnigicnoaaDoor
open Go.RowKit

set_option maxRecDepth 100000 in
set_option maxHeartbeats 4000000 in
theorem tget (t : T) (key : ByteArray) (v : Value) (w : World) (S : Nat → Prop) (h : RepT w S v t) (hks : KS t.map) : Calls Tryd.prog 37 #[v, .string key] w (GetPost w (getT t key)) := by
  obtain ⟨la, lc, ma, mc, rfl, hp⟩ := h.inv
  obtain ⟨hk, hn, hs, hl, hm, hlc, hmc, hlx, hmx, hL, hM⟩ := hp
  have HB0 : Blk ((w.alloc (.cells #[.int .i64 t.kind, .bool t.bool, .int .i64 t.int, .string t.str, .slice la t.list.length lc, .slice ma t.map.length mc] 25)).alloc (.cells zcells 25)) (w.heap.size + 1) 25 zcells := Blk.new_at _ _ _ (by simp)
  have HBW : Below w.heap.size w ((w.alloc (.cells #[.int .i64 t.kind, .bool t.bool, .int .i64 t.int, .string t.str, .slice la t.list.length lc, .slice ma t.map.length mc] 25)).alloc (.cells zcells 25)) := (Below.new _ _).alloc (by simp) _
  by_cases h5 : t.kind = 5
  · have HO : Hid (getT t key = look t.map key) := by unfold getT; rw [if_pos h5]; rfl
    have hg : (t.kind != 5) = false := by rw [h5]; rfl
    have hl1 : w.heap.size + 1 < ((w.alloc (.cells #[.int .i64 t.kind, .bool t.bool, .int .i64 t.int, .string t.str, .slice la t.list.length lc, .slice ma t.map.length mc] 25)).alloc (.cells zcells 25)).heap.size := HB0.lt
    clear h5
    go_enter Tryd.func37, Tryd.ntmps37
    go_wp2_with fail
    refine (search t.map key ma mc _ _ (hM.keep HBW) (by omega) hks).mono ?_
    rintro e w1 ⟨i, f, rfl, hs, hb1⟩
    have HBB := Lib.hid ((Blk.new w 25 #[.int .i64 t.kind, .bool t.bool, .int .i64 t.int, .string t.str, .slice la t.list.length lc, .slice ma t.map.length mc]).alloc (.cells zcells 25) |>.keep hb1)
    have k5 : w1.cell? ⟨w.heap.size, 5, none⟩ = some (.slice ma t.map.length mc) := HBB.out.cell 5
    have e0 : w1.cell? ⟨w.heap.size + 1, 0, none⟩ = some (.int .i64 0) := (HB0.keep hb1).cell 0
    have f0 := (HB0.keep hb1).frozen 0
    have e1 : w1.cell? ⟨w.heap.size + 1, 1, none⟩ = some (.bool false) := (HB0.keep hb1).cell 1
    have f1 := (HB0.keep hb1).frozen 1
    have e2 : w1.cell? ⟨w.heap.size + 1, 2, none⟩ = some (.int .i64 0) := (HB0.keep hb1).cell 2
    have f2 := (HB0.keep hb1).frozen 2
    have e3 : w1.cell? ⟨w.heap.size + 1, 3, none⟩ = some (.string ⟨#[]⟩) := (HB0.keep hb1).cell 3
    have f3 := (HB0.keep hb1).frozen 3
    have e4 : w1.cell? ⟨w.heap.size + 1, 4, none⟩ = some (.slice none 0 0) := (HB0.keep hb1).cell 4
    have f4 := (HB0.keep hb1).frozen 4
    have e5 : w1.cell? ⟨w.heap.size + 1, 5, none⟩ = some (.slice none 0 0) := (HB0.keep hb1).cell 5
    have f5 := (HB0.keep hb1).frozen 5
    have HZ := Lib.hid (HB0.keep hb1)
    have HW1 : Hid (Below w.heap.size w w1) := HBW.trans (hb1.mono HBW.size)
    have hz1 := HZ.out.lt
    have HM1 := Lib.hid (hM.keep HW1.out)
    cases f with
    | false =>
      have HL0 := Lib.hid (look_none hks hs)
      clear hs hks hb1
      go_wp2_with fail
      exact ret_cell2 rfl rfl rfl ((((((HZ.out.set_ 0 _).set_ 1 _).set_ 2 _).set_ 3 _).set_ 4 _).set_ 5 _) Tryd.underlying25 val_size rfl ⟨_, by rw [HO.out, HL0.out]; rfl, by rw [HO.out, HL0.out]; exact rep_zero _ _, set6_below (o := 0) HW1.out (by omega)⟩
    | true =>
      obtain ⟨hi, -⟩ := hs.2.2.2.1 rfl
      have HL0 := Lib.hid (look_found hi hs)
      obtain ⟨bl, ol, la', lc', ma', mc', rfl, -, hbl, hkz, ⟨c0, c1, c2, c3, c4, c5, c6⟩, hr⟩ := HM1.out.at_ hi
      have HR := Lib.hid hr
      clear hs hks hb1 hr
      go_wp2_with fail
      refine (clone_any t.map[i].2 _ _ _ HR.out).mono ?_
      rintro e w2 ⟨v1, rfl, hr1, hb2⟩
      obtain ⟨la1, lc1, ma1, mc1, rfl, -⟩ := hr1.inv
      have g0 : w2.cell? ⟨w.heap.size + 1, 0, none⟩ = some (.int .i64 0) := (HZ.out.keep hb2).cell 0
      have q0 := (HZ.out.keep hb2).frozen 0
      have g1 : w2.cell? ⟨w.heap.size + 1, 1, none⟩ = some (.bool false) := (HZ.out.keep hb2).cell 1
      have q1 := (HZ.out.keep hb2).frozen 1
      have g2 : w2.cell? ⟨w.heap.size + 1, 2, none⟩ = some (.int .i64 0) := (HZ.out.keep hb2).cell 2
      have q2 := (HZ.out.keep hb2).frozen 2
      have g3 : w2.cell? ⟨w.heap.size + 1, 3, none⟩ = some (.string ⟨#[]⟩) := (HZ.out.keep hb2).cell 3
      have q3 := (HZ.out.keep hb2).frozen 3
      have g4 : w2.cell? ⟨w.heap.size + 1, 4, none⟩ = some (.slice none 0 0) := (HZ.out.keep hb2).cell 4
      have q4 := (HZ.out.keep hb2).frozen 4
      have g5 : w2.cell? ⟨w.heap.size + 1, 5, none⟩ = some (.slice none 0 0) := (HZ.out.keep hb2).cell 5
      have q5 := (HZ.out.keep hb2).frozen 5
      have HZ2 := Lib.hid (HZ.out.keep hb2)
      have HW2 := Lib.hid (Below.next HW1.out hb2)
      have HR1 := Lib.hid hr1
      have hlt2 : w.heap.size ≤ w1.heap.size := HW1.out.size
      clear hr1 hb2
      go_wp2_with fail
      exact ret_cell2 rfl rfl rfl ((((((HZ2.out.set_ 0 _).set_ 1 _).set_ 2 _).set_ 3 _).set_ 4 _).set_ 5 _) Tryd.underlying25 val_size rfl ⟨_, by rw [HO.out, HL0.out]; rfl, by rw [HO.out, HL0.out]; exact HR1.out.mono (fun b (hb : w1.heap.size ≤ b) _ => by show w.heap.size ≤ b; omega) (fun b o (hb : w1.heap.size ≤ b) hlt => World.cell?_of_block (w := w2) (set6_heap (o := 0) (show b ≠ w.heap.size + 1 by omega))), set6_below (o := 0) HW2.out (by omega)⟩
  · have hg : (t.kind != 5) = true := bne_iff_ne.2 h5
    have HO : Hid (getT t key = none) := by unfold getT; rw [if_neg h5]; rfl
    clear h5
    go_enter Tryd.func37, Tryd.ntmps37
    go_wp2_with fail
    exact ret_cell2 rfl rfl rfl HB0 Tryd.underlying25 val_size rfl ⟨_, by rw [HO.out]; rfl, by rw [HO.out]; exact rep_zero _ _, HBW⟩

end Go.Proofs.YtgbbojnigicnoaaDoor

