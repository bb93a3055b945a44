/- tree.Put: a map with a value under a key. -/
import Derived.Test.YthkkmnmejciomaaGen
import Derived.Test.YthkkmnmejciomaaPure
namespace Go.Proofs.Ythkkmnmejciomaa
open Go.RowKit Go.Lib
attribute [local go_sem ↓] Go.wp_at_zero Go.wp_at_succ

def OwnPost {α : Type} (E : Elt α) (w : World) (l : List α) (e : Ending) (w' : World) : Prop :=
  ∃ A c, e = .returned (.slice A l.length c) ∧ OwnE E w' w.heap.size (fun b => b < w.heap.size) A c l ∧ Below w.heap.size w w'
theorem clone_pairs (m : List (ByteArray × T)) (a : Option Addr) (c : Nat) (w : World) (S : Nat → Prop) (h : RepM w S a m) (hm : m.length * 104 ≤ 140737488355328) :
    Calls Try.prog 37 #[.slice a m.length c] w (OwnPost eltP w m) := by
  obtain ⟨xs, hxl, hxs, hx1, hxr⟩ := (h.mono (w' := w) (S' := fun b => b < w.heap.size) (fun _ _ h => h) (fun _ _ _ _ => rfl)).cells
  refine (sclone_p a m.length c xs w hxs hxl hx1 hm).mono ?_
  rintro e w' ⟨v, rfl, hcp⟩
  obtain ⟨A, c', rfl, h1, h2⟩ := own_copied (E := eltP) hcp hxl hx1 (fun i hi => by
    obtain ⟨r, e, hz, hr⟩ := hxr i hi
    exact ⟨r, e, hz, hr⟩)
  exact ⟨A, c', rfl, h1, h2⟩

theorem put_append {w wc w1 wa : World} {A : Option Addr} {c g : Nat} {m : List (ByteArray × T)} {key : ByteArray} {x : T} {c0 c1 c2 c3 c4 c5 : Value} {S : Nat → Prop}
    (hown : OwnE eltP w1 wc.heap.size (fun b => b < wc.heap.size) A c m) (hb1 : Below wc.heap.size wc w1) (hwa : Below w1.heap.size w1 wa) (hbox : Blk wa g 38 #[.string key, c0, c1, c2, c3, c4, c5])
    (hg : g < wc.heap.size ∨ w1.heap.size ≤ g) (hw : Below w.heap.size w wc) (hx : RepT w S (.agg #[c0, c1, c2, c3, c4, c5]) x) (hk : key.size ≤ 140737488351232) (hbig : (m.length + 1) * 104 ≤ 140737488355328) :
    ∃ (l : List (ByteArray × T)) (A' : Option Addr) (c' : Nat) (w3 : World), Hid (l = m ++ [(key, x)]) ∧
      (Builtin.append_ #[23, 23] 23 #[.slice A m.length c, .slice (some ⟨g, 0, none⟩) 1 1]).run Try.prog wa = .ok (.slice A' l.length c') w3 ∧ RepM w3 (fun _ => True) A' l ∧ Below wc.heap.size wc w3 := by
  have hn := hown.ne hg
  have hsz := hb1.size
  have hsz2 := hwa.size
  have hbx : Below wc.heap.size wc wa := hb1.trans (hwa.mono hsz)
  obtain ⟨A', c', w3, hr, ho, hgr⟩ := own_append (E := eltP) (l2 := [(key, x)]) (es := [.string key, c0, c1, c2, c3, c4, c5]) (ad := ⟨g, 0, none⟩) (cc := 1) (ty := 23) (t := 23) rfl (hown.keep hwa) (by show (m.length + 1) * 104 ≤ _; exact hbig) (by simp; unfold maxLen; omega) (by omega) (by rfl)
    (fun j u hu => by rw [add_lit, Nat.zero_add, hbox.cell]; simpa using hu)
    (fun i hi => by
      obtain rfl : i = 0 := by simpa using hi
      refine ⟨[c0, c1, c2, c3, c4, c5], rfl, hk, hx.mono (fun b _ hlt => ⟨Nat.lt_of_lt_of_le hlt hw.size, fun e => ?_⟩) (fun b o _ hlt => (hbx.cell (p := ⟨b, o, none⟩) (Nat.lt_of_lt_of_le hlt hw.size)).trans (hw.cell hlt))⟩
      have h1 := (hown.own b e).1
      have h2 := Nat.lt_of_lt_of_le hlt hw.size
      omega)
  refine ⟨m ++ [(key, x)], A', c', w3, rfl, hr, (repE_M.1 ho.rep).mono (fun _ _ _ => trivial) (fun _ _ _ _ => rfl), ?_⟩
  refine ⟨hgr.os.trans hbx.os, hgr.tape.trans hbx.tape, hgr.output.trans hbx.output, Nat.le_trans hbx.size hgr.size, fun k hk => (hgr.block k (Nat.lt_of_lt_of_le hk hbx.size) (fun e => ?_)).trans (hbx.block k hk)⟩
  have := (hown.own k e.symm).1
  omega

section
variable {w w1 : World} {A : Option Addr} {c : Nat} {m : List (ByteArray × T)} {key : ByteArray} {x : T} {c0 c1 c2 c3 c4 c5 : Value} {S : Nat → Prop}
/-- The new pair is made first, then the copy. -/
theorem put_a (W0 : World) (hown : OwnE eltP w1 (W0.alloc (.cells #[.string key, c0, c1, c2, c3, c4, c5] 38)).drew.heap.size (fun b => b < (W0.alloc (.cells #[.string key, c0, c1, c2, c3, c4, c5] 38)).drew.heap.size) A c m)
    (hb1 : Below (W0.alloc (.cells #[.string key, c0, c1, c2, c3, c4, c5] 38)).drew.heap.size (W0.alloc (.cells #[.string key, c0, c1, c2, c3, c4, c5] 38)).drew w1)
    (hw : Below w.heap.size w W0) (hx : RepT w S (.agg #[c0, c1, c2, c3, c4, c5]) x) (hk : key.size ≤ 140737488351232) (hbig : (m.length + 1) * 104 ≤ 140737488355328) :
    ∃ (l : List (ByteArray × T)) (A' : Option Addr) (c' : Nat) (w3 : World), Hid (l = m ++ [(key, x)]) ∧
       (Builtin.append_ #[23, 23] 23 #[.slice A m.length c, .slice (some ⟨W0.heap.size, 0, none⟩) 1 1]).run Try.prog w1 = .ok (.slice A' l.length c') w3 ∧
      RepM w3 (fun _ => True) A' l ∧ Below W0.heap.size W0 w3 ∧ Below W0.heap.size W0 w1 := by
  have hb0 : Below W0.heap.size W0 w1 := Below.next (Below.new W0 (.cells #[.string key, c0, c1, c2, c3, c4, c5] 38)).drew hb1
  obtain ⟨l, A', c', w3, h1, h2, h3, h4⟩ := put_append (w := w) hown hb1 (Below.refl _ _) ((Blk.new _ _ _).drew.keep hb1) (.inl (by simp)) (hw.trans ((Below.new _ _).drew.mono hw.size)) hx hk hbig
  exact ⟨l, A', c', w3, h1, h2, h3, Below.next (Below.new W0 (.cells #[.string key, c0, c1, c2, c3, c4, c5] 38)).drew h4, hb0⟩
/-- The copy is made first, then the new pair. -/
theorem put_b (W0 : World) (hown : OwnE eltP w1 W0.drew.heap.size (fun b => b < W0.drew.heap.size) A c m) (hb1 : Below W0.drew.heap.size W0.drew w1)
    (hw : Below w.heap.size w W0) (hx : RepT w S (.agg #[c0, c1, c2, c3, c4, c5]) x) (hk : key.size ≤ 140737488351232) (hbig : (m.length + 1) * 104 ≤ 140737488355328) :
    ∃ (l : List (ByteArray × T)) (A' : Option Addr) (c' : Nat) (w3 : World), Hid (l = m ++ [(key, x)]) ∧
      (Builtin.append_ #[23, 23] 23 #[.slice A m.length c, .slice (some ⟨w1.heap.size, 0, none⟩) 1 1]).run Try.prog (w1.alloc (.cells #[.string key, c0, c1, c2, c3, c4, c5] 38)) = .ok (.slice A' l.length c') w3 ∧
      RepM w3 (fun _ => True) A' l ∧ Below W0.heap.size W0 w3 ∧ Below W0.heap.size W0 w1 := by
  obtain ⟨l, A', c', w3, h1, h2, h3, h4⟩ := put_append (w := w) hown hb1 (Below.new _ _) (Blk.new _ _ _) (.inr (Nat.le_refl _)) hw.drew hx hk hbig
  exact ⟨l, A', c', w3, h1, h2, h3, Below.next (Below.drew (Below.refl _ _)) h4, Below.next (Below.drew (Below.refl _ _)) hb1⟩
end

/-- The result's own box, behind the call that made the value. -/
theorem put_end {w W0 w3 w4 : World} {g : Nat} {v : Value} {t : T} {d0 d1 d2 d3 d4 d5 : Value} (h0 : Below w.heap.size w W0) (h3 : Below W0.heap.size W0 w3) (hr : RepT w4 (fun b => w3.heap.size ≤ b) v t) (_h4 : Below w3.heap.size w3 w4) (hg : g < W0.heap.size) :
    RepT (set6 w4 g 0 d0 d1 d2 d3 d4 d5) (fun b => w.heap.size ≤ b) v t := by
  have := h0.size
  have := h3.size
  exact hr.mono (fun b (hb : w3.heap.size ≤ b) _ => by show w.heap.size ≤ b; omega) (fun b o (hb : w3.heap.size ≤ b) hlt => World.cell?_of_block (w := w4) (set6_heap (o := 0) (show b ≠ g by omega)))

theorem baseM_len (t : T) : (baseM t).length ≤ t.map.length := by unfold baseM; split <;> simp

set_option maxRecDepth 100000 in
set_option maxHeartbeats 4000000 in
theorem tput (t x : T) (key : ByteArray) (v vx : Value) (w : World) (S S' : Nat → Prop) (h : RepT w S v t) (hx : RepT w S' vx x) (hk : key.size ≤ 140737488351232) (hbig : (t.map.length + 1) * 104 ≤ 140737488355328) :
    Calls Try.prog 25 #[v, .string key, vx] w (NewPost w (putT t key x)) := by
  obtain ⟨la, lc, ma, mc, rfl, hp⟩ := h.inv
  obtain ⟨-, -, -, -, hm, -, -, -, -, -, hM⟩ := hp
  obtain ⟨la2, lc2, ma2, mc2, rfl, -⟩ := hx.inv
  have HX := Lib.hid hx
  clear hx h
  have HE := Lib.hid (show putT t key x = mkMap (mapT (baseM t ++ [(key, x)])) by rw [mapT_snoc]; rfl)
  have hbl := baseM_len t
  by_cases h5 : t.kind = 5
  · have hbase : baseM t = t.map := if_pos h5
    rw [hbase] at HE
    have hg : (t.kind != 5) = false := by rw [h5]; rfl
    clear h5 hbase hbl
    go_enter Try.func25, Try.ntmps25
    go_wp2_with fail
    have hB1 : Blk (((w.alloc (.cells #[.int .i64 t.kind, .bool t.bool, .int .i64 t.int, .string t.str, .slice la t.list.length lc, .slice ma t.map.length mc] 25)).alloc (.cells #[.int .i64 x.kind, .bool x.bool, .int .i64 x.int, .string x.str, .slice la2 x.list.length lc2, .slice ma2 x.map.length mc2] 25)).alloc (.cells #[.int .i64 0, .bool false, .int .i64 0, .string ⟨#[]⟩, .slice none 0 0, .slice none 0 0] 25)) w.heap.size 25 #[.int .i64 t.kind, .bool t.bool, .int .i64 t.int, .string t.str, .slice la t.list.length lc, .slice ma t.map.length mc] := ((Blk.new _ _ _).alloc _).alloc _
    have hB2 : Blk (((w.alloc (.cells #[.int .i64 t.kind, .bool t.bool, .int .i64 t.int, .string t.str, .slice la t.list.length lc, .slice ma t.map.length mc] 25)).alloc (.cells #[.int .i64 x.kind, .bool x.bool, .int .i64 x.int, .string x.str, .slice la2 x.list.length lc2, .slice ma2 x.map.length mc2] 25)).alloc (.cells #[.int .i64 0, .bool false, .int .i64 0, .string ⟨#[]⟩, .slice none 0 0, .slice none 0 0] 25)) (w.heap.size + 1) 25 #[.int .i64 x.kind, .bool x.bool, .int .i64 x.int, .string x.str, .slice la2 x.list.length lc2, .slice ma2 x.map.length mc2] := (Blk.new_at _ _ _ (by simp)).alloc _
    have hB3 : Blk (((w.alloc (.cells #[.int .i64 t.kind, .bool t.bool, .int .i64 t.int, .string t.str, .slice la t.list.length lc, .slice ma t.map.length mc] 25)).alloc (.cells #[.int .i64 x.kind, .bool x.bool, .int .i64 x.int, .string x.str, .slice la2 x.list.length lc2, .slice ma2 x.map.length mc2] 25)).alloc (.cells #[.int .i64 0, .bool false, .int .i64 0, .string ⟨#[]⟩, .slice none 0 0, .slice none 0 0] 25)) (w.heap.size + 1 + 1) 25 #[.int .i64 0, .bool false, .int .i64 0, .string ⟨#[]⟩, .slice none 0 0, .slice none 0 0] := Blk.new_at _ _ _ (by simp)
    have hBW : Below w.heap.size w (((w.alloc (.cells #[.int .i64 t.kind, .bool t.bool, .int .i64 t.int, .string t.str, .slice la t.list.length lc, .slice ma t.map.length mc] 25)).alloc (.cells #[.int .i64 x.kind, .bool x.bool, .int .i64 x.int, .string x.str, .slice la2 x.list.length lc2, .slice ma2 x.map.length mc2] 25)).alloc (.cells #[.int .i64 0, .bool false, .int .i64 0, .string ⟨#[]⟩, .slice none 0 0, .slice none 0 0] 25)) := ((Below.new _ _).alloc (by simp) _).alloc (by simp; omega) _
    generalize (((w.alloc (.cells #[.int .i64 t.kind, .bool t.bool, .int .i64 t.int, .string t.str, .slice la t.list.length lc, .slice ma t.map.length mc] 25)).alloc (.cells #[.int .i64 x.kind, .bool x.bool, .int .i64 x.int, .string x.str, .slice la2 x.list.length lc2, .slice ma2 x.map.length mc2] 25)).alloc (.cells #[.int .i64 0, .bool false, .int .i64 0, .string ⟨#[]⟩, .slice none 0 0, .slice none 0 0] 25)) = W0 at hB1 hB2 hB3 hBW ⊢
    have b5 := (hB1.cell 5 : _ = some _)
    have o0 := ((hB2).cell 0 : _ = some _); have o1 := ((hB2).cell 1 : _ = some _); have o2 := ((hB2).cell 2 : _ = some _); have o3 := ((hB2).cell 3 : _ = some _); have o4 := ((hB2).cell 4 : _ = some _); have o5 := ((hB2).cell 5 : _ = some _)
    have hl1 := hB1.lt
    have hl2 := hB2.lt
    have hl3 := hB3.lt
    have HB1 := Lib.hid hB1
    have HB2 := Lib.hid hB2
    have HB3 := Lib.hid hB3
    have HBW := Lib.hid hBW
    have HM := Lib.hid (hM.keep hBW)
    clear hB1 hB2 hB3 hBW hM
    go_region_law (first
      | (go_simp; go_at_call 37; refine (clone_pairs t.map _ _ _ _ (HM.out.keep (by first | exact Below.drew (Below.refl _ _) | exact Below.drew (Below.new _ _))) hm).mono ?_; rintro e w1 ⟨A, c1, rfl, hown, hb1⟩; (first | obtain ⟨l, A', c', w3, HL, hrun, hrep, hb3, hb01⟩ := put_b W0 hown hb1 HBW.out HX.out hk hbig | obtain ⟨l, A', c', w3, HL, hrun, hrep, hb3, hb01⟩ := put_a W0 hown hb1 HBW.out HX.out hk hbig); have p0 := ((HB2.out.keep hb01).cell 0 : _ = some _); have p1 := ((HB2.out.keep hb01).cell 1 : _ = some _); have p2 := ((HB2.out.keep hb01).cell 2 : _ = some _); have p3 := ((HB2.out.keep hb01).cell 3 : _ = some _); have p4 := ((HB2.out.keep hb01).cell 4 : _ = some _); have p5 := ((HB2.out.keep hb01).cell 5 : _ = some _); have HREP := Lib.hid hrep; have HB03 := Lib.hid hb3; clear hown hb1 hb01 hrep hb3)
      | (go_simp; go_at_call 17; refine (tmap l _ _ _ _ HREP.out (by rw [HL.out, List.length_append]; exact hbig)).mono ?_; rintro e w4 ⟨v4, rfl, hr4, hb4⟩; obtain ⟨la4, lc4, ma4, mc4, rfl, -⟩ := hr4.inv; have q0 := (((HB3.out.keep HB03.out).keep hb4).cell 0 : _ = some _); have q1 := (((HB3.out.keep HB03.out).keep hb4).cell 1 : _ = some _); have q2 := (((HB3.out.keep HB03.out).keep hb4).cell 2 : _ = some _); have q3 := (((HB3.out.keep HB03.out).keep hb4).cell 3 : _ = some _); have q4 := (((HB3.out.keep HB03.out).keep hb4).cell 4 : _ = some _); have q5 := (((HB3.out.keep HB03.out).keep hb4).cell 5 : _ = some _); have f0 := ((HB3.out.keep HB03.out).keep hb4).frozen 0; have f1 := ((HB3.out.keep HB03.out).keep hb4).frozen 1; have f2 := ((HB3.out.keep HB03.out).keep hb4).frozen 2; have f3 := ((HB3.out.keep HB03.out).keep hb4).frozen 3; have f4 := ((HB3.out.keep HB03.out).keep hb4).frozen 4; have f5 := ((HB3.out.keep HB03.out).keep hb4).frozen 5; have HR4 := Lib.hid hr4; have HB4 := Lib.hid hb4; clear hr4 hb4)
      | (refine step_append_run rfl (.tmp 13) (.tmp 17) 23 rfl hrun rfl rfl ?_))
    all_goals
      go_wp2_with fail
      exact ret_cell rfl rfl ((((((((HB3.out.keep HB03.out).keep HB4.out).set_ 0 _).set_ 1 _).set_ 2 _).set_ 3 _).set_ 4 _).set_ 5 _) Try.underlying25 val_size rfl ⟨_, rfl, by rw [HE.out, ← HL.out]; exact put_end HBW.out HB03.out HR4.out HB4.out (by omega), set6_below (o := 0) (Below.next (Below.next HBW.out HB03.out) HB4.out) (by omega)⟩
  · have hbase : baseM t = [] := if_neg h5
    rw [hbase] at HE
    have hg : (t.kind != 5) = true := bne_iff_ne.2 h5
    have hbig0 : (([] : List (ByteArray × T)).length + 1) * 104 ≤ 140737488355328 := by simp
    clear h5 hbase hbl hM
    go_enter Try.func25, Try.ntmps25
    go_wp2_with fail
    have hB1 : Blk (((w.alloc (.cells #[.int .i64 0, .bool false, .int .i64 0, .string ⟨#[]⟩, .slice none 0 0, .slice none 0 0] 25)).alloc (.cells #[.int .i64 x.kind, .bool x.bool, .int .i64 x.int, .string x.str, .slice la2 x.list.length lc2, .slice ma2 x.map.length mc2] 25)).alloc (.cells #[.int .i64 0, .bool false, .int .i64 0, .string ⟨#[]⟩, .slice none 0 0, .slice none 0 0] 25)) w.heap.size 25 #[.int .i64 0, .bool false, .int .i64 0, .string ⟨#[]⟩, .slice none 0 0, .slice none 0 0] := ((Blk.new _ _ _).alloc _).alloc _
    have hB2 : Blk (((w.alloc (.cells #[.int .i64 0, .bool false, .int .i64 0, .string ⟨#[]⟩, .slice none 0 0, .slice none 0 0] 25)).alloc (.cells #[.int .i64 x.kind, .bool x.bool, .int .i64 x.int, .string x.str, .slice la2 x.list.length lc2, .slice ma2 x.map.length mc2] 25)).alloc (.cells #[.int .i64 0, .bool false, .int .i64 0, .string ⟨#[]⟩, .slice none 0 0, .slice none 0 0] 25)) (w.heap.size + 1) 25 #[.int .i64 x.kind, .bool x.bool, .int .i64 x.int, .string x.str, .slice la2 x.list.length lc2, .slice ma2 x.map.length mc2] := (Blk.new_at _ _ _ (by simp)).alloc _
    have hB3 : Blk (((w.alloc (.cells #[.int .i64 0, .bool false, .int .i64 0, .string ⟨#[]⟩, .slice none 0 0, .slice none 0 0] 25)).alloc (.cells #[.int .i64 x.kind, .bool x.bool, .int .i64 x.int, .string x.str, .slice la2 x.list.length lc2, .slice ma2 x.map.length mc2] 25)).alloc (.cells #[.int .i64 0, .bool false, .int .i64 0, .string ⟨#[]⟩, .slice none 0 0, .slice none 0 0] 25)) (w.heap.size + 1 + 1) 25 #[.int .i64 0, .bool false, .int .i64 0, .string ⟨#[]⟩, .slice none 0 0, .slice none 0 0] := Blk.new_at _ _ _ (by simp)
    have hBW : Below w.heap.size w (((w.alloc (.cells #[.int .i64 0, .bool false, .int .i64 0, .string ⟨#[]⟩, .slice none 0 0, .slice none 0 0] 25)).alloc (.cells #[.int .i64 x.kind, .bool x.bool, .int .i64 x.int, .string x.str, .slice la2 x.list.length lc2, .slice ma2 x.map.length mc2] 25)).alloc (.cells #[.int .i64 0, .bool false, .int .i64 0, .string ⟨#[]⟩, .slice none 0 0, .slice none 0 0] 25)) := ((Below.new _ _).alloc (by simp) _).alloc (by simp; omega) _
    generalize (((w.alloc (.cells #[.int .i64 0, .bool false, .int .i64 0, .string ⟨#[]⟩, .slice none 0 0, .slice none 0 0] 25)).alloc (.cells #[.int .i64 x.kind, .bool x.bool, .int .i64 x.int, .string x.str, .slice la2 x.list.length lc2, .slice ma2 x.map.length mc2] 25)).alloc (.cells #[.int .i64 0, .bool false, .int .i64 0, .string ⟨#[]⟩, .slice none 0 0, .slice none 0 0] 25)) = W0 at hB1 hB2 hB3 hBW ⊢
    have b5 := (hB1.cell 5 : _ = some _)
    have o0 := ((hB2).cell 0 : _ = some _); have o1 := ((hB2).cell 1 : _ = some _); have o2 := ((hB2).cell 2 : _ = some _); have o3 := ((hB2).cell 3 : _ = some _); have o4 := ((hB2).cell 4 : _ = some _); have o5 := ((hB2).cell 5 : _ = some _)
    have hl1 := hB1.lt
    have hl2 := hB2.lt
    have hl3 := hB3.lt
    have HB1 := Lib.hid hB1
    have HB2 := Lib.hid hB2
    have HB3 := Lib.hid hB3
    have HBW := Lib.hid hBW
    clear hB1 hB2 hB3 hBW
    go_region_law (first
      | (go_simp; go_at_call 37; refine (clone_pairs [] none 0 _ (fun _ => True) (fun i hi => by simp at hi) (by simp)).mono ?_; rintro e w1 ⟨A, c1, rfl, hown, hb1⟩; (first | obtain ⟨l, A', c', w3, HL, hrun, hrep, hb3, hb01⟩ := put_b W0 hown hb1 HBW.out HX.out hk hbig0 | obtain ⟨l, A', c', w3, HL, hrun, hrep, hb3, hb01⟩ := put_a W0 hown hb1 HBW.out HX.out hk hbig0); have p0 := ((HB2.out.keep hb01).cell 0 : _ = some _); have p1 := ((HB2.out.keep hb01).cell 1 : _ = some _); have p2 := ((HB2.out.keep hb01).cell 2 : _ = some _); have p3 := ((HB2.out.keep hb01).cell 3 : _ = some _); have p4 := ((HB2.out.keep hb01).cell 4 : _ = some _); have p5 := ((HB2.out.keep hb01).cell 5 : _ = some _); have HREP := Lib.hid hrep; have HB03 := Lib.hid hb3; clear hown hb1 hb01 hrep hb3)
      | (go_simp; go_at_call 17; refine (tmap l _ _ _ _ HREP.out (by rw [HL.out, List.length_append]; exact hbig0)).mono ?_; rintro e w4 ⟨v4, rfl, hr4, hb4⟩; obtain ⟨la4, lc4, ma4, mc4, rfl, -⟩ := hr4.inv; have q0 := (((HB3.out.keep HB03.out).keep hb4).cell 0 : _ = some _); have q1 := (((HB3.out.keep HB03.out).keep hb4).cell 1 : _ = some _); have q2 := (((HB3.out.keep HB03.out).keep hb4).cell 2 : _ = some _); have q3 := (((HB3.out.keep HB03.out).keep hb4).cell 3 : _ = some _); have q4 := (((HB3.out.keep HB03.out).keep hb4).cell 4 : _ = some _); have q5 := (((HB3.out.keep HB03.out).keep hb4).cell 5 : _ = some _); have f0 := ((HB3.out.keep HB03.out).keep hb4).frozen 0; have f1 := ((HB3.out.keep HB03.out).keep hb4).frozen 1; have f2 := ((HB3.out.keep HB03.out).keep hb4).frozen 2; have f3 := ((HB3.out.keep HB03.out).keep hb4).frozen 3; have f4 := ((HB3.out.keep HB03.out).keep hb4).frozen 4; have f5 := ((HB3.out.keep HB03.out).keep hb4).frozen 5; have HR4 := Lib.hid hr4; have HB4 := Lib.hid hb4; clear hr4 hb4)
      | (refine step_append_run rfl (.tmp 13) (.tmp 17) 23 rfl hrun rfl rfl ?_))
    all_goals
      go_wp2_with fail
      exact ret_cell rfl rfl ((((((((HB3.out.keep HB03.out).keep HB4.out).set_ 0 _).set_ 1 _).set_ 2 _).set_ 3 _).set_ 4 _).set_ 5 _) Try.underlying25 val_size rfl ⟨_, rfl, by rw [HE.out, ← HL.out]; exact put_end HBW.out HB03.out HR4.out HB4.out (by omega), set6_below (o := 0) (Below.next (Below.next HBW.out HB03.out) HB4.out) (by omega)⟩

end Go.Proofs.Ythkkmnmejciomaa
