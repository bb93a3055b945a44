/- The reference's Put and Drop: the walks. -/
import Derived.Test.YthkkmnmejciomaaRefs
namespace Go.Proofs.Ythkkmnmejciomaa
open Go.RowKit
attribute [local go_sem ↓] Go.wp_at_zero Go.wp_at_succ

/-- A result that lies in blocks of S or in new ones. -/
def ValPostS (S : Nat → Prop) (w : World) (t : T) (e : Ending) (w' : World) : Prop := ∃ v, e = .returned v ∧ RepT w' (fun b => S b ∨ w.heap.size ≤ b) v t ∧ Below w.heap.size w w'
/-- One pair more at the end of a row of the call's own. -/
theorem pair_append_S {S : Nat → Prop} {wr : World} {B B0 c : Nat} {A : Option Addr} {l : List (ByteArray × T)} {k : ByteArray} {x : T} {c0 c1 c2 c3 c4 c5 : Value} (hown : OwnE eltP wr B (fun b => S b ∧ b < B0) A c l) (hx : RepT wr (fun b => S b ∧ b < B0) (.agg #[c0, c1, c2, c3, c4, c5]) x)
    (hk : k.size ≤ 140737488351232) (hbig : (l.length + 1) * 104 ≤ 140737488355328) (hB : B ≤ wr.heap.size) (h0 : B0 ≤ B) :
    ∃ (l2 : List (ByteArray × T)) (A' : Option Addr) (c' : Nat) (w3 : World), Hid (l2 = l ++ [(k, x)]) ∧
      (Builtin.append_ #[23, 23] 23 #[.slice A l.length c, .slice (some ⟨wr.heap.size, 0, none⟩) 1 1]).run Try.prog (wr.alloc (.cells #[.string k, c0, c1, c2, c3, c4, c5] 38)) = .ok (.slice A' l2.length c') w3 ∧
      OwnE eltP w3 B (fun b => S b ∧ b < B0) A' c' l2 ∧ Below B wr w3 := by
  have ha : Below wr.heap.size wr (wr.alloc (.cells #[.string k, c0, c1, c2, c3, c4, c5] 38)) := Below.new _ _
  obtain ⟨A', c', w3, hrun, ho, hgr⟩ := own_append (E := eltP) (l2 := [(k, x)]) (es := [.string k, c0, c1, c2, c3, c4, c5]) (ad := ⟨wr.heap.size, 0, none⟩) (cc := 1) (ty := 23) (t := 23) rfl (hown.keep ha) (by show (l.length + 1) * 104 ≤ _; exact hbig) (by simp; unfold maxLen; omega) (by simp; omega) (by rfl)
    (fun j u hu => by rw [add_lit, Nat.zero_add, (Blk.new wr 38 #[.string k, c0, c1, c2, c3, c4, c5]).cell]; simpa using hu)
    (fun i hi => by
      obtain rfl : i = 0 := by simpa using hi
      exact ⟨_, rfl, hk, (hx.keep ha).weak (fun b (hb : S b ∧ b < B0) _ => ⟨hb, hown.ne (.inl (by have := hb.2; omega))⟩)⟩)
  refine ⟨l ++ [(k, x)], A', c', w3, rfl, hrun, ho, ?_⟩
  have hba : Below B wr (wr.alloc (.cells #[.string k, c0, c1, c2, c3, c4, c5] 38)) := ha.mono hB
  exact ⟨hgr.os.trans hba.os, hgr.tape.trans hba.tape, hgr.output.trans hba.output, Nat.le_trans hba.size hgr.size, fun g hg => (hgr.block g (Nat.lt_of_lt_of_le (Nat.lt_of_lt_of_le hg hB) hba.size) (fun e => by have := (hown.own g e.symm).1; omega)).trans (hba.block g hg)⟩

/-- How things stand in Put: the boxes, and the row that is made. -/
def PInv (S : Nat → Prop) (w wr : World) (vb xb : Array Value) (A : Option Addr) (c : Nat) (l : List (ByteArray × T)) : Prop :=
  Blk wr w.heap.size 25 vb ∧ Blk wr (w.heap.size + 1) 25 xb ∧ Blk wr (w.heap.size + 1 + 1) 25 #[.int .i64 0, .bool false, .int .i64 0, .string ⟨#[]⟩, .slice none 0 0, .slice none 0 0] ∧
    Blk wr (w.heap.size + 1 + 1 + 1) 25 #[.int .i64 5, .bool false, .int .i64 0, .string ⟨#[]⟩, .slice none 0 0, .slice A l.length c] ∧ Below w.heap.size w wr ∧ OwnE eltP wr (w.heap.size + 1 + 1 + 1 + 1) (fun b => S b ∧ b < w.heap.size) A c l
theorem pinv_next {S : Nat → Prop} {w wr : World} {n : Nat} {vb xb : Array Value} {A : Option Addr} {c : Nat} {l : List (ByteArray × T)} {k : ByteArray} {x : T} {c0 c1 c2 c3 c4 c5 : Value} (h : PInv S w wr vb xb A c l) (hn : n = wr.heap.size)
    (hx : RepT wr (fun b => S b ∧ b < w.heap.size) (.agg #[c0, c1, c2, c3, c4, c5]) x) (hk : k.size ≤ 140737488351232) (hbig : (l.length + 1) * 104 ≤ 140737488355328) :
    ∃ (l2 : List (ByteArray × T)) (A' : Option Addr) (c' : Nat) (w3 : World), Hid (l2 = l ++ [(k, x)]) ∧
      (Builtin.append_ #[23, 23] 23 #[.slice A l.length c, .slice (some ⟨n, 0, none⟩) 1 1]).run Try.prog (wr.alloc (.cells #[.string k, c0, c1, c2, c3, c4, c5] 38)) = .ok (.slice A' l2.length c') w3 ∧
      Blk w3 w.heap.size 25 vb ∧ Blk w3 (w.heap.size + 1) 25 xb ∧ Blk w3 (w.heap.size + 1 + 1 + 1) 25 #[.int .i64 5, .bool false, .int .i64 0, .string ⟨#[]⟩, .slice none 0 0, .slice A l.length c] ∧ Below w.heap.size w w3 ∧
      PInv S w (w3.setCell ⟨w.heap.size + 1 + 1 + 1, 5, none⟩ (.slice A' l2.length c')) vb xb A' c' l2 := by
  subst hn
  obtain ⟨h1, h2, h3, h4, hb, ho⟩ := h
  have hl := h4.lt
  obtain ⟨l2, A', c', w3, e, hr, ho3, hb3⟩ := pair_append_S ho hx hk hbig (by omega) (by omega)
  have kp : ∀ {g ty cs}, Blk wr g ty cs → g < w.heap.size + 1 + 1 + 1 + 1 → Blk w3 g ty cs := fun hh hg => hh.below hb3 hg
  have hbw : Below w.heap.size w w3 := hb.trans (hb3.mono (by omega))
  refine ⟨l2, A', c', w3, e, hr, kp h1 (by omega), kp h2 (by omega), kp h4 (by omega), hbw, (kp h1 (by omega)).far (show w.heap.size ≠ w.heap.size + 1 + 1 + 1 by omega) _, (kp h2 (by omega)).far (show w.heap.size + 1 ≠ w.heap.size + 1 + 1 + 1 by omega) _, (kp h3 (by omega)).far (show w.heap.size + 1 + 1 ≠ w.heap.size + 1 + 1 + 1 by omega) _, (kp h4 (by omega)).set_ 5 _, hbw.setCell (show w.heap.size ≤ w.heap.size + 1 + 1 + 1 by omega) _, ?_⟩
  exact ho3.far _ (fun g hg => by have := (ho3.own g hg).1; show g ≠ w.heap.size + 1 + 1 + 1; omega) (fun hh => by have : w.heap.size + 1 + 1 + 1 < w.heap.size := hh.2; omega)
/-- The same behind a draw. -/
theorem pinv_next_drew {S : Nat → Prop} {w wr : World} {n : Nat} {vb xb : Array Value} {A : Option Addr} {c : Nat} {l : List (ByteArray × T)} {k : ByteArray} {x : T} {c0 c1 c2 c3 c4 c5 : Value} (h : PInv S w wr vb xb A c l) (hn : n = wr.heap.size)
    (hx : RepT wr (fun b => S b ∧ b < w.heap.size) (.agg #[c0, c1, c2, c3, c4, c5]) x) (hk : k.size ≤ 140737488351232) (hbig : (l.length + 1) * 104 ≤ 140737488355328) :
    ∃ (l2 : List (ByteArray × T)) (A' : Option Addr) (c' : Nat) (w3 : World), Hid (l2 = l ++ [(k, x)]) ∧
      (Builtin.append_ #[23, 23] 23 #[.slice A l.length c, .slice (some ⟨n, 0, none⟩) 1 1]).run Try.prog (wr.alloc (.cells #[.string k, c0, c1, c2, c3, c4, c5] 38)).drew = .ok (.slice A' l2.length c') w3 ∧
      Blk w3 w.heap.size 25 vb ∧ Blk w3 (w.heap.size + 1) 25 xb ∧ Blk w3 (w.heap.size + 1 + 1 + 1) 25 #[.int .i64 5, .bool false, .int .i64 0, .string ⟨#[]⟩, .slice none 0 0, .slice A l.length c] ∧ Below w.heap.size w w3 ∧
      PInv S w (w3.setCell ⟨w.heap.size + 1 + 1 + 1, 5, none⟩ (.slice A' l2.length c')) vb xb A' c' l2 := by
  have hd : PInv S w wr.drew vb xb A c l := ⟨h.1.drew, h.2.1.drew, h.2.2.1.drew, h.2.2.2.1.drew, h.2.2.2.2.1.drew, h.2.2.2.2.2.keep (Below.drew (Below.refl _ _))⟩
  exact pinv_next (wr := wr.drew) hd hn (hx.keep (Below.drew (Below.refl _ _))) hk hbig

theorem pinv_end {S : Nat → Prop} {w wr : World} {vb xb : Array Value} {A : Option Addr} {c : Nat} {l : List (ByteArray × T)} (h : PInv S w wr vb xb A c l) (hm : l.length * 104 ≤ 140737488355328) :
    RepT (set6 wr (w.heap.size + 1 + 1) 0 (.int .i64 5) (.bool false) (.int .i64 0) (.string ⟨#[]⟩) (.slice none 0 0) (.slice A l.length c)) (fun b => S b ∨ w.heap.size ≤ b) (.agg #[.int .i64 5, .bool false, .int .i64 0, .string ⟨#[]⟩, .slice none 0 0, .slice A l.length c]) (mkMap l) := by
  obtain ⟨h1, h2, h3, h4, hb, ho⟩ := h
  have hlen := ho.len
  refine RepT.of (t := mkMap l) (la := none) (lc := 0) (ma := A) (mc := c) ⟨(show i64ok 5 by unfold i64ok; omega), (show i64ok 0 by unfold i64ok; omega), by show ByteArray.size ⟨#[]⟩ ≤ _; simp [ByteArray.size], by simp [mkMap, T.list], hm, by simp [mkMap, T.list], hlen.1, by unfold maxLen; omega, hlen.2, fun i hi => by simp [mkMap, T.list] at hi, ?_⟩
  exact RepM.mono (w := wr) (repE_M.1 ho.rep) (fun b (h : (S b ∧ b < w.heap.size) ∨ w.heap.size + 1 + 1 + 1 + 1 ≤ b) _ => h.elim (fun h => .inl h.1) (fun h => .inr (by omega))) (fun b o (h : (S b ∧ b < w.heap.size) ∨ w.heap.size + 1 + 1 + 1 + 1 ≤ b) hlt => World.cell?_of_block (w := wr) (set6_heap (show b ≠ w.heap.size + 1 + 1 by omega)))

theorem rput_step {key : ByteArray} {x : T} {laid : Bool} {m : List (ByteArray × T)} {q : Nat} (hq : q < m.length) : rput key x laid (m.drop q) = (if klt m[q].1 key = false ∧ laid = false then [(key, x)] else []) ++ (if m[q].1 ≠ key then [m[q]] else []) ++ rput key x (laid || !klt m[q].1 key) (m.drop (q + 1)) := by
  rw [List.drop_eq_getElem_cons hq, rput]

section
variable {key : ByteArray} {x : T} {laid : Bool} {m : List (ByteArray × T)} {q : Nat}
theorem rp_A (hq : q < m.length) (hk : klt m[q].1 key = true) : rput key x laid (m.drop q) = (m[q].1, m[q].2) :: rput key x laid (m.drop (q + 1)) := by
  rw [rput_step hq, hk, if_neg (by simp), if_pos (klt_ne hk), Bool.not_true, Bool.or_false]; rfl
theorem rp_BE (hq : q < m.length) (hk : klt m[q].1 key = false) (he : m[q].1 = key) : rput key x false (m.drop q) = (key, x) :: rput key x true (m.drop (q + 1)) := by
  rw [rput_step hq, hk, if_pos ⟨rfl, rfl⟩, if_neg (fun h => h he)]; rfl
theorem rp_CE (hq : q < m.length) (hk : klt m[q].1 key = false) (he : m[q].1 = key) : rput key x true (m.drop q) = rput key x true (m.drop (q + 1)) := by
  rw [rput_step hq, hk, if_neg (by simp), if_neg (fun h => h he)]; rfl
theorem rp_BN (hq : q < m.length) (hk : klt m[q].1 key = false) (he : m[q].1 ≠ key) : rput key x false (m.drop q) = (key, x) :: (m[q].1, m[q].2) :: rput key x true (m.drop (q + 1)) := by
  rw [rput_step hq, hk, if_pos ⟨rfl, rfl⟩, if_pos he]; rfl
theorem rp_CN (hq : q < m.length) (hk : klt m[q].1 key = false) (he : m[q].1 ≠ key) : rput key x true (m.drop q) = (m[q].1, m[q].2) :: rput key x true (m.drop (q + 1)) := by
  rw [rput_step hq, hk, if_neg (by simp), if_pos he]; rfl
end

set_option maxRecDepth 100000 in
set_option maxHeartbeats 8000000 in
/-- What the pairs' values lie in alone counts (HE), not where the map's row lies: the result's row is new. -/
theorem rput_S (S : Nat → Prop) (t x : T) (key : ByteArray) (v vx : Value) (w : World) (h : RepT w (fun _ => True) v t) (hx : RepT w S vx x) (HE : Hid (∀ q (h : q < t.map.length) (u : Value), RepT w (fun _ => True) u t.map[q].2 → RepT w S u t.map[q].2)) (hk : key.size ≤ 140737488351232) (hbig : (t.map.length + 2) * 104 ≤ 140737488355328) :
    Calls Try.prog 28 #[v, .string key, vx] w (ValPostS S w (mkMap (rput key x false t.map))) := by
  obtain ⟨la, lc, ma, mc, rfl, hp⟩ := h.inv
  obtain ⟨-, -, -, -, hm, -, -, -, -, -, hM⟩ := hp
  obtain ⟨la2, lc2, ma2, mc2, rfl, -⟩ := hx.inv
  have HX := Lib.hid (hx.mono (w' := w) (S' := fun b => S b ∧ b < w.heap.size) (fun _ h h2 => ⟨h, h2⟩) (fun _ _ _ _ => rfl))
  have HM := Lib.hid hM
  have HLEN := Lib.hid (rput_len key x false t.map)
  clear h hx hM
  go_enter Try.func28, Try.ntmps28
  go_wp2_with fail
  generalize t.map = m at *
  go_loopw [8, 9] (fun lb i wr => ∃ (q : Nat) (laid : Bool) (out : List (ByteArray × T)) (A : Option Addr) (c : Nat), q ≤ m.length ∧ lb = .bool laid ∧ i = .int .i64 q ∧ Hid (out ++ rput key x laid (m.drop q) = rput key x false m) ∧ PInv S w wr #[.int .i64 t.kind, .bool t.bool, .int .i64 t.int, .string t.str, .slice la t.list.length lc, .slice ma m.length mc] #[.int .i64 x.kind, .bool x.bool, .int .i64 x.int, .string x.str, .slice la2 x.list.length lc2, .slice ma2 x.map.length mc2] A c out) (fun _ i _ => m.length - (intOf i).toNat)
  case atStart =>
    exact ⟨0, false, [], none, 0, Nat.zero_le _, rfl, rfl, by simp [Hid], ((Blk.new _ _ _).alloc _ |>.alloc _).alloc _, ((Blk.new_at _ _ _ (by simp)).alloc _).alloc _, (Blk.new_at _ _ _ (by simp)).alloc _, Blk.new_at _ _ _ (by simp), ((((Below.new _ _).alloc (by simp) _).alloc (by simp; omega) _).alloc (by simp; omega) _), OwnE.nil⟩
  case round =>
    obtain ⟨q, laid, out, A, c, hq, rfl, rfl, heq, hinv⟩ := hrel
    have hol : out.length ≤ m.length + 1 := by
      have := congrArg List.length heq.out
      rw [List.length_append] at this
      have := HLEN.out
      omega
    have hobig : (out.length + 1) * 104 ≤ 140737488355328 := by omega
    have HINV := Lib.hid hinv
    have hv5 := hinv.1.cell
    have hx5 := hinv.2.1.cell
    have ho5 := hinv.2.2.2.1.cell
    have hlv := hinv.1.lt
    have hlx := hinv.2.1.lt
    have hlo := hinv.2.2.2.1.lt
    by_cases hlt : q < m.length
    · obtain ⟨b, o, la3, lc3, ma3, mc3, rfl, -, hbl, hkz, ⟨c0, c1, c2, c3, c4, c5, c6⟩, hr0⟩ := HM.out.at_ hlt
      have hr := (HE.out q hlt _ hr0).mono (w' := w) (S' := fun b => S b ∧ b < w.heap.size) (fun _ h h2 => ⟨h, h2⟩) (fun _ _ _ _ => rfl)
      clear hr0
      have HCW := Lib.hid (show True ∧ True from ⟨trivial, trivial⟩)
      have hbw := hinv.2.2.2.2.1
      have e0 := (hbw.cell (p := ⟨b, o + q * 7, none⟩) hbl).trans c0
      have e1 := (hbw.cell (p := ⟨b, o + q * 7 + 1, none⟩) hbl).trans c1
      have e2 := (hbw.cell (p := ⟨b, o + q * 7 + 2, none⟩) hbl).trans c2
      have e3 := (hbw.cell (p := ⟨b, o + q * 7 + 3, none⟩) hbl).trans c3
      have e4 := (hbw.cell (p := ⟨b, o + q * 7 + 4, none⟩) hbl).trans c4
      have e5 := (hbw.cell (p := ⟨b, o + q * 7 + 5, none⟩) hbl).trans c5
      have e6 := (hbw.cell (p := ⟨b, o + q * 7 + 6, none⟩) hbl).trans c6
      have C0 := Lib.hid c0
      have C1 := Lib.hid c1
      have C2 := Lib.hid c2
      have C3 := Lib.hid c3
      have C4 := Lib.hid c4
      have C5 := Lib.hid c5
      have C6 := Lib.hid c6
      clear HCW c0 c1 c2 c3 c4 c5 c6
      have HR := Lib.hid (hr.keep hbw)
      have HRW := Lib.hid hr
      have HXR := Lib.hid (HX.out.keep hinv.2.2.2.2.1)
      have hi1 : (0 : Int) ≤ (q : Int) := by omega
      have hi2 : (q : Int) < (m.length : Int) := by omega
      have HBW := Lib.hid hbw
      have hbl1 : b < wr.heap.size := Nat.lt_of_lt_of_le hbl hbw.size
      clear hinv hr hbw
      by_cases hkl : klt m[q].1 key = true
      · have HS := Lib.hid (rp_A (key := key) (x := x) (laid := laid) hlt hkl)
        have hop : Op.bytesLess m[q].1.toList key.toList = true := hkl
        have hke : m[q].1 ≠ key := klt_ne hkl
        have hne : (m[q].1.toList == key.toList) = false := by rw [keq_iff]; exact decide_eq_false hke
        clear hke hkl
        generalize m[q].1 = kq at *
        generalize m[q].2 = tq at *
        have HO1 := Lib.hid (show out ++ (kq, tq) :: rput key x laid (m.drop (q + 1)) = rput key x false m by rw [← heq.out, HS.out])
        go_wp2_with fail
        have hob2 : (out.length + 1) * 104 ≤ 140737488355328 := by
          have h1 := congrArg List.length (HO1.out)
          have h2 := HLEN.out
          rw [List.length_append, List.length_cons] at h1; omega
        obtain ⟨l3, A3, c3, w4, HL3, hrun3, hd1, hd2, hd3, hbw4, hinv4⟩ := pinv_next_drew (n := wr.heap.size) HINV.out rfl (HRW.out.keep HBW.out) hkz hob2
        have hs5 := hd3.cell
        have hsf := hd3.frozen
        have hsl := hd3.lt
        have HI4 := Lib.hid hinv4
        clear hd1 hd2 hd3 hbw4 hinv4
        have HO3 := Lib.hid (show l3 ++ rput key x laid (m.drop (q + 1)) = rput key x false m by rw [← HO1.out, HL3.out]; simp)
        go_region_law (refine step_append_run rfl (.tmp 47) (.tmp 53) 23 rfl hrun3 rfl rfl ?_)
        all_goals
          go_wp2_with fail
          go_roundw
          case rel => first | exact ⟨q + 1, laid, l3, A3, c3, by omega, rfl, by go_num, HO3, HI4.out⟩ | ((repeat apply Exists.intro); exact ⟨⟨q + 1, laid, l3, A3, c3, by omega, rfl, by go_num, HO3, HI4.out⟩, rfl⟩)
          case measure => simp [intOf]; omega
      · have hkf : klt m[q].1 key = false := by simpa using hkl
        by_cases hke : m[q].1 = key
        · cases laid
          · have HS := Lib.hid (rp_BE (key := key) (x := x)  hlt hkf hke)
            have hop : Op.bytesLess m[q].1.toList key.toList = false := hkf
            have hne : (m[q].1.toList == key.toList) = true := by rw [hke]; simp
            clear hke hkl hkf
            generalize m[q].1 = kq at *
            generalize m[q].2 = tq at *
            obtain ⟨l2, A2, c2, w3, HL2, hrun2, hb1, hb2, hb3, hbw3, hinv3⟩ := pinv_next HINV.out rfl HXR.out hk hobig
            have hq5 := hb3.cell
            have hqf := hb3.frozen
            have hql := hb3.lt
            have HI3 := Lib.hid hinv3
            have vb5 := hb1.cell
            have vbl := hb1.lt
            have hszx : (w3.setCell ⟨w.heap.size + 1 + 1 + 1, 5, none⟩ (.slice A2 l2.length c2)).heap.size = w3.heap.size := by simp [World.setCell]
            have HSZ := Lib.hid hszx
            have f0 := (hbw3.cell (p := ⟨b, o + q * 7, none⟩) hbl).trans C0.out
            have f1 := (hbw3.cell (p := ⟨b, o + q * 7 + 1, none⟩) hbl).trans C1.out
            have f2 := (hbw3.cell (p := ⟨b, o + q * 7 + 2, none⟩) hbl).trans C2.out
            have f3 := (hbw3.cell (p := ⟨b, o + q * 7 + 3, none⟩) hbl).trans C3.out
            have f4 := (hbw3.cell (p := ⟨b, o + q * 7 + 4, none⟩) hbl).trans C4.out
            have f5 := (hbw3.cell (p := ⟨b, o + q * 7 + 5, none⟩) hbl).trans C5.out
            have f6 := (hbw3.cell (p := ⟨b, o + q * 7 + 6, none⟩) hbl).trans C6.out
            have hbl3 : b < w3.heap.size := Nat.lt_of_lt_of_le hbl hbw3.size
            have hnb : ¬ b = w.heap.size + 1 + 1 + 1 := by omega
            have hnb2 : ¬ w.heap.size + 1 + 1 + 1 = b := by omega
            have HBW3 := Lib.hid hbw3
            clear hb1 hb2 hb3 hbw3 hinv3 hszx
            go_wp2_with (at_builtin; refine wpList_append_run rfl (.tmp 31) (.tmp 35) 23 rfl hrun2 rfl rfl ?_)
            have HO2 := Lib.hid (show l2 ++ rput key x true (m.drop (q + 1)) = rput key x false m by rw [← heq.out, HS.out, HL2.out]; simp)
            go_roundw
            case rel => first | exact ⟨q + 1, true, l2, A2, c2, by omega, rfl, by go_num, HO2, HI3.out⟩ | ((repeat apply Exists.intro); exact ⟨⟨q + 1, true, l2, A2, c2, by omega, rfl, by go_num, HO2, HI3.out⟩, rfl⟩)
            case measure => simp [intOf]; omega
          · have HS := Lib.hid (rp_CE (key := key) (x := x)  hlt hkf hke)
            have hop : Op.bytesLess m[q].1.toList key.toList = false := hkf
            have hne : (m[q].1.toList == key.toList) = true := by rw [hke]; simp
            clear hke hkl hkf
            generalize m[q].1 = kq at *
            generalize m[q].2 = tq at *
            have HO1 := Lib.hid (show out ++ rput key x true (m.drop (q + 1)) = rput key x false m by rw [← heq.out, HS.out])
            go_wp2_with fail
            go_roundw
            case rel => first | exact ⟨q + 1, true, out, A, c, by omega, rfl, by go_num, HO1, HINV.out⟩ | ((repeat apply Exists.intro); exact ⟨⟨q + 1, true, out, A, c, by omega, rfl, by go_num, HO1, HINV.out⟩, rfl⟩)
            case measure => simp [intOf]; omega
        · cases laid
          · have HS := Lib.hid (rp_BN (key := key) (x := x)  hlt hkf hke)
            have hop : Op.bytesLess m[q].1.toList key.toList = false := hkf
            have hne : (m[q].1.toList == key.toList) = false := by rw [keq_iff]; exact decide_eq_false hke
            clear hke hkl hkf
            generalize m[q].1 = kq at *
            generalize m[q].2 = tq at *
            obtain ⟨l2, A2, c2, w3, HL2, hrun2, hb1, hb2, hb3, hbw3, hinv3⟩ := pinv_next HINV.out rfl HXR.out hk hobig
            have hq5 := hb3.cell
            have hqf := hb3.frozen
            have hql := hb3.lt
            have HI3 := Lib.hid hinv3
            have vb5 := hb1.cell
            have vbl := hb1.lt
            have hszx : (w3.setCell ⟨w.heap.size + 1 + 1 + 1, 5, none⟩ (.slice A2 l2.length c2)).heap.size = w3.heap.size := by simp [World.setCell]
            have HSZ := Lib.hid hszx
            have f0 := (hbw3.cell (p := ⟨b, o + q * 7, none⟩) hbl).trans C0.out
            have f1 := (hbw3.cell (p := ⟨b, o + q * 7 + 1, none⟩) hbl).trans C1.out
            have f2 := (hbw3.cell (p := ⟨b, o + q * 7 + 2, none⟩) hbl).trans C2.out
            have f3 := (hbw3.cell (p := ⟨b, o + q * 7 + 3, none⟩) hbl).trans C3.out
            have f4 := (hbw3.cell (p := ⟨b, o + q * 7 + 4, none⟩) hbl).trans C4.out
            have f5 := (hbw3.cell (p := ⟨b, o + q * 7 + 5, none⟩) hbl).trans C5.out
            have f6 := (hbw3.cell (p := ⟨b, o + q * 7 + 6, none⟩) hbl).trans C6.out
            have hbl3 : b < w3.heap.size := Nat.lt_of_lt_of_le hbl hbw3.size
            have hnb : ¬ b = w.heap.size + 1 + 1 + 1 := by omega
            have hnb2 : ¬ w.heap.size + 1 + 1 + 1 = b := by omega
            have HBW3 := Lib.hid hbw3
            clear hb1 hb2 hb3 hbw3 hinv3 hszx
            go_wp2_with (at_builtin; refine wpList_append_run rfl (.tmp 31) (.tmp 35) 23 rfl hrun2 rfl rfl ?_)
            have HO2 := Lib.hid (show l2 ++ (kq, tq) :: rput key x true (m.drop (q + 1)) = rput key x false m by rw [← heq.out, HS.out, HL2.out]; simp)
            have hob2 : (l2.length + 1) * 104 ≤ 140737488355328 := by
              have h1 := congrArg List.length (HO2.out)
              have h2 := HLEN.out
              rw [List.length_append, List.length_cons] at h1; omega
            obtain ⟨l3, A3, c3, w4, HL3, hrun3, hd1, hd2, hd3, hbw4, hinv4⟩ := pinv_next_drew (n := w3.heap.size) HI3.out HSZ.out.symm (HRW.out.keep HI3.out.2.2.2.2.1) hkz hob2
            have hs5 := hd3.cell
            have hsf := hd3.frozen
            have hsl := hd3.lt
            have HI4 := Lib.hid hinv4
            clear hd1 hd2 hd3 hbw4 hinv4
            have HO3 := Lib.hid (show l3 ++ rput key x true (m.drop (q + 1)) = rput key x false m by rw [← HO2.out, HL3.out]; simp)
            go_region_law (refine step_append_run rfl (.tmp 47) (.tmp 53) 23 rfl hrun3 rfl rfl ?_)
            all_goals
              go_wp2_with fail
              go_roundw
              case rel => first | exact ⟨q + 1, true, l3, A3, c3, by omega, rfl, by go_num, HO3, HI4.out⟩ | ((repeat apply Exists.intro); exact ⟨⟨q + 1, true, l3, A3, c3, by omega, rfl, by go_num, HO3, HI4.out⟩, rfl⟩)
              case measure => simp [intOf]; omega
          · have HS := Lib.hid (rp_CN (key := key) (x := x)  hlt hkf hke)
            have hop : Op.bytesLess m[q].1.toList key.toList = false := hkf
            have hne : (m[q].1.toList == key.toList) = false := by rw [keq_iff]; exact decide_eq_false hke
            clear hke hkl hkf
            generalize m[q].1 = kq at *
            generalize m[q].2 = tq at *
            have HO1 := Lib.hid (show out ++ (kq, tq) :: rput key x true (m.drop (q + 1)) = rput key x false m by rw [← heq.out, HS.out])
            go_wp2_with fail
            have hob2 : (out.length + 1) * 104 ≤ 140737488355328 := by
              have h1 := congrArg List.length (HO1.out)
              have h2 := HLEN.out
              rw [List.length_append, List.length_cons] at h1; omega
            obtain ⟨l3, A3, c3, w4, HL3, hrun3, hd1, hd2, hd3, hbw4, hinv4⟩ := pinv_next_drew (n := wr.heap.size) HINV.out rfl (HRW.out.keep HBW.out) hkz hob2
            have hs5 := hd3.cell
            have hsf := hd3.frozen
            have hsl := hd3.lt
            have HI4 := Lib.hid hinv4
            clear hd1 hd2 hd3 hbw4 hinv4
            have HO3 := Lib.hid (show l3 ++ rput key x true (m.drop (q + 1)) = rput key x false m by rw [← HO1.out, HL3.out]; simp)
            go_region_law (refine step_append_run rfl (.tmp 47) (.tmp 53) 23 rfl hrun3 rfl rfl ?_)
            all_goals
              go_wp2_with fail
              go_roundw
              case rel => first | exact ⟨q + 1, true, l3, A3, c3, by omega, rfl, by go_num, HO3, HI4.out⟩ | ((repeat apply Exists.intro); exact ⟨⟨q + 1, true, l3, A3, c3, by omega, rfl, by go_num, HO3, HI4.out⟩, rfl⟩)
              case measure => simp [intOf]; omega
    · obtain rfl : q = m.length := by omega
      rw [List.drop_length] at heq
      have hz0 := hinv.2.2.1.cell
      have hzf := hinv.2.2.1.frozen
      have hlz := hinv.2.2.1.lt
      cases laid
      · obtain ⟨l2, A', c', w3, HL2, hrun, -, -, hb3, -, hinv3⟩ := pinv_next (n := wr.heap.size) hinv rfl (HX.out.keep hinv.2.2.2.2.1) hk hobig
        have HE := Lib.hid (show l2 = rput key x false m by rw [HL2.out, ← heq.out]; rfl)
        have hq5 := hb3.cell
        have hqf := hb3.frozen
        have hql := hb3.lt
        have hz3 := hinv3.2.2.1.cell
        have HI3 := Lib.hid hinv3
        have hww := HI3.out.2.2.1
        have hz4 : ∀ i, w3.cell? ⟨w.heap.size + 1 + 1, i, none⟩ = (#[.int .i64 0, .bool false, .int .i64 0, .string ⟨#[]⟩, .slice none 0 0, .slice none 0 0] : Array Value)[i]? := fun i => (World.cell?_of_block (a := ⟨w.heap.size + 1 + 1, i, none⟩) (Below.heap_setCell w3 ⟨w.heap.size + 1 + 1 + 1, 5, none⟩ _ (w.heap.size + 1 + 1) (show w.heap.size + 1 + 1 ≠ w.heap.size + 1 + 1 + 1 by omega))).symm.trans (hz3 i)
        have hz5 : ∀ i, w3.frozen? ⟨w.heap.size + 1 + 1, i, none⟩ = false := fun i => (World.frozen?_of_block (a := ⟨w.heap.size + 1 + 1, i, none⟩) (Below.heap_setCell w3 ⟨w.heap.size + 1 + 1 + 1, 5, none⟩ (.slice A' l2.length c') (w.heap.size + 1 + 1) (show w.heap.size + 1 + 1 ≠ w.heap.size + 1 + 1 + 1 by omega))).symm.trans (hww.frozen i)
        clear hinv heq hb3 hinv3 hz3 hww
        go_wp2_with (at_builtin; refine wpList_append_run rfl (.tmp 59) (.tmp 63) 23 rfl hrun rfl rfl ?_)
        have hbz := HI3.out.2.2.1
        exact ret_cell rfl rfl ((((((hbz.set_ 0 _).set_ 1 _).set_ 2 _).set_ 3 _).set_ 4 _).set_ 5 _) Try.underlying25 val_size rfl ⟨_, rfl, by rw [← HE.out]; exact pinv_end HI3.out (by rw [HE.out]; have := HLEN.out; omega), set6_below (o := 0) HI3.out.2.2.2.2.1 (by omega)⟩
      · have HE := Lib.hid (show out = rput key x false m by rw [← heq.out]; simp [rput])
        have HI3 := Lib.hid hinv
        clear hinv heq
        go_wp2_with fail
        have hbz := HI3.out.2.2.1
        exact ret_cell rfl rfl ((((((hbz.set_ 0 _).set_ 1 _).set_ 2 _).set_ 3 _).set_ 4 _).set_ 5 _) Try.underlying25 val_size rfl ⟨_, rfl, by rw [← HE.out]; exact pinv_end HI3.out (by rw [HE.out]; have := HLEN.out; omega), set6_below (o := 0) HI3.out.2.2.2.2.1 (by omega)⟩

theorem rput_any (t x : T) (key : ByteArray) (v vx : Value) (w : World) (h : RepT w (fun _ => True) v t) (hx : RepT w (fun _ => True) vx x) (hk : key.size ≤ 140737488351232) (hbig : (t.map.length + 2) * 104 ≤ 140737488355328) :
    Calls Try.prog 28 #[v, .string key, vx] w (ValPost w (mkMap (rput key x false t.map))) :=
  (rput_S (fun _ => True) t x key v vx w h hx (fun _ _ _ h => h) hk hbig).mono fun _ _ ⟨u, he, hr, hb⟩ => ⟨u, he, hr.weak (fun _ _ _ => trivial), hb⟩

end Go.Proofs.Ythkkmnmejciomaa
