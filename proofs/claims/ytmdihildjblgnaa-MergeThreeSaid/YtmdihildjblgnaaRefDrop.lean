/- The reference's Drop: the walk. -/
import Derived.Test.YtmdihildjblgnaaRefPut
import Derived.Test.YtmdihildjblgnaaDelete
namespace Go.Proofs.Ytmdihildjblgnaa
open Go.RowKit
attribute [local go_sem ↓] Go.wp_at_zero Go.wp_at_succ

def DInv (w wr : World) (vb : Array Value) (k b n s ls : Value) (A : Option Addr) (c : Nat) (l : List (ByteArray × T)) : Prop :=
  Blk wr w.heap.size 25 vb ∧ Blk wr (w.heap.size + 1) 25 #[.int .i64 0, .bool false, .int .i64 0, .string ⟨#[]⟩, .slice none 0 0, .slice none 0 0] ∧ Blk wr (w.heap.size + 1 + 1) 25 #[k, b, n, s, ls, .slice A l.length c] ∧ Below w.heap.size w wr ∧ OwnE eltP wr (w.heap.size + 1 + 1 + 1) (fun b => b < w.heap.size) A c l
theorem dinv_next {w wr : World} {vb : Array Value} {k b n s ls : Value} {A : Option Addr} {c : Nat} {l : List (ByteArray × T)} {kq : ByteArray} {x : T} {c0 c1 c2 c3 c4 c5 : Value} (h : DInv w wr vb k b n s ls A c l)
    (hx : RepT wr (fun b => b < w.heap.size) (.agg #[c0, c1, c2, c3, c4, c5]) x) (hk : kq.size ≤ 140737488351232) (hbig : (l.length + 1) * 104 ≤ 140737488355328) :
    ∃ (l2 : List (ByteArray × T)) (A' : Option Addr) (c' : Nat) (w3 : World), Hid (l2 = l ++ [(kq, x)]) ∧
      (Builtin.append_ #[23, 23] 23 #[.slice A l.length c, .slice (some ⟨wr.heap.size, 0, none⟩) 1 1]).run Try.prog (wr.alloc (.cells #[.string kq, c0, c1, c2, c3, c4, c5] 43)).drew = .ok (.slice A' l2.length c') w3 ∧
      Blk w3 (w.heap.size + 1 + 1) 25 #[k, b, n, s, ls, .slice A l.length c] ∧ DInv w (w3.setCell ⟨w.heap.size + 1 + 1, 5, none⟩ (.slice A' l2.length c')) vb k b n s ls A' c' l2 := by
  obtain ⟨h1, h2, h3, hb, ho⟩ := h
  have hl := h3.lt
  obtain ⟨l2, A', c', w3, e, hr, ho3, hb3⟩ := pair_append (wr := wr.drew) (ho.keep (Below.drew (Below.refl _ _))) (hx.keep (Below.drew (Below.refl _ _))) hk hbig (show w.heap.size + 1 + 1 + 1 ≤ wr.heap.size by omega) (by omega)
  have kp : ∀ {g ty cs}, Blk wr g ty cs → g < w.heap.size + 1 + 1 + 1 → Blk w3 g ty cs := fun hh hg => hh.drew.below hb3 hg
  have hbw : Below w.heap.size w w3 := hb.drew.trans (hb3.mono (by omega))
  refine ⟨l2, A', c', w3, e, hr, kp h3 (by omega), (kp h1 (by omega)).far (show w.heap.size ≠ w.heap.size + 1 + 1 by omega) _, (kp h2 (by omega)).far (show w.heap.size + 1 ≠ w.heap.size + 1 + 1 by omega) _, (kp h3 (by omega)).set_ 5 _, hbw.setCell (show w.heap.size ≤ w.heap.size + 1 + 1 by omega) _, ?_⟩
  exact ho3.far _ (fun g hg => by have := (ho3.own g hg).1; show g ≠ w.heap.size + 1 + 1; omega) (fun hh => by have : w.heap.size + 1 + 1 < w.heap.size := hh; omega)

set_option maxRecDepth 100000 in
set_option maxHeartbeats 8000000 in
theorem rdrop (t : T) (key : ByteArray) (v : Value) (w : World) (h : RepT w (fun _ => True) v t) (hbig : (t.map.length + 1) * 104 ≤ 140737488355328) :
    Calls Try.prog 36 #[v, .string key] w (ValPost w (dropT t key)) := by
  obtain ⟨la, lc, ma, mc, rfl, hp⟩ := h.inv
  obtain ⟨hk0, hn0, hs0, hl0, hm, hlc, -, hlx, -, hL, hM⟩ := hp
  have HM := Lib.hid (hM.mono (w' := w) (S' := fun b => b < w.heap.size) (fun _ _ h => h) (fun _ _ _ _ => rfl))
  have HL := Lib.hid (hL.mono (w' := w) (S' := fun b => b < w.heap.size) (fun _ _ h => h) (fun _ _ _ _ => rfl))
  have HN := Lib.hid (show i64ok t.kind ∧ i64ok t.int ∧ t.str.size ≤ 140737488351232 from ⟨hk0, hn0, hs0⟩)
  have HDE : Hid (dropT t key = .mk t.kind t.bool t.int t.str t.list (del t.map key)) := rfl
  clear h hL hM hk0 hn0 hs0
  go_enter Try.func36, Try.ntmps36
  go_wp2_with fail
  generalize t.map = m at *
  go_loopw [6] (fun i wr => ∃ (q : Nat) (out : List (ByteArray × T)) (A : Option Addr) (c : Nat), q ≤ m.length ∧ i = .int .i64 q ∧ Hid (out = del (m.take q) key) ∧ DInv w wr #[.int .i64 t.kind, .bool t.bool, .int .i64 t.int, .string t.str, .slice la t.list.length lc, .slice ma m.length mc] (.int .i64 t.kind) (.bool t.bool) (.int .i64 t.int) (.string t.str) (.slice la t.list.length lc) A c out) (fun i _ => m.length - (intOf i).toNat)
  case atStart =>
    exact ⟨0, [], none, 0, Nat.zero_le _, rfl, by simp [Hid, del], ((Blk.new _ _ _).alloc _).alloc _, (Blk.new_at _ _ _ (by simp)).alloc _, Blk.new_at _ _ _ (by simp), (((Below.new _ _).alloc (by simp) _).alloc (by simp; omega) _), OwnE.nil⟩
  case round =>
    obtain ⟨q, out, A, c, hq, rfl, heq, hinv⟩ := hrel
    have hol : out.length ≤ m.length := by rw [heq.out]; exact Nat.le_trans (del_take_len m key q) hq
    have hob : (out.length + 1) * 104 ≤ 140737488355328 := by omega
    have HINV := Lib.hid hinv
    have hv5 := hinv.1.cell
    have ho5 := hinv.2.2.1.cell
    have hlv := hinv.1.lt
    have hlo := hinv.2.2.1.lt
    by_cases hlt : q < m.length
    · obtain ⟨b, o, la3, lc3, ma3, mc3, rfl, -, hbl, hkz, ⟨c0, c1, c2, c3, c4, c5, c6⟩, hr⟩ := (HM.out.keep hinv.2.2.2.1).at_ hlt
      have HR := Lib.hid hr
      have hi1 : (0 : Int) ≤ (q : Int) := by omega
      have hi2 : (q : Int) < (m.length : Int) := by omega
      have HDS := Lib.hid (del_take_succ (key := key) hlt)
      by_cases he : m[q].1 = key
      · have hne : (m[q].1.toList == key.toList) = true := by rw [he]; simp
        have HE : Hid (out = del (m.take (q + 1)) key) := by
          show out = _
          rw [HDS.out, if_pos he, List.append_nil]; exact heq.out
        clear he hinv hr HDS
        generalize m[q].1 = kq at *
        generalize m[q].2 = tq at *
        go_wp2_with fail
        go_roundw
        case rel => first | exact ⟨q + 1, out, A, c, by omega, by go_num, HE, HINV.out⟩ | ((repeat apply Exists.intro); exact ⟨⟨q + 1, out, A, c, by omega, by go_num, HE, HINV.out⟩, rfl⟩)
        case measure => simp [intOf]; omega
      · have hne : (m[q].1.toList == key.toList) = false := by rw [keq_iff]; exact decide_eq_false he
        have HE := Lib.hid (show ∀ l2, l2 = out ++ [(m[q].1, m[q].2)] → l2 = del (m.take (q + 1)) key from fun l2 e => by rw [e, HDS.out, if_neg he, heq.out])
        clear he hinv hr HDS
        generalize m[q].1 = kq at *
        generalize m[q].2 = tq at *
        obtain ⟨l2, A2, c2, w3, HL2, hrun, hb3, hinv3⟩ := dinv_next HINV.out HR.out hkz hob
        have hq5 := hb3.cell
        have hqf := hb3.frozen
        have hql := hb3.lt
        have HI3 := Lib.hid hinv3
        clear hb3 hinv3
        go_wp2_with fail
        go_region_law (refine step_append_run rfl (.tmp 25) (.tmp 31) 23 rfl hrun rfl rfl ?_)
        all_goals
          go_wp2_with fail
          go_roundw
          case rel => first | exact ⟨q + 1, l2, A2, c2, by omega, by go_num, HE.out _ HL2.out, HI3.out⟩ | ((repeat apply Exists.intro); exact ⟨⟨q + 1, l2, A2, c2, by omega, by go_num, HE.out _ HL2.out, HI3.out⟩, rfl⟩)
          case measure => simp [intOf]; omega
    · obtain rfl : q = m.length := by omega
      have HE := Lib.hid (show out = del m key by have e := heq.out; rw [List.take_length] at e; exact e)
      have hz0 := hinv.2.1.cell
      have hzf := hinv.2.1.frozen
      have hzl := hinv.2.1.lt
      clear hinv heq
      go_wp2_with fail
      have hbz := HINV.out.2.1
      refine ret_cell rfl rfl ((((((hbz.set_ 0 _).set_ 1 _).set_ 2 _).set_ 3 _).set_ 4 _).set_ 5 _) Try.underlying25 val_size rfl ⟨_, rfl, ?_, set6_below (o := 0) HINV.out.2.2.2.1 (by omega)⟩
      rw [HDE.out, ← HE.out]
      have hlen := HINV.out.2.2.2.2.len
      refine RepT.of (t := .mk t.kind t.bool t.int t.str t.list out) ⟨HN.out.1, HN.out.2.1, HN.out.2.2, hl0, show out.length * 104 ≤ _ by omega, hlc, hlen.1, hlx, hlen.2, ?_, ?_⟩
      · exact (HL.out.keep HINV.out.2.2.2.1).mono (fun _ _ _ => trivial) (fun b o (hb : b < w.heap.size) _ => World.cell?_of_block (w := wr) (set6_heap (o := 0) (show b ≠ w.heap.size + 1 by omega)))
      · exact RepM.mono (w := wr) (repE_M.1 HINV.out.2.2.2.2.rep) (fun _ _ _ => trivial) (fun b o (h : b < w.heap.size ∨ w.heap.size + 1 + 1 + 1 ≤ b) hlt => World.cell?_of_block (w := wr) (set6_heap (o := 0) (show b ≠ w.heap.size + 1 by omega)))

end Go.Proofs.Ytmdihildjblgnaa
