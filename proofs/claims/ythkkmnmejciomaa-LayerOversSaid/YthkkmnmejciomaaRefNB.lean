/- Several texts as one. -/
import Derived.Test.YthkkmnmejciomaaRefDrop
import Derived.Test.YthkkmnmejciomaaPath
/- The reference's Get, Put and Drop, with the blocks that their results lie in: those that what comes in lies in, or new ones. -/
namespace Go.Proofs.Ythkkmnmejciomaa
open Go.RowKit
attribute [local go_sem ↓] Go.wp_at_zero Go.wp_at_succ

def GotRS (S : Nat → Prop) (w : World) (b : Bool) (x : T) (e : Ending) (w' : World) : Prop := ∃ v, e = .returned (.tuple #[v, .bool b]) ∧ RepT w' S v x ∧ Below w.heap.size w w'

set_option maxRecDepth 100000 in
set_option maxHeartbeats 2000000 in
theorem rget_N (S : Nat → Prop) (t : T) (key : ByteArray) (v : Value) (w : World) (h : RepT w S v t) : Calls Try.prog 27 #[v, .string key] w (GotRS S w (look t.map key).isSome ((look t.map key).getD T.zero)) := by
  obtain ⟨la, lc, ma, mc, rfl, hp⟩ := h.inv
  obtain ⟨-, -, -, -, hm, -, -, -, -, -, hM⟩ := hp
  clear h
  go_enter Try.func27, Try.ntmps27
  go_wp2_with fail
  have hB1 : Blk ((w.alloc (.cells #[.int .i64 t.kind, .bool t.bool, .int .i64 t.int, .string t.str, .slice la t.list.length lc, .slice ma t.map.length mc] 25)).alloc (.cells #[.int .i64 0, .bool false, .int .i64 0, .string ⟨#[]⟩, .slice none 0 0, .slice none 0 0] 25)) w.heap.size 25 #[.int .i64 t.kind, .bool t.bool, .int .i64 t.int, .string t.str, .slice la t.list.length lc, .slice ma t.map.length mc] := (Blk.new _ _ _).alloc _
  have hB2 : Blk ((w.alloc (.cells #[.int .i64 t.kind, .bool t.bool, .int .i64 t.int, .string t.str, .slice la t.list.length lc, .slice ma t.map.length mc] 25)).alloc (.cells #[.int .i64 0, .bool false, .int .i64 0, .string ⟨#[]⟩, .slice none 0 0, .slice none 0 0] 25)) (w.heap.size + 1) 25 #[.int .i64 0, .bool false, .int .i64 0, .string ⟨#[]⟩, .slice none 0 0, .slice none 0 0] := Blk.new_at _ _ _ (by simp)
  have hBW : Below w.heap.size w ((w.alloc (.cells #[.int .i64 t.kind, .bool t.bool, .int .i64 t.int, .string t.str, .slice la t.list.length lc, .slice ma t.map.length mc] 25)).alloc (.cells #[.int .i64 0, .bool false, .int .i64 0, .string ⟨#[]⟩, .slice none 0 0, .slice none 0 0] 25)) := (Below.new _ _).alloc (by simp) _
  generalize ((w.alloc (.cells #[.int .i64 t.kind, .bool t.bool, .int .i64 t.int, .string t.str, .slice la t.list.length lc, .slice ma t.map.length mc] 25)).alloc (.cells #[.int .i64 0, .bool false, .int .i64 0, .string ⟨#[]⟩, .slice none 0 0, .slice none 0 0] 25)) = W0 at hB1 hB2 hBW ⊢
  have HM := Lib.hid ((hM.mono (w' := w) (S' := fun b => S b ∧ b < w.heap.size) (fun _ h1 h => ⟨h1, h⟩) (fun _ _ _ _ => rfl)).keep hBW)
  have HB2 := Lib.hid hB2
  have HBW := Lib.hid hBW
  have hk1 := hB1.cell
  have hk2 := hB2.cell
  have hf2 := hB2.frozen
  have hl1 := hB1.lt
  have hl2 := hB2.lt
  clear hM hB1 hB2 hBW
  generalize t.map = m at *
  go_loop [6] (fun i => ∃ q : Nat, q ≤ m.length ∧ i = .int .i64 q ∧ Hid (∀ j (hj : j < m.length), j < q → m[j].1 ≠ key)) (fun i => m.length - (intOf i).toNat)
  case atStart => exact ⟨0, Nat.zero_le _, rfl, fun j _ h => by omega⟩
  case round =>
    obtain ⟨q, hq, rfl, hall⟩ := hrel
    by_cases hlt : q < m.length
    · obtain ⟨b, o, la1, lc1, ma1, mc1, rfl, -, hbl, -, ⟨c0, c1, c2, c3, c4, c5, c6⟩, hr⟩ := HM.out.at_ hlt
      by_cases he : m[q].1 = key
      · have hke : (m[q].1.toList == key.toList) = true := by rw [he]; simp
        have HL := Lib.hid (look_first hlt he hall.out)
        have HR := Lib.hid hr
        clear he hall hr
        generalize m[q].1 = kq at *
        generalize m[q].2 = tq at *
        go_wp2_with fail
        refine ret_cell2 rfl rfl rfl ((((((HB2.out.set_ 0 _).set_ 1 _).set_ 2 _).set_ 3 _).set_ 4 _).set_ 5 _) Try.underlying25 val_size rfl ⟨_, by rw [HL.out]; rfl, ?_, set6_below (o := 0) HBW.out (by omega)⟩
        rw [HL.out]
        exact HR.out.mono (fun _ h _ => h.1) (fun b o (hb : S b ∧ b < w.heap.size) _ => World.cell?_of_block (w := W0) (set6_heap (o := 0) (show b ≠ w.heap.size + 1 by have := hb.2; omega)))
      · have hke : (m[q].1.toList == key.toList) = false := by rw [keq_iff]; exact decide_eq_false he
        have HN : Hid (∀ j (hj : j < m.length), j < q + 1 → m[j].1 ≠ key) := fun j hj h2 => by
          rcases Nat.lt_or_ge j q with h3 | h3
          · exact hall.out j hj h3
          · obtain rfl : j = q := by omega
            exact he
        clear he hall hr
        generalize m[q].1 = kq at *
        go_wp2_with fail
        go_round
        case rel => exact ⟨q + 1, by omega, by go_num, HN⟩
        case measure => simp [intOf]; omega
    · obtain rfl : q = m.length := by omega
      have HL : Hid (look m key = none) := look_not (fun p hp => by
        obtain ⟨i, hi, rfl⟩ := List.getElem_of_mem hp
        exact hall.out i hi hi)
      clear hall
      go_wp2_with fail
      exact ret_cell2 rfl rfl rfl ((((((HB2.out.set_ 0 _).set_ 1 _).set_ 2 _).set_ 3 _).set_ 4 _).set_ 5 _) Try.underlying25 val_size rfl ⟨_, by rw [HL.out]; rfl, by rw [HL.out]; exact rep_zero _ _, set6_below (o := 0) HBW.out (by omega)⟩


set_option maxRecDepth 100000 in
set_option maxHeartbeats 8000000 in
theorem rput_N (S : Nat → Prop) (t x : T) (key : ByteArray) (v vx : Value) (w : World) (h : RepT w S v t) (hx : RepT w S vx x) (hk : key.size ≤ 140737488351232) (hbig : (t.map.length + 2) * 104 ≤ 140737488355328) :
    Calls Try.prog 28 #[v, .string key, vx] w (ValPostS S w (mkMap (rput key x false t.map))) := by
  obtain ⟨la, lc, ma, mc, rfl, hp⟩ := h.inv
  obtain ⟨-, -, -, -, hm, -, -, -, -, -, hM⟩ := hp
  obtain ⟨la2, lc2, ma2, mc2, rfl, -⟩ := hx.inv
  have HX := Lib.hid (hx.mono (w' := w) (S' := fun b => S b ∧ b < w.heap.size) (fun _ h h2 => ⟨h, h2⟩) (fun _ _ _ _ => rfl))
  have HM := Lib.hid (hM.mono (w' := w) (S' := fun b => S b ∧ b < w.heap.size) (fun _ h h2 => ⟨h, h2⟩) (fun _ _ _ _ => rfl))
  have HLEN := Lib.hid (rput_len key x false t.map)
  clear h hx hM
  go_enter Try.func28, Try.ntmps28
  go_wp2_with fail
  generalize t.map = m at *
  go_loopw [8, 9] (fun lb i wr => ∃ (q : Nat) (laid : Bool) (out : List (ByteArray × T)) (A : Option Addr) (c : Nat), q ≤ m.length ∧ lb = .bool laid ∧ i = .int .i64 q ∧ Hid (out ++ rput key x laid (m.drop q) = rput key x false m) ∧ PInv S w wr #[.int .i64 t.kind, .bool t.bool, .int .i64 t.int, .string t.str, .slice la t.list.length lc, .slice ma m.length mc] #[.int .i64 x.kind, .bool x.bool, .int .i64 x.int, .string x.str, .slice la2 x.list.length lc2, .slice ma2 x.map.length mc2] A c out) (fun _ i _ => m.length - (intOf i).toNat)
  case atStart =>
    exact ⟨0, false, [], none, 0, Nat.zero_le _, rfl, rfl, by simp [Hid], ((Blk.new _ _ _).alloc _ |>.alloc _).alloc _, ((Blk.new_at _ _ _ (by simp)).alloc _).alloc _, (Blk.new_at _ _ _ (by simp)).alloc _, Blk.new_at _ _ _ (by simp), ((((Below.new _ _).alloc (by simp) _).alloc (by simp; omega) _).alloc (by simp; omega) _), OwnE.nil⟩
  case round =>
    obtain ⟨q, laid, out, A, c, hq, rfl, rfl, heq, hinv⟩ := hrel
    have hol : out.length ≤ m.length + 1 := by
      have := congrArg List.length heq.out
      rw [List.length_append] at this
      have := HLEN.out
      omega
    have hobig : (out.length + 1) * 104 ≤ 140737488355328 := by omega
    have HINV := Lib.hid hinv
    have hv5 := hinv.1.cell
    have hx5 := hinv.2.1.cell
    have ho5 := hinv.2.2.2.1.cell
    have hlv := hinv.1.lt
    have hlx := hinv.2.1.lt
    have hlo := hinv.2.2.2.1.lt
    by_cases hlt : q < m.length
    · obtain ⟨b, o, la3, lc3, ma3, mc3, rfl, -, hbl, hkz, ⟨c0, c1, c2, c3, c4, c5, c6⟩, hr0⟩ := HM.out.at_ hlt
      have hr := hr0
      clear hr0
      have HCW := Lib.hid (show True ∧ True from ⟨trivial, trivial⟩)
      have hbw := hinv.2.2.2.2.1
      have e0 := (hbw.cell (p := ⟨b, o + q * 7, none⟩) hbl).trans c0
      have e1 := (hbw.cell (p := ⟨b, o + q * 7 + 1, none⟩) hbl).trans c1
      have e2 := (hbw.cell (p := ⟨b, o + q * 7 + 2, none⟩) hbl).trans c2
      have e3 := (hbw.cell (p := ⟨b, o + q * 7 + 3, none⟩) hbl).trans c3
      have e4 := (hbw.cell (p := ⟨b, o + q * 7 + 4, none⟩) hbl).trans c4
      have e5 := (hbw.cell (p := ⟨b, o + q * 7 + 5, none⟩) hbl).trans c5
      have e6 := (hbw.cell (p := ⟨b, o + q * 7 + 6, none⟩) hbl).trans c6
      have C0 := Lib.hid c0
      have C1 := Lib.hid c1
      have C2 := Lib.hid c2
      have C3 := Lib.hid c3
      have C4 := Lib.hid c4
      have C5 := Lib.hid c5
      have C6 := Lib.hid c6
      clear HCW c0 c1 c2 c3 c4 c5 c6
      have HR := Lib.hid (hr.keep hbw)
      have HRW := Lib.hid hr
      have HXR := Lib.hid (HX.out.keep hinv.2.2.2.2.1)
      have hi1 : (0 : Int) ≤ (q : Int) := by omega
      have hi2 : (q : Int) < (m.length : Int) := by omega
      have HBW := Lib.hid hbw
      have hbl1 : b < wr.heap.size := Nat.lt_of_lt_of_le hbl hbw.size
      clear hinv hr hbw
      by_cases hkl : klt m[q].1 key = true
      · have HS := Lib.hid (rp_A (key := key) (x := x) (laid := laid) hlt hkl)
        have hop : Op.bytesLess m[q].1.toList key.toList = true := hkl
        have hke : m[q].1 ≠ key := klt_ne hkl
        have hne : (m[q].1.toList == key.toList) = false := by rw [keq_iff]; exact decide_eq_false hke
        clear hke hkl
        generalize m[q].1 = kq at *
        generalize m[q].2 = tq at *
        have HO1 := Lib.hid (show out ++ (kq, tq) :: rput key x laid (m.drop (q + 1)) = rput key x false m by rw [← heq.out, HS.out])
        go_wp2_with fail
        have hob2 : (out.length + 1) * 104 ≤ 140737488355328 := by
          have h1 := congrArg List.length (HO1.out)
          have h2 := HLEN.out
          rw [List.length_append, List.length_cons] at h1; omega
        obtain ⟨l3, A3, c3, w4, HL3, hrun3, hd1, hd2, hd3, hbw4, hinv4⟩ := pinv_next_drew (n := wr.heap.size) HINV.out rfl (HRW.out.keep HBW.out) hkz hob2
        have hs5 := hd3.cell
        have hsf := hd3.frozen
        have hsl := hd3.lt
        have HI4 := Lib.hid hinv4
        clear hd1 hd2 hd3 hbw4 hinv4
        have HO3 := Lib.hid (show l3 ++ rput key x laid (m.drop (q + 1)) = rput key x false m by rw [← HO1.out, HL3.out]; simp)
        go_region_law (refine step_append_run rfl (.tmp 47) (.tmp 53) 23 rfl hrun3 rfl rfl ?_)
        all_goals
          go_wp2_with fail
          go_roundw
          case rel => first | exact ⟨q + 1, laid, l3, A3, c3, by omega, rfl, by go_num, HO3, HI4.out⟩ | ((repeat apply Exists.intro); exact ⟨⟨q + 1, laid, l3, A3, c3, by omega, rfl, by go_num, HO3, HI4.out⟩, rfl⟩)
          case measure => simp [intOf]; omega
      · have hkf : klt m[q].1 key = false := by simpa using hkl
        by_cases hke : m[q].1 = key
        · cases laid
          · have HS := Lib.hid (rp_BE (key := key) (x := x)  hlt hkf hke)
            have hop : Op.bytesLess m[q].1.toList key.toList = false := hkf
            have hne : (m[q].1.toList == key.toList) = true := by rw [hke]; simp
            clear hke hkl hkf
            generalize m[q].1 = kq at *
            generalize m[q].2 = tq at *
            obtain ⟨l2, A2, c2, w3, HL2, hrun2, hb1, hb2, hb3, hbw3, hinv3⟩ := pinv_next HINV.out rfl HXR.out hk hobig
            have hq5 := hb3.cell
            have hqf := hb3.frozen
            have hql := hb3.lt
            have HI3 := Lib.hid hinv3
            have vb5 := hb1.cell
            have vbl := hb1.lt
            have hszx : (w3.setCell ⟨w.heap.size + 1 + 1 + 1, 5, none⟩ (.slice A2 l2.length c2)).heap.size = w3.heap.size := by simp [World.setCell]
            have HSZ := Lib.hid hszx
            have f0 := (hbw3.cell (p := ⟨b, o + q * 7, none⟩) hbl).trans C0.out
            have f1 := (hbw3.cell (p := ⟨b, o + q * 7 + 1, none⟩) hbl).trans C1.out
            have f2 := (hbw3.cell (p := ⟨b, o + q * 7 + 2, none⟩) hbl).trans C2.out
            have f3 := (hbw3.cell (p := ⟨b, o + q * 7 + 3, none⟩) hbl).trans C3.out
            have f4 := (hbw3.cell (p := ⟨b, o + q * 7 + 4, none⟩) hbl).trans C4.out
            have f5 := (hbw3.cell (p := ⟨b, o + q * 7 + 5, none⟩) hbl).trans C5.out
            have f6 := (hbw3.cell (p := ⟨b, o + q * 7 + 6, none⟩) hbl).trans C6.out
            have hbl3 : b < w3.heap.size := Nat.lt_of_lt_of_le hbl hbw3.size
            have hnb : ¬ b = w.heap.size + 1 + 1 + 1 := by omega
            have hnb2 : ¬ w.heap.size + 1 + 1 + 1 = b := by omega
            have HBW3 := Lib.hid hbw3
            clear hb1 hb2 hb3 hbw3 hinv3 hszx
            go_wp2_with (at_builtin; refine wpList_append_run rfl (.tmp 31) (.tmp 35) 23 rfl hrun2 rfl rfl ?_)
            have HO2 := Lib.hid (show l2 ++ rput key x true (m.drop (q + 1)) = rput key x false m by rw [← heq.out, HS.out, HL2.out]; simp)
            go_roundw
            case rel => first | exact ⟨q + 1, true, l2, A2, c2, by omega, rfl, by go_num, HO2, HI3.out⟩ | ((repeat apply Exists.intro); exact ⟨⟨q + 1, true, l2, A2, c2, by omega, rfl, by go_num, HO2, HI3.out⟩, rfl⟩)
            case measure => simp [intOf]; omega
          · have HS := Lib.hid (rp_CE (key := key) (x := x)  hlt hkf hke)
            have hop : Op.bytesLess m[q].1.toList key.toList = false := hkf
            have hne : (m[q].1.toList == key.toList) = true := by rw [hke]; simp
            clear hke hkl hkf
            generalize m[q].1 = kq at *
            generalize m[q].2 = tq at *
            have HO1 := Lib.hid (show out ++ rput key x true (m.drop (q + 1)) = rput key x false m by rw [← heq.out, HS.out])
            go_wp2_with fail
            go_roundw
            case rel => first | exact ⟨q + 1, true, out, A, c, by omega, rfl, by go_num, HO1, HINV.out⟩ | ((repeat apply Exists.intro); exact ⟨⟨q + 1, true, out, A, c, by omega, rfl, by go_num, HO1, HINV.out⟩, rfl⟩)
            case measure => simp [intOf]; omega
        · cases laid
          · have HS := Lib.hid (rp_BN (key := key) (x := x)  hlt hkf hke)
            have hop : Op.bytesLess m[q].1.toList key.toList = false := hkf
            have hne : (m[q].1.toList == key.toList) = false := by rw [keq_iff]; exact decide_eq_false hke
            clear hke hkl hkf
            generalize m[q].1 = kq at *
            generalize m[q].2 = tq at *
            obtain ⟨l2, A2, c2, w3, HL2, hrun2, hb1, hb2, hb3, hbw3, hinv3⟩ := pinv_next HINV.out rfl HXR.out hk hobig
            have hq5 := hb3.cell
            have hqf := hb3.frozen
            have hql := hb3.lt
            have HI3 := Lib.hid hinv3
            have vb5 := hb1.cell
            have vbl := hb1.lt
            have hszx : (w3.setCell ⟨w.heap.size + 1 + 1 + 1, 5, none⟩ (.slice A2 l2.length c2)).heap.size = w3.heap.size := by simp [World.setCell]
            have HSZ := Lib.hid hszx
            have f0 := (hbw3.cell (p := ⟨b, o + q * 7, none⟩) hbl).trans C0.out
            have f1 := (hbw3.cell (p := ⟨b, o + q * 7 + 1, none⟩) hbl).trans C1.out
            have f2 := (hbw3.cell (p := ⟨b, o + q * 7 + 2, none⟩) hbl).trans C2.out
            have f3 := (hbw3.cell (p := ⟨b, o + q * 7 + 3, none⟩) hbl).trans C3.out
            have f4 := (hbw3.cell (p := ⟨b, o + q * 7 + 4, none⟩) hbl).trans C4.out
            have f5 := (hbw3.cell (p := ⟨b, o + q * 7 + 5, none⟩) hbl).trans C5.out
            have f6 := (hbw3.cell (p := ⟨b, o + q * 7 + 6, none⟩) hbl).trans C6.out
            have hbl3 : b < w3.heap.size := Nat.lt_of_lt_of_le hbl hbw3.size
            have hnb : ¬ b = w.heap.size + 1 + 1 + 1 := by omega
            have hnb2 : ¬ w.heap.size + 1 + 1 + 1 = b := by omega
            have HBW3 := Lib.hid hbw3
            clear hb1 hb2 hb3 hbw3 hinv3 hszx
            go_wp2_with (at_builtin; refine wpList_append_run rfl (.tmp 31) (.tmp 35) 23 rfl hrun2 rfl rfl ?_)
            have HO2 := Lib.hid (show l2 ++ (kq, tq) :: rput key x true (m.drop (q + 1)) = rput key x false m by rw [← heq.out, HS.out, HL2.out]; simp)
            have hob2 : (l2.length + 1) * 104 ≤ 140737488355328 := by
              have h1 := congrArg List.length (HO2.out)
              have h2 := HLEN.out
              rw [List.length_append, List.length_cons] at h1; omega
            obtain ⟨l3, A3, c3, w4, HL3, hrun3, hd1, hd2, hd3, hbw4, hinv4⟩ := pinv_next_drew (n := w3.heap.size) HI3.out HSZ.out.symm (HRW.out.keep HI3.out.2.2.2.2.1) hkz hob2
            have hs5 := hd3.cell
            have hsf := hd3.frozen
            have hsl := hd3.lt
            have HI4 := Lib.hid hinv4
            clear hd1 hd2 hd3 hbw4 hinv4
            have HO3 := Lib.hid (show l3 ++ rput key x true (m.drop (q + 1)) = rput key x false m by rw [← HO2.out, HL3.out]; simp)
            go_region_law (refine step_append_run rfl (.tmp 47) (.tmp 53) 23 rfl hrun3 rfl rfl ?_)
            all_goals
              go_wp2_with fail
              go_roundw
              case rel => first | exact ⟨q + 1, true, l3, A3, c3, by omega, rfl, by go_num, HO3, HI4.out⟩ | ((repeat apply Exists.intro); exact ⟨⟨q + 1, true, l3, A3, c3, by omega, rfl, by go_num, HO3, HI4.out⟩, rfl⟩)
              case measure => simp [intOf]; omega
          · have HS := Lib.hid (rp_CN (key := key) (x := x)  hlt hkf hke)
            have hop : Op.bytesLess m[q].1.toList key.toList = false := hkf
            have hne : (m[q].1.toList == key.toList) = false := by rw [keq_iff]; exact decide_eq_false hke
            clear hke hkl hkf
            generalize m[q].1 = kq at *
            generalize m[q].2 = tq at *
            have HO1 := Lib.hid (show out ++ (kq, tq) :: rput key x true (m.drop (q + 1)) = rput key x false m by rw [← heq.out, HS.out])
            go_wp2_with fail
            have hob2 : (out.length + 1) * 104 ≤ 140737488355328 := by
              have h1 := congrArg List.length (HO1.out)
              have h2 := HLEN.out
              rw [List.length_append, List.length_cons] at h1; omega
            obtain ⟨l3, A3, c3, w4, HL3, hrun3, hd1, hd2, hd3, hbw4, hinv4⟩ := pinv_next_drew (n := wr.heap.size) HINV.out rfl (HRW.out.keep HBW.out) hkz hob2
            have hs5 := hd3.cell
            have hsf := hd3.frozen
            have hsl := hd3.lt
            have HI4 := Lib.hid hinv4
            clear hd1 hd2 hd3 hbw4 hinv4
            have HO3 := Lib.hid (show l3 ++ rput key x true (m.drop (q + 1)) = rput key x false m by rw [← HO1.out, HL3.out]; simp)
            go_region_law (refine step_append_run rfl (.tmp 47) (.tmp 53) 23 rfl hrun3 rfl rfl ?_)
            all_goals
              go_wp2_with fail
              go_roundw
              case rel => first | exact ⟨q + 1, true, l3, A3, c3, by omega, rfl, by go_num, HO3, HI4.out⟩ | ((repeat apply Exists.intro); exact ⟨⟨q + 1, true, l3, A3, c3, by omega, rfl, by go_num, HO3, HI4.out⟩, rfl⟩)
              case measure => simp [intOf]; omega
    · obtain rfl : q = m.length := by omega
      rw [List.drop_length] at heq
      have hz0 := hinv.2.2.1.cell
      have hzf := hinv.2.2.1.frozen
      have hlz := hinv.2.2.1.lt
      cases laid
      · obtain ⟨l2, A', c', w3, HL2, hrun, -, -, hb3, -, hinv3⟩ := pinv_next (n := wr.heap.size) hinv rfl (HX.out.keep hinv.2.2.2.2.1) hk hobig
        have HE := Lib.hid (show l2 = rput key x false m by rw [HL2.out, ← heq.out]; rfl)
        have hq5 := hb3.cell
        have hqf := hb3.frozen
        have hql := hb3.lt
        have hz3 := hinv3.2.2.1.cell
        have HI3 := Lib.hid hinv3
        have hww := HI3.out.2.2.1
        have hz4 : ∀ i, w3.cell? ⟨w.heap.size + 1 + 1, i, none⟩ = (#[.int .i64 0, .bool false, .int .i64 0, .string ⟨#[]⟩, .slice none 0 0, .slice none 0 0] : Array Value)[i]? := fun i => (World.cell?_of_block (a := ⟨w.heap.size + 1 + 1, i, none⟩) (Below.heap_setCell w3 ⟨w.heap.size + 1 + 1 + 1, 5, none⟩ _ (w.heap.size + 1 + 1) (show w.heap.size + 1 + 1 ≠ w.heap.size + 1 + 1 + 1 by omega))).symm.trans (hz3 i)
        have hz5 : ∀ i, w3.frozen? ⟨w.heap.size + 1 + 1, i, none⟩ = false := fun i => (World.frozen?_of_block (a := ⟨w.heap.size + 1 + 1, i, none⟩) (Below.heap_setCell w3 ⟨w.heap.size + 1 + 1 + 1, 5, none⟩ (.slice A' l2.length c') (w.heap.size + 1 + 1) (show w.heap.size + 1 + 1 ≠ w.heap.size + 1 + 1 + 1 by omega))).symm.trans (hww.frozen i)
        clear hinv heq hb3 hinv3 hz3 hww
        go_wp2_with (at_builtin; refine wpList_append_run rfl (.tmp 59) (.tmp 63) 23 rfl hrun rfl rfl ?_)
        have hbz := HI3.out.2.2.1
        exact ret_cell rfl rfl ((((((hbz.set_ 0 _).set_ 1 _).set_ 2 _).set_ 3 _).set_ 4 _).set_ 5 _) Try.underlying25 val_size rfl ⟨_, rfl, by rw [← HE.out]; exact pinv_end HI3.out (by rw [HE.out]; have := HLEN.out; omega), set6_below (o := 0) HI3.out.2.2.2.2.1 (by omega)⟩
      · have HE := Lib.hid (show out = rput key x false m by rw [← heq.out]; simp [rput])
        have HI3 := Lib.hid hinv
        clear hinv heq
        go_wp2_with fail
        have hbz := HI3.out.2.2.1
        exact ret_cell rfl rfl ((((((hbz.set_ 0 _).set_ 1 _).set_ 2 _).set_ 3 _).set_ 4 _).set_ 5 _) Try.underlying25 val_size rfl ⟨_, rfl, by rw [← HE.out]; exact pinv_end HI3.out (by rw [HE.out]; have := HLEN.out; omega), set6_below (o := 0) HI3.out.2.2.2.2.1 (by omega)⟩


def DNv (S : Nat → Prop) (w wr : World) (vb : Array Value) (k b n s ls : Value) (A : Option Addr) (c : Nat) (l : List (ByteArray × T)) : Prop :=
  Blk wr w.heap.size 25 vb ∧ Blk wr (w.heap.size + 1) 25 #[.int .i64 0, .bool false, .int .i64 0, .string ⟨#[]⟩, .slice none 0 0, .slice none 0 0] ∧ Blk wr (w.heap.size + 1 + 1) 25 #[k, b, n, s, ls, .slice A l.length c] ∧ Below w.heap.size w wr ∧ OwnE eltP wr (w.heap.size + 1 + 1 + 1) (fun b => S b ∧ b < w.heap.size) A c l
theorem dnv_next {S : Nat → Prop} {w wr : World} {vb : Array Value} {k b n s ls : Value} {A : Option Addr} {c : Nat} {l : List (ByteArray × T)} {kq : ByteArray} {x : T} {c0 c1 c2 c3 c4 c5 : Value} (h : DNv S w wr vb k b n s ls A c l)
    (hx : RepT wr (fun b => S b ∧ b < w.heap.size) (.agg #[c0, c1, c2, c3, c4, c5]) x) (hk : kq.size ≤ 140737488351232) (hbig : (l.length + 1) * 104 ≤ 140737488355328) :
    ∃ (l2 : List (ByteArray × T)) (A' : Option Addr) (c' : Nat) (w3 : World), Hid (l2 = l ++ [(kq, x)]) ∧
      (Builtin.append_ #[23, 23] 23 #[.slice A l.length c, .slice (some ⟨wr.heap.size, 0, none⟩) 1 1]).run Try.prog (wr.alloc (.cells #[.string kq, c0, c1, c2, c3, c4, c5] 38)).drew = .ok (.slice A' l2.length c') w3 ∧
      Blk w3 (w.heap.size + 1 + 1) 25 #[k, b, n, s, ls, .slice A l.length c] ∧ DNv S w (w3.setCell ⟨w.heap.size + 1 + 1, 5, none⟩ (.slice A' l2.length c')) vb k b n s ls A' c' l2 := by
  obtain ⟨h1, h2, h3, hb, ho⟩ := h
  have hl := h3.lt
  obtain ⟨l2, A', c', w3, e, hr, ho3, hb3⟩ := pair_append_S (wr := wr.drew) (ho.keep (Below.drew (Below.refl _ _))) (hx.keep (Below.drew (Below.refl _ _))) hk hbig (show w.heap.size + 1 + 1 + 1 ≤ wr.heap.size by omega) (by omega)
  have kp : ∀ {g ty cs}, Blk wr g ty cs → g < w.heap.size + 1 + 1 + 1 → Blk w3 g ty cs := fun hh hg => hh.drew.below hb3 hg
  have hbw : Below w.heap.size w w3 := hb.drew.trans (hb3.mono (by omega))
  refine ⟨l2, A', c', w3, e, hr, kp h3 (by omega), (kp h1 (by omega)).far (show w.heap.size ≠ w.heap.size + 1 + 1 by omega) _, (kp h2 (by omega)).far (show w.heap.size + 1 ≠ w.heap.size + 1 + 1 by omega) _, (kp h3 (by omega)).set_ 5 _, hbw.setCell (show w.heap.size ≤ w.heap.size + 1 + 1 by omega) _, ?_⟩
  exact ho3.far _ (fun g hg => by have := (ho3.own g hg).1; show g ≠ w.heap.size + 1 + 1; omega) (fun hh => by have : w.heap.size + 1 + 1 < w.heap.size := hh.2; omega)

end Go.Proofs.Ythkkmnmejciomaa

/- The reference of paths: Get, Put, Drop, Prune. -/
namespace Go.Proofs.Ythkkmnmejciomaa
open Go.RowKit
attribute [local go_sem ↓] Go.wp_at_zero Go.wp_at_succ

/-- A value in a box that was made in a region: it lies in blocks of S or in new ones. -/
structure BoxedS (S : Nat → Prop) (W0 W' : World) (g : Nat) (x : T) (la : Option Addr) (lc : Nat) (ma : Option Addr) (mc : Nat) : Prop where
  bel : Below W0.heap.size W0 W'
  low : W0.heap.size ≤ g
  box : Blk W' g 25 #[.int .i64 x.kind, .bool x.bool, .int .i64 x.int, .string x.str, .slice la x.list.length lc, .slice ma x.map.length mc]
  rep : RepT W' (fun b => S b ∨ (W0.heap.size ≤ b ∧ b ≠ g)) (.agg #[.int .i64 x.kind, .bool x.bool, .int .i64 x.int, .string x.str, .slice la x.list.length lc, .slice ma x.map.length mc]) x
/-- The same, where it lies in blocks of S alone. -/
structure BoxedO (S : Nat → Prop) (W0 W' : World) (g : Nat) (x : T) (la : Option Addr) (lc : Nat) (ma : Option Addr) (mc : Nat) : Prop where
  bel : Below W0.heap.size W0 W'
  low : W0.heap.size ≤ g
  box : Blk W' g 25 #[.int .i64 x.kind, .bool x.bool, .int .i64 x.int, .string x.str, .slice la x.list.length lc, .slice ma x.map.length mc]
  rep : RepT W' S (.agg #[.int .i64 x.kind, .bool x.bool, .int .i64 x.int, .string x.str, .slice la x.list.length lc, .slice ma x.map.length mc]) x
section
variable {S : Nat → Prop} {w W0 Wc w1 w3 : World} {x : T} {la : Option Addr} {lc : Nat} {ma : Option Addr} {mc : Nat}
theorem BoxedS.ahead (hS : ∀ b, S b → b < W0.heap.size) (hb : Below (W0.alloc (.cells #[.int .i64 0, .bool false, .int .i64 0, .string ⟨#[]⟩, .slice none 0 0, .slice none 0 0] 25)).drew.heap.size (W0.alloc (.cells #[.int .i64 0, .bool false, .int .i64 0, .string ⟨#[]⟩, .slice none 0 0, .slice none 0 0] 25)).drew w1) (hr : RepT w1 (fun b => S b ∨ (W0.alloc (.cells #[.int .i64 0, .bool false, .int .i64 0, .string ⟨#[]⟩, .slice none 0 0, .slice none 0 0] 25)).drew.heap.size ≤ b) (.agg #[.int .i64 x.kind, .bool x.bool, .int .i64 x.int, .string x.str, .slice la x.list.length lc, .slice ma x.map.length mc]) x) :
    BoxedS S W0 (set6 w1 W0.heap.size 0 (.int .i64 x.kind) (.bool x.bool) (.int .i64 x.int) (.string x.str) (.slice la x.list.length lc) (.slice ma x.map.length mc)) W0.heap.size x la lc ma mc := by
  have h0 : Below W0.heap.size W0 w1 := Below.next ((Below.new _ _).drew) hb
  have hn : Blk w1 W0.heap.size 25 #[.int .i64 0, .bool false, .int .i64 0, .string ⟨#[]⟩, .slice none 0 0, .slice none 0 0] := ((Blk.new W0 25 #[.int .i64 0, .bool false, .int .i64 0, .string ⟨#[]⟩, .slice none 0 0, .slice none 0 0]).drew).keep hb
  rw [alloc_drew_size] at hr
  refine ⟨set6_below h0 (Nat.le_refl _), Nat.le_refl _, (((((hn.set_ 0 _).set_ 1 _).set_ 2 _).set_ 3 _).set_ 4 _).set_ 5 _, ?_⟩
  exact hr.mono (fun b (hb : S b ∨ W0.heap.size + 1 ≤ b) _ => hb.elim .inl fun h => .inr ⟨by omega, by omega⟩) (fun b o (hb : S b ∨ W0.heap.size + 1 ≤ b) _ => World.cell?_of_block (w := w1) (set6_heap (o := 0) (show b ≠ W0.heap.size by
    rcases hb with hb | hb
    · have := hS b hb; omega
    · omega)))
theorem BoxedS.behind (hb : Below W0.drew.heap.size W0.drew w1) (hr : RepT w1 (fun b => S b ∨ W0.drew.heap.size ≤ b) (.agg #[.int .i64 x.kind, .bool x.bool, .int .i64 x.int, .string x.str, .slice la x.list.length lc, .slice ma x.map.length mc]) x) : BoxedS S W0 (w1.alloc (.cells #[.int .i64 x.kind, .bool x.bool, .int .i64 x.int, .string x.str, .slice la x.list.length lc, .slice ma x.map.length mc] 25)) w1.heap.size x la lc ma mc := by
  have h0 : Below W0.heap.size W0 w1 := Below.next ((Below.refl _ _).drew) hb
  refine ⟨Below.next h0 (Below.new _ _), h0.size, Blk.new _ _ _, RepT.keep ?_ (Below.new _ _)⟩
  exact hr.mono (fun b (h : S b ∨ W0.heap.size ≤ b) h2 => h.elim .inl fun h => .inr ⟨h, by omega⟩) (fun _ _ _ _ => rfl)
theorem BoxedO.ahead (hS : ∀ b, S b → b < W0.heap.size) (hb : Below (W0.alloc (.cells #[.int .i64 0, .bool false, .int .i64 0, .string ⟨#[]⟩, .slice none 0 0, .slice none 0 0] 25)).drew.heap.size (W0.alloc (.cells #[.int .i64 0, .bool false, .int .i64 0, .string ⟨#[]⟩, .slice none 0 0, .slice none 0 0] 25)).drew w1) (hr : RepT w1 S (.agg #[.int .i64 x.kind, .bool x.bool, .int .i64 x.int, .string x.str, .slice la x.list.length lc, .slice ma x.map.length mc]) x) :
    BoxedO S W0 (set6 w1 W0.heap.size 0 (.int .i64 x.kind) (.bool x.bool) (.int .i64 x.int) (.string x.str) (.slice la x.list.length lc) (.slice ma x.map.length mc)) W0.heap.size x la lc ma mc := by
  have h0 : Below W0.heap.size W0 w1 := Below.next ((Below.new _ _).drew) hb
  have hn : Blk w1 W0.heap.size 25 #[.int .i64 0, .bool false, .int .i64 0, .string ⟨#[]⟩, .slice none 0 0, .slice none 0 0] := ((Blk.new W0 25 #[.int .i64 0, .bool false, .int .i64 0, .string ⟨#[]⟩, .slice none 0 0, .slice none 0 0]).drew).keep hb
  refine ⟨set6_below h0 (Nat.le_refl _), Nat.le_refl _, (((((hn.set_ 0 _).set_ 1 _).set_ 2 _).set_ 3 _).set_ 4 _).set_ 5 _, ?_⟩
  exact hr.mono (fun b hb _ => hb) (fun b o hb _ => World.cell?_of_block (w := w1) (set6_heap (o := 0) (show b ≠ W0.heap.size by have := hS b hb; omega)))
theorem BoxedO.behind (hb : Below W0.drew.heap.size W0.drew w1) (hr : RepT w1 S (.agg #[.int .i64 x.kind, .bool x.bool, .int .i64 x.int, .string x.str, .slice la x.list.length lc, .slice ma x.map.length mc]) x) : BoxedO S W0 (w1.alloc (.cells #[.int .i64 x.kind, .bool x.bool, .int .i64 x.int, .string x.str, .slice la x.list.length lc, .slice ma x.map.length mc] 25)) w1.heap.size x la lc ma mc := by
  have h0 : Below W0.heap.size W0 w1 := Below.next ((Below.refl _ _).drew) hb
  exact ⟨Below.next h0 (Below.new _ _), h0.size, Blk.new _ _ _, hr.keep (Below.new _ _)⟩
/-- The store of a result. -/
theorem retS {R : Nat} (hR1 : w.heap.size ≤ R) (hR2 : R < Wc.heap.size) (hbel : Below w.heap.size w w3) (hr : RepT w3 (fun b => (S b ∧ b < w.heap.size) ∨ Wc.heap.size ≤ b) (.agg #[.int .i64 x.kind, .bool x.bool, .int .i64 x.int, .string x.str, .slice la x.list.length lc, .slice ma x.map.length mc]) x) :
    ValPostS S w x (.returned (.agg #[.int .i64 x.kind, .bool x.bool, .int .i64 x.int, .string x.str, .slice la x.list.length lc, .slice ma x.map.length mc])) (set6 w3 R 0 (.int .i64 x.kind) (.bool x.bool) (.int .i64 x.int) (.string x.str) (.slice la x.list.length lc) (.slice ma x.map.length mc)) :=
  ⟨_, rfl, hr.mono (fun b (h : (S b ∧ b < w.heap.size) ∨ Wc.heap.size ≤ b) _ => h.elim (fun h => .inl h.1) (fun h => .inr (by omega))) (fun b o (h : (S b ∧ b < w.heap.size) ∨ Wc.heap.size ≤ b) _ => World.cell?_of_block (w := w3) (set6_heap (o := 0) (show b ≠ R by
    rcases h with h | h
    · have := h.2; omega
    · omega))), set6_below (o := 0) hbel hR1⟩
end

end Go.Proofs.Ythkkmnmejciomaa

