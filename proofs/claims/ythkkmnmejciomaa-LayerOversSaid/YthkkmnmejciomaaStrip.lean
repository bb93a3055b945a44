/- layer.strip: a value without what is nothing in its maps. -/
import Derived.Test.YthkkmnmejciomaaOut
import Derived.Test.YthkkmnmejciomaaLayPQ
namespace Go.Proofs.Ythkkmnmejciomaa
open Go.RowKit
attribute [local go_sem ↓] Go.wp_at_zero Go.wp_at_succ

theorem tmap0 (w : World) : Calls Try.prog 17 #[.slice none 0 0] w (NewPost w (mkMap [])) :=
  tmap [] none 0 w (fun _ => True) (fun i hi => by simp at hi) (by simp)
theorem stripM_take (m : List (ByteArray × T)) (k : Nat) (h : k < m.length) : T.stripM (m.take (k + 1)) = T.stripM (m.take k) ++ T.stripP m[k] := by
  induction m generalizing k with
  | nil => simp at h
  | cons p r ih =>
    cases k with
    | zero => simp [T.stripM]
    | succ k => simp only [List.take_succ_cons, T.stripM, List.getElem_cons_succ]; rw [ih k (by simpa using h), List.append_assoc]
theorem KS.take {m : List (ByteArray × T)} (h : KS m) (k : Nat) : KS (m.take k) := fun i j hj hij => by
  rw [List.length_take] at hj
  rw [List.getElem_take, List.getElem_take]
  exact h i j (by omega) hij
theorem strip_next {m : List (ByteArray × T)} (h : KS m) (k : Nat) (hk : k < m.length) (h0 : m[k].2.kind ≠ 0) : putT (mkMap (T.stripM (m.take k))) m[k].1 m[k].2.strip = mkMap (T.stripM (m.take (k + 1))) := by
  rw [stripM_take m k hk, stripP_eq, if_neg h0, putT_mk (stripM_KS (h.take k)), ins_last]
  intro q hq
  obtain ⟨z, hz, _, rfl⟩ := stripM_mem hq
  obtain ⟨i, hi, rfl⟩ := List.getElem_of_mem hz
  rw [List.length_take] at hi
  rw [List.getElem_take]
  exact h i k hk (by omega)
theorem strip_skip {m : List (ByteArray × T)} (k : Nat) (hk : k < m.length) (h0 : m[k].2.kind = 0) : mkMap (T.stripM (m.take k)) = mkMap (T.stripM (m.take (k + 1))) := by
  rw [stripM_take m k hk, stripP_eq, if_pos h0, List.append_nil]

set_option maxRecDepth 100000 in
set_option maxHeartbeats 4000000 in
theorem tstrip {n : Nat} (hn1 : n ≤ 1000000) (t : T) : ∀ (_ : Neat n t) (v : Value) (w : World) (S : Nat → Prop), RepT w S v t → Calls Try.prog 22 #[v] w (NewPost w t.strip) := by
  induction t using T.ind' with
  | h t ihl ihm =>
  intro hn v w S h
  clear ihl
  obtain ⟨la, lc, ma, mc, rfl, hp⟩ := h.inv
  obtain ⟨-, -, -, -, hm, -, -, -, -, -, hM⟩ := hp
  by_cases h5 : t.kind = 5
  · have hg : (t.kind != 5) = false := by rw [h5]; rfl
    have HE := Lib.hid (show t.strip = mkMap (T.stripM t.map) by rw [strip_eq, if_pos h5])
    have HKS := Lib.hid hn.KS
    have HLN := Lib.hid hn.len
    have HIH := Lib.hid (fun p hp => ihm p hp (hn.mem p hp))
    have HM := Lib.hid hM
    clear h5 h hM ihm hn
    go_enter Try.func22, Try.ntmps22
    go_wp2_with fail
    have hB1 : Blk ((w.alloc (.cells #[.int .i64 t.kind, .bool t.bool, .int .i64 t.int, .string t.str, .slice la t.list.length lc, .slice ma t.map.length mc] 25)).alloc (.cells #[.int .i64 0, .bool false, .int .i64 0, .string ⟨#[]⟩, .slice none 0 0, .slice none 0 0] 25)) w.heap.size 25 #[.int .i64 t.kind, .bool t.bool, .int .i64 t.int, .string t.str, .slice la t.list.length lc, .slice ma t.map.length mc] := (Blk.new _ _ _).alloc _
    have hB2 : Blk ((w.alloc (.cells #[.int .i64 t.kind, .bool t.bool, .int .i64 t.int, .string t.str, .slice la t.list.length lc, .slice ma t.map.length mc] 25)).alloc (.cells #[.int .i64 0, .bool false, .int .i64 0, .string ⟨#[]⟩, .slice none 0 0, .slice none 0 0] 25)) (w.heap.size + 1) 25 #[.int .i64 0, .bool false, .int .i64 0, .string ⟨#[]⟩, .slice none 0 0, .slice none 0 0] := Blk.new_at _ _ _ (by simp)
    have hBW : Below w.heap.size w ((w.alloc (.cells #[.int .i64 t.kind, .bool t.bool, .int .i64 t.int, .string t.str, .slice la t.list.length lc, .slice ma t.map.length mc] 25)).alloc (.cells #[.int .i64 0, .bool false, .int .i64 0, .string ⟨#[]⟩, .slice none 0 0, .slice none 0 0] 25)) := (Below.new _ _).alloc (by simp) _
    refine (tmap0 _).mono ?_
    rintro e w1 ⟨v1, rfl, hr1, hb1⟩
    obtain ⟨la1, lc1, ma1, mc1, rfl, -⟩ := hr1.inv
    have HV := Lib.hid (hB1.keep hb1)
    have k5 := HV.out.cell
    have l5 := HV.out.lt
    have HO := Lib.hid (OutInv.start (B := w.heap.size + 2) (R := w.heap.size + 1) hBW hB2 (by omega) (by omega) (by simp) hb1 hr1)
    clear hb1 hr1 hB1 hB2 hBW
    go_wp2_with fail
    generalize t.map = m at *
    go_loopw [15] (fun x wr => ∃ (q : Nat) (M : T) (la2 : Option Addr) (lc2 : Nat) (ma2 : Option Addr) (mc2 : Nat), q ≤ m.length ∧ x = .int .i64 q ∧ Hid (M = mkMap (T.stripM (m.take q))) ∧ OutInv w wr (w.heap.size + 2) w1.heap.size (w.heap.size + 1) M la2 lc2 ma2 mc2) (fun x _ => m.length - (intOf x).toNat)
    case atStart => exact ⟨0, mkMap [], _, _, _, _, Nat.zero_le _, rfl, rfl, HO.out⟩
    case round =>
      obtain ⟨q, M, la2, lc2, ma2, mc2, hq, rfl, hM, ho⟩ := hrel
      clear k5 l5 HO HV
      have HO := Lib.hid ho
      have k1 := ho.box.cell
      have l1 := ho.box.lt
      by_cases hlt : q < m.length
      · obtain ⟨b, o, la3, lc3, ma3, mc3, rfl, -, hbl, hkz, ⟨c0, c1, c2, c3, c4, c5, c6⟩, hr⟩ := (HM.out.keep ho.bel).at_ hlt
        have HR := Lib.hid hr
        have HNX := Lib.hid (strip_next HKS.out q hlt)
        have HSK := Lib.hid (strip_skip q hlt)
        have HI := Lib.hid (HIH.out m[q] (List.getElem_mem hlt))
        have hl104 : (M.map.length + 1) * 104 ≤ 140737488355328 := by
          rw [hM.out]
          have h1 := stripM_len (m.take q)
          rw [List.length_take] at h1
          have h2 := HLN.out
          show ((T.stripM (m.take q)).length + 1) * 104 ≤ _
          omega
        clear hr ho
        generalize m[q].1 = key at *
        generalize m[q].2 = x at *
        by_cases h0 : x.kind = 0
        · have hg0 : (x.kind != 0) = false := by rw [h0]; rfl
          have hnx := HSK.out h0
          clear h0
          go_wp2_with fail
          go_roundw
          case rel => exact ⟨q + 1, M, _, _, _, _, by omega, by go_num, by rw [hM.out]; exact hnx, HO.out.keep (Below.new _ _)⟩
          case measure => simp [intOf]; omega
        · have hg0 : (x.kind != 0) = true := bne_iff_ne.2 h0
          have HNY := Lib.hid (HNX.out h0)
          clear h0
          go_wp2_with fail
          go_region_with (first
            | (go_at_call 22; refine (HI.out _ _ S (HR.out.keep (by exact Below.drew (Below.new _ _)))).mono ?_; rintro e w2 ⟨v2, rfl, hr2, hb2⟩; obtain ⟨la4, lc4, ma4, mc4, rfl, -⟩ := hr2.inv; have hbq := Below.next (Below.drew (Below.new wr (.cells #[.string key, .int .i64 x.kind, .bool x.bool, .int .i64 x.int, .string x.str, .slice la3 x.list.length lc3, .slice ma3 x.map.length mc3] 38))) hb2; have k2 := (HO.out.keep hbq).box.cell; have l2 := (HO.out.keep hbq).box.lt; have kp := ((Blk.new wr 38 #[.string key, .int .i64 x.kind, .bool x.bool, .int .i64 x.int, .string x.str, .slice la3 x.list.length lc3, .slice ma3 x.map.length mc3]).drew.keep hb2).cell; have lp := ((Blk.new wr 38 #[.string key, .int .i64 x.kind, .bool x.bool, .int .i64 x.int, .string x.str, .slice la3 x.list.length lc3, .slice ma3 x.map.length mc3]).drew.keep hb2).lt; have HBQ := Lib.hid hbq; have HR2 := Lib.hid hr2; clear hbq hr2 hb2)
            | (go_at_call 25; go_must (refine (tput M x.strip key _ _ _ _ _ (HO.out.keep HBQ.out).any HR2.out hkz hl104).mono ?_); rintro e w3 ⟨v3, rfl, hr3, hb3⟩; obtain ⟨la5, lc5, ma5, mc5, rfl, -⟩ := hr3.inv; have k3 := ((HO.out.keep HBQ.out).keep hb3).box.cell; have z3 := ((HO.out.keep HBQ.out).keep hb3).box.frozen; have l3 := ((HO.out.keep HBQ.out).keep hb3).box.lt; have HB3 := Lib.hid hb3; have HR3 := Lib.hid hr3; clear hb3 hr3))
          all_goals
            go_wp2_with fail
            go_roundw
            case rel => exact ⟨q + 1, putT M key x.strip, _, _, _, _, by omega, by go_num, by rw [hM.out]; exact HNY.out, (HO.out.keep HBQ.out).put HB3.out HR3.out⟩
            case measure => simp [intOf]; omega
      · obtain rfl : q = m.length := by omega
        rw [List.take_length] at hM
        have hk0 := ho.res.cell
        have hf0 := ho.res.frozen
        have hl0 := ho.res.lt
        clear ho
        go_wp2_with fail
        obtain ⟨d1, d2⟩ := HO.out.done
        exact ret_cell rfl rfl d1 Try.underlying25 val_size rfl (by rw [HE.out, ← hM.out]; exact d2)
  · have hg : (t.kind != 5) = true := bne_iff_ne.2 h5
    have HE := Lib.hid (show t.strip = t by rw [strip_eq, if_neg h5])
    have HR := Lib.hid h
    clear h5 h hM ihm hn
    go_enter Try.func22, Try.ntmps22
    go_wp2_with fail
    have hB2 : Blk ((w.alloc (.cells #[.int .i64 t.kind, .bool t.bool, .int .i64 t.int, .string t.str, .slice la t.list.length lc, .slice ma t.map.length mc] 25)).alloc (.cells #[.int .i64 0, .bool false, .int .i64 0, .string ⟨#[]⟩, .slice none 0 0, .slice none 0 0] 25)) (w.heap.size + 1) 25 #[.int .i64 0, .bool false, .int .i64 0, .string ⟨#[]⟩, .slice none 0 0, .slice none 0 0] := Blk.new_at _ _ _ (by simp)
    have hBW : Below w.heap.size w ((w.alloc (.cells #[.int .i64 t.kind, .bool t.bool, .int .i64 t.int, .string t.str, .slice la t.list.length lc, .slice ma t.map.length mc] 25)).alloc (.cells #[.int .i64 0, .bool false, .int .i64 0, .string ⟨#[]⟩, .slice none 0 0, .slice none 0 0] 25)) := (Below.new _ _).alloc (by simp) _
    refine (clone_any t _ _ _ (HR.out.keep hBW)).mono ?_
    rintro e w1 ⟨v1, rfl, hr1, hb1⟩
    obtain ⟨la1, lc1, ma1, mc1, rfl, -⟩ := hr1.inv
    have HZ := Lib.hid (hB2.keep hb1)
    have HW := Lib.hid (Below.next hBW hb1)
    have HR1 := Lib.hid hr1
    have hk0 := HZ.out.cell
    have hf0 := HZ.out.frozen
    have hl0 := HZ.out.lt
    have hsz := hBW.size
    clear hr1 hb1 hB2 hBW
    go_wp2_with fail
    exact ret_cell rfl rfl ((((((HZ.out.set_ 0 _).set_ 1 _).set_ 2 _).set_ 3 _).set_ 4 _).set_ 5 _) Try.underlying25 val_size rfl ⟨_, rfl, by rw [HE.out]; exact HR1.out.mono (fun b (hb : _ ≤ b) _ => by simp at hb; show w.heap.size ≤ b; omega) (fun b o (hb : _ ≤ b) _ => World.cell?_of_block (w := w1) (set6_heap (o := 0) (show b ≠ w.heap.size + 1 by simp at hb; omega))), set6_below (o := 0) HW.out (by omega)⟩
end Go.Proofs.Ythkkmnmejciomaa
