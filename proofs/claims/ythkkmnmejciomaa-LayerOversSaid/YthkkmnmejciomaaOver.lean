/- layer.Over: one value laid over another one. -/
import Derived.Test.YthkkmnmejciomaaStrip
import Derived.Test.YthkkmnmejciomaaLaw
import Derived.Test.YthkkmnmejciomaaDelete
namespace Go.Proofs.Ythkkmnmejciomaa
open Go.RowKit
attribute [local go_sem ↓] Go.wp_at_zero Go.wp_at_succ

theorem overM_snoc (l : List (ByteArray × T)) (p : ByteArray × T) : ∀ a : T, T.overM (l ++ [p]) a = T.overP p (T.overM l a) := by
  induction l with
  | nil => intro a; rw [List.nil_append, T.overM, T.overM, T.overM]
  | cons q r ih => intro a; rw [List.cons_append, T.overM, T.overM, ih]
theorem look_take {m : List (ByteArray × T)} (h : KS m) {q : Nat} (hq : q < m.length) : look (m.take q) m[q].1 = none := look_not fun z hz e => by
  obtain ⟨i, hi, rfl⟩ := List.getElem_of_mem hz
  rw [List.length_take] at hi
  rw [List.getElem_take] at e
  exact klt_ne (h i q hq (by omega)) e
theorem over_step {na : Nat} {a : T} {m : List (ByteArray × T)} {q : Nat} (ha : Neat na a) (h5 : a.kind = 5) (hm : KS m) (hq : q < m.length) : ∃ (M was : T), M = T.overM (m.take q) a ∧ was = (look a.map m[q].1).getD T.zero ∧ Neat na was ∧ KS M.map ∧ M.map.length ≤ na + q ∧
    (getT M m[q].1).getD T.zero = was ∧ (m[q].2.kind = 0 → dropT M m[q].1 = T.overM (m.take (q + 1)) a) ∧ (m[q].2.kind ≠ 0 → putT M m[q].1 (m[q].2.over was) = T.overM (m.take (q + 1)) a) := by
  obtain ⟨l', e, hks, hlen, hlk⟩ := overM_look (l := a.map) (m := m.take q) ha.KS (hm.take q)
  rw [← ha.map h5] at e
  have hl := ha.len
  rw [List.length_take] at hlen
  have hg : (getT (T.overM (m.take q) a) m[q].1).getD T.zero = (look a.map m[q].1).getD T.zero := by rw [e, getT_mk, hlk, look_take hm hq, ovl]
  have hs : T.overM (m.take (q + 1)) a = T.overP m[q] (T.overM (m.take q) a) := by rw [List.take_succ_eq_append_getElem hq, overM_snoc]
  refine ⟨_, _, rfl, rfl, ha.getD _, by rw [e]; exact hks, by rw [e]; show l'.length ≤ _; omega, hg, fun h0 => ?_, fun h0 => ?_⟩
  · rw [hs, overP_eq, if_pos h0]
  · rw [hs, overP_eq, if_neg h0, hg]

set_option maxRecDepth 100000 in
set_option maxHeartbeats 8000000 in
theorem tover {na nb : Nat} (hn1 : na + nb ≤ 1000000) (t : T) : ∀ (a : T) (_ : Neat na a) (_ : Neat nb t) (va v : Value) (w : World) (S S' : Nat → Prop), RepT w S va a → RepT w S' v t → Calls Try.prog 7 #[va, v] w (NewPost w (t.over a)) := by
  induction t using T.ind' with
  | h t ihl ihm =>
  intro a ha hn va v w S S' hra h
  clear ihl
  obtain ⟨la, lc, ma, mc, rfl, hp⟩ := h.inv
  obtain ⟨-, -, -, -, hm, -, -, -, -, -, hM⟩ := hp
  obtain ⟨la0, lc0, ma0, mc0, rfl, -⟩ := hra.inv
  have HRA := Lib.hid hra
  have HRB := Lib.hid h
  have hB1 : Blk (((w.alloc (.cells #[.int .i64 a.kind, .bool a.bool, .int .i64 a.int, .string a.str, .slice la0 a.list.length lc0, .slice ma0 a.map.length mc0] 25)).alloc (.cells #[.int .i64 t.kind, .bool t.bool, .int .i64 t.int, .string t.str, .slice la t.list.length lc, .slice ma t.map.length mc] 25)).alloc (.cells #[.int .i64 0, .bool false, .int .i64 0, .string ⟨#[]⟩, .slice none 0 0, .slice none 0 0] 25)) (w.heap.size + 1) 25 #[.int .i64 t.kind, .bool t.bool, .int .i64 t.int, .string t.str, .slice la t.list.length lc, .slice ma t.map.length mc] := (Blk.new_at _ _ _ (by simp)).alloc _
  have hB2 : Blk (((w.alloc (.cells #[.int .i64 a.kind, .bool a.bool, .int .i64 a.int, .string a.str, .slice la0 a.list.length lc0, .slice ma0 a.map.length mc0] 25)).alloc (.cells #[.int .i64 t.kind, .bool t.bool, .int .i64 t.int, .string t.str, .slice la t.list.length lc, .slice ma t.map.length mc] 25)).alloc (.cells #[.int .i64 0, .bool false, .int .i64 0, .string ⟨#[]⟩, .slice none 0 0, .slice none 0 0] 25)) (w.heap.size + 1 + 1) 25 #[.int .i64 0, .bool false, .int .i64 0, .string ⟨#[]⟩, .slice none 0 0, .slice none 0 0] := Blk.new_at _ _ _ (by simp)
  have hBW : Below w.heap.size w (((w.alloc (.cells #[.int .i64 a.kind, .bool a.bool, .int .i64 a.int, .string a.str, .slice la0 a.list.length lc0, .slice ma0 a.map.length mc0] 25)).alloc (.cells #[.int .i64 t.kind, .bool t.bool, .int .i64 t.int, .string t.str, .slice la t.list.length lc, .slice ma t.map.length mc] 25)).alloc (.cells #[.int .i64 0, .bool false, .int .i64 0, .string ⟨#[]⟩, .slice none 0 0, .slice none 0 0] 25)) := ((Below.new _ _).alloc (by simp) _).alloc (by simp; omega) _
  by_cases h55 : a.kind = 5 ∧ t.kind = 5
  · have hga : (a.kind != 5) = false := by rw [h55.1]; rfl
    have hgt : (t.kind != 5) = false := by rw [h55.2]; rfl
    have HE := Lib.hid (show t.over a = T.overM t.map a by rw [over_eq, if_pos h55])
    have HKS := Lib.hid hn.KS
    have HLN := Lib.hid hn.len
    have HSTEP := Lib.hid (fun q hq => over_step (q := q) ha h55.1 hn.KS hq)
    have HIH := Lib.hid (fun p hp a' ha' => ihm p hp a' ha' (hn.mem p hp))
    have HM := Lib.hid hM
    clear h55 h hM ihm hn ha hra
    go_enter Try.func7, Try.ntmps7
    go_wp2_with fail
    refine (clone_any a _ _ _ (HRA.out.keep hBW)).mono ?_
    rintro e w1 ⟨v1, rfl, hr1, hb1⟩
    obtain ⟨la1, lc1, ma1, mc1, rfl, -⟩ := hr1.inv
    have HV := Lib.hid (hB1.keep hb1)
    have k5 := HV.out.cell
    have l5 := HV.out.lt
    have HO := Lib.hid (OutInv.start (B := w.heap.size + 3) (R := w.heap.size + 1 + 1) hBW hB2 (by omega) (by omega) (by simp) hb1 hr1)
    clear hb1 hr1 hB1 hB2 hBW
    go_wp2_with fail
    generalize t.map = m at *
    go_loopw [25] (fun x wr => ∃ (q : Nat) (M : T) (la2 : Option Addr) (lc2 : Nat) (ma2 : Option Addr) (mc2 : Nat), q ≤ m.length ∧ x = .int .i64 q ∧ Hid (M = T.overM (m.take q) a) ∧ OutInv w wr (w.heap.size + 3) w1.heap.size (w.heap.size + 1 + 1) M la2 lc2 ma2 mc2) (fun x _ => m.length - (intOf x).toNat)
    case atStart => exact ⟨0, a, _, _, _, _, Nat.zero_le _, rfl, rfl, HO.out⟩
    case round =>
      obtain ⟨q, M, la2, lc2, ma2, mc2, hq, rfl, hM, ho⟩ := hrel
      clear k5 l5 HO HV
      have HO := Lib.hid ho
      have k1 := ho.box.cell
      have l1 := ho.box.lt
      by_cases hlt : q < m.length
      · obtain ⟨b, o, la3, lc3, ma3, mc3, rfl, -, hbl, hkz, ⟨c0, c1, c2, c3, c4, c5, c6⟩, hr⟩ := (HM.out.keep ho.bel).at_ hlt
        have HR := Lib.hid hr
        obtain ⟨M', was, eM, ewas, hwn, hmks, hml, hgot, hdr, hpt⟩ := HSTEP.out q hlt
        obtain rfl : M' = M := eM.trans hM.out.symm
        have HDR := Lib.hid hdr
        have HPT := Lib.hid hpt
        have HGOT := Lib.hid hgot
        have HMK := Lib.hid hmks
        have HI := Lib.hid (HIH.out m[q] (List.getElem_mem hlt) was hwn)
        have hl104 : (M'.map.length + 1) * 104 ≤ 140737488355328 := by
          have h2 := HLN.out
          omega
        clear hr ho hdr hpt hgot hmks hwn ewas eM hml
        generalize m[q].1 = key at *
        generalize m[q].2 = x at *
        by_cases h0 : x.kind = 0
        · have hg0 : (x.kind == 0) = true := by rw [h0]; rfl
          have HNX := Lib.hid (HDR.out h0)
          clear h0
          go_wp2_with fail
          refine (tdrop M' key _ _ _ (HO.out.keep (Below.new _ _)).any).mono ?_
          rintro e w3 ⟨v3, rfl, hr3, hb3⟩
          obtain ⟨la5, lc5, ma5, mc5, rfl, -⟩ := hr3.inv
          have k3 := ((HO.out.keep (Below.new wr (.cells #[.string key, .int .i64 x.kind, .bool x.bool, .int .i64 x.int, .string x.str, .slice la3 x.list.length lc3, .slice ma3 x.map.length mc3] 38))).keep hb3).box.cell
          have z3 := ((HO.out.keep (Below.new wr (.cells #[.string key, .int .i64 x.kind, .bool x.bool, .int .i64 x.int, .string x.str, .slice la3 x.list.length lc3, .slice ma3 x.map.length mc3] 38))).keep hb3).box.frozen
          have l3 := ((HO.out.keep (Below.new wr (.cells #[.string key, .int .i64 x.kind, .bool x.bool, .int .i64 x.int, .string x.str, .slice la3 x.list.length lc3, .slice ma3 x.map.length mc3] 38))).keep hb3).box.lt
          have HB3 := Lib.hid hb3
          have HR3 := Lib.hid hr3
          clear hb3 hr3
          go_wp2_with fail
          go_roundw
          case rel => exact ⟨q + 1, dropT M' key, _, _, _, _, by omega, by go_num, HNX, (HO.out.keep (Below.new _ _)).put HB3.out HR3.out⟩
          case measure => simp [intOf]; omega
        · have hg0 : (x.kind == 0) = false := beq_eq_false_iff_ne.2 h0
          have HNX := Lib.hid (HPT.out h0)
          clear h0
          go_wp2_with fail
          refine (tget_b rfl HGOT.out _ _ _ (HO.out.keep (Below.new _ _)).any HMK.out).mono ?_
          rintro e w2 ⟨v2, rfl, hr2, hb2⟩
          generalize (getT M' key).isSome = bo at *
          obtain ⟨la4, lc4, ma4, mc4, rfl, -⟩ := hr2.inv
          have kp := ((Blk.new wr 38 #[.string key, .int .i64 x.kind, .bool x.bool, .int .i64 x.int, .string x.str, .slice la3 x.list.length lc3, .slice ma3 x.map.length mc3]).keep hb2).cell
          have lp := ((Blk.new wr 38 #[.string key, .int .i64 x.kind, .bool x.bool, .int .i64 x.int, .string x.str, .slice la3 x.list.length lc3, .slice ma3 x.map.length mc3]).keep hb2).lt
          have hbq := Below.next (Below.new wr (.cells #[.string key, .int .i64 x.kind, .bool x.bool, .int .i64 x.int, .string x.str, .slice la3 x.list.length lc3, .slice ma3 x.map.length mc3] 38)) hb2
          have k2 := (HO.out.keep hbq).box.cell
          have l2 := (HO.out.keep hbq).box.lt
          have HO2 := Lib.hid (HO.out.keep hbq)
          have HP2 := Lib.hid ((Blk.new wr 38 #[.string key, .int .i64 x.kind, .bool x.bool, .int .i64 x.int, .string x.str, .slice la3 x.list.length lc3, .slice ma3 x.map.length mc3]).keep hb2)
          have HR2 := Lib.hid (hr2.weak (S' := fun _ => True) (fun _ _ _ => trivial))
          have HRX := Lib.hid (HR.out.keep hbq)
          clear hr2 hb2 hbq k1 l1
          go_wp2_with fail
          go_region_with (first
            | (go_at_call 7; refine (HI.out _ _ _ _ _ (HR2.out.keep (by exact Below.drew (Below.new _ _))) (HRX.out.keep (by exact Below.drew (Below.new _ _)))).mono ?_; rintro e w4 ⟨v4, rfl, hr4, hb4⟩; obtain ⟨la6, lc6, ma6, mc6, rfl, -⟩ := hr4.inv; have hbq := Below.next (Below.drew (Below.new w2 (.cells #[.int .i64 was.kind, .bool was.bool, .int .i64 was.int, .string was.str, .slice la4 was.list.length lc4, .slice ma4 was.map.length mc4] 25))) hb4; have k4 := (HO2.out.keep hbq).box.cell; have l4 := (HO2.out.keep hbq).box.lt; have kp4 := (HP2.out.keep hbq).cell; have lp4 := (HP2.out.keep hbq).lt; have HO4 := Lib.hid (HO2.out.keep hbq); have HR4 := Lib.hid hr4; clear hbq hr4 hb4)
            | (go_at_call 25; go_must (refine (tput M' (x.over was) key _ _ _ _ _ HO4.out.any HR4.out hkz hl104).mono ?_); rintro e w3 ⟨v3, rfl, hr3, hb3⟩; obtain ⟨la5, lc5, ma5, mc5, rfl, -⟩ := hr3.inv; have k3 := (HO4.out.keep hb3).box.cell; have z3 := (HO4.out.keep hb3).box.frozen; have l3 := (HO4.out.keep hb3).box.lt; have HB3 := Lib.hid hb3; have HR3 := Lib.hid hr3; clear hb3 hr3))
          all_goals
            go_wp2_with fail
            go_roundw
            case rel => exact ⟨q + 1, putT M' key (x.over was), _, _, _, _, by omega, by go_num, HNX, HO4.out.put HB3.out HR3.out⟩
            case measure => simp [intOf]; omega
      · obtain rfl : q = m.length := by omega
        rw [List.take_length] at hM
        have hk0 := ho.res.cell
        have hf0 := ho.res.frozen
        have hl0 := ho.res.lt
        clear ho
        go_wp2_with fail
        obtain ⟨d1, d2⟩ := HO.out.done
        exact ret_cell rfl rfl d1 Try.underlying25 val_size rfl (by rw [HE.out, ← hM.out]; exact d2)
  · have hg : ((a.kind != 5) = true) ∨ ((a.kind != 5) = false ∧ (t.kind != 5) = true) := by
      by_cases h5 : a.kind = 5
      · exact .inr ⟨by rw [h5]; rfl, bne_iff_ne.2 fun e => h55 ⟨h5, e⟩⟩
      · exact .inl (bne_iff_ne.2 h5)
    have HE := Lib.hid (over_strip h55)
    have HN := Lib.hid hn
    have HZ0 := Lib.hid hB2
    have HW0 := Lib.hid hBW
    clear h55 h hM ihm hn ha hra hB1 hB2 hBW
    go_enter Try.func7, Try.ntmps7
    rcases hg with hga | ⟨hga, hgt⟩
    all_goals
      go_wp2_with fail
      refine (tstrip (n := nb) (by omega) t HN.out _ _ _ (HRB.out.keep HW0.out)).mono ?_
      rintro e w1 ⟨v1, rfl, hr1, hb1⟩
      obtain ⟨la1, lc1, ma1, mc1, rfl, -⟩ := hr1.inv
      have HZ := Lib.hid (HZ0.out.keep hb1)
      have HW := Lib.hid (Below.next HW0.out hb1)
      have HR1 := Lib.hid hr1
      have hk0 := HZ.out.cell
      have hf0 := HZ.out.frozen
      have hl0 := HZ.out.lt
      clear hr1 hb1
      go_wp2_with fail
      exact ret_cell rfl rfl ((((((HZ.out.set_ 0 _).set_ 1 _).set_ 2 _).set_ 3 _).set_ 4 _).set_ 5 _) Try.underlying25 val_size rfl ⟨_, rfl, by rw [HE.out]; exact HR1.out.mono (fun b (hb : _ ≤ b) _ => by simp at hb; show w.heap.size ≤ b; omega) (fun b o (hb : _ ≤ b) _ => World.cell?_of_block (w := w1) (set6_heap (o := 0) (show b ≠ w.heap.size + 1 + 1 by simp at hb; omega))), set6_below (o := 0) HW.out (by omega)⟩
end Go.Proofs.Ythkkmnmejciomaa
