/- PathWays answers true for every input. -/
import Derived.Test.YtmdihildjblgnaaAwakeP
import Derived.Test.YtmdihildjblgnaaBegins
import Derived.Deep.RegionHeld3
import Derived.Deep.DrawnRows
namespace Go.Proofs.Ytmdihildjblgnaa
open Go.RowKit
attribute [local go_sem ↓] Go.wp_at_zero Go.wp_at_succ

theorem ways_one {v y u z : T} {s : ByteArray} {r : List ByteArray} {bo bi bh : Bool} (hbo : (getT v s).isSome = bo) (hy : (getT v s).getD T.zero = y) (hbi : (getP (s :: r) v).isSome = bi) (hu : (getP (s :: r) v).getD T.zero = u) (hbh : (getP r y).isSome = bh) (hz : (getP r y).getD T.zero = z) (h : bo = true) : bi = bh ∧ u = z := by
  subst h
  cases e : getT v s with
  | none => rw [e] at hbo; cases hbo
  | some y0 =>
    rw [e, Option.getD_some] at hy
    have e2 : getP (s :: r) v = getP r y := by rw [getP, e, Option.bind_some, hy]
    rw [← hbi, ← hbh, ← hu, ← hz, e2]
    exact ⟨rfl, rfl⟩
theorem begins_one (s : ByteArray) (r : List ByteArray) (hr : r ≠ []) : begins (s :: r) [s] = true ∧ begins [s] (s :: r) = false := by
  constructor
  · simp [begins]
  · unfold begins
    rw [decide_eq_false]
    intro h
    have := h.1
    cases r with
    | nil => exact hr rfl
    | cons u r => simp at this

set_option maxRecDepth 100000 in
set_option maxHeartbeats 4000000 in
theorem ways (v x : T) (l : List ByteArray) (a : Option Addr) (c : Nat) (vv vx : Value) (w : World) (hv : RepT w (fun _ => True) vv v) (hx : RepT w (fun _ => True) vx x) (hl : RepS w (fun _ => True) a l) (hl1 : l.length ≤ c) (hl2 : c ≤ maxLen) (hl3 : l.length * 16 ≤ 140737488355328) :
    Calls Try.prog 13 #[vv, vx, .slice a l.length c] w fun e w' => e = .returned (.bool true) ∧ Below w.heap.size w w' := by
  obtain ⟨la, lc, ma, mc, rfl, -⟩ := hv.inv
  obtain ⟨la2, lc2, ma2, mc2, rfl, -⟩ := hx.inv
  have H_v := Lib.hid hv
  have H_x := Lib.hid hx
  clear hv hx
  have HL0 := Lib.hid hl
  clear hl
  go_enter Try.func13, Try.ntmps13
  go_wp2_with fail
  refine (right [v, x] _ (fun _ => True) _ 2 (repE_L.1 (rep_block (E := eltV) (S := fun _ => True) (l := [v, x]) [[.int .i64 v.kind, .bool v.bool, .int .i64 v.int, .string v.str, .slice la v.list.length lc, .slice ma v.map.length mc], [.int .i64 x.kind, .bool x.bool, .int .i64 x.int, .string x.str, .slice la2 x.list.length lc2, .slice ma2 x.map.length mc2]] (Blk.new_at ((w.alloc (.cells #[.int .i64 v.kind, .bool v.bool, .int .i64 v.int, .string v.str, .slice la v.list.length lc, .slice ma v.map.length mc] 25)).alloc (.cells #[.int .i64 x.kind, .bool x.bool, .int .i64 x.int, .string x.str, .slice la2 x.list.length lc2, .slice ma2 x.map.length mc2] 25)) 25 #[.int .i64 v.kind, .bool v.bool, .int .i64 v.int, .string v.str, .slice la v.list.length lc, .slice ma v.map.length mc, .int .i64 x.kind, .bool x.bool, .int .i64 x.int, .string x.str, .slice la2 x.list.length lc2, .slice ma2 x.map.length mc2] (n := w.heap.size + 1 + 1) (by simp)) rfl trivial ⟨(H_v.out.keep (by exact ((Below.new _ _).alloc (by simp) _).alloc (by simp; omega) _)), (H_x.out.keep (by exact ((Below.new _ _).alloc (by simp) _).alloc (by simp; omega) _)), trivial⟩)) (by simp)).mono ?_
  rintro e w1 ⟨r, rfl, hr, hb⟩
  have HD1 := Lib.hid (show Below w.heap.size w w1 from Below.next (((Below.new _ _).alloc (by simp) _).alloc (by simp; omega) _) hb)
  have L1_0 := Lib.hid ((((Blk.new w 25 #[.int .i64 v.kind, .bool v.bool, .int .i64 v.int, .string v.str, .slice la v.list.length lc, .slice ma v.map.length mc]).alloc (.cells #[.int .i64 x.kind, .bool x.bool, .int .i64 x.int, .string x.str, .slice la2 x.list.length lc2, .slice ma2 x.map.length mc2] 25)).alloc (.cells #[.int .i64 v.kind, .bool v.bool, .int .i64 v.int, .string v.str, .slice la v.list.length lc, .slice ma v.map.length mc, .int .i64 x.kind, .bool x.bool, .int .i64 x.int, .string x.str, .slice la2 x.list.length lc2, .slice ma2 x.map.length mc2] 25)).keep hb)
  have L1_1 := Lib.hid (((Blk.new_at (w.alloc (.cells #[.int .i64 v.kind, .bool v.bool, .int .i64 v.int, .string v.str, .slice la v.list.length lc, .slice ma v.map.length mc] 25)) 25 #[.int .i64 x.kind, .bool x.bool, .int .i64 x.int, .string x.str, .slice la2 x.list.length lc2, .slice ma2 x.map.length mc2] (n := w.heap.size + 1) (by simp)).alloc (.cells #[.int .i64 v.kind, .bool v.bool, .int .i64 v.int, .string v.str, .slice la v.list.length lc, .slice ma v.map.length mc, .int .i64 x.kind, .bool x.bool, .int .i64 x.int, .string x.str, .slice la2 x.list.length lc2, .slice ma2 x.map.length mc2] 25)).keep hb)
  have V1_v := Lib.hid (H_v.out.keep HD1.out)
  have V1_x := Lib.hid (H_x.out.keep HD1.out)
  have HW1 := Lib.hid (show Below w.heap.size w w1 from HD1.out)
  clear hb HD1 H_v H_x
  have k1_0 := L1_0.out.cell
  have l1_0 := L1_0.out.lt
  have k1_1 := L1_1.out.cell
  have l1_1 := L1_1.out.lt
  have HL := Lib.hid (HL0.out.keep HW1.out)
  clear HL0
  have HR := Lib.hid hr
  clear hr
  cases r
  · go_wp2_with (go_at_call 44; refine (awake2 _).mono ?_; rintro e w9 ⟨rfl, hb9⟩)
    go_ret
    exact ⟨rfl, Below.next HW1.out hb9⟩
  have hgv : Good v := HR.out rfl v (by simp)
  have hgx : Good x := HR.out rfl x (by simp)
  go_wp2_with fail
  refine (tsteps l a c _ HL.out (by omega)).mono ?_
  rintro e w2 ⟨r, rfl, hs, rfl⟩
  have HST := Lib.hid hs
  clear hs
  cases r
  · clear hgv hgx
    go_wp2_with (go_at_call 44; refine (awake2 _).mono ?_; rintro e w9 ⟨rfl, hb9⟩)
    go_ret
    exact ⟨rfl, Below.next HW1.out hb9⟩
  obtain ⟨hkeys, hlen⟩ := HST.out rfl
  clear HST HR
  rcases Nat.lt_or_ge l.length 2 with h2 | h2
  · have h3 : decide ((l.length : Int) < 2) = true := decide_eq_true (by omega)
    clear h2 hgv hgx hkeys
    go_wp2_with (go_at_call 44; refine (awake2 _).mono ?_; rintro e w9 ⟨rfl, hb9⟩)
    go_ret
    exact ⟨rfl, Below.next HW1.out hb9⟩
  obtain ⟨s, r, rfl⟩ : ∃ s r, l = s :: r := by cases l with | nil => simp at h2 | cons s r => exact ⟨s, r, rfl⟩
  have hr0 : r ≠ [] := by intro e; rw [e] at h2; simp at h2
  obtain ⟨b, o, rfl, -, hbl, hcs, hz⟩ := HL.out 0 (by simp)
  simp only [List.getElem_cons_zero, Nat.add_zero] at hcs hz
  have HT := Lib.hid (HL.out.tail)
  have HO := Lib.hid (show RepS w1 (fun _ => True) (some ⟨b, o, none⟩) [s] from HL.out.take 1)
  obtain ⟨p, hp⟩ : ∃ p, p = putP (s :: r) x v := ⟨_, rfl⟩
  obtain ⟨y, hy⟩ : ∃ p, (getT v s).getD T.zero = p := ⟨_, rfl⟩
  obtain ⟨bo, hbo⟩ : ∃ p, (getT v s).isSome = p := ⟨_, rfl⟩
  obtain ⟨u, hu⟩ : ∃ p, (getP (s :: r) v).getD T.zero = p := ⟨_, rfl⟩
  obtain ⟨bi, hbi⟩ : ∃ p, (getP (s :: r) v).isSome = p := ⟨_, rfl⟩
  obtain ⟨z, hz2⟩ : ∃ p, (getP r y).getD T.zero = p := ⟨_, rfl⟩
  obtain ⟨bh, hbh⟩ : ∃ p, (getP r y).isSome = p := ⟨_, rfl⟩
  obtain ⟨q, hq⟩ : ∃ p, p = putP r x y := ⟨_, rfl⟩
  have hpq : p = putT v s q := by rw [hp, hq, putP, hy]
  have hyn : Neat 6000 y := by rw [← hy, getT_look hgv.neat]; exact hgv.neat.getD s
  have HC1 := Lib.hid (fun (h : bo = true) => (show bi = bh ∧ u = z from ways_one hbo hy hbi hu hbh hz2 h))
  have HC2 := Lib.hid (fun (h : bo = false) => (show bi = false by cases e : getT v s with | none => rw [← hbi, getP, e]; rfl | some y0 => rw [e, h] at hbo; cases hbo))
  have C0 := Lib.hid (fun (w : World) (c0 : Value) (h0 : RepT w (fun _ => True) c0 v) => (tget_b hbo hy c0 w _ h0 hgv.KS : Calls Try.prog 26 #[c0, .string s] w (GotB w bo y)))
  have C1 := Lib.hid (fun (w : World) (c0 : Value) (h0 : RepT w (fun _ => True) c0 v) (h2 : RepS w (fun _ => True) (some ⟨b, o, none⟩) (s :: r)) => (hbi ▸ hu ▸ tpget (s :: r) v hgv.neat _ c c0 w _ h0 h2 (by omega) : Calls Try.prog 45 #[c0, .slice (some ⟨b, o, none⟩) (r.length + 1) c] w (GotB w bi u)))
  have C2 := Lib.hid (fun (w : World) (c0 : Value) (h0 : RepT w (fun _ => True) c0 y) (h2 : RepS w (fun _ => True) (some ⟨b, o + 1, none⟩) r) => (hbh ▸ hz2 ▸ tpget r y hyn _ (c - 1) c0 w _ h0 h2 (by simp at hl3; omega) : Calls Try.prog 45 #[c0, .slice (some ⟨b, o + 1, none⟩) r.length (c - 1)] w (GotB w bh z)))
  have C3 := Lib.hid (fun (w : World) (c0 d0 : Value) (h0 : RepT w (fun _ => True) c0 v) (h1 : RepT w (fun _ => True) d0 x) (h2 : RepS w (fun _ => True) (some ⟨b, o, none⟩) (s :: r)) => (hp ▸ tpput (n := 6000) (m := 6001) (by omega) (by omega) (s :: r) v x hgv.neat (hgx.neat.mono (by omega)) hkeys _ c c0 d0 w _ _ h0 h1 h2 hl1 hl2 : Calls Try.prog 47 #[c0, d0, .slice (some ⟨b, o, none⟩) (r.length + 1) c] w (NewPost w p)))
  have C4 := Lib.hid (fun (w : World) (c0 d0 : Value) (h0 : RepT w (fun _ => True) c0 y) (h1 : RepT w (fun _ => True) d0 x) (h2 : RepS w (fun _ => True) (some ⟨b, o + 1, none⟩) r) => (hq ▸ tpput (n := 6000) (m := 6001) (by omega) (by omega) r y x hyn (hgx.neat.mono (by omega)) (fun z hz => hkeys z (by simp [hz])) _ (c - 1) c0 d0 w _ _ h0 h1 h2 (by simp at hl1; omega) (by omega) : Calls Try.prog 47 #[c0, d0, .slice (some ⟨b, o + 1, none⟩) r.length (c - 1)] w (NewPost w q)))
  have C5 := Lib.hid (fun (w : World) (c0 d0 : Value) (h0 : RepT w (fun _ => True) c0 v) (h1 : RepT w (fun _ => True) d0 q) => (hpq ▸ tput v q s c0 d0 w _ _ h0 h1 hz (by have := hgv.mlen; omega) : Calls Try.prog 25 #[c0, .string s, d0] w (NewPost w p)))
  have C6 := Lib.hid (fun (w : World) (h2 : RepS w (fun _ => True) (some ⟨b, o, none⟩) (s :: r)) (h3 : RepS w (fun _ => True) (some ⟨b, o, none⟩) [s]) => (show Calls Try.prog 59 #[.slice (some ⟨b, o, none⟩) (r.length + 1) c, .slice (some ⟨b, o, none⟩) 1 c] w (fun e w' => e = .returned (.bool true) ∧ Below w.heap.size w w') from (tbegins (s :: r) [s] _ _ c c w h2 h3 hl1 hl2 (by simp)).mono (fun e w' ⟨h, k, hk⟩ => ⟨by rw [h, (begins_one s r hr0).1], hk ▸ Below.drewN (Below.refl _ _) k⟩)))
  have C7 := Lib.hid (fun (w : World) (h2 : RepS w (fun _ => True) (some ⟨b, o, none⟩) (s :: r)) (h3 : RepS w (fun _ => True) (some ⟨b, o, none⟩) [s]) => (show Calls Try.prog 59 #[.slice (some ⟨b, o, none⟩) 1 c, .slice (some ⟨b, o, none⟩) (r.length + 1) c] w (fun e w' => e = .returned (.bool false) ∧ Below w.heap.size w w') from (tbegins [s] (s :: r) _ _ c c w h3 h2 (by simp; simp at hl1; omega) hl2 (by simp at hlen ⊢; omega)).mono (fun e w' ⟨h, k, hk⟩ => ⟨by rw [h, (begins_one s r hr0).2], hk ▸ Below.drewN (Below.refl _ _) k⟩)))
  have CS : Hid (∀ (t : T) (w : World) (a b : Value), RepT w (fun _ => True) a t → RepT w (fun _ => True) b t → Calls Try.prog 28 #[a, b] w (fun e w' => e = .returned (.bool true) ∧ Below w.heap.size w w')) := fun t w a b h0 h1 => rsame_true rfl w _ _ a b h0 h1
  clear hp hpq hq hy hbo hu hbi hz2 hbh hyn hr0 hkeys hgv hgx
  rw [List.length_cons] at hl1 h2 hlen hl3
  simp only [List.length_cons]
  generalize r.length = rl at *
  have s1 : (1 : Int) ≤ (rl : Int) + 1 := by omega
  have s2 : (rl : Int) + 1 ≤ (c : Int) := by omega
  have s3 : (0 : Int) ≤ (rl : Int) + 1 := by omega
  have s4 : (0 : Int) ≤ (c : Int) := by omega
  have s5 : (1 : Int) ≤ (c : Int) := by omega
  have s6 : (0 : Int) < (rl : Int) + 1 := by omega
  have g2 : decide ((rl : Int) + 1 < 2) = false := decide_eq_false (by omega)
  have hcne : c ≠ 1 := by omega
  go_wp2_with fail
  have szw := HW1.out.size
  go_cut [7, 8] from 29 to 36 (fun p7 p8 wx => ∃ (g : Nat) (la5 : Option Addr) (lc5 : Nat) (ma5 : Option Addr) (mc5 : Nat), p7 = .pointer (some ⟨g, 0, none⟩) ∧ p8 = .bool bo ∧ Boxed w1 wx g y la5 lc5 ma5 mc5)
  case first =>
    go_region_with (first
          | (go_at_call 26; first
            | ((with_reducible refine (C0.out _ _ (V1_v.out.keep (by exact (Below.refl _ _).drew))).mono ?_); rintro e wz ⟨vz, rfl, hr1, hb1⟩; obtain ⟨la5, lc5, ma5, mc5, rfl, -⟩ := hr1.inv; have HBX := Lib.hid (Boxed.behind hb1 hr1); clear hb1 hr1)
            | ((with_reducible refine (C0.out _ _ (V1_v.out.keep (by exact (Below.new _ _).drew))).mono ?_); rintro e wz ⟨vz, rfl, hr1, hb1⟩; obtain ⟨la5, lc5, ma5, mc5, rfl, -⟩ := hr1.inv; have kz := (((Blk.new w1 25 #[.int .i64 0, .bool false, .int .i64 0, .string ⟨#[]⟩, .slice none 0 0, .slice none 0 0]).drew).keep hb1).cell; have fz := (((Blk.new w1 25 #[.int .i64 0, .bool false, .int .i64 0, .string ⟨#[]⟩, .slice none 0 0, .slice none 0 0]).drew).keep hb1).frozen; have lz := (((Blk.new w1 25 #[.int .i64 0, .bool false, .int .i64 0, .string ⟨#[]⟩, .slice none 0 0, .slice none 0 0]).drew).keep hb1).lt; have HBX := Lib.hid (Boxed.ahead hb1 hr1); clear hb1 hr1)))
    all_goals
      go_wp2_with fail
      go_meet
      exact ⟨_, _, _, _, _, rfl, rfl, HBX.out⟩
  case rest =>
  obtain ⟨w2, ewd⟩ : ∃ z, z = wc := ⟨_, rfl⟩
  subst ewd
  obtain ⟨g7, la5, lc5, ma5, mc5, rfl, rfl, hbx⟩ := hcut
  have hb2 := hbx.bel
  have LY := Lib.hid hbx.box
  have VY := Lib.hid (hbx.rep.weak (S' := fun _ => True) (fun _ _ _ => trivial))
  have L0 := Lib.hid (L1_0.out.keep hb2); have L1 := Lib.hid (L1_1.out.keep hb2); have VV := Lib.hid (V1_v.out.keep hb2); have VX := Lib.hid (V1_x.out.keep hb2); have VL := Lib.hid (HL.out.keep hb2); have VT := Lib.hid (HT.out.keep hb2); have VO := Lib.hid (HO.out.keep hb2); have HWc := Lib.hid (Below.next HW1.out hb2)
  replace hcs := (hb2.cell (p := ⟨b, o, none⟩) hbl).trans hcs; replace hbl := Nat.lt_of_lt_of_le hbl hb2.size
  clear hb2 hbx L1_0 L1_1 V1_v V1_x HL HT HO HW1 C0 szw k1_0 l1_0 k1_1 l1_1
  have k0 := L0.out.cell; have l0 := L0.out.lt
  go_wp2_with fail
  refine (C1.out _ _ VV.out VL.out).mono ?_
  rintro e w3 ⟨v3, rfl, hr3, hb3⟩
  obtain ⟨la6, lc6, ma6, mc6, rfl, -⟩ := hr3.inv
  obtain ⟨w4, ew4⟩ : ∃ z, z = w3.alloc (.cells #[.int .i64 u.kind, .bool u.bool, .int .i64 u.int, .string u.str, .slice la6 u.list.length lc6, .slice ma6 u.map.length mc6] 25) := ⟨_, rfl⟩
  have hb4 : Below w2.heap.size w2 w4 := ew4 ▸ Below.next hb3 (Below.new _ _)
  have LU := Lib.hid (show Blk w4 w3.heap.size 25 #[.int .i64 u.kind, .bool u.bool, .int .i64 u.int, .string u.str, .slice la6 u.list.length lc6, .slice ma6 u.map.length mc6] from ew4 ▸ Blk.new _ _ _); have VU := Lib.hid (show RepT w4 (fun _ => True) _ u from ew4 ▸ hr3.any.keep (Below.new _ _))
  replace L0 := Lib.hid (L0.out.keep hb4); replace L1 := Lib.hid (L1.out.keep hb4); replace LY := Lib.hid (LY.out.keep hb4); replace VY := Lib.hid (VY.out.keep hb4); replace VV := Lib.hid (VV.out.keep hb4); replace VX := Lib.hid (VX.out.keep hb4); replace VL := Lib.hid (VL.out.keep hb4); replace VT := Lib.hid (VT.out.keep hb4); replace VO := Lib.hid (VO.out.keep hb4); replace HWc := Lib.hid (Below.next HWc.out hb4); replace hcs := (hb4.cell (p := ⟨b, o, none⟩) hbl).trans hcs; replace hbl := Nat.lt_of_lt_of_le hbl hb4.size
  have EW4 := Lib.hid ew4
  clear hr3 hb3 hb4 ew4 k0 l0 C1
  have k0 := LY.out.cell; have l0 := LY.out.lt
  go_wp2_with fail
  rw [← EW4.out]
  clear EW4
  go_cut [11, 12] from 43 to 49 (fun p7 p8 wx => ∃ (g : Nat) (la5 : Option Addr) (lc5 : Nat) (ma5 : Option Addr) (mc5 : Nat), p7 = .pointer (some ⟨g, 0, none⟩) ∧ p8 = .bool bh ∧ Boxed w4 wx g z la5 lc5 ma5 mc5)
  case first =>
    go_region_with (first
          | (go_at_call 45; first
            | ((with_reducible refine (C2.out _ _ (VY.out.keep (by exact (Below.refl _ _).drew)) (VT.out.keep (by exact (Below.refl _ _).drew))).mono ?_); rintro e wz ⟨vz, rfl, hr1, hb1⟩; obtain ⟨la5, lc5, ma5, mc5, rfl, -⟩ := hr1.inv; have HBX := Lib.hid (Boxed.behind hb1 hr1); clear hb1 hr1)
            | ((with_reducible refine (C2.out _ _ (VY.out.keep (by exact (Below.new _ _).drew)) (VT.out.keep (by exact (Below.new _ _).drew))).mono ?_); rintro e wz ⟨vz, rfl, hr1, hb1⟩; obtain ⟨la5, lc5, ma5, mc5, rfl, -⟩ := hr1.inv; have kz := (((Blk.new w4 25 #[.int .i64 0, .bool false, .int .i64 0, .string ⟨#[]⟩, .slice none 0 0, .slice none 0 0]).drew).keep hb1).cell; have fz := (((Blk.new w4 25 #[.int .i64 0, .bool false, .int .i64 0, .string ⟨#[]⟩, .slice none 0 0, .slice none 0 0]).drew).keep hb1).frozen; have lz := (((Blk.new w4 25 #[.int .i64 0, .bool false, .int .i64 0, .string ⟨#[]⟩, .slice none 0 0, .slice none 0 0]).drew).keep hb1).lt; have HBX := Lib.hid (Boxed.ahead hb1 hr1); clear hb1 hr1)))
    all_goals
      go_wp2_with fail
      go_meet
      exact ⟨_, _, _, _, _, rfl, rfl, HBX.out⟩
  case rest =>
  obtain ⟨w5, ewd⟩ : ∃ z, z = wc := ⟨_, rfl⟩
  subst ewd
  obtain ⟨g11, la7, lc7, ma7, mc7, rfl, rfl, hbx⟩ := hcut
  have hb5 := hbx.bel
  have LZ := Lib.hid hbx.box; have VZ := Lib.hid (hbx.rep.weak (S' := fun _ => True) (fun _ _ _ => trivial)); replace LU := Lib.hid (LU.out.keep hb5); replace VU := Lib.hid (VU.out.keep hb5)
  replace L0 := Lib.hid (L0.out.keep hb5); replace L1 := Lib.hid (L1.out.keep hb5); replace LY := Lib.hid (LY.out.keep hb5); replace VY := Lib.hid (VY.out.keep hb5); replace VV := Lib.hid (VV.out.keep hb5); replace VX := Lib.hid (VX.out.keep hb5); replace VL := Lib.hid (VL.out.keep hb5); replace VT := Lib.hid (VT.out.keep hb5); replace VO := Lib.hid (VO.out.keep hb5); replace HWc := Lib.hid (Below.next HWc.out hb5); replace hcs := (hb5.cell (p := ⟨b, o, none⟩) hbl).trans hcs; replace hbl := Nat.lt_of_lt_of_le hbl hb5.size
  clear hbx hb5 k0 l0 C2
  have k1 := LU.out.cell; have l1 := LU.out.lt; have k2 := LZ.out.cell; have l2 := LZ.out.lt
  cases bo
  · obtain rfl := HC2.out rfl
    go_wp2_with fail
    clear k1 l1 k2 l2
    have LB0 := L0
    have LB1 := L1
    have LB2 := LY
    have q_0 := LB0.out.cell; have q_1 := LB1.out.cell; have q_2 := LB2.out.cell
    have q_3 := hcs; have hr_0 := hbl
    clear L0 L1 LY hbl hcs
    go_region_held3 (fun w' => (∀ i, w'.cell? ⟨w.heap.size, i, none⟩ = (#[.int .i64 v.kind, .bool v.bool, .int .i64 v.int, .string v.str, .slice la v.list.length lc, .slice ma v.map.length mc] : Array Value)[i]?) ∧ (∀ i, w'.cell? ⟨w.heap.size + 1, i, none⟩ = (#[.int .i64 x.kind, .bool x.bool, .int .i64 x.int, .string x.str, .slice la2 x.list.length lc2, .slice ma2 x.map.length mc2] : Array Value)[i]?) ∧ (∀ i, w'.cell? ⟨g7, i, none⟩ = (#[.int .i64 y.kind, .bool y.bool, .int .i64 y.int, .string y.str, .slice la5 y.list.length lc5, .slice ma5 y.map.length mc5] : Array Value)[i]?) ∧ w'.cell? ⟨b, o, none⟩ = some (.string s)) (first | (with_reducible exact ⟨q_0, q_1, q_2, q_3⟩) | (refine ⟨fun i => ?_, fun i => ?_, fun i => ?_, ?_⟩ <;> (simp only [cell_drew]; first | (with_reducible exact q_0 i) | (with_reducible exact q_1 i) | (with_reducible exact q_2 i) | (with_reducible exact q_3)))) (first
          | (go_at_call 44; refine at_world HWc (by first | (with_reducible exact Below.refl _ _) | (with_reducible exact (Below.refl _ _).drew) | (with_reducible exact Below.new _ _) | (with_reducible exact (Below.new _ _).drew) | (with_reducible exact (Below.new _ _).alloc (by simp) _) | (with_reducible exact ((Below.new _ _).alloc (by simp) _).drew)) (fun HBW => ?_); ((with_reducible refine (awake2 _).mono ?_); rintro e wn1 ⟨rfl, hb⟩; have HBN := Below.next HBW hb; replace VV := Lib.hid (VV.out.keep (HBN)); replace VX := Lib.hid (VX.out.keep (HBN)); replace VY := Lib.hid (VY.out.keep (HBN)); replace VL := Lib.hid (VL.out.keep (HBN)); replace VT := Lib.hid (VT.out.keep (HBN)); replace VO := Lib.hid (VO.out.keep (HBN)); (try replace NQ := Lib.hid (NQ.out.keep (HBN))); (try replace NP := Lib.hid (NP.out.keep (HBN))); (try replace NR := Lib.hid (NR.out.keep (HBN))); replace LB0 := Lib.hid (LB0.out.keep (HBN)); replace LB1 := Lib.hid (LB1.out.keep (HBN)); replace LB2 := Lib.hid (LB2.out.keep (HBN)); replace HWc := Lib.hid (Below.next HWc.out (HBN)); clear q_0; have q_0 := LB0.out.cell; clear q_1; have q_1 := LB1.out.cell; clear q_2; have q_2 := LB2.out.cell; replace q_3 := (HBN.cell (p := ⟨b, o, none⟩) hr_0).trans q_3; replace hr_0 := Nat.lt_of_lt_of_le hr_0 HBN.size; clear hb HBW HBN))
          | (go_at_call 47; refine at_world HWc (by first | (with_reducible exact Below.refl _ _) | (with_reducible exact (Below.refl _ _).drew) | (with_reducible exact Below.new _ _) | (with_reducible exact (Below.new _ _).drew) | (with_reducible exact (Below.new _ _).alloc (by simp) _) | (with_reducible exact ((Below.new _ _).alloc (by simp) _).drew)) (fun HBW => ?_); first | ((with_reducible refine (C4.out _ _ _ (VY.out.keep HBW) (VX.out.keep HBW) (VT.out.keep HBW)).mono ?_); rintro e wn2 ⟨v2, rfl, hr, hb⟩; obtain ⟨qa2, qc2, qm2, qn2, rfl, -⟩ := hr.inv; have HBN := Below.next HBW hb; replace VV := Lib.hid (VV.out.keep (HBN)); replace VX := Lib.hid (VX.out.keep (HBN)); replace VY := Lib.hid (VY.out.keep (HBN)); replace VL := Lib.hid (VL.out.keep (HBN)); replace VT := Lib.hid (VT.out.keep (HBN)); replace VO := Lib.hid (VO.out.keep (HBN)); (try replace NQ := Lib.hid (NQ.out.keep (HBN))); (try replace NP := Lib.hid (NP.out.keep (HBN))); (try replace NR := Lib.hid (NR.out.keep (HBN))); replace LB0 := Lib.hid (LB0.out.keep (HBN)); replace LB1 := Lib.hid (LB1.out.keep (HBN)); replace LB2 := Lib.hid (LB2.out.keep (HBN)); replace HWc := Lib.hid (Below.next HWc.out (HBN)); clear q_0; have q_0 := LB0.out.cell; clear q_1; have q_1 := LB1.out.cell; clear q_2; have q_2 := LB2.out.cell; replace q_3 := (HBN.cell (p := ⟨b, o, none⟩) hr_0).trans q_3; replace hr_0 := Nat.lt_of_lt_of_le hr_0 HBN.size; have NQ := Lib.hid hr.any; clear hr hb HBW HBN) | ((with_reducible refine (C3.out _ _ _ (VV.out.keep HBW) (VX.out.keep HBW) (VL.out.keep HBW)).mono ?_); rintro e wn3 ⟨v3, rfl, hr, hb⟩; obtain ⟨qa3, qc3, qm3, qn3, rfl, -⟩ := hr.inv; have HBN := Below.next HBW hb; replace VV := Lib.hid (VV.out.keep (HBN)); replace VX := Lib.hid (VX.out.keep (HBN)); replace VY := Lib.hid (VY.out.keep (HBN)); replace VL := Lib.hid (VL.out.keep (HBN)); replace VT := Lib.hid (VT.out.keep (HBN)); replace VO := Lib.hid (VO.out.keep (HBN)); (try replace NQ := Lib.hid (NQ.out.keep (HBN))); (try replace NP := Lib.hid (NP.out.keep (HBN))); (try replace NR := Lib.hid (NR.out.keep (HBN))); replace LB0 := Lib.hid (LB0.out.keep (HBN)); replace LB1 := Lib.hid (LB1.out.keep (HBN)); replace LB2 := Lib.hid (LB2.out.keep (HBN)); replace HWc := Lib.hid (Below.next HWc.out (HBN)); clear q_0; have q_0 := LB0.out.cell; clear q_1; have q_1 := LB1.out.cell; clear q_2; have q_2 := LB2.out.cell; replace q_3 := (HBN.cell (p := ⟨b, o, none⟩) hr_0).trans q_3; replace hr_0 := Nat.lt_of_lt_of_le hr_0 HBN.size; have NP := Lib.hid hr.any; clear hr hb HBW HBN))
          | (go_at_call 25; refine at_world HWc (by first | (with_reducible exact Below.refl _ _) | (with_reducible exact (Below.refl _ _).drew) | (with_reducible exact Below.new _ _) | (with_reducible exact (Below.new _ _).drew) | (with_reducible exact (Below.new _ _).alloc (by simp) _) | (with_reducible exact ((Below.new _ _).alloc (by simp) _).drew)) (fun HBW => ?_); ((with_reducible refine (C5.out _ _ _ (VV.out.keep HBW) (NQ.out.keep HBW)).mono ?_); rintro e wn4 ⟨v4, rfl, hr, hb⟩; obtain ⟨qa4, qc4, qm4, qn4, rfl, -⟩ := hr.inv; have HBN := Below.next HBW hb; replace VV := Lib.hid (VV.out.keep (HBN)); replace VX := Lib.hid (VX.out.keep (HBN)); replace VY := Lib.hid (VY.out.keep (HBN)); replace VL := Lib.hid (VL.out.keep (HBN)); replace VT := Lib.hid (VT.out.keep (HBN)); replace VO := Lib.hid (VO.out.keep (HBN)); (try replace NQ := Lib.hid (NQ.out.keep (HBN))); (try replace NP := Lib.hid (NP.out.keep (HBN))); (try replace NR := Lib.hid (NR.out.keep (HBN))); replace LB0 := Lib.hid (LB0.out.keep (HBN)); replace LB1 := Lib.hid (LB1.out.keep (HBN)); replace LB2 := Lib.hid (LB2.out.keep (HBN)); replace HWc := Lib.hid (Below.next HWc.out (HBN)); clear q_0; have q_0 := LB0.out.cell; clear q_1; have q_1 := LB1.out.cell; clear q_2; have q_2 := LB2.out.cell; replace q_3 := (HBN.cell (p := ⟨b, o, none⟩) hr_0).trans q_3; replace hr_0 := Nat.lt_of_lt_of_le hr_0 HBN.size; have NR := Lib.hid hr.any; clear hr hb HBW HBN))
          | (go_at_call 28; refine at_world HWc (by first | (with_reducible exact Below.refl _ _) | (with_reducible exact (Below.refl _ _).drew) | (with_reducible exact Below.new _ _) | (with_reducible exact (Below.new _ _).drew) | (with_reducible exact (Below.new _ _).alloc (by simp) _) | (with_reducible exact ((Below.new _ _).alloc (by simp) _).drew)) (fun HBW => ?_); ((with_reducible refine (CS.out _ _ _ _ (NP.out.keep HBW) (NR.out.keep HBW)).mono ?_); rintro e wn5 ⟨rfl, hb⟩; have HBN := Below.next HBW hb; replace VV := Lib.hid (VV.out.keep (HBN)); replace VX := Lib.hid (VX.out.keep (HBN)); replace VY := Lib.hid (VY.out.keep (HBN)); replace VL := Lib.hid (VL.out.keep (HBN)); replace VT := Lib.hid (VT.out.keep (HBN)); replace VO := Lib.hid (VO.out.keep (HBN)); (try replace NQ := Lib.hid (NQ.out.keep (HBN))); (try replace NP := Lib.hid (NP.out.keep (HBN))); (try replace NR := Lib.hid (NR.out.keep (HBN))); replace LB0 := Lib.hid (LB0.out.keep (HBN)); replace LB1 := Lib.hid (LB1.out.keep (HBN)); replace LB2 := Lib.hid (LB2.out.keep (HBN)); replace HWc := Lib.hid (Below.next HWc.out (HBN)); clear q_0; have q_0 := LB0.out.cell; clear q_1; have q_1 := LB1.out.cell; clear q_2; have q_2 := LB2.out.cell; replace q_3 := (HBN.cell (p := ⟨b, o, none⟩) hr_0).trans q_3; replace hr_0 := Nat.lt_of_lt_of_le hr_0 HBN.size; clear hb HBW HBN))
          | (go_at_call 59; refine at_world HWc (by first | (with_reducible exact Below.refl _ _) | (with_reducible exact (Below.refl _ _).drew) | (with_reducible exact Below.new _ _) | (with_reducible exact (Below.new _ _).drew) | (with_reducible exact (Below.new _ _).alloc (by simp) _) | (with_reducible exact ((Below.new _ _).alloc (by simp) _).drew)) (fun HBW => ?_); first | ((with_reducible refine (C6.out _ (VL.out.keep HBW) (VO.out.keep HBW)).mono ?_); rintro e wn6 ⟨rfl, hb⟩; have HBN := Below.next HBW hb; replace VV := Lib.hid (VV.out.keep (HBN)); replace VX := Lib.hid (VX.out.keep (HBN)); replace VY := Lib.hid (VY.out.keep (HBN)); replace VL := Lib.hid (VL.out.keep (HBN)); replace VT := Lib.hid (VT.out.keep (HBN)); replace VO := Lib.hid (VO.out.keep (HBN)); (try replace NQ := Lib.hid (NQ.out.keep (HBN))); (try replace NP := Lib.hid (NP.out.keep (HBN))); (try replace NR := Lib.hid (NR.out.keep (HBN))); replace LB0 := Lib.hid (LB0.out.keep (HBN)); replace LB1 := Lib.hid (LB1.out.keep (HBN)); replace LB2 := Lib.hid (LB2.out.keep (HBN)); replace HWc := Lib.hid (Below.next HWc.out (HBN)); clear q_0; have q_0 := LB0.out.cell; clear q_1; have q_1 := LB1.out.cell; clear q_2; have q_2 := LB2.out.cell; replace q_3 := (HBN.cell (p := ⟨b, o, none⟩) hr_0).trans q_3; replace hr_0 := Nat.lt_of_lt_of_le hr_0 HBN.size; clear hb HBW HBN) | ((with_reducible refine (C7.out _ (VL.out.keep HBW) (VO.out.keep HBW)).mono ?_); rintro e wn7 ⟨rfl, hb⟩; have HBN := Below.next HBW hb; replace VV := Lib.hid (VV.out.keep (HBN)); replace VX := Lib.hid (VX.out.keep (HBN)); replace VY := Lib.hid (VY.out.keep (HBN)); replace VL := Lib.hid (VL.out.keep (HBN)); replace VT := Lib.hid (VT.out.keep (HBN)); replace VO := Lib.hid (VO.out.keep (HBN)); (try replace NQ := Lib.hid (NQ.out.keep (HBN))); (try replace NP := Lib.hid (NP.out.keep (HBN))); (try replace NR := Lib.hid (NR.out.keep (HBN))); replace LB0 := Lib.hid (LB0.out.keep (HBN)); replace LB1 := Lib.hid (LB1.out.keep (HBN)); replace LB2 := Lib.hid (LB2.out.keep (HBN)); replace HWc := Lib.hid (Below.next HWc.out (HBN)); clear q_0; have q_0 := LB0.out.cell; clear q_1; have q_1 := LB1.out.cell; clear q_2; have q_2 := LB2.out.cell; replace q_3 := (HBN.cell (p := ⟨b, o, none⟩) hr_0).trans q_3; replace hr_0 := Nat.lt_of_lt_of_le hr_0 HBN.size; clear hb HBW HBN)))
    all_goals
      go_wp2_with fail
      go_ret
      exact ⟨rfl, HWc.out⟩
  · obtain ⟨rfl, rfl⟩ := HC1.out rfl
    go_wp2_with fail
    refine (CS.out _ _ _ _ VU.out VZ.out).mono ?_
    rintro e w6 ⟨rfl, hb6⟩
    replace LU := Lib.hid (LU.out.keep hb6); replace VU := Lib.hid (VU.out.keep hb6); replace L0 := Lib.hid (L0.out.keep hb6); replace L1 := Lib.hid (L1.out.keep hb6); replace LY := Lib.hid (LY.out.keep hb6); replace VY := Lib.hid (VY.out.keep hb6); replace VV := Lib.hid (VV.out.keep hb6); replace VX := Lib.hid (VX.out.keep hb6); replace VL := Lib.hid (VL.out.keep hb6); replace VT := Lib.hid (VT.out.keep hb6); replace VO := Lib.hid (VO.out.keep hb6); replace HWc := Lib.hid (Below.next HWc.out hb6); replace hcs := (hb6.cell (p := ⟨b, o, none⟩) hbl).trans hcs; replace hbl := Nat.lt_of_lt_of_le hbl hb6.size
    clear hb6
    go_wp2_with fail
    clear k1 l1 k2 l2
    have LB0 := L0
    have LB1 := L1
    have LB2 := LY
    have q_0 := LB0.out.cell; have q_1 := LB1.out.cell; have q_2 := LB2.out.cell
    have q_3 := hcs; have hr_0 := hbl
    clear L0 L1 LY hbl hcs
    go_region_held3 (fun w' => (∀ i, w'.cell? ⟨w.heap.size, i, none⟩ = (#[.int .i64 v.kind, .bool v.bool, .int .i64 v.int, .string v.str, .slice la v.list.length lc, .slice ma v.map.length mc] : Array Value)[i]?) ∧ (∀ i, w'.cell? ⟨w.heap.size + 1, i, none⟩ = (#[.int .i64 x.kind, .bool x.bool, .int .i64 x.int, .string x.str, .slice la2 x.list.length lc2, .slice ma2 x.map.length mc2] : Array Value)[i]?) ∧ (∀ i, w'.cell? ⟨g7, i, none⟩ = (#[.int .i64 y.kind, .bool y.bool, .int .i64 y.int, .string y.str, .slice la5 y.list.length lc5, .slice ma5 y.map.length mc5] : Array Value)[i]?) ∧ w'.cell? ⟨b, o, none⟩ = some (.string s)) (first | (with_reducible exact ⟨q_0, q_1, q_2, q_3⟩) | (refine ⟨fun i => ?_, fun i => ?_, fun i => ?_, ?_⟩ <;> (simp only [cell_drew]; first | (with_reducible exact q_0 i) | (with_reducible exact q_1 i) | (with_reducible exact q_2 i) | (with_reducible exact q_3)))) (first
          | (go_at_call 44; refine at_world HWc (by first | (with_reducible exact Below.refl _ _) | (with_reducible exact (Below.refl _ _).drew) | (with_reducible exact Below.new _ _) | (with_reducible exact (Below.new _ _).drew) | (with_reducible exact (Below.new _ _).alloc (by simp) _) | (with_reducible exact ((Below.new _ _).alloc (by simp) _).drew)) (fun HBW => ?_); ((with_reducible refine (awake2 _).mono ?_); rintro e wn1 ⟨rfl, hb⟩; have HBN := Below.next HBW hb; replace VV := Lib.hid (VV.out.keep (HBN)); replace VX := Lib.hid (VX.out.keep (HBN)); replace VY := Lib.hid (VY.out.keep (HBN)); replace VL := Lib.hid (VL.out.keep (HBN)); replace VT := Lib.hid (VT.out.keep (HBN)); replace VO := Lib.hid (VO.out.keep (HBN)); (try replace NQ := Lib.hid (NQ.out.keep (HBN))); (try replace NP := Lib.hid (NP.out.keep (HBN))); (try replace NR := Lib.hid (NR.out.keep (HBN))); replace LB0 := Lib.hid (LB0.out.keep (HBN)); replace LB1 := Lib.hid (LB1.out.keep (HBN)); replace LB2 := Lib.hid (LB2.out.keep (HBN)); replace HWc := Lib.hid (Below.next HWc.out (HBN)); clear q_0; have q_0 := LB0.out.cell; clear q_1; have q_1 := LB1.out.cell; clear q_2; have q_2 := LB2.out.cell; replace q_3 := (HBN.cell (p := ⟨b, o, none⟩) hr_0).trans q_3; replace hr_0 := Nat.lt_of_lt_of_le hr_0 HBN.size; clear hb HBW HBN))
          | (go_at_call 47; refine at_world HWc (by first | (with_reducible exact Below.refl _ _) | (with_reducible exact (Below.refl _ _).drew) | (with_reducible exact Below.new _ _) | (with_reducible exact (Below.new _ _).drew) | (with_reducible exact (Below.new _ _).alloc (by simp) _) | (with_reducible exact ((Below.new _ _).alloc (by simp) _).drew)) (fun HBW => ?_); first | ((with_reducible refine (C4.out _ _ _ (VY.out.keep HBW) (VX.out.keep HBW) (VT.out.keep HBW)).mono ?_); rintro e wn2 ⟨v2, rfl, hr, hb⟩; obtain ⟨qa2, qc2, qm2, qn2, rfl, -⟩ := hr.inv; have HBN := Below.next HBW hb; replace VV := Lib.hid (VV.out.keep (HBN)); replace VX := Lib.hid (VX.out.keep (HBN)); replace VY := Lib.hid (VY.out.keep (HBN)); replace VL := Lib.hid (VL.out.keep (HBN)); replace VT := Lib.hid (VT.out.keep (HBN)); replace VO := Lib.hid (VO.out.keep (HBN)); (try replace NQ := Lib.hid (NQ.out.keep (HBN))); (try replace NP := Lib.hid (NP.out.keep (HBN))); (try replace NR := Lib.hid (NR.out.keep (HBN))); replace LB0 := Lib.hid (LB0.out.keep (HBN)); replace LB1 := Lib.hid (LB1.out.keep (HBN)); replace LB2 := Lib.hid (LB2.out.keep (HBN)); replace HWc := Lib.hid (Below.next HWc.out (HBN)); clear q_0; have q_0 := LB0.out.cell; clear q_1; have q_1 := LB1.out.cell; clear q_2; have q_2 := LB2.out.cell; replace q_3 := (HBN.cell (p := ⟨b, o, none⟩) hr_0).trans q_3; replace hr_0 := Nat.lt_of_lt_of_le hr_0 HBN.size; have NQ := Lib.hid hr.any; clear hr hb HBW HBN) | ((with_reducible refine (C3.out _ _ _ (VV.out.keep HBW) (VX.out.keep HBW) (VL.out.keep HBW)).mono ?_); rintro e wn3 ⟨v3, rfl, hr, hb⟩; obtain ⟨qa3, qc3, qm3, qn3, rfl, -⟩ := hr.inv; have HBN := Below.next HBW hb; replace VV := Lib.hid (VV.out.keep (HBN)); replace VX := Lib.hid (VX.out.keep (HBN)); replace VY := Lib.hid (VY.out.keep (HBN)); replace VL := Lib.hid (VL.out.keep (HBN)); replace VT := Lib.hid (VT.out.keep (HBN)); replace VO := Lib.hid (VO.out.keep (HBN)); (try replace NQ := Lib.hid (NQ.out.keep (HBN))); (try replace NP := Lib.hid (NP.out.keep (HBN))); (try replace NR := Lib.hid (NR.out.keep (HBN))); replace LB0 := Lib.hid (LB0.out.keep (HBN)); replace LB1 := Lib.hid (LB1.out.keep (HBN)); replace LB2 := Lib.hid (LB2.out.keep (HBN)); replace HWc := Lib.hid (Below.next HWc.out (HBN)); clear q_0; have q_0 := LB0.out.cell; clear q_1; have q_1 := LB1.out.cell; clear q_2; have q_2 := LB2.out.cell; replace q_3 := (HBN.cell (p := ⟨b, o, none⟩) hr_0).trans q_3; replace hr_0 := Nat.lt_of_lt_of_le hr_0 HBN.size; have NP := Lib.hid hr.any; clear hr hb HBW HBN))
          | (go_at_call 25; refine at_world HWc (by first | (with_reducible exact Below.refl _ _) | (with_reducible exact (Below.refl _ _).drew) | (with_reducible exact Below.new _ _) | (with_reducible exact (Below.new _ _).drew) | (with_reducible exact (Below.new _ _).alloc (by simp) _) | (with_reducible exact ((Below.new _ _).alloc (by simp) _).drew)) (fun HBW => ?_); ((with_reducible refine (C5.out _ _ _ (VV.out.keep HBW) (NQ.out.keep HBW)).mono ?_); rintro e wn4 ⟨v4, rfl, hr, hb⟩; obtain ⟨qa4, qc4, qm4, qn4, rfl, -⟩ := hr.inv; have HBN := Below.next HBW hb; replace VV := Lib.hid (VV.out.keep (HBN)); replace VX := Lib.hid (VX.out.keep (HBN)); replace VY := Lib.hid (VY.out.keep (HBN)); replace VL := Lib.hid (VL.out.keep (HBN)); replace VT := Lib.hid (VT.out.keep (HBN)); replace VO := Lib.hid (VO.out.keep (HBN)); (try replace NQ := Lib.hid (NQ.out.keep (HBN))); (try replace NP := Lib.hid (NP.out.keep (HBN))); (try replace NR := Lib.hid (NR.out.keep (HBN))); replace LB0 := Lib.hid (LB0.out.keep (HBN)); replace LB1 := Lib.hid (LB1.out.keep (HBN)); replace LB2 := Lib.hid (LB2.out.keep (HBN)); replace HWc := Lib.hid (Below.next HWc.out (HBN)); clear q_0; have q_0 := LB0.out.cell; clear q_1; have q_1 := LB1.out.cell; clear q_2; have q_2 := LB2.out.cell; replace q_3 := (HBN.cell (p := ⟨b, o, none⟩) hr_0).trans q_3; replace hr_0 := Nat.lt_of_lt_of_le hr_0 HBN.size; have NR := Lib.hid hr.any; clear hr hb HBW HBN))
          | (go_at_call 28; refine at_world HWc (by first | (with_reducible exact Below.refl _ _) | (with_reducible exact (Below.refl _ _).drew) | (with_reducible exact Below.new _ _) | (with_reducible exact (Below.new _ _).drew) | (with_reducible exact (Below.new _ _).alloc (by simp) _) | (with_reducible exact ((Below.new _ _).alloc (by simp) _).drew)) (fun HBW => ?_); ((with_reducible refine (CS.out _ _ _ _ (NP.out.keep HBW) (NR.out.keep HBW)).mono ?_); rintro e wn5 ⟨rfl, hb⟩; have HBN := Below.next HBW hb; replace VV := Lib.hid (VV.out.keep (HBN)); replace VX := Lib.hid (VX.out.keep (HBN)); replace VY := Lib.hid (VY.out.keep (HBN)); replace VL := Lib.hid (VL.out.keep (HBN)); replace VT := Lib.hid (VT.out.keep (HBN)); replace VO := Lib.hid (VO.out.keep (HBN)); (try replace NQ := Lib.hid (NQ.out.keep (HBN))); (try replace NP := Lib.hid (NP.out.keep (HBN))); (try replace NR := Lib.hid (NR.out.keep (HBN))); replace LB0 := Lib.hid (LB0.out.keep (HBN)); replace LB1 := Lib.hid (LB1.out.keep (HBN)); replace LB2 := Lib.hid (LB2.out.keep (HBN)); replace HWc := Lib.hid (Below.next HWc.out (HBN)); clear q_0; have q_0 := LB0.out.cell; clear q_1; have q_1 := LB1.out.cell; clear q_2; have q_2 := LB2.out.cell; replace q_3 := (HBN.cell (p := ⟨b, o, none⟩) hr_0).trans q_3; replace hr_0 := Nat.lt_of_lt_of_le hr_0 HBN.size; clear hb HBW HBN))
          | (go_at_call 59; refine at_world HWc (by first | (with_reducible exact Below.refl _ _) | (with_reducible exact (Below.refl _ _).drew) | (with_reducible exact Below.new _ _) | (with_reducible exact (Below.new _ _).drew) | (with_reducible exact (Below.new _ _).alloc (by simp) _) | (with_reducible exact ((Below.new _ _).alloc (by simp) _).drew)) (fun HBW => ?_); first | ((with_reducible refine (C6.out _ (VL.out.keep HBW) (VO.out.keep HBW)).mono ?_); rintro e wn6 ⟨rfl, hb⟩; have HBN := Below.next HBW hb; replace VV := Lib.hid (VV.out.keep (HBN)); replace VX := Lib.hid (VX.out.keep (HBN)); replace VY := Lib.hid (VY.out.keep (HBN)); replace VL := Lib.hid (VL.out.keep (HBN)); replace VT := Lib.hid (VT.out.keep (HBN)); replace VO := Lib.hid (VO.out.keep (HBN)); (try replace NQ := Lib.hid (NQ.out.keep (HBN))); (try replace NP := Lib.hid (NP.out.keep (HBN))); (try replace NR := Lib.hid (NR.out.keep (HBN))); replace LB0 := Lib.hid (LB0.out.keep (HBN)); replace LB1 := Lib.hid (LB1.out.keep (HBN)); replace LB2 := Lib.hid (LB2.out.keep (HBN)); replace HWc := Lib.hid (Below.next HWc.out (HBN)); clear q_0; have q_0 := LB0.out.cell; clear q_1; have q_1 := LB1.out.cell; clear q_2; have q_2 := LB2.out.cell; replace q_3 := (HBN.cell (p := ⟨b, o, none⟩) hr_0).trans q_3; replace hr_0 := Nat.lt_of_lt_of_le hr_0 HBN.size; clear hb HBW HBN) | ((with_reducible refine (C7.out _ (VL.out.keep HBW) (VO.out.keep HBW)).mono ?_); rintro e wn7 ⟨rfl, hb⟩; have HBN := Below.next HBW hb; replace VV := Lib.hid (VV.out.keep (HBN)); replace VX := Lib.hid (VX.out.keep (HBN)); replace VY := Lib.hid (VY.out.keep (HBN)); replace VL := Lib.hid (VL.out.keep (HBN)); replace VT := Lib.hid (VT.out.keep (HBN)); replace VO := Lib.hid (VO.out.keep (HBN)); (try replace NQ := Lib.hid (NQ.out.keep (HBN))); (try replace NP := Lib.hid (NP.out.keep (HBN))); (try replace NR := Lib.hid (NR.out.keep (HBN))); replace LB0 := Lib.hid (LB0.out.keep (HBN)); replace LB1 := Lib.hid (LB1.out.keep (HBN)); replace LB2 := Lib.hid (LB2.out.keep (HBN)); replace HWc := Lib.hid (Below.next HWc.out (HBN)); clear q_0; have q_0 := LB0.out.cell; clear q_1; have q_1 := LB1.out.cell; clear q_2; have q_2 := LB2.out.cell; replace q_3 := (HBN.cell (p := ⟨b, o, none⟩) hr_0).trans q_3; replace hr_0 := Nat.lt_of_lt_of_le hr_0 HBN.size; clear hb HBW HBN)))
    all_goals
      go_wp2_with fail
      go_ret
      exact ⟨rfl, HWc.out⟩

end Go.Proofs.Ytmdihildjblgnaa
