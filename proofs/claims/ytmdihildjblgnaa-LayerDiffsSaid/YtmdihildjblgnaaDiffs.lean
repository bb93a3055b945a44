/- LayerDiffs answers true for every input. -/
import Derived.Test.YtmdihildjblgnaaInvV
import Derived.Test.YtmdihildjblgnaaAwake3
import Derived.Test.YtmdihildjblgnaaDiff
import Derived.Test.YtmdihildjblgnaaPath
import Derived.Deep.RegionHeld3
import Derived.Deep.DrawnRows
namespace Go.Proofs.Ytmdihildjblgnaa
open Go.RowKit
attribute [local go_sem ↓] Go.wp_at_zero Go.wp_at_succ

theorem over_none {n : Nat} {a : T} (ha : Neat n a) (h5 : a.kind = 5) : (mkMap []).over a = a := by
  obtain ⟨l', e, hks, -, hlk⟩ := over_look ha neat_m0 h5 rfl
  rw [e, KS_ext hks ha.KS fun k => ?_, ← ha.map h5]
  rw [hlk]; rfl

set_option maxRecDepth 100000 in
set_option maxHeartbeats 8000000 in
theorem diffs3 (a b : T) (va vb : Value) (w : World) (ha : RepT w (fun _ => True) va a) (hb : RepT w (fun _ => True) vb b) :
    Calls Try.prog 16 #[va, vb] w fun e w' => e = .returned (.bool true) ∧ Below w.heap.size w w' := by
  obtain ⟨la, lc, ma, mc, rfl, -⟩ := ha.inv
  obtain ⟨la2, lc2, ma2, mc2, rfl, -⟩ := hb.inv
  have H_a := Lib.hid ha
  have H_b := Lib.hid hb
  clear ha hb
  go_enter Try.func16, Try.ntmps16
  go_wp2_with fail
  refine (right [a, b] _ (fun _ => True) _ 2 (repE_L.1 (rep_block (E := eltV) (S := fun _ => True) (l := [a, b]) [[.int .i64 a.kind, .bool a.bool, .int .i64 a.int, .string a.str, .slice la a.list.length lc, .slice ma a.map.length mc], [.int .i64 b.kind, .bool b.bool, .int .i64 b.int, .string b.str, .slice la2 b.list.length lc2, .slice ma2 b.map.length mc2]] (Blk.new_at ((w.alloc (.cells #[.int .i64 a.kind, .bool a.bool, .int .i64 a.int, .string a.str, .slice la a.list.length lc, .slice ma a.map.length mc] 25)).alloc (.cells #[.int .i64 b.kind, .bool b.bool, .int .i64 b.int, .string b.str, .slice la2 b.list.length lc2, .slice ma2 b.map.length mc2] 25)) 25 #[.int .i64 a.kind, .bool a.bool, .int .i64 a.int, .string a.str, .slice la a.list.length lc, .slice ma a.map.length mc, .int .i64 b.kind, .bool b.bool, .int .i64 b.int, .string b.str, .slice la2 b.list.length lc2, .slice ma2 b.map.length mc2] (n := w.heap.size + 1 + 1) (by simp)) rfl trivial ⟨(H_a.out.keep (by exact ((Below.new _ _).alloc (by simp) _).alloc (by simp; omega) _)), (H_b.out.keep (by exact ((Below.new _ _).alloc (by simp) _).alloc (by simp; omega) _)), trivial⟩)) (by simp)).mono ?_
  rintro e w1 ⟨r, rfl, hr, hb⟩
  have HD1 := Lib.hid (show Below w.heap.size w w1 from Below.next (((Below.new _ _).alloc (by simp) _).alloc (by simp; omega) _) hb)
  have L1_0 := Lib.hid ((((Blk.new w 25 #[.int .i64 a.kind, .bool a.bool, .int .i64 a.int, .string a.str, .slice la a.list.length lc, .slice ma a.map.length mc]).alloc (.cells #[.int .i64 b.kind, .bool b.bool, .int .i64 b.int, .string b.str, .slice la2 b.list.length lc2, .slice ma2 b.map.length mc2] 25)).alloc (.cells #[.int .i64 a.kind, .bool a.bool, .int .i64 a.int, .string a.str, .slice la a.list.length lc, .slice ma a.map.length mc, .int .i64 b.kind, .bool b.bool, .int .i64 b.int, .string b.str, .slice la2 b.list.length lc2, .slice ma2 b.map.length mc2] 25)).keep hb)
  have L1_1 := Lib.hid (((Blk.new_at (w.alloc (.cells #[.int .i64 a.kind, .bool a.bool, .int .i64 a.int, .string a.str, .slice la a.list.length lc, .slice ma a.map.length mc] 25)) 25 #[.int .i64 b.kind, .bool b.bool, .int .i64 b.int, .string b.str, .slice la2 b.list.length lc2, .slice ma2 b.map.length mc2] (n := w.heap.size + 1) (by simp)).alloc (.cells #[.int .i64 a.kind, .bool a.bool, .int .i64 a.int, .string a.str, .slice la a.list.length lc, .slice ma a.map.length mc, .int .i64 b.kind, .bool b.bool, .int .i64 b.int, .string b.str, .slice la2 b.list.length lc2, .slice ma2 b.map.length mc2] 25)).keep hb)
  have V1_a := Lib.hid (H_a.out.keep HD1.out)
  have V1_b := Lib.hid (H_b.out.keep HD1.out)
  have HW1 := Lib.hid (show Below w.heap.size w w1 from HD1.out)
  clear hb HD1 H_a H_b
  have k1_0 := L1_0.out.cell
  have l1_0 := L1_0.out.lt
  have k1_1 := L1_1.out.cell
  have l1_1 := L1_1.out.lt
  have HR := Lib.hid hr
  clear hr
  cases r
  · go_wp2_with (go_at_call 37; refine (awake3 _).mono ?_; rintro e w9 ⟨rfl, hb9⟩)
    go_ret
    exact ⟨rfl, Below.next HW1.out hb9⟩
  have hga : Good a := HR.out rfl a (by simp)
  have hgb : Good b := HR.out rfl b (by simp)
  by_cases h5 : a.kind = 5
  case neg =>
    have gh5 : (a.kind != 5) = true := bne_iff_ne.2 h5
    clear h5 hga hgb
    go_wp2_with (go_at_call 37; refine (awake3 _).mono ?_; rintro e w9 ⟨rfl, hb9⟩)
    go_ret
    exact ⟨rfl, Below.next HW1.out hb9⟩
  by_cases h6 : b.kind = 5
  case neg =>
    have gh6 : (b.kind != 5) = true := bne_iff_ne.2 h6
    have gh5 : (a.kind != 5) = false := by rw [h5]; rfl
    clear h5
    clear h6 hga hgb
    go_wp2_with (go_at_call 37; refine (awake3 _).mono ?_; rintro e w9 ⟨rfl, hb9⟩)
    go_ret
    exact ⟨rfl, Below.next HW1.out hb9⟩
  have gh5 : (a.kind != 5) = false := by rw [h5]; rfl
  have gh6 : (b.kind != 5) = false := by rw [h6]; rfl
  have hp6 : Neat 6000 a.strip := strip_neat hga.neat
  have hq6 : Neat 6000 b.strip := strip_neat hgb.neat
  have hpp : PlainT a.strip := strip_strip hga.neat
  have hqp : PlainT b.strip := strip_strip hgb.neat
  have hpk : a.strip.kind = 5 := (strip_kind a).trans h5
  have hqk : b.strip.kind = 5 := (strip_kind b).trans h6
  obtain ⟨p, hpe⟩ : ∃ s, s = a.strip := ⟨_, rfl⟩
  obtain ⟨q, hqe⟩ : ∃ s, s = b.strip := ⟨_, rfl⟩
  rw [← hpe] at hp6 hpp hpk
  rw [← hqe] at hq6 hqp hqk
  obtain ⟨d, hd⟩ : ∃ s, s = q.diff p := ⟨_, rfl⟩
  have hdn : Neat 12000 d := hd ▸ diff_neat (n := 6000) (k := 6000) hq6 hp6
  obtain ⟨m0, hm0⟩ : ∃ s, s = mkMap [] := ⟨_, rfl⟩
  have hmn : Neat 0 m0 := hm0 ▸ neat_m0
  obtain ⟨z, hz⟩ : ∃ s, s = p.diff p := ⟨_, rfl⟩
  have HZ := Lib.hid (show z.map = [] from hz ▸ diff_self hp6)
  have CA : Hid (∀ (w : World) (c e : Value), RepT w (fun _ => True) c T.zero → RepT w (fun _ => True) e a → Calls Try.prog 38 #[c, e] w (NewPost w p)) := fun w c e h0 h1 => by have := tover (na := 6000) (nb := 6000) (by omega) a T.zero (Neat.zero (n := 6000)) hga.neat c e w _ _ h0 h1; rw [over_zero, ← hpe] at this; exact this
  have CB : Hid (∀ (w : World) (c e : Value), RepT w (fun _ => True) c T.zero → RepT w (fun _ => True) e b → Calls Try.prog 38 #[c, e] w (NewPost w q)) := fun w c e h0 h1 => by have := tover (na := 6000) (nb := 6000) (by omega) b T.zero (Neat.zero (n := 6000)) hgb.neat c e w _ _ h0 h1; rw [over_zero, ← hqe] at this; exact this
  have CD : Hid (∀ (w : World) (c e : Value), RepT w (fun _ => True) c p → RepT w (fun _ => True) e d → Calls Try.prog 38 #[c, e] w (NewPost w q)) := fun w c e h0 h1 => by have := tover (na := 6000) (nb := 12000) (by omega) d p hp6 hdn c e w _ _ h0 h1; rw [show d.over p = q from hd ▸ over_diff hq6 hqp hqk hp6 hpp hpk] at this; exact this
  have CP : Hid (∀ (w : World) (c e : Value), RepT w (fun _ => True) c p → RepT w (fun _ => True) e p → Calls Try.prog 38 #[c, e] w (NewPost w p)) := fun w c e h0 h1 => by have := tover (na := 6000) (nb := 6000) (by omega) p p hp6 hp6 c e w _ _ h0 h1; rw [over_self hp6 hpp] at this; exact this
  have CN : Hid (∀ (w : World) (c e : Value), RepT w (fun _ => True) c a → RepT w (fun _ => True) e m0 → Calls Try.prog 38 #[c, e] w (NewPost w a)) := fun w c e h0 h1 => by have := tover (na := 6000) (nb := 0) (by omega) m0 a hga.neat hmn c e w _ _ h0 h1; rw [show m0.over a = a from hm0 ▸ over_none hga.neat h5] at this; exact this
  have CM : Hid (∀ (w : World) (c e : Value), RepT w (fun _ => True) c m0 → RepT w (fun _ => True) e p → Calls Try.prog 38 #[c, e] w (NewPost w p)) := fun w c e h0 h1 => by have := tover (na := 0) (nb := 6000) (by omega) p m0 hmn hp6 c e w _ _ h0 h1; rw [show p.over m0 = p from (over_plain (n := 0) (k := 6000) hmn hp6 hpk (by rw [hm0]; rfl) (by rw [hm0]; rfl)).trans hpp] at this; exact this
  have CX : ∀ d0, d0 = d → Hid (∀ (w : World) (c d : Value), RepT w (fun _ => True) c p → RepT w (fun _ => True) d q → Calls Try.prog 63 #[c, d] w (NewPost w d0)) := fun d0 e0 w c d h0 h1 => (e0.trans hd) ▸ tdiff (na := 6000) (nb := 6000) (by omega) q p hp6 hq6 c d w _ _ h0 h1
  replace CX := CX d rfl
  have CZ : Hid (∀ (w : World) (c d : Value), RepT w (fun _ => True) c p → RepT w (fun _ => True) d p → Calls Try.prog 63 #[c, d] w (NewPost w z)) := fun w c d h0 h1 => hz ▸ tdiff (na := 6000) (nb := 6000) (by omega) p p hp6 hp6 c d w _ _ h0 h1
  have CL : Hid (∀ (w : World) (c : Value), RepT w (fun _ => True) c p → Calls Try.prog 61 #[c] w (fun e w' => e = .returned (.bool true) ∧ Below w.heap.size w w')) := fun w c h0 => tplain (n := 6000) (by omega) p hp6 true (by simp only [true_iff]; exact hpp) c w _ h0
  have CK : Hid (∀ (w : World) (c : Value), RepT w (fun _ => True) c q → Calls Try.prog 61 #[c] w (fun e w' => e = .returned (.bool true) ∧ Below w.heap.size w w')) := fun w c h0 => tplain (n := 6000) (by omega) q hq6 true (by simp only [true_iff]; exact hqp) c w _ h0
  have CE : Hid (∀ (w : World), Calls Try.prog 29 #[.slice none 0 0] w (NewPost w m0)) := fun w => hm0 ▸ tmap0 w
  have CS : Hid (∀ (t : T) (w : World) (a b : Value), RepT w (fun _ => True) a t → RepT w (fun _ => True) b t → Calls Try.prog 28 #[a, b] w (fun e w' => e = .returned (.bool true) ∧ Below w.heap.size w w')) := fun t w a b h0 h1 => rsame_true rfl w _ _ a b h0 h1
  clear hz hm0 hmn hd hdn h5 h6 hp6 hq6 hpp hqp hpk hqk hpe hqe hga hgb HR
  go_wp2_with fail
  have HA := Lib.hid (V1_a.out); have HB0 := V1_b
  clear k1_0 k1_1 l1_0 l1_1
  refine lay_frame (fun Af (FR : Value → Value → Value → Value → Value → Value → Value → Value → Act) => ∀ x24 x25 x26 x27 x28 x29 x5 x6, ((((((((Af.put (some 24) x24).put (some 25) x25).put (some 26) x26).put (some 27) x27).put (some 28) x28).put (some 29) x29).put (some 5) x5).put (some 6) x6) = FR x24 x25 x26 x27 x28 x29 x5 x6) ?FR ?heq (fun hfr => ?main)
  case heq =>
    intro x24 x25 x26 x27 x28 x29 x5 x6
    simp only [Act.put, List.setIfInBounds_toArray, List.set_cons_zero, List.set_cons_succ]
    rfl
  refine wp_region_inv (n := 10) (fun Af dd sx wx => ∃ (O : Nat → Nat) (x24 x25 x26 x27 x28 x29 x5 x6 : Value), sx = ((((((((Af.put (some 24) x24).put (some 25) x25).put (some 26) x26).put (some 27) x27).put (some 28) x28).put (some 29) x29).put (some 5) x5).put (some 6) x6) ∧ Below w1.heap.size w1 wx ∧ (∀ b, b < w1.heap.size → O b = 0) ∧ (dd 0 = true → RepT wx (fun b => O b = 0) x24 T.zero) ∧ (dd 1 = true → x25 = .agg #[.int .i64 a.kind, .bool a.bool, .int .i64 a.int, .string a.str, .slice la a.list.length lc, .slice ma a.map.length mc]) ∧ (dd 2 = true → RepT wx (fun b => O b = 0) x26 p) ∧ (dd 3 = true → RepT wx (fun b => O b = 0) x27 T.zero) ∧ (dd 4 = true → x28 = .agg #[.int .i64 b.kind, .bool b.bool, .int .i64 b.int, .string b.str, .slice la2 b.list.length lc2, .slice ma2 b.map.length mc2]) ∧ (dd 5 = true → RepT wx (fun b => O b = 0) x29 q) ∧ (dd 6 = true → BoxI O wx w1.heap.size x5 1 (dd 8) x26) ∧ (dd 7 = true → BoxI O wx w1.heap.size x6 2 (dd 9) x29) ∧ (dd 8 = true → dd 6 = true ∧ dd 2 = true) ∧ (dd 9 = true → dd 7 = true ∧ dd 5 = true)) (by kernel_rfl) (by kernel_rfl) rfl ?_ ⟨?_, ?_, ?_, ?_, ?_, ?_, ?_, ?_, ?_, ?_, trivial⟩ ?_
  · refine ⟨fun _ => 0, undef, undef, undef, undef, undef, undef, undef, undef, by rw [hfr], (Below.refl _ _).drew, fun _ _ => rfl, fun h => absurd h Bool.false_ne_true, fun h => absurd h Bool.false_ne_true, fun h => absurd h Bool.false_ne_true, fun h => absurd h Bool.false_ne_true, fun h => absurd h Bool.false_ne_true, fun h => absurd h Bool.false_ne_true, fun h => absurd h Bool.false_ne_true, fun h => absurd h Bool.false_ne_true, fun h => absurd h Bool.false_ne_true, fun h => absurd h Bool.false_ne_true⟩
  · intro dd sx wx hd hpre hI K hK
    obtain ⟨O, x24, x25, x26, x27, x28, x29, x5, x6, hsx, HB, HO, F0, F1, F2, F3, F4, F5, F6, F7, G8, G9⟩ := hI
    rw [hsx, hfr]
    go_simp
    refine (tnull _).mono ?_
    rintro ee wy ⟨vv, rfl, hr, hb⟩
    go_wp2_with fail
    have hs := Stp.call (O := O) hb
    exact hK.out _ _ ⟨ownC O wx.heap.size, vv, x25, x26, x27, x28, x29, x5, x6, by rw [hfr]; try simp only [Act.put, List.setIfInBounds_toArray, List.set_cons_zero, List.set_cons_succ], Below.next HB hb, ownC_low HO, fun _ => hr.called, F1, fun h => (F2 h).stp hs (fun _ e => nomatch e), fun h => (F3 h).stp hs (fun _ e => nomatch e), F4, fun h => (F5 h).stp hs (fun _ e => nomatch e), fun h => (F6 h).stp hs (fun _ e => nomatch e), fun h => (F7 h).stp hs (fun _ e => nomatch e), G8, G9⟩
  · intro dd sx wx hd hpre hI K hK
    obtain ⟨O, x24, x25, x26, x27, x28, x29, x5, x6, hsx, HB, HO, F0, F1, F2, F3, F4, F5, F6, F7, G8, G9⟩ := hI
    have kb0 := (L1_0.out.keep HB).cell; have lb0 := (L1_0.out.keep HB).lt
    rw [hsx, hfr]
    go_simp
    exact hK.out _ _ ⟨O, x24, (.agg #[.int .i64 a.kind, .bool a.bool, .int .i64 a.int, .string a.str, .slice la a.list.length lc, .slice ma a.map.length mc]), x26, x27, x28, x29, x5, x6, by rw [hfr]; try simp only [Act.put, List.setIfInBounds_toArray, List.set_cons_zero, List.set_cons_succ], HB, HO, F0, fun _ => rfl, F2, F3, F4, F5, F6, F7, G8, G9⟩
  · intro dd sx wx hd hpre hI K hK
    obtain ⟨O, x24, x25, x26, x27, x28, x29, x5, x6, hsx, HB, HO, F0, F1, F2, F3, F4, F5, F6, F7, G8, G9⟩ := hI
    have e0 := F0 (hpre ⟨0, .data⟩ (by simp) rfl)
    obtain rfl := F1 (hpre ⟨1, .data⟩ (by simp) rfl)
    rw [hsx, hfr]
    go_simp
    refine (CA.out _ _ _ (e0.weak (fun _ _ _ => trivial)) (HA.out.keep HB)).mono ?_
    rintro ee wy ⟨vv, rfl, hr, hb⟩
    go_wp2_with fail
    have hs := Stp.call (O := O) hb
    exact hK.out _ _ ⟨ownC O wx.heap.size, x24, (.agg #[.int .i64 a.kind, .bool a.bool, .int .i64 a.int, .string a.str, .slice la a.list.length lc, .slice ma a.map.length mc]), vv, x27, x28, x29, x5, x6, by rw [hfr]; try simp only [Act.put, List.setIfInBounds_toArray, List.set_cons_zero, List.set_cons_succ], Below.next HB hb, ownC_low HO, fun h => (F0 h).stp hs (fun _ e => nomatch e), fun _ => rfl, fun _ => hr.called, fun h => (F3 h).stp hs (fun _ e => nomatch e), F4, fun h => (F5 h).stp hs (fun _ e => nomatch e), fun h => ((F6 h).val (by cases h2 : dd 8 with | false => rfl | true => rw [(G8 h2).2] at hd; cases hd)).stp hs (fun _ e => nomatch e), fun h => (F7 h).stp hs (fun _ e => nomatch e), fun h => ⟨(G8 h).1, rfl⟩, G9⟩
  · intro dd sx wx hd hpre hI K hK
    obtain ⟨O, x24, x25, x26, x27, x28, x29, x5, x6, hsx, HB, HO, F0, F1, F2, F3, F4, F5, F6, F7, G8, G9⟩ := hI
    rw [hsx, hfr]
    go_simp
    refine (tnull _).mono ?_
    rintro ee wy ⟨vv, rfl, hr, hb⟩
    go_wp2_with fail
    have hs := Stp.call (O := O) hb
    exact hK.out _ _ ⟨ownC O wx.heap.size, x24, x25, x26, vv, x28, x29, x5, x6, by rw [hfr]; try simp only [Act.put, List.setIfInBounds_toArray, List.set_cons_zero, List.set_cons_succ], Below.next HB hb, ownC_low HO, fun h => (F0 h).stp hs (fun _ e => nomatch e), F1, fun h => (F2 h).stp hs (fun _ e => nomatch e), fun _ => hr.called, F4, fun h => (F5 h).stp hs (fun _ e => nomatch e), fun h => (F6 h).stp hs (fun _ e => nomatch e), fun h => (F7 h).stp hs (fun _ e => nomatch e), G8, G9⟩
  · intro dd sx wx hd hpre hI K hK
    obtain ⟨O, x24, x25, x26, x27, x28, x29, x5, x6, hsx, HB, HO, F0, F1, F2, F3, F4, F5, F6, F7, G8, G9⟩ := hI
    have kb1 := (L1_1.out.keep HB).cell; have lb1 := (L1_1.out.keep HB).lt
    rw [hsx, hfr]
    go_simp
    exact hK.out _ _ ⟨O, x24, x25, x26, x27, (.agg #[.int .i64 b.kind, .bool b.bool, .int .i64 b.int, .string b.str, .slice la2 b.list.length lc2, .slice ma2 b.map.length mc2]), x29, x5, x6, by rw [hfr]; try simp only [Act.put, List.setIfInBounds_toArray, List.set_cons_zero, List.set_cons_succ], HB, HO, F0, F1, F2, F3, fun _ => rfl, F5, F6, F7, G8, G9⟩
  · intro dd sx wx hd hpre hI K hK
    obtain ⟨O, x24, x25, x26, x27, x28, x29, x5, x6, hsx, HB, HO, F0, F1, F2, F3, F4, F5, F6, F7, G8, G9⟩ := hI
    have e3 := F3 (hpre ⟨3, .data⟩ (by simp) rfl)
    obtain rfl := F4 (hpre ⟨4, .data⟩ (by simp) rfl)
    rw [hsx, hfr]
    go_simp
    refine (CB.out _ _ _ (e3.weak (fun _ _ _ => trivial)) (HB0.out.keep HB)).mono ?_
    rintro ee wy ⟨vv, rfl, hr, hb⟩
    go_wp2_with fail
    have hs := Stp.call (O := O) hb
    exact hK.out _ _ ⟨ownC O wx.heap.size, x24, x25, x26, x27, (.agg #[.int .i64 b.kind, .bool b.bool, .int .i64 b.int, .string b.str, .slice la2 b.list.length lc2, .slice ma2 b.map.length mc2]), vv, x5, x6, by rw [hfr]; try simp only [Act.put, List.setIfInBounds_toArray, List.set_cons_zero, List.set_cons_succ], Below.next HB hb, ownC_low HO, fun h => (F0 h).stp hs (fun _ e => nomatch e), F1, fun h => (F2 h).stp hs (fun _ e => nomatch e), fun h => (F3 h).stp hs (fun _ e => nomatch e), fun _ => rfl, fun _ => hr.called, fun h => (F6 h).stp hs (fun _ e => nomatch e), fun h => ((F7 h).val (by cases h2 : dd 9 with | false => rfl | true => rw [(G9 h2).2] at hd; cases hd)).stp hs (fun _ e => nomatch e), G8, fun h => ⟨(G9 h).1, rfl⟩⟩
  · intro dd sx wx hd hpre hI K hK
    obtain ⟨O, x24, x25, x26, x27, x28, x29, x5, x6, hsx, HB, HO, F0, F1, F2, F3, F4, F5, F6, F7, G8, G9⟩ := hI
    rw [hsx, hfr]
    go_simp
    have hs := Stp.new (O := O) (w := wx) (.cells #[.int .i64 0, .bool false, .int .i64 0, .string ⟨#[]⟩, .slice none 0 0, .slice none 0 0] 25) 1
    have hst : dd 8 = false := by
          cases h : dd 8 with
          | false => rfl
          | true => rw [(G8 h).1] at hd; cases hd
    have hnew : BoxI (ownN O wx.heap.size 1) (wx.alloc (.cells #[.int .i64 0, .bool false, .int .i64 0, .string ⟨#[]⟩, .slice none 0 0, .slice none 0 0] 25)) w1.heap.size (.pointer (some ⟨wx.heap.size, 0, none⟩)) 1 (dd 8) x26 := by rw [hst]; exact BoxI.new _ _ HB.size
    exact hK.out _ _ ⟨ownN O wx.heap.size 1, x24, x25, x26, x27, x28, x29, (.pointer (some ⟨wx.heap.size, 0, none⟩)), x6, by rw [hfr]; try simp only [Act.put, List.setIfInBounds_toArray, List.set_cons_zero, List.set_cons_succ], (HB.alloc HB.size _), ownN_low HO HB.size, fun h => (F0 h).stp hs (fun _ e => nomatch e), F1, fun h => (F2 h).stp hs (fun _ e => nomatch e), fun h => (F3 h).stp hs (fun _ e => nomatch e), F4, fun h => (F5 h).stp hs (fun _ e => nomatch e), fun _ => hnew, fun h => (F7 h).stp hs (fun _ e => nomatch e), fun h => ⟨rfl, (G8 h).2⟩, G9⟩
  · intro dd sx wx hd hpre hI K hK
    obtain ⟨O, x24, x25, x26, x27, x28, x29, x5, x6, hsx, HB, HO, F0, F1, F2, F3, F4, F5, F6, F7, G8, G9⟩ := hI
    rw [hsx, hfr]
    go_simp
    have hs := Stp.new (O := O) (w := wx) (.cells #[.int .i64 0, .bool false, .int .i64 0, .string ⟨#[]⟩, .slice none 0 0, .slice none 0 0] 25) 2
    have hst : dd 9 = false := by
          cases h : dd 9 with
          | false => rfl
          | true => rw [(G9 h).1] at hd; cases hd
    have hnew : BoxI (ownN O wx.heap.size 2) (wx.alloc (.cells #[.int .i64 0, .bool false, .int .i64 0, .string ⟨#[]⟩, .slice none 0 0, .slice none 0 0] 25)) w1.heap.size (.pointer (some ⟨wx.heap.size, 0, none⟩)) 2 (dd 9) x29 := by rw [hst]; exact BoxI.new _ _ HB.size
    exact hK.out _ _ ⟨ownN O wx.heap.size 2, x24, x25, x26, x27, x28, x29, x5, (.pointer (some ⟨wx.heap.size, 0, none⟩)), by rw [hfr]; try simp only [Act.put, List.setIfInBounds_toArray, List.set_cons_zero, List.set_cons_succ], (HB.alloc HB.size _), ownN_low HO HB.size, fun h => (F0 h).stp hs (fun _ e => nomatch e), F1, fun h => (F2 h).stp hs (fun _ e => nomatch e), fun h => (F3 h).stp hs (fun _ e => nomatch e), F4, fun h => (F5 h).stp hs (fun _ e => nomatch e), fun h => (F6 h).stp hs (fun _ e => nomatch e), fun _ => hnew, G8, fun h => ⟨rfl, (G9 h).2⟩⟩
  · intro dd sx wx hd hpre hI K hK
    obtain ⟨O, x24, x25, x26, x27, x28, x29, x5, x6, hsx, HB, HO, F0, F1, F2, F3, F4, F5, F6, F7, G8, G9⟩ := hI
    have e2 := F2 (hpre ⟨2, .data⟩ (by simp) rfl)
    have hb0 := F6 (hpre ⟨6, .data⟩ (by simp) rfl)
    rw [hd] at hb0
    obtain ⟨g, rfl, hog, hBg, hbg⟩ := hb0.at_
    obtain ⟨qa, qc, qm, qn, rfl, -⟩ := e2.inv
    have kg := hbg.cell; have lg := hbg.lt; have zg := hbg.frozen
    rw [hsx, hfr]
    dsimp only [cond_false] at kg
    go_simp
    have hs := Stp.set6 (O := O) (w := wx) (b := g) (o := 0) (c0 := .int .i64 p.kind) (c1 := .bool p.bool) (c2 := .int .i64 p.int) (c3 := .string p.str) (c4 := .slice qa p.list.length qc) (c5 := .slice qm p.map.length qn)
    exact hK.out _ _ ⟨O, x24, x25, (.agg #[.int .i64 p.kind, .bool p.bool, .int .i64 p.int, .string p.str, .slice qa p.list.length qc, .slice qm p.map.length qn]), x27, x28, x29, (.pointer (some ⟨g, 0, none⟩)), x6, by rw [hfr]; try simp only [Act.put, List.setIfInBounds_toArray, List.set_cons_zero, List.set_cons_succ], set6_below (o := 0) HB hBg, HO, fun h => (F0 h).stp hs (fun b e => by injection e with e; rw [← e, hog]; decide), F1, fun h => (F2 h).stp hs (fun b e => by injection e with e; rw [← e, hog]; decide), fun h => (F3 h).stp hs (fun b e => by injection e with e; rw [← e, hog]; decide), F4, fun h => (F5 h).stp hs (fun b e => by injection e with e; rw [← e, hog]; decide), fun _ => hb0.put, fun h => (F7 h).stp hs (fun b e => by injection e with e; rw [← e, hog]; decide), fun _ => ⟨hpre ⟨6, .data⟩ (by simp) rfl, hpre ⟨2, .data⟩ (by simp) rfl⟩, G9⟩
  · intro dd sx wx hd hpre hI K hK
    obtain ⟨O, x24, x25, x26, x27, x28, x29, x5, x6, hsx, HB, HO, F0, F1, F2, F3, F4, F5, F6, F7, G8, G9⟩ := hI
    have e5 := F5 (hpre ⟨5, .data⟩ (by simp) rfl)
    have hb0 := F7 (hpre ⟨7, .data⟩ (by simp) rfl)
    rw [hd] at hb0
    obtain ⟨g, rfl, hog, hBg, hbg⟩ := hb0.at_
    obtain ⟨qa, qc, qm, qn, rfl, -⟩ := e5.inv
    have kg := hbg.cell; have lg := hbg.lt; have zg := hbg.frozen
    rw [hsx, hfr]
    dsimp only [cond_false] at kg
    go_simp
    have hs := Stp.set6 (O := O) (w := wx) (b := g) (o := 0) (c0 := .int .i64 q.kind) (c1 := .bool q.bool) (c2 := .int .i64 q.int) (c3 := .string q.str) (c4 := .slice qa q.list.length qc) (c5 := .slice qm q.map.length qn)
    exact hK.out _ _ ⟨O, x24, x25, x26, x27, x28, (.agg #[.int .i64 q.kind, .bool q.bool, .int .i64 q.int, .string q.str, .slice qa q.list.length qc, .slice qm q.map.length qn]), x5, (.pointer (some ⟨g, 0, none⟩)), by rw [hfr]; try simp only [Act.put, List.setIfInBounds_toArray, List.set_cons_zero, List.set_cons_succ], set6_below (o := 0) HB hBg, HO, fun h => (F0 h).stp hs (fun b e => by injection e with e; rw [← e, hog]; decide), F1, fun h => (F2 h).stp hs (fun b e => by injection e with e; rw [← e, hog]; decide), fun h => (F3 h).stp hs (fun b e => by injection e with e; rw [← e, hog]; decide), F4, fun h => (F5 h).stp hs (fun b e => by injection e with e; rw [← e, hog]; decide), fun h => (F6 h).stp hs (fun b e => by injection e with e; rw [← e, hog]; decide), fun _ => hb0.put, G8, fun _ => ⟨hpre ⟨7, .data⟩ (by simp) rfl, hpre ⟨5, .data⟩ (by simp) rfl⟩⟩
  · intro dd sx wx hd hI
    obtain ⟨O, x24, x25, x26, x27, x28, x29, x5, x6, hsx, HB, HO, F0, F1, F2, F3, F4, F5, F6, F7, G8, G9⟩ := hI
    rw [hsx, hfr]
    clear hsx hfr
    have B5 := F6 (hd 6 (by decide)); rw [hd 8 (by decide)] at B5; obtain ⟨g5, rfl, -, hg5, B5⟩ := B5.at_
    have N5 := F2 (hd 2 (by decide)); obtain ⟨pa, pc, pm, pn, rfl, -⟩ := N5.inv
    have LB5 : Hid (Blk wx g5 25 #[.int .i64 p.kind, .bool p.bool, .int .i64 p.int, .string p.str, .slice pa p.list.length pc, .slice pm p.map.length pn]) := B5
    have V5 := Lib.hid (N5.any)
    have B6 := F7 (hd 7 (by decide)); rw [hd 9 (by decide)] at B6; obtain ⟨g6, rfl, -, hg6, B6⟩ := B6.at_
    have N6 := F5 (hd 5 (by decide)); obtain ⟨qa, qc, qm, qn, rfl, -⟩ := N6.inv
    have LB6 : Hid (Blk wx g6 25 #[.int .i64 q.kind, .bool q.bool, .int .i64 q.int, .string q.str, .slice qa q.list.length qc, .slice qm q.map.length qn]) := B6
    have V6 := Lib.hid (N6.any)
    have LA := Lib.hid (L1_0.out.keep HB); have LB := Lib.hid (L1_1.out.keep HB); have VA := Lib.hid (V1_a.out.keep HB); have VB := Lib.hid (V1_b.out.keep HB); have HW2 := Lib.hid (Below.next HW1.out HB)
    clear F0 F1 F2 F3 F4 F5 F6 F7 G8 G9 B5 B6 N5 N6 hg5 hg6 hd HO HB L1_0 L1_1 V1_a V1_b HW1 HA HB0
    have k2_0 := LA.out.cell; have l2_0 := LA.out.lt
    have k2_1 := LB.out.cell; have l2_1 := LB.out.lt
    have k2_2 := LB5.out.cell; have l2_2 := LB5.out.lt
    have k2_3 := LB6.out.cell; have l2_3 := LB6.out.lt
    go_wp2_with fail
    refine (CL.out _ _ (V5.out)).mono ?_
    rintro e w3 ⟨rfl, hb⟩
    have HD3 := Lib.hid (show Below wx.heap.size wx w3 from hb)
    have L3_0 := Lib.hid (LA.out.keep HD3.out)
    have L3_1 := Lib.hid (LB.out.keep HD3.out)
    have L3_2 := Lib.hid (LB5.out.keep HD3.out)
    have L3_3 := Lib.hid (LB6.out.keep HD3.out)
    have V3_a := Lib.hid (VA.out.keep HD3.out)
    have V3_b := Lib.hid (VB.out.keep HD3.out)
    have V3_p := Lib.hid (V5.out.keep HD3.out)
    have V3_q := Lib.hid (V6.out.keep HD3.out)
    have HW3 := Lib.hid (Below.next HW2.out HD3.out)
    clear k2_0 l2_0 k2_1 l2_1 k2_2 l2_2 k2_3 l2_3 hb HD3 LA LB LB5 LB6 VA VB V5 V6 HW2
    have k3_0 := L3_0.out.cell
    have l3_0 := L3_0.out.lt
    have k3_1 := L3_1.out.cell
    have l3_1 := L3_1.out.lt
    have k3_2 := L3_2.out.cell
    have l3_2 := L3_2.out.lt
    have k3_3 := L3_3.out.cell
    have l3_3 := L3_3.out.lt
    go_wp2_with fail
    refine (CK.out _ _ (V3_q.out)).mono ?_
    rintro e w4 ⟨rfl, hb⟩
    have HD4 := Lib.hid (show Below w3.heap.size w3 w4 from hb)
    have L4_0 := Lib.hid (L3_0.out.keep HD4.out)
    have L4_1 := Lib.hid (L3_1.out.keep HD4.out)
    have L4_2 := Lib.hid (L3_2.out.keep HD4.out)
    have L4_3 := Lib.hid (L3_3.out.keep HD4.out)
    have V4_a := Lib.hid (V3_a.out.keep HD4.out)
    have V4_b := Lib.hid (V3_b.out.keep HD4.out)
    have V4_p := Lib.hid (V3_p.out.keep HD4.out)
    have V4_q := Lib.hid (V3_q.out.keep HD4.out)
    have HW4 := Lib.hid (Below.next HW3.out HD4.out)
    clear k3_0 l3_0 k3_1 l3_1 k3_2 l3_2 k3_3 l3_3 hb HD4 L3_0 L3_1 L3_2 L3_3 V3_a V3_b V3_p V3_q HW3
    have k4_0 := L4_0.out.cell
    have l4_0 := L4_0.out.lt
    have k4_1 := L4_1.out.cell
    have l4_1 := L4_1.out.lt
    have k4_2 := L4_2.out.cell
    have l4_2 := L4_2.out.lt
    have k4_3 := L4_3.out.cell
    have l4_3 := L4_3.out.lt
    go_wp2_with fail
    refine (CE.out _).mono ?_
    rintro e w5 ⟨v5, rfl, hr, hb⟩
    obtain ⟨qa5, qc5, qm5, qn5, rfl, -⟩ := hr.inv
    have N5 := Lib.hid (hr.any)
    clear hr
    have HD5 := Lib.hid (show Below w4.heap.size w4 w5 from hb)
    have L5_0 := Lib.hid (L4_0.out.keep HD5.out)
    have L5_1 := Lib.hid (L4_1.out.keep HD5.out)
    have L5_2 := Lib.hid (L4_2.out.keep HD5.out)
    have L5_3 := Lib.hid (L4_3.out.keep HD5.out)
    have V5_a := Lib.hid (V4_a.out.keep HD5.out)
    have V5_b := Lib.hid (V4_b.out.keep HD5.out)
    have V5_p := Lib.hid (V4_p.out.keep HD5.out)
    have V5_q := Lib.hid (V4_q.out.keep HD5.out)
    have HW5 := Lib.hid (Below.next HW4.out HD5.out)
    clear k4_0 l4_0 k4_1 l4_1 k4_2 l4_2 k4_3 l4_3 hb HD5 L4_0 L4_1 L4_2 L4_3 V4_a V4_b V4_p V4_q HW4
    have k5_0 := L5_0.out.cell
    have l5_0 := L5_0.out.lt
    have k5_1 := L5_1.out.cell
    have l5_1 := L5_1.out.lt
    have k5_2 := L5_2.out.cell
    have l5_2 := L5_2.out.lt
    have k5_3 := L5_3.out.cell
    have l5_3 := L5_3.out.lt
    go_wp2_with fail
    obtain ⟨w6, hwz⟩ : ∃ x, x = (w5.alloc (.cells #[.int .i64 m0.kind, .bool m0.bool, .int .i64 m0.int, .string m0.str, .slice qa5 m0.list.length qc5, .slice qm5 m0.map.length qn5] 25)) := ⟨_, rfl⟩
    have hb : Below (w5.alloc (.cells #[.int .i64 m0.kind, .bool m0.bool, .int .i64 m0.int, .string m0.str, .slice qa5 m0.list.length qc5, .slice qm5 m0.map.length qn5] 25)).heap.size (w5.alloc (.cells #[.int .i64 m0.kind, .bool m0.bool, .int .i64 m0.int, .string m0.str, .slice qa5 m0.list.length qc5, .slice qm5 m0.map.length qn5] 25)) w6 := by rw [hwz]; exact Below.refl _ _
    rw [← hwz]
    clear hwz
    have HD6 := Lib.hid (show Below w5.heap.size w5 w6 from Below.next (Below.new _ _) hb)
    have L6_0 := Lib.hid (L5_0.out.keep HD6.out)
    have L6_1 := Lib.hid (L5_1.out.keep HD6.out)
    have L6_2 := Lib.hid (L5_2.out.keep HD6.out)
    have L6_3 := Lib.hid (L5_3.out.keep HD6.out)
    have L6_4 := Lib.hid ((Blk.new w5 25 #[.int .i64 m0.kind, .bool m0.bool, .int .i64 m0.int, .string m0.str, .slice qa5 m0.list.length qc5, .slice qm5 m0.map.length qn5]).keep hb)
    have V6_a := Lib.hid (V5_a.out.keep HD6.out)
    have V6_b := Lib.hid (V5_b.out.keep HD6.out)
    have V6_p := Lib.hid (V5_p.out.keep HD6.out)
    have V6_q := Lib.hid (V5_q.out.keep HD6.out)
    have V6_m0 := Lib.hid (N5.out.keep HD6.out)
    have HW6 := Lib.hid (Below.next HW5.out HD6.out)
    clear k5_0 l5_0 k5_1 l5_1 k5_2 l5_2 k5_3 l5_3 hb HD6 L5_0 L5_1 L5_2 L5_3 V5_a V5_b V5_p V5_q N5 HW5
    have k6_0 := L6_0.out.cell
    have l6_0 := L6_0.out.lt
    have k6_1 := L6_1.out.cell
    have l6_1 := L6_1.out.lt
    have k6_2 := L6_2.out.cell
    have l6_2 := L6_2.out.lt
    have k6_3 := L6_3.out.cell
    have l6_3 := L6_3.out.lt
    have k6_4 := L6_4.out.cell
    have l6_4 := L6_4.out.lt
    go_wp2_with fail
    have HA := V6_a; have HB := V6_b; have HP := V6_p; have HQ := V6_q; have HM := V6_m0; have HWc := HW6
    clear k6_0 k6_1 k6_2 k6_3 k6_4
    have hzf : ∀ (x0 x1 x2 x3 x4 x5 : Value) (w : World), (Instr.field 25 (.agg #[x0, x1, x2, x3, x4, x5]) 5).run Try.prog w = .ok x5 w := fun _ _ _ _ _ _ _ => by kernel_rfl
    have hz0 : ((z.map.length : Int) == 0) = true := by rw [HZ.out]; rfl
    have LB0 := L6_0
    have LB1 := L6_1
    have LB2 := L6_2
    have LB3 := L6_3
    have LB4 := L6_4
    have q_0 := LB0.out.cell; have q_1 := LB1.out.cell; have q_2 := LB2.out.cell; have q_3 := LB3.out.cell; have q_4 := LB4.out.cell
    clear V6_a V6_b V6_p V6_q V6_m0 HW6 L6_0 L6_1 L6_2 L6_3 L6_4
    have tok1 : True := trivial; have tok2 : True := trivial; have tok3 : True := trivial; have tok4 : True := trivial; have tok5 : True := trivial; have tok6 : True := trivial; have tok7 : True := trivial; have tok8 : True := trivial; have tok9 : True := trivial
    go_region_held3 (fun w' => (∀ i, w'.cell? ⟨w.heap.size, i, none⟩ = (#[.int .i64 a.kind, .bool a.bool, .int .i64 a.int, .string a.str, .slice la a.list.length lc, .slice ma a.map.length mc] : Array Value)[i]?) ∧ (∀ i, w'.cell? ⟨(w.heap.size + 1), i, none⟩ = (#[.int .i64 b.kind, .bool b.bool, .int .i64 b.int, .string b.str, .slice la2 b.list.length lc2, .slice ma2 b.map.length mc2] : Array Value)[i]?) ∧ (∀ i, w'.cell? ⟨g5, i, none⟩ = (#[.int .i64 p.kind, .bool p.bool, .int .i64 p.int, .string p.str, .slice pa p.list.length pc, .slice pm p.map.length pn] : Array Value)[i]?) ∧ (∀ i, w'.cell? ⟨g6, i, none⟩ = (#[.int .i64 q.kind, .bool q.bool, .int .i64 q.int, .string q.str, .slice qa q.list.length qc, .slice qm q.map.length qn] : Array Value)[i]?) ∧ (∀ i, w'.cell? ⟨w5.heap.size, i, none⟩ = (#[.int .i64 m0.kind, .bool m0.bool, .int .i64 m0.int, .string m0.str, .slice qa5 m0.list.length qc5, .slice qm5 m0.map.length qn5] : Array Value)[i]?)) (first | (with_reducible exact ⟨q_0, q_1, q_2, q_3, q_4⟩) | (refine ⟨fun i => ?_, fun i => ?_, fun i => ?_, fun i => ?_, fun i => ?_⟩ <;> (simp only [cell_drew]; first | (with_reducible exact q_0 i) | (with_reducible exact q_1 i) | (with_reducible exact q_2 i) | (with_reducible exact q_3 i) | (with_reducible exact q_4 i)))) (first
        | (go_at_call 37; refine at_world HWc (by first | (with_reducible exact Below.refl _ _) | (with_reducible exact (Below.refl _ _).drew) | (with_reducible exact Below.new _ _) | (with_reducible exact (Below.new _ _).drew) | (with_reducible exact (Below.new _ _).alloc (by simp) _) | (with_reducible exact ((Below.new _ _).alloc (by simp) _).drew)) (fun HBW => ?_); ((with_reducible refine (awake3 _).mono ?_); rintro e wn1 ⟨rfl, hb⟩; have HBN := Below.next HBW hb; replace HA := Lib.hid (HA.out.keep (HBN)); replace HB := Lib.hid (HB.out.keep (HBN)); replace HP := Lib.hid (HP.out.keep (HBN)); replace HQ := Lib.hid (HQ.out.keep (HBN)); replace HM := Lib.hid (HM.out.keep (HBN)); (try replace ND := Lib.hid (ND.out.keep (HBN))); (try replace NQ := Lib.hid (NQ.out.keep (HBN))); (try replace NP := Lib.hid (NP.out.keep (HBN))); (try replace NA := Lib.hid (NA.out.keep (HBN))); (try replace NR := Lib.hid (NR.out.keep (HBN))); (try replace NZ := Lib.hid (NZ.out.keep (HBN))); replace LB0 := Lib.hid (LB0.out.keep (HBN)); replace LB1 := Lib.hid (LB1.out.keep (HBN)); replace LB2 := Lib.hid (LB2.out.keep (HBN)); replace LB3 := Lib.hid (LB3.out.keep (HBN)); replace LB4 := Lib.hid (LB4.out.keep (HBN)); replace HWc := Lib.hid (Below.next HWc.out (HBN)); clear q_0; have q_0 := LB0.out.cell; clear q_1; have q_1 := LB1.out.cell; clear q_2; have q_2 := LB2.out.cell; clear q_3; have q_3 := LB3.out.cell; clear q_4; have q_4 := LB4.out.cell; clear hb HBW HBN))
        | (go_at_call 63; refine at_world HWc (by first | (with_reducible exact Below.refl _ _) | (with_reducible exact (Below.refl _ _).drew) | (with_reducible exact Below.new _ _) | (with_reducible exact (Below.new _ _).drew) | (with_reducible exact (Below.new _ _).alloc (by simp) _) | (with_reducible exact ((Below.new _ _).alloc (by simp) _).drew)) (fun HBW => ?_); first | (have _t := tok1; clear tok1 _t; (with_reducible refine (CX.out _ _ _ (HP.out.keep HBW) (HQ.out.keep HBW)).mono ?_); rintro e wn2 ⟨v2, rfl, hr, hb⟩; obtain ⟨qa2, qc2, qm2, qn2, rfl, -⟩ := hr.inv; have HBN := Below.next HBW hb; replace HA := Lib.hid (HA.out.keep (HBN)); replace HB := Lib.hid (HB.out.keep (HBN)); replace HP := Lib.hid (HP.out.keep (HBN)); replace HQ := Lib.hid (HQ.out.keep (HBN)); replace HM := Lib.hid (HM.out.keep (HBN)); (try replace ND := Lib.hid (ND.out.keep (HBN))); (try replace NQ := Lib.hid (NQ.out.keep (HBN))); (try replace NP := Lib.hid (NP.out.keep (HBN))); (try replace NA := Lib.hid (NA.out.keep (HBN))); (try replace NR := Lib.hid (NR.out.keep (HBN))); (try replace NZ := Lib.hid (NZ.out.keep (HBN))); replace LB0 := Lib.hid (LB0.out.keep (HBN)); replace LB1 := Lib.hid (LB1.out.keep (HBN)); replace LB2 := Lib.hid (LB2.out.keep (HBN)); replace LB3 := Lib.hid (LB3.out.keep (HBN)); replace LB4 := Lib.hid (LB4.out.keep (HBN)); replace HWc := Lib.hid (Below.next HWc.out (HBN)); clear q_0; have q_0 := LB0.out.cell; clear q_1; have q_1 := LB1.out.cell; clear q_2; have q_2 := LB2.out.cell; clear q_3; have q_3 := LB3.out.cell; clear q_4; have q_4 := LB4.out.cell; have ND := Lib.hid hr.any; clear hr hb HBW HBN) | ((with_reducible refine (CZ.out _ _ _ (HP.out.keep HBW) (HP.out.keep HBW)).mono ?_); rintro e wn11 ⟨v11, rfl, hr, hb⟩; obtain ⟨qa11, qc11, qm11, qn11, rfl, -⟩ := hr.inv; have HBN := Below.next HBW hb; replace HA := Lib.hid (HA.out.keep (HBN)); replace HB := Lib.hid (HB.out.keep (HBN)); replace HP := Lib.hid (HP.out.keep (HBN)); replace HQ := Lib.hid (HQ.out.keep (HBN)); replace HM := Lib.hid (HM.out.keep (HBN)); (try replace ND := Lib.hid (ND.out.keep (HBN))); (try replace NQ := Lib.hid (NQ.out.keep (HBN))); (try replace NP := Lib.hid (NP.out.keep (HBN))); (try replace NA := Lib.hid (NA.out.keep (HBN))); (try replace NR := Lib.hid (NR.out.keep (HBN))); (try replace NZ := Lib.hid (NZ.out.keep (HBN))); replace LB0 := Lib.hid (LB0.out.keep (HBN)); replace LB1 := Lib.hid (LB1.out.keep (HBN)); replace LB2 := Lib.hid (LB2.out.keep (HBN)); replace LB3 := Lib.hid (LB3.out.keep (HBN)); replace LB4 := Lib.hid (LB4.out.keep (HBN)); replace HWc := Lib.hid (Below.next HWc.out (HBN)); clear q_0; have q_0 := LB0.out.cell; clear q_1; have q_1 := LB1.out.cell; clear q_2; have q_2 := LB2.out.cell; clear q_3; have q_3 := LB3.out.cell; clear q_4; have q_4 := LB4.out.cell; have NZ := Lib.hid hr.any; clear hr hb HBW HBN))
        | (go_at_call 38; refine at_world HWc (by first | (with_reducible exact Below.refl _ _) | (with_reducible exact (Below.refl _ _).drew) | (with_reducible exact Below.new _ _) | (with_reducible exact (Below.new _ _).drew) | (with_reducible exact (Below.new _ _).alloc (by simp) _) | (with_reducible exact ((Below.new _ _).alloc (by simp) _).drew)) (fun HBW => ?_); first | (have _t := tok2; clear tok2 _t; (with_reducible refine (CD.out _ _ _ (HP.out.keep HBW) (ND.out.keep HBW)).mono ?_); rintro e wn3 ⟨v3, rfl, hr, hb⟩; obtain ⟨qa3, qc3, qm3, qn3, rfl, -⟩ := hr.inv; have HBN := Below.next HBW hb; replace HA := Lib.hid (HA.out.keep (HBN)); replace HB := Lib.hid (HB.out.keep (HBN)); replace HP := Lib.hid (HP.out.keep (HBN)); replace HQ := Lib.hid (HQ.out.keep (HBN)); replace HM := Lib.hid (HM.out.keep (HBN)); (try replace ND := Lib.hid (ND.out.keep (HBN))); (try replace NQ := Lib.hid (NQ.out.keep (HBN))); (try replace NP := Lib.hid (NP.out.keep (HBN))); (try replace NA := Lib.hid (NA.out.keep (HBN))); (try replace NR := Lib.hid (NR.out.keep (HBN))); (try replace NZ := Lib.hid (NZ.out.keep (HBN))); replace LB0 := Lib.hid (LB0.out.keep (HBN)); replace LB1 := Lib.hid (LB1.out.keep (HBN)); replace LB2 := Lib.hid (LB2.out.keep (HBN)); replace LB3 := Lib.hid (LB3.out.keep (HBN)); replace LB4 := Lib.hid (LB4.out.keep (HBN)); replace HWc := Lib.hid (Below.next HWc.out (HBN)); clear q_0; have q_0 := LB0.out.cell; clear q_1; have q_1 := LB1.out.cell; clear q_2; have q_2 := LB2.out.cell; clear q_3; have q_3 := LB3.out.cell; clear q_4; have q_4 := LB4.out.cell; have NQ := Lib.hid hr.any; clear hr hb HBW HBN; clear ND) | (have _t := tok4; clear tok4 _t; (with_reducible refine (CP.out _ _ _ (HP.out.keep HBW) (HP.out.keep HBW)).mono ?_); rintro e wn5 ⟨v5, rfl, hr, hb⟩; obtain ⟨qa5, qc5, qm5, qn5, rfl, -⟩ := hr.inv; have HBN := Below.next HBW hb; replace HA := Lib.hid (HA.out.keep (HBN)); replace HB := Lib.hid (HB.out.keep (HBN)); replace HP := Lib.hid (HP.out.keep (HBN)); replace HQ := Lib.hid (HQ.out.keep (HBN)); replace HM := Lib.hid (HM.out.keep (HBN)); (try replace ND := Lib.hid (ND.out.keep (HBN))); (try replace NQ := Lib.hid (NQ.out.keep (HBN))); (try replace NP := Lib.hid (NP.out.keep (HBN))); (try replace NA := Lib.hid (NA.out.keep (HBN))); (try replace NR := Lib.hid (NR.out.keep (HBN))); (try replace NZ := Lib.hid (NZ.out.keep (HBN))); replace LB0 := Lib.hid (LB0.out.keep (HBN)); replace LB1 := Lib.hid (LB1.out.keep (HBN)); replace LB2 := Lib.hid (LB2.out.keep (HBN)); replace LB3 := Lib.hid (LB3.out.keep (HBN)); replace LB4 := Lib.hid (LB4.out.keep (HBN)); replace HWc := Lib.hid (Below.next HWc.out (HBN)); clear q_0; have q_0 := LB0.out.cell; clear q_1; have q_1 := LB1.out.cell; clear q_2; have q_2 := LB2.out.cell; clear q_3; have q_3 := LB3.out.cell; clear q_4; have q_4 := LB4.out.cell; have NP := Lib.hid hr.any; clear hr hb HBW HBN) | (have _t := tok6; clear tok6 _t; (with_reducible refine (CN.out _ _ _ (HA.out.keep HBW) (HM.out.keep HBW)).mono ?_); rintro e wn7 ⟨v7, rfl, hr, hb⟩; obtain ⟨qa7, qc7, qm7, qn7, rfl, -⟩ := hr.inv; have HBN := Below.next HBW hb; replace HA := Lib.hid (HA.out.keep (HBN)); replace HB := Lib.hid (HB.out.keep (HBN)); replace HP := Lib.hid (HP.out.keep (HBN)); replace HQ := Lib.hid (HQ.out.keep (HBN)); replace HM := Lib.hid (HM.out.keep (HBN)); (try replace ND := Lib.hid (ND.out.keep (HBN))); (try replace NQ := Lib.hid (NQ.out.keep (HBN))); (try replace NP := Lib.hid (NP.out.keep (HBN))); (try replace NA := Lib.hid (NA.out.keep (HBN))); (try replace NR := Lib.hid (NR.out.keep (HBN))); (try replace NZ := Lib.hid (NZ.out.keep (HBN))); replace LB0 := Lib.hid (LB0.out.keep (HBN)); replace LB1 := Lib.hid (LB1.out.keep (HBN)); replace LB2 := Lib.hid (LB2.out.keep (HBN)); replace LB3 := Lib.hid (LB3.out.keep (HBN)); replace LB4 := Lib.hid (LB4.out.keep (HBN)); replace HWc := Lib.hid (Below.next HWc.out (HBN)); clear q_0; have q_0 := LB0.out.cell; clear q_1; have q_1 := LB1.out.cell; clear q_2; have q_2 := LB2.out.cell; clear q_3; have q_3 := LB3.out.cell; clear q_4; have q_4 := LB4.out.cell; have NA := Lib.hid hr.any; clear hr hb HBW HBN) | (have _t := tok8; clear tok8 _t; (with_reducible refine (CM.out _ _ _ (HM.out.keep HBW) (HP.out.keep HBW)).mono ?_); rintro e wn9 ⟨v9, rfl, hr, hb⟩; obtain ⟨qa9, qc9, qm9, qn9, rfl, -⟩ := hr.inv; have HBN := Below.next HBW hb; replace HA := Lib.hid (HA.out.keep (HBN)); replace HB := Lib.hid (HB.out.keep (HBN)); replace HP := Lib.hid (HP.out.keep (HBN)); replace HQ := Lib.hid (HQ.out.keep (HBN)); replace HM := Lib.hid (HM.out.keep (HBN)); (try replace ND := Lib.hid (ND.out.keep (HBN))); (try replace NQ := Lib.hid (NQ.out.keep (HBN))); (try replace NP := Lib.hid (NP.out.keep (HBN))); (try replace NA := Lib.hid (NA.out.keep (HBN))); (try replace NR := Lib.hid (NR.out.keep (HBN))); (try replace NZ := Lib.hid (NZ.out.keep (HBN))); replace LB0 := Lib.hid (LB0.out.keep (HBN)); replace LB1 := Lib.hid (LB1.out.keep (HBN)); replace LB2 := Lib.hid (LB2.out.keep (HBN)); replace LB3 := Lib.hid (LB3.out.keep (HBN)); replace LB4 := Lib.hid (LB4.out.keep (HBN)); replace HWc := Lib.hid (Below.next HWc.out (HBN)); clear q_0; have q_0 := LB0.out.cell; clear q_1; have q_1 := LB1.out.cell; clear q_2; have q_2 := LB2.out.cell; clear q_3; have q_3 := LB3.out.cell; clear q_4; have q_4 := LB4.out.cell; have NR := Lib.hid hr.any; clear hr hb HBW HBN))
        | (go_at_call 28; refine at_world HWc (by first | (with_reducible exact Below.refl _ _) | (with_reducible exact (Below.refl _ _).drew) | (with_reducible exact Below.new _ _) | (with_reducible exact (Below.new _ _).drew) | (with_reducible exact (Below.new _ _).alloc (by simp) _) | (with_reducible exact ((Below.new _ _).alloc (by simp) _).drew)) (fun HBW => ?_); first | (have _t := tok3; clear tok3 _t; (with_reducible refine (CS.out q _ _ _ (NQ.out.keep HBW) (HQ.out.keep HBW)).mono ?_); rintro e wn4 ⟨rfl, hb⟩; have HBN := Below.next HBW hb; replace HA := Lib.hid (HA.out.keep (HBN)); replace HB := Lib.hid (HB.out.keep (HBN)); replace HP := Lib.hid (HP.out.keep (HBN)); replace HQ := Lib.hid (HQ.out.keep (HBN)); replace HM := Lib.hid (HM.out.keep (HBN)); (try replace ND := Lib.hid (ND.out.keep (HBN))); (try replace NQ := Lib.hid (NQ.out.keep (HBN))); (try replace NP := Lib.hid (NP.out.keep (HBN))); (try replace NA := Lib.hid (NA.out.keep (HBN))); (try replace NR := Lib.hid (NR.out.keep (HBN))); (try replace NZ := Lib.hid (NZ.out.keep (HBN))); replace LB0 := Lib.hid (LB0.out.keep (HBN)); replace LB1 := Lib.hid (LB1.out.keep (HBN)); replace LB2 := Lib.hid (LB2.out.keep (HBN)); replace LB3 := Lib.hid (LB3.out.keep (HBN)); replace LB4 := Lib.hid (LB4.out.keep (HBN)); replace HWc := Lib.hid (Below.next HWc.out (HBN)); clear q_0; have q_0 := LB0.out.cell; clear q_1; have q_1 := LB1.out.cell; clear q_2; have q_2 := LB2.out.cell; clear q_3; have q_3 := LB3.out.cell; clear q_4; have q_4 := LB4.out.cell; clear hb HBW HBN; clear NQ) | (have _t := tok5; clear tok5 _t; (with_reducible refine (CS.out p _ _ _ (NP.out.keep HBW) (HP.out.keep HBW)).mono ?_); rintro e wn6 ⟨rfl, hb⟩; have HBN := Below.next HBW hb; replace HA := Lib.hid (HA.out.keep (HBN)); replace HB := Lib.hid (HB.out.keep (HBN)); replace HP := Lib.hid (HP.out.keep (HBN)); replace HQ := Lib.hid (HQ.out.keep (HBN)); replace HM := Lib.hid (HM.out.keep (HBN)); (try replace ND := Lib.hid (ND.out.keep (HBN))); (try replace NQ := Lib.hid (NQ.out.keep (HBN))); (try replace NP := Lib.hid (NP.out.keep (HBN))); (try replace NA := Lib.hid (NA.out.keep (HBN))); (try replace NR := Lib.hid (NR.out.keep (HBN))); (try replace NZ := Lib.hid (NZ.out.keep (HBN))); replace LB0 := Lib.hid (LB0.out.keep (HBN)); replace LB1 := Lib.hid (LB1.out.keep (HBN)); replace LB2 := Lib.hid (LB2.out.keep (HBN)); replace LB3 := Lib.hid (LB3.out.keep (HBN)); replace LB4 := Lib.hid (LB4.out.keep (HBN)); replace HWc := Lib.hid (Below.next HWc.out (HBN)); clear q_0; have q_0 := LB0.out.cell; clear q_1; have q_1 := LB1.out.cell; clear q_2; have q_2 := LB2.out.cell; clear q_3; have q_3 := LB3.out.cell; clear q_4; have q_4 := LB4.out.cell; clear hb HBW HBN; clear NP) | (have _t := tok7; clear tok7 _t; (with_reducible refine (CS.out a _ _ _ (NA.out.keep HBW) (HA.out.keep HBW)).mono ?_); rintro e wn8 ⟨rfl, hb⟩; have HBN := Below.next HBW hb; replace HA := Lib.hid (HA.out.keep (HBN)); replace HB := Lib.hid (HB.out.keep (HBN)); replace HP := Lib.hid (HP.out.keep (HBN)); replace HQ := Lib.hid (HQ.out.keep (HBN)); replace HM := Lib.hid (HM.out.keep (HBN)); (try replace ND := Lib.hid (ND.out.keep (HBN))); (try replace NQ := Lib.hid (NQ.out.keep (HBN))); (try replace NP := Lib.hid (NP.out.keep (HBN))); (try replace NA := Lib.hid (NA.out.keep (HBN))); (try replace NR := Lib.hid (NR.out.keep (HBN))); (try replace NZ := Lib.hid (NZ.out.keep (HBN))); replace LB0 := Lib.hid (LB0.out.keep (HBN)); replace LB1 := Lib.hid (LB1.out.keep (HBN)); replace LB2 := Lib.hid (LB2.out.keep (HBN)); replace LB3 := Lib.hid (LB3.out.keep (HBN)); replace LB4 := Lib.hid (LB4.out.keep (HBN)); replace HWc := Lib.hid (Below.next HWc.out (HBN)); clear q_0; have q_0 := LB0.out.cell; clear q_1; have q_1 := LB1.out.cell; clear q_2; have q_2 := LB2.out.cell; clear q_3; have q_3 := LB3.out.cell; clear q_4; have q_4 := LB4.out.cell; clear hb HBW HBN; clear NA) | (have _t := tok9; clear tok9 _t; (with_reducible refine (CS.out p _ _ _ (NR.out.keep HBW) (HP.out.keep HBW)).mono ?_); rintro e wn10 ⟨rfl, hb⟩; have HBN := Below.next HBW hb; replace HA := Lib.hid (HA.out.keep (HBN)); replace HB := Lib.hid (HB.out.keep (HBN)); replace HP := Lib.hid (HP.out.keep (HBN)); replace HQ := Lib.hid (HQ.out.keep (HBN)); replace HM := Lib.hid (HM.out.keep (HBN)); (try replace ND := Lib.hid (ND.out.keep (HBN))); (try replace NQ := Lib.hid (NQ.out.keep (HBN))); (try replace NP := Lib.hid (NP.out.keep (HBN))); (try replace NA := Lib.hid (NA.out.keep (HBN))); (try replace NR := Lib.hid (NR.out.keep (HBN))); (try replace NZ := Lib.hid (NZ.out.keep (HBN))); replace LB0 := Lib.hid (LB0.out.keep (HBN)); replace LB1 := Lib.hid (LB1.out.keep (HBN)); replace LB2 := Lib.hid (LB2.out.keep (HBN)); replace LB3 := Lib.hid (LB3.out.keep (HBN)); replace LB4 := Lib.hid (LB4.out.keep (HBN)); replace HWc := Lib.hid (Below.next HWc.out (HBN)); clear q_0; have q_0 := LB0.out.cell; clear q_1; have q_1 := LB1.out.cell; clear q_2; have q_2 := LB2.out.cell; clear q_3; have q_3 := LB3.out.cell; clear q_4; have q_4 := LB4.out.cell; clear hb HBW HBN; clear NR)))
    all_goals
      go_wp2_with fail
      go_ret
      exact ⟨rfl, HWc.out⟩

end Go.Proofs.Ytmdihildjblgnaa
