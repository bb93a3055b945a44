/- LayerMisses answers true for every input. -/
import Derived.Test.YtmdihildjblgnaaInvB
import Derived.Test.YtmdihildjblgnaaAwake3
import Derived.Test.YtmdihildjblgnaaDiff
import Derived.Test.YtmdihildjblgnaaText
import Derived.Deep.RegionHeld3
import Derived.Deep.DrawnRows
namespace Go.Proofs.Ytmdihildjblgnaa
open Go.RowKit
attribute [local go_sem ↓] Go.wp_at_zero Go.wp_at_succ

/-- What the law's trees have under a key. -/
theorem misses_pure {a b v p q x : T} (ha : Good a) (hb : Good b) (h5 : a.kind = 5) (h6 : b.kind = 5) (hv : v = b.over a) (hp : p = a.strip) (hq : q = b.strip) (hx : x = q.diff p) :
    KS a.map ∧ KS b.map ∧ KS v.map ∧ KS p.map ∧ KS q.map ∧ KS x.map ∧ ∀ k : ByteArray, (getT b k = none → getT v k = getT a k) ∧
      (((getT p k).isSome = (getT q k).isSome ∧ (getT p k).getD T.zero = (getT q k).getD T.zero ∧ (getT x k).isSome = false) ∨
       ((getT p k).isSome = (getT q k).isSome ∧ (getT p k).getD T.zero ≠ (getT q k).getD T.zero ∧ (getT x k).isSome = true) ∨ ((getT p k).isSome ≠ (getT q k).isSome ∧ (getT x k).isSome = true)) := by
  obtain ⟨l1, e1, hks1, -, hlk1⟩ := over_look ha.neat hb.neat h5 h6
  have hpn : Neat 6000 p := hp ▸ strip_neat ha.neat
  have hqn : Neat 6000 q := hq ▸ strip_neat hb.neat
  obtain ⟨l2, e2, hks2, -, hlk2⟩ := diff_look hpn hqn
  refine ⟨ha.KS, hb.KS, by rw [hv, e1]; exact hks1, hpn.KS, hqn.KS, by rw [hx, e2]; exact hks2, fun k => ⟨fun hn => ?_, ?_⟩⟩
  · rw [hv, e1, getT_mk, hlk1, getT_look ha.neat]
    rw [getT_look hb.neat] at hn
    rw [hn]; rfl
  · rw [hx, e2, getT_mk, hlk2, getT_look hpn, getT_look hqn]
    cases ep : look p.map k with
    | none =>
      cases eq : look q.map k with
      | none => exact .inl ⟨rfl, rfl, rfl⟩
      | some z => exact .inr (.inr ⟨by simp, rfl⟩)
    | some y =>
      cases eq : look q.map k with
      | none => exact .inr (.inr ⟨by simp, rfl⟩)
      | some z =>
        by_cases hc : T.cmp y z = 0
        · refine .inl ⟨rfl, cmp_is (hpn.look ep).parts (hqn.look eq).parts hc, ?_⟩
          rw [dif, if_pos hc]; rfl
        · refine .inr (.inl ⟨rfl, fun e => hc ?_, ?_⟩)
          · simp only [Option.getD_some] at e
            rw [e]; exact (cmp_1 z).refl
          · rw [dif, if_neg hc]; split <;> rfl

set_option maxRecDepth 100000 in
set_option maxHeartbeats 16000000 in
theorem misses3 (a b : T) (ks : List ByteArray) (ka : Option Addr) (kc : Nat) (va vb : Value) (w : World) (ha : RepT w (fun _ => True) va a) (hb : RepT w (fun _ => True) vb b) (hk : RepS w (fun _ => True) ka ks) (hkz : ks.length * 16 ≤ 140737488355328) :
    Calls Try.prog 17 #[va, vb, .slice ka ks.length kc] w fun e w' => e = .returned (.bool true) ∧ Below w.heap.size w w' := by
  obtain ⟨la, lc, ma, mc, rfl, -⟩ := ha.inv
  obtain ⟨la2, lc2, ma2, mc2, rfl, -⟩ := hb.inv
  have H_a := Lib.hid ha
  have H_b := Lib.hid hb
  clear ha hb
  have H_k := Lib.hid hk; clear hk
  go_enter Try.func17, Try.ntmps17
  go_wp2_with fail
  refine (right [a, b] _ (fun _ => True) _ 2 (repE_L.1 (rep_block (E := eltV) (S := fun _ => True) (l := [a, b]) [[.int .i64 a.kind, .bool a.bool, .int .i64 a.int, .string a.str, .slice la a.list.length lc, .slice ma a.map.length mc], [.int .i64 b.kind, .bool b.bool, .int .i64 b.int, .string b.str, .slice la2 b.list.length lc2, .slice ma2 b.map.length mc2]] (Blk.new_at ((w.alloc (.cells #[.int .i64 a.kind, .bool a.bool, .int .i64 a.int, .string a.str, .slice la a.list.length lc, .slice ma a.map.length mc] 25)).alloc (.cells #[.int .i64 b.kind, .bool b.bool, .int .i64 b.int, .string b.str, .slice la2 b.list.length lc2, .slice ma2 b.map.length mc2] 25)) 25 #[.int .i64 a.kind, .bool a.bool, .int .i64 a.int, .string a.str, .slice la a.list.length lc, .slice ma a.map.length mc, .int .i64 b.kind, .bool b.bool, .int .i64 b.int, .string b.str, .slice la2 b.list.length lc2, .slice ma2 b.map.length mc2] (n := w.heap.size + 1 + 1) (by simp)) rfl trivial ⟨(H_a.out.keep (by exact ((Below.new _ _).alloc (by simp) _).alloc (by simp; omega) _)), (H_b.out.keep (by exact ((Below.new _ _).alloc (by simp) _).alloc (by simp; omega) _)), trivial⟩)) (by simp)).mono ?_
  rintro e w1 ⟨r, rfl, hr, hb⟩
  have HD1 := Lib.hid (show Below w.heap.size w w1 from Below.next (((Below.new _ _).alloc (by simp) _).alloc (by simp; omega) _) hb)
  have L1_0 := Lib.hid ((((Blk.new w 25 #[.int .i64 a.kind, .bool a.bool, .int .i64 a.int, .string a.str, .slice la a.list.length lc, .slice ma a.map.length mc]).alloc (.cells #[.int .i64 b.kind, .bool b.bool, .int .i64 b.int, .string b.str, .slice la2 b.list.length lc2, .slice ma2 b.map.length mc2] 25)).alloc (.cells #[.int .i64 a.kind, .bool a.bool, .int .i64 a.int, .string a.str, .slice la a.list.length lc, .slice ma a.map.length mc, .int .i64 b.kind, .bool b.bool, .int .i64 b.int, .string b.str, .slice la2 b.list.length lc2, .slice ma2 b.map.length mc2] 25)).keep hb)
  have L1_1 := Lib.hid (((Blk.new_at (w.alloc (.cells #[.int .i64 a.kind, .bool a.bool, .int .i64 a.int, .string a.str, .slice la a.list.length lc, .slice ma a.map.length mc] 25)) 25 #[.int .i64 b.kind, .bool b.bool, .int .i64 b.int, .string b.str, .slice la2 b.list.length lc2, .slice ma2 b.map.length mc2] (n := w.heap.size + 1) (by simp)).alloc (.cells #[.int .i64 a.kind, .bool a.bool, .int .i64 a.int, .string a.str, .slice la a.list.length lc, .slice ma a.map.length mc, .int .i64 b.kind, .bool b.bool, .int .i64 b.int, .string b.str, .slice la2 b.list.length lc2, .slice ma2 b.map.length mc2] 25)).keep hb)
  have V1_a := Lib.hid (H_a.out.keep HD1.out)
  have V1_b := Lib.hid (H_b.out.keep HD1.out)
  have V1_k := Lib.hid (H_k.out.keep HD1.out)
  have HW1 := Lib.hid (show Below w.heap.size w w1 from HD1.out)
  clear hb HD1 H_a H_b H_k
  have k1_0 := L1_0.out.cell
  have l1_0 := L1_0.out.lt
  have k1_1 := L1_1.out.cell
  have l1_1 := L1_1.out.lt
  have HR := Lib.hid hr
  clear hr
  cases r
  · go_wp2_with (go_at_call 37; refine (awake3 _).mono ?_; rintro e w9 ⟨rfl, hb9⟩)
    go_ret
    exact ⟨rfl, Below.next HW1.out hb9⟩
  have hga : Good a := HR.out rfl a (by simp)
  have hgb : Good b := HR.out rfl b (by simp)
  by_cases h5 : a.kind = 5
  case neg =>
    have gh5 : (a.kind != 5) = true := bne_iff_ne.2 h5
    clear h5 hga hgb
    go_wp2_with (go_at_call 37; refine (awake3 _).mono ?_; rintro e w9 ⟨rfl, hb9⟩)
    go_ret
    exact ⟨rfl, Below.next HW1.out hb9⟩
  by_cases h6 : b.kind = 5
  case neg =>
    have gh6 : (b.kind != 5) = true := bne_iff_ne.2 h6
    have gh5 : (a.kind != 5) = false := by rw [h5]; rfl
    clear h5
    clear h6 hga hgb
    go_wp2_with (go_at_call 37; refine (awake3 _).mono ?_; rintro e w9 ⟨rfl, hb9⟩)
    go_ret
    exact ⟨rfl, Below.next HW1.out hb9⟩
  by_cases h7 : ks.length ≤ 20
  case neg =>
    have gh5 : (a.kind != 5) = false := by rw [h5]; rfl
    have gh6 : (b.kind != 5) = false := by rw [h6]; rfl
    have gh7 : (20 : Int) < (ks.length : Int) := by omega
    clear h5 h6 h7 hga hgb
    go_wp2_with (go_at_call 37; refine (awake3 _).mono ?_; rintro e w9 ⟨rfl, hb9⟩)
    go_ret
    exact ⟨rfl, Below.next HW1.out hb9⟩
  have gh5 : (a.kind != 5) = false := by rw [h5]; rfl
  have gh6 : (b.kind != 5) = false := by rw [h6]; rfl
  have gh7 : ¬ (20 : Int) < (ks.length : Int) := by omega
  obtain ⟨v, hv⟩ : ∃ s, s = b.over a := ⟨_, rfl⟩
  obtain ⟨p, hp⟩ : ∃ s, s = a.strip := ⟨_, rfl⟩
  obtain ⟨q, hq⟩ : ∃ s, s = b.strip := ⟨_, rfl⟩
  obtain ⟨dx, hdx⟩ : ∃ s, s = q.diff p := ⟨_, rfl⟩
  have hpn : Neat 6000 p := hp ▸ strip_neat hga.neat
  have hqn : Neat 6000 q := hq ▸ strip_neat hgb.neat
  have HPU := Lib.hid (misses_pure hga hgb h5 h6 hv hp hq hdx)
  have CV : Hid (∀ (w : World) (c : Value) (d : Value), RepT w (fun _ => True) c a → RepT w (fun _ => True) d b → Calls Try.prog 38 #[c, d] w (NewPost w v)) := fun w c d h0 h1 => by have := tover (na := 6000) (nb := 6000) (by omega) b a hga.neat hgb.neat c d w _ _ h0 h1; rw [← hv] at this; exact this
  have Cp : Hid (∀ (w : World) (g : Nat), RepL w (fun _ => True) (some ⟨g, 0, none⟩) [a] → Calls Try.prog 60 #[.slice (some ⟨g, 0, none⟩) 1 1] w (NewPost w p)) := fun w g h => by have := tall (n := 6000) [a] (by simpa using hga.neat) (by simp) (by simp) _ 1 w _ h; rw [show allT [a] = p from (over_plain neat_m0 hga.neat h5 rfl rfl).trans hp.symm] at this; exact this
  have Cq : Hid (∀ (w : World) (g : Nat), RepL w (fun _ => True) (some ⟨g, 0, none⟩) [b] → Calls Try.prog 60 #[.slice (some ⟨g, 0, none⟩) 1 1] w (NewPost w q)) := fun w g h => by have := tall (n := 6000) [b] (by simpa using hgb.neat) (by simp) (by simp) _ 1 w _ h; rw [show allT [b] = q from (over_plain neat_m0 hgb.neat h6 rfl rfl).trans hq.symm] at this; exact this
  have CX : Hid (∀ (w : World) (c : Value) (d : Value), RepT w (fun _ => True) c p → RepT w (fun _ => True) d q → Calls Try.prog 63 #[c, d] w (NewPost w dx)) := fun w c d h0 h1 => hdx ▸ tdiff (na := 6000) (nb := 6000) (by omega) q p hpn hqn c d w _ _ h0 h1
  clear hv hp hq hdx hpn hqn h5 h6 h7 hga hgb HR
  go_wp2_with fail
  have hnop : True := trivial
  refine (CV.out _ _ _ (V1_a.out) (V1_b.out)).mono ?_
  rintro e w2 ⟨v2, rfl, hr, hb⟩
  obtain ⟨qa2, qc2, qm2, qn2, rfl, -⟩ := hr.inv
  have N2 := Lib.hid (hr.any)
  clear hr
  have HD2 := Lib.hid (show Below w1.heap.size w1 w2 from hb)
  have L2_0 := Lib.hid (L1_0.out.keep HD2.out)
  have L2_1 := Lib.hid (L1_1.out.keep HD2.out)
  have V2_a := Lib.hid (V1_a.out.keep HD2.out)
  have V2_b := Lib.hid (V1_b.out.keep HD2.out)
  have V2_k := Lib.hid (V1_k.out.keep HD2.out)
  have HW2 := Lib.hid (Below.next HW1.out HD2.out)
  clear k1_0 l1_0 k1_1 l1_1 hb HD2 L1_0 L1_1 V1_a V1_b V1_k HW1
  have k2_0 := L2_0.out.cell
  have l2_0 := L2_0.out.lt
  have k2_1 := L2_1.out.cell
  have l2_1 := L2_1.out.lt
  go_wp2_with fail
  obtain ⟨w3, hwz⟩ : ∃ x, x = (w2.alloc (.cells #[.int .i64 v.kind, .bool v.bool, .int .i64 v.int, .string v.str, .slice qa2 v.list.length qc2, .slice qm2 v.map.length qn2] 25)) := ⟨_, rfl⟩
  have hb : Below (w2.alloc (.cells #[.int .i64 v.kind, .bool v.bool, .int .i64 v.int, .string v.str, .slice qa2 v.list.length qc2, .slice qm2 v.map.length qn2] 25)).heap.size (w2.alloc (.cells #[.int .i64 v.kind, .bool v.bool, .int .i64 v.int, .string v.str, .slice qa2 v.list.length qc2, .slice qm2 v.map.length qn2] 25)) w3 := by rw [hwz]; exact Below.refl _ _
  rw [← hwz]
  clear hwz
  have HD3 := Lib.hid (show Below w2.heap.size w2 w3 from Below.next (Below.new _ _) hb)
  have L3_0 := Lib.hid (L2_0.out.keep HD3.out)
  have L3_1 := Lib.hid (L2_1.out.keep HD3.out)
  have L3_2 := Lib.hid ((Blk.new w2 25 #[.int .i64 v.kind, .bool v.bool, .int .i64 v.int, .string v.str, .slice qa2 v.list.length qc2, .slice qm2 v.map.length qn2]).keep hb)
  have V3_a := Lib.hid (V2_a.out.keep HD3.out)
  have V3_b := Lib.hid (V2_b.out.keep HD3.out)
  have V3_k := Lib.hid (V2_k.out.keep HD3.out)
  have V3_v := Lib.hid (N2.out.keep HD3.out)
  have HW3 := Lib.hid (Below.next HW2.out HD3.out)
  clear k2_0 l2_0 k2_1 l2_1 hb HD3 L2_0 L2_1 V2_a V2_b V2_k N2 HW2
  have k3_0 := L3_0.out.cell
  have l3_0 := L3_0.out.lt
  have k3_1 := L3_1.out.cell
  have l3_1 := L3_1.out.lt
  have k3_2 := L3_2.out.cell
  have l3_2 := L3_2.out.lt
  go_wp2_with fail
  clear k3_0 l3_0 k3_1 l3_1 k3_2 l3_2
  refine lay_frame (fun Af (FR : Value → Value → Value → Value → Value → Value → Value → Value → Act) => ∀ x49 x50 x51 x52 x53 x54 x8 x9, ((((((((Af.put (some 49) x49).put (some 50) x50).put (some 51) x51).put (some 52) x52).put (some 53) x53).put (some 54) x54).put (some 8) x8).put (some 9) x9) = FR x49 x50 x51 x52 x53 x54 x8 x9) ?FR ?heq (fun hfr => ?main)
  case heq =>
    intro x49 x50 x51 x52 x53 x54 x8 x9
    simp only [Act.put, List.setIfInBounds_toArray, List.set_cons_zero, List.set_cons_succ]
    rfl
  refine wp_region_inv (n := 10) (fun Af dd sAc wx => ∃ (O : Nat → Nat) (x49 x50 x51 x52 x53 x54 x8 x9 : Value), sAc = ((((((((Af.put (some 49) x49).put (some 50) x50).put (some 51) x51).put (some 52) x52).put (some 53) x53).put (some 54) x54).put (some 8) x8).put (some 9) x9) ∧ Below w3.heap.size w3 wx ∧ (∀ b, b < w3.heap.size → O b = 0) ∧ (dd 0 = true → x49 = .agg #[.int .i64 a.kind, .bool a.bool, .int .i64 a.int, .string a.str, .slice la a.list.length lc, .slice ma a.map.length mc]) ∧ (dd 1 = true → RowI O wx w3.heap.size x50 3 #[.int .i64 a.kind, .bool a.bool, .int .i64 a.int, .string a.str, .slice la a.list.length lc, .slice ma a.map.length mc]) ∧ (dd 2 = true → RepT wx (fun b => O b = 0) x51 p) ∧ (dd 3 = true → x52 = .agg #[.int .i64 b.kind, .bool b.bool, .int .i64 b.int, .string b.str, .slice la2 b.list.length lc2, .slice ma2 b.map.length mc2]) ∧ (dd 4 = true → RowI O wx w3.heap.size x53 4 #[.int .i64 b.kind, .bool b.bool, .int .i64 b.int, .string b.str, .slice la2 b.list.length lc2, .slice ma2 b.map.length mc2]) ∧ (dd 5 = true → RepT wx (fun b => O b = 0) x54 q) ∧ (dd 6 = true → BoxI O wx w3.heap.size x8 1 (dd 8) x51) ∧ (dd 7 = true → BoxI O wx w3.heap.size x9 2 (dd 9) x54) ∧ (dd 8 = true → dd 6 = true ∧ dd 2 = true) ∧ (dd 9 = true → dd 7 = true ∧ dd 5 = true)) (by kernel_rfl) (by kernel_rfl) rfl ?_ ⟨?_, ?_, ?_, ?_, ?_, ?_, ?_, ?_, ?_, ?_, trivial⟩ ?_
  · refine ⟨fun _ => 0, undef, undef, undef, undef, undef, undef, undef, undef, by rw [hfr], (Below.refl _ _).drew, fun _ _ => rfl, fun h => absurd h Bool.false_ne_true, fun h => absurd h Bool.false_ne_true, fun h => absurd h Bool.false_ne_true, fun h => absurd h Bool.false_ne_true, fun h => absurd h Bool.false_ne_true, fun h => absurd h Bool.false_ne_true, fun h => absurd h Bool.false_ne_true, fun h => absurd h Bool.false_ne_true, fun h => absurd h Bool.false_ne_true, fun h => absurd h Bool.false_ne_true⟩
  · intro dd sAc wx hd hpre hI K hK
    obtain ⟨O, x49, x50, x51, x52, x53, x54, x8, x9, hsx, HB, HO, F0, F1, F2, F3, F4, F5, F6, F7, G8, G9⟩ := hI
    have kb0 := (L3_0.out.keep HB).cell; have lb0 := (L3_0.out.keep HB).lt
    rw [hsx, hfr]
    go_simp
    exact hK.out _ _ ⟨O, (.agg #[.int .i64 a.kind, .bool a.bool, .int .i64 a.int, .string a.str, .slice la a.list.length lc, .slice ma a.map.length mc]), x50, x51, x52, x53, x54, x8, x9, by rw [hfr]; try simp only [Act.put, List.setIfInBounds_toArray, List.set_cons_zero, List.set_cons_succ], HB, HO, fun _ => rfl, F1, F2, F3, F4, F5, F6, F7, G8, G9⟩
  · intro dd sAc wx hd hpre hI K hK
    obtain ⟨O, x49, x50, x51, x52, x53, x54, x8, x9, hsx, HB, HO, F0, F1, F2, F3, F4, F5, F6, F7, G8, G9⟩ := hI
    obtain rfl := F0 (hpre ⟨0, .data⟩ (by simp) rfl)
    rw [hsx, hfr]
    go_simp
    have hs := Stp.new (O := O) (w := wx) (.cells #[.int .i64 a.kind, .bool a.bool, .int .i64 a.int, .string a.str, .slice la a.list.length lc, .slice ma a.map.length mc] 25) 3
    exact hK.out _ _ ⟨ownN O wx.heap.size 3, (.agg #[.int .i64 a.kind, .bool a.bool, .int .i64 a.int, .string a.str, .slice la a.list.length lc, .slice ma a.map.length mc]), (.slice (some ⟨wx.heap.size, 0, none⟩) 1 1), x51, x52, x53, x54, x8, x9, by rw [hfr]; try simp only [Act.put, List.setIfInBounds_toArray, List.set_cons_zero, List.set_cons_succ], (HB.alloc HB.size _), ownN_low HO HB.size, fun _ => rfl, fun _ => RowI.new _ HB.size, fun h => (F2 h).stp hs (fun _ e => nomatch e), F3, fun h => (F4 h).stp hs (fun _ e => nomatch e), fun h => (F5 h).stp hs (fun _ e => nomatch e), fun h => (F6 h).stp hs (fun _ e => nomatch e), fun h => (F7 h).stp hs (fun _ e => nomatch e), G8, G9⟩
  · intro dd sAc wx hd hpre hI K hK
    obtain ⟨O, x49, x50, x51, x52, x53, x54, x8, x9, hsx, HB, HO, F0, F1, F2, F3, F4, F5, F6, F7, G8, G9⟩ := hI
    obtain ⟨gr1, rfl, -, -, hrow1⟩ := F1 (hpre ⟨1, .data⟩ (by simp) rfl)
    rw [hsx, hfr]
    go_simp
    refine (Cp.out _ gr1 (repE_L.1 (rep_block (E := eltV) (S := fun _ => True) (l := [a]) [[.int .i64 a.kind, .bool a.bool, .int .i64 a.int, .string a.str, .slice la a.list.length lc, .slice ma a.map.length mc]] hrow1 rfl trivial ⟨V3_a.out.keep HB, trivial⟩))).mono ?_
    rintro ee wy ⟨vv, rfl, hr, hb⟩
    go_wp2_with fail
    have hs := Stp.call (O := O) hb
    exact hK.out _ _ ⟨ownC O wx.heap.size, x49, (.slice (some ⟨gr1, 0, none⟩) 1 1), vv, x52, x53, x54, x8, x9, by rw [hfr]; try simp only [Act.put, List.setIfInBounds_toArray, List.set_cons_zero, List.set_cons_succ], Below.next HB hb, ownC_low HO, F0, fun h => (F1 h).stp hs (fun _ e => nomatch e), fun _ => hr.called, F3, fun h => (F4 h).stp hs (fun _ e => nomatch e), fun h => (F5 h).stp hs (fun _ e => nomatch e), fun h => ((F6 h).val (by cases h2 : dd 8 with | false => rfl | true => rw [(G8 h2).2] at hd; cases hd)).stp hs (fun _ e => nomatch e), fun h => (F7 h).stp hs (fun _ e => nomatch e), fun h => ⟨(G8 h).1, rfl⟩, G9⟩
  · intro dd sAc wx hd hpre hI K hK
    obtain ⟨O, x49, x50, x51, x52, x53, x54, x8, x9, hsx, HB, HO, F0, F1, F2, F3, F4, F5, F6, F7, G8, G9⟩ := hI
    have kb1 := (L3_1.out.keep HB).cell; have lb1 := (L3_1.out.keep HB).lt
    rw [hsx, hfr]
    go_simp
    exact hK.out _ _ ⟨O, x49, x50, x51, (.agg #[.int .i64 b.kind, .bool b.bool, .int .i64 b.int, .string b.str, .slice la2 b.list.length lc2, .slice ma2 b.map.length mc2]), x53, x54, x8, x9, by rw [hfr]; try simp only [Act.put, List.setIfInBounds_toArray, List.set_cons_zero, List.set_cons_succ], HB, HO, F0, F1, F2, fun _ => rfl, F4, F5, F6, F7, G8, G9⟩
  · intro dd sAc wx hd hpre hI K hK
    obtain ⟨O, x49, x50, x51, x52, x53, x54, x8, x9, hsx, HB, HO, F0, F1, F2, F3, F4, F5, F6, F7, G8, G9⟩ := hI
    obtain rfl := F3 (hpre ⟨3, .data⟩ (by simp) rfl)
    rw [hsx, hfr]
    go_simp
    have hs := Stp.new (O := O) (w := wx) (.cells #[.int .i64 b.kind, .bool b.bool, .int .i64 b.int, .string b.str, .slice la2 b.list.length lc2, .slice ma2 b.map.length mc2] 25) 4
    exact hK.out _ _ ⟨ownN O wx.heap.size 4, x49, x50, x51, (.agg #[.int .i64 b.kind, .bool b.bool, .int .i64 b.int, .string b.str, .slice la2 b.list.length lc2, .slice ma2 b.map.length mc2]), (.slice (some ⟨wx.heap.size, 0, none⟩) 1 1), x54, x8, x9, by rw [hfr]; try simp only [Act.put, List.setIfInBounds_toArray, List.set_cons_zero, List.set_cons_succ], (HB.alloc HB.size _), ownN_low HO HB.size, F0, fun h => (F1 h).stp hs (fun _ e => nomatch e), fun h => (F2 h).stp hs (fun _ e => nomatch e), fun _ => rfl, fun _ => RowI.new _ HB.size, fun h => (F5 h).stp hs (fun _ e => nomatch e), fun h => (F6 h).stp hs (fun _ e => nomatch e), fun h => (F7 h).stp hs (fun _ e => nomatch e), G8, G9⟩
  · intro dd sAc wx hd hpre hI K hK
    obtain ⟨O, x49, x50, x51, x52, x53, x54, x8, x9, hsx, HB, HO, F0, F1, F2, F3, F4, F5, F6, F7, G8, G9⟩ := hI
    obtain ⟨gr4, rfl, -, -, hrow4⟩ := F4 (hpre ⟨4, .data⟩ (by simp) rfl)
    rw [hsx, hfr]
    go_simp
    refine (Cq.out _ gr4 (repE_L.1 (rep_block (E := eltV) (S := fun _ => True) (l := [b]) [[.int .i64 b.kind, .bool b.bool, .int .i64 b.int, .string b.str, .slice la2 b.list.length lc2, .slice ma2 b.map.length mc2]] hrow4 rfl trivial ⟨V3_b.out.keep HB, trivial⟩))).mono ?_
    rintro ee wy ⟨vv, rfl, hr, hb⟩
    go_wp2_with fail
    have hs := Stp.call (O := O) hb
    exact hK.out _ _ ⟨ownC O wx.heap.size, x49, x50, x51, x52, (.slice (some ⟨gr4, 0, none⟩) 1 1), vv, x8, x9, by rw [hfr]; try simp only [Act.put, List.setIfInBounds_toArray, List.set_cons_zero, List.set_cons_succ], Below.next HB hb, ownC_low HO, F0, fun h => (F1 h).stp hs (fun _ e => nomatch e), fun h => (F2 h).stp hs (fun _ e => nomatch e), F3, fun h => (F4 h).stp hs (fun _ e => nomatch e), fun _ => hr.called, fun h => (F6 h).stp hs (fun _ e => nomatch e), fun h => ((F7 h).val (by cases h2 : dd 9 with | false => rfl | true => rw [(G9 h2).2] at hd; cases hd)).stp hs (fun _ e => nomatch e), G8, fun h => ⟨(G9 h).1, rfl⟩⟩
  · intro dd sAc wx hd hpre hI K hK
    obtain ⟨O, x49, x50, x51, x52, x53, x54, x8, x9, hsx, HB, HO, F0, F1, F2, F3, F4, F5, F6, F7, G8, G9⟩ := hI
    rw [hsx, hfr]
    go_simp
    have hs := Stp.new (O := O) (w := wx) (.cells #[.int .i64 0, .bool false, .int .i64 0, .string ⟨#[]⟩, .slice none 0 0, .slice none 0 0] 25) 1
    have hst : dd 8 = false := by
          cases h : dd 8 with
          | false => rfl
          | true => rw [(G8 h).1] at hd; cases hd
    have hnew : BoxI (ownN O wx.heap.size 1) (wx.alloc (.cells #[.int .i64 0, .bool false, .int .i64 0, .string ⟨#[]⟩, .slice none 0 0, .slice none 0 0] 25)) w3.heap.size (.pointer (some ⟨wx.heap.size, 0, none⟩)) 1 (dd 8) x51 := by rw [hst]; exact BoxI.new _ _ HB.size
    exact hK.out _ _ ⟨ownN O wx.heap.size 1, x49, x50, x51, x52, x53, x54, (.pointer (some ⟨wx.heap.size, 0, none⟩)), x9, by rw [hfr]; try simp only [Act.put, List.setIfInBounds_toArray, List.set_cons_zero, List.set_cons_succ], (HB.alloc HB.size _), ownN_low HO HB.size, F0, fun h => (F1 h).stp hs (fun _ e => nomatch e), fun h => (F2 h).stp hs (fun _ e => nomatch e), F3, fun h => (F4 h).stp hs (fun _ e => nomatch e), fun h => (F5 h).stp hs (fun _ e => nomatch e), fun _ => hnew, fun h => (F7 h).stp hs (fun _ e => nomatch e), fun h => ⟨rfl, (G8 h).2⟩, G9⟩
  · intro dd sAc wx hd hpre hI K hK
    obtain ⟨O, x49, x50, x51, x52, x53, x54, x8, x9, hsx, HB, HO, F0, F1, F2, F3, F4, F5, F6, F7, G8, G9⟩ := hI
    rw [hsx, hfr]
    go_simp
    have hs := Stp.new (O := O) (w := wx) (.cells #[.int .i64 0, .bool false, .int .i64 0, .string ⟨#[]⟩, .slice none 0 0, .slice none 0 0] 25) 2
    have hst : dd 9 = false := by
          cases h : dd 9 with
          | false => rfl
          | true => rw [(G9 h).1] at hd; cases hd
    have hnew : BoxI (ownN O wx.heap.size 2) (wx.alloc (.cells #[.int .i64 0, .bool false, .int .i64 0, .string ⟨#[]⟩, .slice none 0 0, .slice none 0 0] 25)) w3.heap.size (.pointer (some ⟨wx.heap.size, 0, none⟩)) 2 (dd 9) x54 := by rw [hst]; exact BoxI.new _ _ HB.size
    exact hK.out _ _ ⟨ownN O wx.heap.size 2, x49, x50, x51, x52, x53, x54, x8, (.pointer (some ⟨wx.heap.size, 0, none⟩)), by rw [hfr]; try simp only [Act.put, List.setIfInBounds_toArray, List.set_cons_zero, List.set_cons_succ], (HB.alloc HB.size _), ownN_low HO HB.size, F0, fun h => (F1 h).stp hs (fun _ e => nomatch e), fun h => (F2 h).stp hs (fun _ e => nomatch e), F3, fun h => (F4 h).stp hs (fun _ e => nomatch e), fun h => (F5 h).stp hs (fun _ e => nomatch e), fun h => (F6 h).stp hs (fun _ e => nomatch e), fun _ => hnew, G8, fun h => ⟨rfl, (G9 h).2⟩⟩
  · intro dd sAc wx hd hpre hI K hK
    obtain ⟨O, x49, x50, x51, x52, x53, x54, x8, x9, hsx, HB, HO, F0, F1, F2, F3, F4, F5, F6, F7, G8, G9⟩ := hI
    have e2 := F2 (hpre ⟨2, .data⟩ (by simp) rfl)
    have hb0 := F6 (hpre ⟨6, .data⟩ (by simp) rfl)
    rw [hd] at hb0
    obtain ⟨g, rfl, hog, hBg, hbg⟩ := hb0.at_
    obtain ⟨qa, qc, qm, qn, rfl, -⟩ := e2.inv
    have kg := hbg.cell; have lg := hbg.lt; have zg := hbg.frozen
    rw [hsx, hfr]
    dsimp only [cond_false] at kg
    go_simp
    have hs := Stp.set6 (O := O) (w := wx) (b := g) (o := 0) (c0 := .int .i64 p.kind) (c1 := .bool p.bool) (c2 := .int .i64 p.int) (c3 := .string p.str) (c4 := .slice qa p.list.length qc) (c5 := .slice qm p.map.length qn)
    exact hK.out _ _ ⟨O, x49, x50, (.agg #[.int .i64 p.kind, .bool p.bool, .int .i64 p.int, .string p.str, .slice qa p.list.length qc, .slice qm p.map.length qn]), x52, x53, x54, (.pointer (some ⟨g, 0, none⟩)), x9, by rw [hfr]; try simp only [Act.put, List.setIfInBounds_toArray, List.set_cons_zero, List.set_cons_succ], set6_below (o := 0) HB hBg, HO, F0, fun h => (F1 h).stp hs (fun b e => by injection e with e; rw [← e, hog]; decide), fun h => (F2 h).stp hs (fun b e => by injection e with e; rw [← e, hog]; decide), F3, fun h => (F4 h).stp hs (fun b e => by injection e with e; rw [← e, hog]; decide), fun h => (F5 h).stp hs (fun b e => by injection e with e; rw [← e, hog]; decide), fun _ => hb0.put, fun h => (F7 h).stp hs (fun b e => by injection e with e; rw [← e, hog]; decide), fun _ => ⟨hpre ⟨6, .data⟩ (by simp) rfl, hpre ⟨2, .data⟩ (by simp) rfl⟩, G9⟩
  · intro dd sAc wx hd hpre hI K hK
    obtain ⟨O, x49, x50, x51, x52, x53, x54, x8, x9, hsx, HB, HO, F0, F1, F2, F3, F4, F5, F6, F7, G8, G9⟩ := hI
    have e5 := F5 (hpre ⟨5, .data⟩ (by simp) rfl)
    have hb0 := F7 (hpre ⟨7, .data⟩ (by simp) rfl)
    rw [hd] at hb0
    obtain ⟨g, rfl, hog, hBg, hbg⟩ := hb0.at_
    obtain ⟨qa, qc, qm, qn, rfl, -⟩ := e5.inv
    have kg := hbg.cell; have lg := hbg.lt; have zg := hbg.frozen
    rw [hsx, hfr]
    dsimp only [cond_false] at kg
    go_simp
    have hs := Stp.set6 (O := O) (w := wx) (b := g) (o := 0) (c0 := .int .i64 q.kind) (c1 := .bool q.bool) (c2 := .int .i64 q.int) (c3 := .string q.str) (c4 := .slice qa q.list.length qc) (c5 := .slice qm q.map.length qn)
    exact hK.out _ _ ⟨O, x49, x50, x51, x52, x53, (.agg #[.int .i64 q.kind, .bool q.bool, .int .i64 q.int, .string q.str, .slice qa q.list.length qc, .slice qm q.map.length qn]), x8, (.pointer (some ⟨g, 0, none⟩)), by rw [hfr]; try simp only [Act.put, List.setIfInBounds_toArray, List.set_cons_zero, List.set_cons_succ], set6_below (o := 0) HB hBg, HO, F0, fun h => (F1 h).stp hs (fun b e => by injection e with e; rw [← e, hog]; decide), fun h => (F2 h).stp hs (fun b e => by injection e with e; rw [← e, hog]; decide), F3, fun h => (F4 h).stp hs (fun b e => by injection e with e; rw [← e, hog]; decide), fun h => (F5 h).stp hs (fun b e => by injection e with e; rw [← e, hog]; decide), fun h => (F6 h).stp hs (fun b e => by injection e with e; rw [← e, hog]; decide), fun _ => hb0.put, G8, fun _ => ⟨hpre ⟨7, .data⟩ (by simp) rfl, hpre ⟨5, .data⟩ (by simp) rfl⟩⟩
  · intro dd sAc wx hd hI
    obtain ⟨O, x49, x50, x51, x52, x53, x54, x8, x9, hsx, HB, HO, F0, F1, F2, F3, F4, F5, F6, F7, G8, G9⟩ := hI
    rw [hsx, hfr]
    clear hsx hfr
    have B8 := F6 (hd 6 (by decide)); rw [hd 8 (by decide)] at B8; obtain ⟨g8, rfl, -, hg8, B8⟩ := B8.at_
    have N8 := F2 (hd 2 (by decide)); obtain ⟨pa, pc, pm, pn, rfl, -⟩ := N8.inv
    have LB8 : Hid (Blk wx g8 25 #[.int .i64 p.kind, .bool p.bool, .int .i64 p.int, .string p.str, .slice pa p.list.length pc, .slice pm p.map.length pn]) := B8
    have V8 := Lib.hid (N8.any)
    have B9 := F7 (hd 7 (by decide)); rw [hd 9 (by decide)] at B9; obtain ⟨g9, rfl, -, hg9, B9⟩ := B9.at_
    have N9 := F5 (hd 5 (by decide)); obtain ⟨qa, qc, qm, qn, rfl, -⟩ := N9.inv
    have LB9 : Hid (Blk wx g9 25 #[.int .i64 q.kind, .bool q.bool, .int .i64 q.int, .string q.str, .slice qa q.list.length qc, .slice qm q.map.length qn]) := B9
    have V9 := Lib.hid (N9.any)
    have L4_0 := Lib.hid (L3_0.out.keep HB)
    have L4_1 := Lib.hid (L3_1.out.keep HB)
    have L4_2 := Lib.hid (L3_2.out.keep HB)
    have V4_a := Lib.hid (V3_a.out.keep HB)
    have V4_b := Lib.hid (V3_b.out.keep HB)
    have V4_v := Lib.hid (V3_v.out.keep HB)
    have V4_k := Lib.hid (V3_k.out.keep HB)
    have HW4 := Lib.hid (Below.next HW3.out HB)
    clear F0 F1 F2 F3 F4 F5 F6 F7 G8 G9 B8 B9 N8 N9 hg8 hg9 hd HO HB HW3 V3_a V3_b V3_v V3_k L3_0 L3_1 L3_2
    have k4_0 := L4_0.out.cell; have l4_0 := L4_0.out.lt
    have k4_1 := L4_1.out.cell; have l4_1 := L4_1.out.lt
    have k4_2 := L4_2.out.cell; have l4_2 := L4_2.out.lt
    have k4_3 := LB8.out.cell; have l4_3 := LB8.out.lt
    have k4_4 := LB9.out.cell; have l4_4 := LB9.out.lt
    go_wp2_with fail
    refine (CX.out _ _ _ (V8.out) (V9.out)).mono ?_
    rintro e w5 ⟨v5, rfl, hr, hb⟩
    obtain ⟨qa5, qc5, qm5, qn5, rfl, -⟩ := hr.inv
    have N5 := Lib.hid (hr.any)
    clear hr
    have HD5 := Lib.hid (show Below wx.heap.size wx w5 from hb)
    have L5_0 := Lib.hid (L4_0.out.keep HD5.out)
    have L5_1 := Lib.hid (L4_1.out.keep HD5.out)
    have L5_2 := Lib.hid (L4_2.out.keep HD5.out)
    have L5_3 := Lib.hid (LB8.out.keep HD5.out)
    have L5_4 := Lib.hid (LB9.out.keep HD5.out)
    have V5_a := Lib.hid (V4_a.out.keep HD5.out)
    have V5_b := Lib.hid (V4_b.out.keep HD5.out)
    have V5_k := Lib.hid (V4_k.out.keep HD5.out)
    have V5_v := Lib.hid (V4_v.out.keep HD5.out)
    have V5_p := Lib.hid (V8.out.keep HD5.out)
    have V5_q := Lib.hid (V9.out.keep HD5.out)
    have HW5 := Lib.hid (Below.next HW4.out HD5.out)
    clear k4_0 l4_0 k4_1 l4_1 k4_2 l4_2 k4_3 l4_3 k4_4 l4_4 hb HD5 L4_0 L4_1 L4_2 LB8 LB9 V4_a V4_b V4_k V4_v V8 V9 HW4
    have k5_0 := L5_0.out.cell
    have l5_0 := L5_0.out.lt
    have k5_1 := L5_1.out.cell
    have l5_1 := L5_1.out.lt
    have k5_2 := L5_2.out.cell
    have l5_2 := L5_2.out.lt
    have k5_3 := L5_3.out.cell
    have l5_3 := L5_3.out.lt
    have k5_4 := L5_4.out.cell
    have l5_4 := L5_4.out.lt
    go_wp2_with fail
    obtain ⟨w6, hwz⟩ : ∃ x, x = (w5.alloc (.cells #[.int .i64 dx.kind, .bool dx.bool, .int .i64 dx.int, .string dx.str, .slice qa5 dx.list.length qc5, .slice qm5 dx.map.length qn5] 25)) := ⟨_, rfl⟩
    have hb : Below (w5.alloc (.cells #[.int .i64 dx.kind, .bool dx.bool, .int .i64 dx.int, .string dx.str, .slice qa5 dx.list.length qc5, .slice qm5 dx.map.length qn5] 25)).heap.size (w5.alloc (.cells #[.int .i64 dx.kind, .bool dx.bool, .int .i64 dx.int, .string dx.str, .slice qa5 dx.list.length qc5, .slice qm5 dx.map.length qn5] 25)) w6 := by rw [hwz]; exact Below.refl _ _
    rw [← hwz]
    clear hwz
    have HD6 := Lib.hid (show Below w5.heap.size w5 w6 from Below.next (Below.new _ _) hb)
    have L6_0 := Lib.hid (L5_0.out.keep HD6.out)
    have L6_1 := Lib.hid (L5_1.out.keep HD6.out)
    have L6_2 := Lib.hid (L5_2.out.keep HD6.out)
    have L6_3 := Lib.hid (L5_3.out.keep HD6.out)
    have L6_4 := Lib.hid (L5_4.out.keep HD6.out)
    have L6_5 := Lib.hid ((Blk.new w5 25 #[.int .i64 dx.kind, .bool dx.bool, .int .i64 dx.int, .string dx.str, .slice qa5 dx.list.length qc5, .slice qm5 dx.map.length qn5]).keep hb)
    have V6_a := Lib.hid (V5_a.out.keep HD6.out)
    have V6_b := Lib.hid (V5_b.out.keep HD6.out)
    have V6_k := Lib.hid (V5_k.out.keep HD6.out)
    have V6_v := Lib.hid (V5_v.out.keep HD6.out)
    have V6_p := Lib.hid (V5_p.out.keep HD6.out)
    have V6_q := Lib.hid (V5_q.out.keep HD6.out)
    have V6_dx := Lib.hid (N5.out.keep HD6.out)
    have HW6 := Lib.hid (Below.next HW5.out HD6.out)
    clear k5_0 l5_0 k5_1 l5_1 k5_2 l5_2 k5_3 l5_3 k5_4 l5_4 hb HD6 L5_0 L5_1 L5_2 L5_3 L5_4 V5_a V5_b V5_k V5_v V5_p V5_q N5 HW5
    have k6_0 := L6_0.out.cell
    have l6_0 := L6_0.out.lt
    have k6_1 := L6_1.out.cell
    have l6_1 := L6_1.out.lt
    have k6_2 := L6_2.out.cell
    have l6_2 := L6_2.out.lt
    have k6_3 := L6_3.out.cell
    have l6_3 := L6_3.out.lt
    have k6_4 := L6_4.out.cell
    have l6_4 := L6_4.out.lt
    have k6_5 := L6_5.out.cell
    have l6_5 := L6_5.out.lt
    go_wp2_with fail
    go_loopw [60] (fun x wr => ∃ j : Nat, j ≤ ks.length ∧ x = .int .i64 j ∧ Below w6.heap.size w6 wr) (fun x _ => ks.length - (intOf x).toNat)
    case atStart => exact ⟨0, Nat.zero_le _, rfl, Below.refl _ _⟩
    case round =>
      obtain ⟨j, hj, rfl, hbl⟩ := hrel
      have L7_0 := Lib.hid (L6_0.out.keep hbl)
      have L7_1 := Lib.hid (L6_1.out.keep hbl)
      have L7_2 := Lib.hid (L6_2.out.keep hbl)
      have L7_3 := Lib.hid (L6_3.out.keep hbl)
      have L7_4 := Lib.hid (L6_4.out.keep hbl)
      have L7_5 := Lib.hid (L6_5.out.keep hbl)
      have V7_a := Lib.hid (V6_a.out.keep hbl)
      have V7_b := Lib.hid (V6_b.out.keep hbl)
      have V7_k := Lib.hid (V6_k.out.keep hbl)
      have V7_v := Lib.hid (V6_v.out.keep hbl)
      have V7_p := Lib.hid (V6_p.out.keep hbl)
      have V7_q := Lib.hid (V6_q.out.keep hbl)
      have V7_dx := Lib.hid (V6_dx.out.keep hbl)
      have HW7 := Lib.hid (Below.next HW6.out hbl)
      have BL7 := Lib.hid hbl
      clear k6_0 l6_0 k6_1 l6_1 k6_2 l6_2 k6_3 l6_3 k6_4 l6_4 k6_5 l6_5 hbl
      have k7_0 := L7_0.out.cell; have l7_0 := L7_0.out.lt
      have k7_1 := L7_1.out.cell; have l7_1 := L7_1.out.lt
      have k7_2 := L7_2.out.cell; have l7_2 := L7_2.out.lt
      have k7_3 := L7_3.out.cell; have l7_3 := L7_3.out.lt
      have k7_4 := L7_4.out.cell; have l7_4 := L7_4.out.lt
      have k7_5 := L7_5.out.cell; have l7_5 := L7_5.out.lt
      by_cases hlt : j < ks.length
      case neg =>
        have gj : ¬ (j : Int) < (ks.length : Int) := by omega
        go_wp2_with (go_at_call 37; refine (awake3 _).mono ?_; rintro e w9 ⟨rfl, hb9⟩)
        go_ret
        exact ⟨rfl, Below.next HW7.out hb9⟩
      have gj1 : (0 : Int) ≤ (j : Int) := by omega
      have gj2 : (j : Int) < (ks.length : Int) := by omega
      obtain ⟨b5, o5, rfl, -, hbl5, hcl5, hz5⟩ := V7_k.out j hlt
      obtain ⟨hKa, hKb, hKv, hKp, hKq, hKdx, hall⟩ := HPU.out
      obtain ⟨F1, F2⟩ := hall ks[j]
      have CK := Lib.hid (fun w2 => rkey ks[j] w2 hz5)
      generalize ks[j] = key at *
      obtain ⟨ba, hba⟩ : ∃ z, (getT a key).isSome = z := ⟨_, rfl⟩
      obtain ⟨ta, hta⟩ : ∃ z, (getT a key).getD T.zero = z := ⟨_, rfl⟩
      have Ga := Lib.hid (fun w2 v2 (h : RepT w2 (fun _ => True) v2 a) => tget_b hba hta v2 w2 _ h hKa)
      obtain ⟨bv, hbv⟩ : ∃ z, (getT v key).isSome = z := ⟨_, rfl⟩
      obtain ⟨tv, htv⟩ : ∃ z, (getT v key).getD T.zero = z := ⟨_, rfl⟩
      have Gv := Lib.hid (fun w2 v2 (h : RepT w2 (fun _ => True) v2 v) => tget_b hbv htv v2 w2 _ h hKv)
      obtain ⟨bb, hbb⟩ : ∃ z, (getT b key).isSome = z := ⟨_, rfl⟩
      obtain ⟨tb, htb⟩ : ∃ z, (getT b key).getD T.zero = z := ⟨_, rfl⟩
      have Gb := Lib.hid (fun w2 v2 (h : RepT w2 (fun _ => True) v2 b) => tget_b hbb htb v2 w2 _ h hKb)
      obtain ⟨bp, hbp⟩ : ∃ z, (getT p key).isSome = z := ⟨_, rfl⟩
      obtain ⟨tp, htp⟩ : ∃ z, (getT p key).getD T.zero = z := ⟨_, rfl⟩
      have Gp := Lib.hid (fun w2 v2 (h : RepT w2 (fun _ => True) v2 p) => tget_b hbp htp v2 w2 _ h hKp)
      obtain ⟨bq, hbq⟩ : ∃ z, (getT q key).isSome = z := ⟨_, rfl⟩
      obtain ⟨tq, htq⟩ : ∃ z, (getT q key).getD T.zero = z := ⟨_, rfl⟩
      have Gq := Lib.hid (fun w2 v2 (h : RepT w2 (fun _ => True) v2 q) => tget_b hbq htq v2 w2 _ h hKq)
      obtain ⟨bdx, hbdx⟩ : ∃ z, (getT dx key).isSome = z := ⟨_, rfl⟩
      obtain ⟨tdx, htdx⟩ : ∃ z, (getT dx key).getD T.zero = z := ⟨_, rfl⟩
      have Gdx := Lib.hid (fun w2 v2 (h : RepT w2 (fun _ => True) v2 dx) => tget_b hbdx htdx v2 w2 _ h hKdx)
      rw [hbp, hbq, htp, htq, hbdx] at F2
      have HF1 := Lib.hid (show bb = false → ba = bv ∧ ta = tv from fun h => by rw [← hba, ← hbv, ← hta, ← htv, F1 (by rw [← hbb] at h; simpa using h)]; exact ⟨rfl, rfl⟩)
      have HF2 := Lib.hid F2
      clear F1 F2 hKa hKb hKv hKp hKq hKdx hba hta hbv htv hbb htb hbp htp hbq htq hbdx htdx
      generalize keyB key = kb at *
      cases kb
      case false =>
        go_wp2_with fail
        refine (CK.out _).mono ?_
        rintro e w9 ⟨rfl, rfl⟩
        go_wp2_with (go_at_call 37; refine (awake3 _).mono ?_; rintro e w9 ⟨rfl, hb9⟩)
        go_ret
        exact ⟨rfl, Below.next HW7.out hb9⟩
      go_wp2_with fail
      refine (CK.out _).mono ?_
      rintro e w9 ⟨rfl, rfl⟩
      go_wp2_with fail
      refine (Ga.out _ _ (V7_a.out)).mono ?_
      rintro e w8 ⟨v8, rfl, hr, hb⟩
      obtain ⟨qa8, qc8, qm8, qn8, rfl, -⟩ := hr.inv
      have N8 := Lib.hid (hr.any)
      clear hr
      have HD8 := Lib.hid (show Below wr.heap.size wr w8 from hb)
      have L8_0 := Lib.hid (L7_0.out.keep HD8.out)
      have L8_1 := Lib.hid (L7_1.out.keep HD8.out)
      have L8_2 := Lib.hid (L7_2.out.keep HD8.out)
      have L8_3 := Lib.hid (L7_3.out.keep HD8.out)
      have L8_4 := Lib.hid (L7_4.out.keep HD8.out)
      have L8_5 := Lib.hid (L7_5.out.keep HD8.out)
      have V8_a := Lib.hid (V7_a.out.keep HD8.out)
      have V8_b := Lib.hid (V7_b.out.keep HD8.out)
      have V8_k := Lib.hid (V7_k.out.keep HD8.out)
      have V8_v := Lib.hid (V7_v.out.keep HD8.out)
      have V8_p := Lib.hid (V7_p.out.keep HD8.out)
      have V8_q := Lib.hid (V7_q.out.keep HD8.out)
      have V8_dx := Lib.hid (V7_dx.out.keep HD8.out)
      have B8_0 := Lib.hid (Below.next BL7.out HD8.out)
      have HW8 := Lib.hid (Below.next HW7.out HD8.out)
      clear k7_0 l7_0 k7_1 l7_1 k7_2 l7_2 k7_3 l7_3 k7_4 l7_4 k7_5 l7_5 hb HD8 L7_0 L7_1 L7_2 L7_3 L7_4 L7_5 V7_a V7_b V7_k V7_v V7_p V7_q V7_dx BL7 HW7
      have k8_0 := L8_0.out.cell
      have l8_0 := L8_0.out.lt
      have k8_1 := L8_1.out.cell
      have l8_1 := L8_1.out.lt
      have k8_2 := L8_2.out.cell
      have l8_2 := L8_2.out.lt
      have k8_3 := L8_3.out.cell
      have l8_3 := L8_3.out.lt
      have k8_4 := L8_4.out.cell
      have l8_4 := L8_4.out.lt
      have k8_5 := L8_5.out.cell
      have l8_5 := L8_5.out.lt
      go_wp2_with fail
      refine (Gv.out _ _ (V8_v.out.keep (by exact Below.new _ _))).mono ?_
      rintro e w9 ⟨v9, rfl, hr, hb⟩
      obtain ⟨qa9, qc9, qm9, qn9, rfl, -⟩ := hr.inv
      have N9 := Lib.hid (hr.any)
      clear hr
      have HD9 := Lib.hid (show Below w8.heap.size w8 w9 from Below.next (Below.new _ _) hb)
      have L9_0 := Lib.hid (L8_0.out.keep HD9.out)
      have L9_1 := Lib.hid (L8_1.out.keep HD9.out)
      have L9_2 := Lib.hid (L8_2.out.keep HD9.out)
      have L9_3 := Lib.hid (L8_3.out.keep HD9.out)
      have L9_4 := Lib.hid (L8_4.out.keep HD9.out)
      have L9_5 := Lib.hid (L8_5.out.keep HD9.out)
      have L9_6 := Lib.hid ((Blk.new w8 25 #[.int .i64 ta.kind, .bool ta.bool, .int .i64 ta.int, .string ta.str, .slice qa8 ta.list.length qc8, .slice qm8 ta.map.length qn8]).keep hb)
      have V9_a := Lib.hid (V8_a.out.keep HD9.out)
      have V9_b := Lib.hid (V8_b.out.keep HD9.out)
      have V9_k := Lib.hid (V8_k.out.keep HD9.out)
      have V9_v := Lib.hid (V8_v.out.keep HD9.out)
      have V9_p := Lib.hid (V8_p.out.keep HD9.out)
      have V9_q := Lib.hid (V8_q.out.keep HD9.out)
      have V9_dx := Lib.hid (V8_dx.out.keep HD9.out)
      have V9_ta := Lib.hid (N8.out.keep HD9.out)
      have B9_0 := Lib.hid (Below.next B8_0.out HD9.out)
      have HW9 := Lib.hid (Below.next HW8.out HD9.out)
      clear k8_0 l8_0 k8_1 l8_1 k8_2 l8_2 k8_3 l8_3 k8_4 l8_4 k8_5 l8_5 hb HD9 L8_0 L8_1 L8_2 L8_3 L8_4 L8_5 V8_a V8_b V8_k V8_v V8_p V8_q V8_dx N8 B8_0 HW8
      have k9_0 := L9_0.out.cell
      have l9_0 := L9_0.out.lt
      have k9_1 := L9_1.out.cell
      have l9_1 := L9_1.out.lt
      have k9_2 := L9_2.out.cell
      have l9_2 := L9_2.out.lt
      have k9_3 := L9_3.out.cell
      have l9_3 := L9_3.out.lt
      have k9_4 := L9_4.out.cell
      have l9_4 := L9_4.out.lt
      have k9_5 := L9_5.out.cell
      have l9_5 := L9_5.out.lt
      have k9_6 := L9_6.out.cell
      have l9_6 := L9_6.out.lt
      go_wp2_with fail
      refine (Gb.out _ _ (V9_b.out.keep (by exact Below.new _ _))).mono ?_
      rintro e w10 ⟨v10, rfl, hr, hb⟩
      obtain ⟨qa10, qc10, qm10, qn10, rfl, -⟩ := hr.inv
      have N10 := Lib.hid (hr.any)
      clear hr
      have HD10 := Lib.hid (show Below w9.heap.size w9 w10 from Below.next (Below.new _ _) hb)
      have L10_0 := Lib.hid (L9_0.out.keep HD10.out)
      have L10_1 := Lib.hid (L9_1.out.keep HD10.out)
      have L10_2 := Lib.hid (L9_2.out.keep HD10.out)
      have L10_3 := Lib.hid (L9_3.out.keep HD10.out)
      have L10_4 := Lib.hid (L9_4.out.keep HD10.out)
      have L10_5 := Lib.hid (L9_5.out.keep HD10.out)
      have L10_6 := Lib.hid (L9_6.out.keep HD10.out)
      have L10_7 := Lib.hid ((Blk.new w9 25 #[.int .i64 tv.kind, .bool tv.bool, .int .i64 tv.int, .string tv.str, .slice qa9 tv.list.length qc9, .slice qm9 tv.map.length qn9]).keep hb)
      have V10_a := Lib.hid (V9_a.out.keep HD10.out)
      have V10_b := Lib.hid (V9_b.out.keep HD10.out)
      have V10_k := Lib.hid (V9_k.out.keep HD10.out)
      have V10_v := Lib.hid (V9_v.out.keep HD10.out)
      have V10_p := Lib.hid (V9_p.out.keep HD10.out)
      have V10_q := Lib.hid (V9_q.out.keep HD10.out)
      have V10_dx := Lib.hid (V9_dx.out.keep HD10.out)
      have V10_ta := Lib.hid (V9_ta.out.keep HD10.out)
      have V10_tv := Lib.hid (N9.out.keep HD10.out)
      have B10_0 := Lib.hid (Below.next B9_0.out HD10.out)
      have HW10 := Lib.hid (Below.next HW9.out HD10.out)
      clear k9_0 l9_0 k9_1 l9_1 k9_2 l9_2 k9_3 l9_3 k9_4 l9_4 k9_5 l9_5 k9_6 l9_6 hb HD10 L9_0 L9_1 L9_2 L9_3 L9_4 L9_5 L9_6 V9_a V9_b V9_k V9_v V9_p V9_q V9_dx V9_ta N9 B9_0 HW9
      have k10_0 := L10_0.out.cell
      have l10_0 := L10_0.out.lt
      have k10_1 := L10_1.out.cell
      have l10_1 := L10_1.out.lt
      have k10_2 := L10_2.out.cell
      have l10_2 := L10_2.out.lt
      have k10_3 := L10_3.out.cell
      have l10_3 := L10_3.out.lt
      have k10_4 := L10_4.out.cell
      have l10_4 := L10_4.out.lt
      have k10_5 := L10_5.out.cell
      have l10_5 := L10_5.out.lt
      have k10_6 := L10_6.out.cell
      have l10_6 := L10_6.out.lt
      have k10_7 := L10_7.out.cell
      have l10_7 := L10_7.out.lt
      cases bb
      · obtain ⟨rfl, e1⟩ := HF1.out rfl
        have g1 : (ba != ba) = false := by simp
        have CS1 := Lib.hid (fun w2 v2 v3 h h2 => rsame_true e1 w2 (fun _ => True) (fun _ => True) v2 v3 h h2)
        clear e1
        go_wp2_with fail
        refine (CS1.out _ _ _ (V10_ta.out.keep (by exact Below.new _ _)) (V10_tv.out.keep (by exact Below.new _ _))).mono ?_
        rintro e w11 ⟨rfl, hb⟩
        have HD11 := Lib.hid (show Below w10.heap.size w10 w11 from Below.next (Below.new _ _) hb)
        have L11_0 := Lib.hid (L10_0.out.keep HD11.out)
        have L11_1 := Lib.hid (L10_1.out.keep HD11.out)
        have L11_2 := Lib.hid (L10_2.out.keep HD11.out)
        have L11_3 := Lib.hid (L10_3.out.keep HD11.out)
        have L11_4 := Lib.hid (L10_4.out.keep HD11.out)
        have L11_5 := Lib.hid (L10_5.out.keep HD11.out)
        have L11_6 := Lib.hid (L10_6.out.keep HD11.out)
        have L11_7 := Lib.hid (L10_7.out.keep HD11.out)
        have L11_8 := Lib.hid ((Blk.new w10 25 #[.int .i64 tb.kind, .bool tb.bool, .int .i64 tb.int, .string tb.str, .slice qa10 tb.list.length qc10, .slice qm10 tb.map.length qn10]).keep hb)
        have V11_a := Lib.hid (V10_a.out.keep HD11.out)
        have V11_b := Lib.hid (V10_b.out.keep HD11.out)
        have V11_k := Lib.hid (V10_k.out.keep HD11.out)
        have V11_v := Lib.hid (V10_v.out.keep HD11.out)
        have V11_p := Lib.hid (V10_p.out.keep HD11.out)
        have V11_q := Lib.hid (V10_q.out.keep HD11.out)
        have V11_dx := Lib.hid (V10_dx.out.keep HD11.out)
        have V11_ta := Lib.hid (V10_ta.out.keep HD11.out)
        have V11_tv := Lib.hid (V10_tv.out.keep HD11.out)
        have V11_tb := Lib.hid (N10.out.keep HD11.out)
        have B11_0 := Lib.hid (Below.next B10_0.out HD11.out)
        have HW11 := Lib.hid (Below.next HW10.out HD11.out)
        clear k10_0 l10_0 k10_1 l10_1 k10_2 l10_2 k10_3 l10_3 k10_4 l10_4 k10_5 l10_5 k10_6 l10_6 k10_7 l10_7 hb HD11 L10_0 L10_1 L10_2 L10_3 L10_4 L10_5 L10_6 L10_7 V10_a V10_b V10_k V10_v V10_p V10_q V10_dx V10_ta V10_tv N10 B10_0 HW10
        have k11_0 := L11_0.out.cell
        have l11_0 := L11_0.out.lt
        have k11_1 := L11_1.out.cell
        have l11_1 := L11_1.out.lt
        have k11_2 := L11_2.out.cell
        have l11_2 := L11_2.out.lt
        have k11_3 := L11_3.out.cell
        have l11_3 := L11_3.out.lt
        have k11_4 := L11_4.out.cell
        have l11_4 := L11_4.out.lt
        have k11_5 := L11_5.out.cell
        have l11_5 := L11_5.out.lt
        have k11_6 := L11_6.out.cell
        have l11_6 := L11_6.out.lt
        have k11_7 := L11_7.out.cell
        have l11_7 := L11_7.out.lt
        have k11_8 := L11_8.out.cell
        have l11_8 := L11_8.out.lt
        go_wp2_with fail
        refine (Gp.out _ _ (V11_p.out)).mono ?_
        rintro e w12 ⟨v12, rfl, hr, hb⟩
        obtain ⟨qa12, qc12, qm12, qn12, rfl, -⟩ := hr.inv
        have N12 := Lib.hid (hr.any)
        clear hr
        have HD12 := Lib.hid (show Below w11.heap.size w11 w12 from hb)
        have L12_0 := Lib.hid (L11_0.out.keep HD12.out)
        have L12_1 := Lib.hid (L11_1.out.keep HD12.out)
        have L12_2 := Lib.hid (L11_2.out.keep HD12.out)
        have L12_3 := Lib.hid (L11_3.out.keep HD12.out)
        have L12_4 := Lib.hid (L11_4.out.keep HD12.out)
        have L12_5 := Lib.hid (L11_5.out.keep HD12.out)
        have L12_6 := Lib.hid (L11_6.out.keep HD12.out)
        have L12_7 := Lib.hid (L11_7.out.keep HD12.out)
        have L12_8 := Lib.hid (L11_8.out.keep HD12.out)
        have V12_a := Lib.hid (V11_a.out.keep HD12.out)
        have V12_b := Lib.hid (V11_b.out.keep HD12.out)
        have V12_k := Lib.hid (V11_k.out.keep HD12.out)
        have V12_v := Lib.hid (V11_v.out.keep HD12.out)
        have V12_p := Lib.hid (V11_p.out.keep HD12.out)
        have V12_q := Lib.hid (V11_q.out.keep HD12.out)
        have V12_dx := Lib.hid (V11_dx.out.keep HD12.out)
        have V12_ta := Lib.hid (V11_ta.out.keep HD12.out)
        have V12_tv := Lib.hid (V11_tv.out.keep HD12.out)
        have V12_tb := Lib.hid (V11_tb.out.keep HD12.out)
        have B12_0 := Lib.hid (Below.next B11_0.out HD12.out)
        have HW12 := Lib.hid (Below.next HW11.out HD12.out)
        clear k11_0 l11_0 k11_1 l11_1 k11_2 l11_2 k11_3 l11_3 k11_4 l11_4 k11_5 l11_5 k11_6 l11_6 k11_7 l11_7 k11_8 l11_8 hb HD12 L11_0 L11_1 L11_2 L11_3 L11_4 L11_5 L11_6 L11_7 L11_8 V11_a V11_b V11_k V11_v V11_p V11_q V11_dx V11_ta V11_tv V11_tb B11_0 HW11
        have k12_0 := L12_0.out.cell
        have l12_0 := L12_0.out.lt
        have k12_1 := L12_1.out.cell
        have l12_1 := L12_1.out.lt
        have k12_2 := L12_2.out.cell
        have l12_2 := L12_2.out.lt
        have k12_3 := L12_3.out.cell
        have l12_3 := L12_3.out.lt
        have k12_4 := L12_4.out.cell
        have l12_4 := L12_4.out.lt
        have k12_5 := L12_5.out.cell
        have l12_5 := L12_5.out.lt
        have k12_6 := L12_6.out.cell
        have l12_6 := L12_6.out.lt
        have k12_7 := L12_7.out.cell
        have l12_7 := L12_7.out.lt
        have k12_8 := L12_8.out.cell
        have l12_8 := L12_8.out.lt
        go_wp2_with fail
        refine (Gq.out _ _ (V12_q.out.keep (by exact Below.new _ _))).mono ?_
        rintro e w13 ⟨v13, rfl, hr, hb⟩
        obtain ⟨qa13, qc13, qm13, qn13, rfl, -⟩ := hr.inv
        have N13 := Lib.hid (hr.any)
        clear hr
        have HD13 := Lib.hid (show Below w12.heap.size w12 w13 from Below.next (Below.new _ _) hb)
        have L13_0 := Lib.hid (L12_0.out.keep HD13.out)
        have L13_1 := Lib.hid (L12_1.out.keep HD13.out)
        have L13_2 := Lib.hid (L12_2.out.keep HD13.out)
        have L13_3 := Lib.hid (L12_3.out.keep HD13.out)
        have L13_4 := Lib.hid (L12_4.out.keep HD13.out)
        have L13_5 := Lib.hid (L12_5.out.keep HD13.out)
        have L13_6 := Lib.hid (L12_6.out.keep HD13.out)
        have L13_7 := Lib.hid (L12_7.out.keep HD13.out)
        have L13_8 := Lib.hid (L12_8.out.keep HD13.out)
        have L13_9 := Lib.hid ((Blk.new w12 25 #[.int .i64 tp.kind, .bool tp.bool, .int .i64 tp.int, .string tp.str, .slice qa12 tp.list.length qc12, .slice qm12 tp.map.length qn12]).keep hb)
        have V13_a := Lib.hid (V12_a.out.keep HD13.out)
        have V13_b := Lib.hid (V12_b.out.keep HD13.out)
        have V13_k := Lib.hid (V12_k.out.keep HD13.out)
        have V13_v := Lib.hid (V12_v.out.keep HD13.out)
        have V13_p := Lib.hid (V12_p.out.keep HD13.out)
        have V13_q := Lib.hid (V12_q.out.keep HD13.out)
        have V13_dx := Lib.hid (V12_dx.out.keep HD13.out)
        have V13_ta := Lib.hid (V12_ta.out.keep HD13.out)
        have V13_tv := Lib.hid (V12_tv.out.keep HD13.out)
        have V13_tb := Lib.hid (V12_tb.out.keep HD13.out)
        have V13_tp := Lib.hid (N12.out.keep HD13.out)
        have B13_0 := Lib.hid (Below.next B12_0.out HD13.out)
        have HW13 := Lib.hid (Below.next HW12.out HD13.out)
        clear k12_0 l12_0 k12_1 l12_1 k12_2 l12_2 k12_3 l12_3 k12_4 l12_4 k12_5 l12_5 k12_6 l12_6 k12_7 l12_7 k12_8 l12_8 hb HD13 L12_0 L12_1 L12_2 L12_3 L12_4 L12_5 L12_6 L12_7 L12_8 V12_a V12_b V12_k V12_v V12_p V12_q V12_dx V12_ta V12_tv V12_tb N12 B12_0 HW12
        have k13_0 := L13_0.out.cell
        have l13_0 := L13_0.out.lt
        have k13_1 := L13_1.out.cell
        have l13_1 := L13_1.out.lt
        have k13_2 := L13_2.out.cell
        have l13_2 := L13_2.out.lt
        have k13_3 := L13_3.out.cell
        have l13_3 := L13_3.out.lt
        have k13_4 := L13_4.out.cell
        have l13_4 := L13_4.out.lt
        have k13_5 := L13_5.out.cell
        have l13_5 := L13_5.out.lt
        have k13_6 := L13_6.out.cell
        have l13_6 := L13_6.out.lt
        have k13_7 := L13_7.out.cell
        have l13_7 := L13_7.out.lt
        have k13_8 := L13_8.out.cell
        have l13_8 := L13_8.out.lt
        have k13_9 := L13_9.out.cell
        have l13_9 := L13_9.out.lt
        go_wp2_with fail
        refine (Gdx.out _ _ (V13_dx.out.keep (by exact Below.new _ _))).mono ?_
        rintro e w14 ⟨v14, rfl, hr, hb⟩
        obtain ⟨qa14, qc14, qm14, qn14, rfl, -⟩ := hr.inv
        have N14 := Lib.hid (hr.any)
        clear hr
        have HD14 := Lib.hid (show Below w13.heap.size w13 w14 from Below.next (Below.new _ _) hb)
        have L14_0 := Lib.hid (L13_0.out.keep HD14.out)
        have L14_1 := Lib.hid (L13_1.out.keep HD14.out)
        have L14_2 := Lib.hid (L13_2.out.keep HD14.out)
        have L14_3 := Lib.hid (L13_3.out.keep HD14.out)
        have L14_4 := Lib.hid (L13_4.out.keep HD14.out)
        have L14_5 := Lib.hid (L13_5.out.keep HD14.out)
        have L14_6 := Lib.hid (L13_6.out.keep HD14.out)
        have L14_7 := Lib.hid (L13_7.out.keep HD14.out)
        have L14_8 := Lib.hid (L13_8.out.keep HD14.out)
        have L14_9 := Lib.hid (L13_9.out.keep HD14.out)
        have L14_10 := Lib.hid ((Blk.new w13 25 #[.int .i64 tq.kind, .bool tq.bool, .int .i64 tq.int, .string tq.str, .slice qa13 tq.list.length qc13, .slice qm13 tq.map.length qn13]).keep hb)
        have V14_a := Lib.hid (V13_a.out.keep HD14.out)
        have V14_b := Lib.hid (V13_b.out.keep HD14.out)
        have V14_k := Lib.hid (V13_k.out.keep HD14.out)
        have V14_v := Lib.hid (V13_v.out.keep HD14.out)
        have V14_p := Lib.hid (V13_p.out.keep HD14.out)
        have V14_q := Lib.hid (V13_q.out.keep HD14.out)
        have V14_dx := Lib.hid (V13_dx.out.keep HD14.out)
        have V14_ta := Lib.hid (V13_ta.out.keep HD14.out)
        have V14_tv := Lib.hid (V13_tv.out.keep HD14.out)
        have V14_tb := Lib.hid (V13_tb.out.keep HD14.out)
        have V14_tp := Lib.hid (V13_tp.out.keep HD14.out)
        have V14_tq := Lib.hid (N13.out.keep HD14.out)
        have B14_0 := Lib.hid (Below.next B13_0.out HD14.out)
        have HW14 := Lib.hid (Below.next HW13.out HD14.out)
        clear k13_0 l13_0 k13_1 l13_1 k13_2 l13_2 k13_3 l13_3 k13_4 l13_4 k13_5 l13_5 k13_6 l13_6 k13_7 l13_7 k13_8 l13_8 k13_9 l13_9 hb HD14 L13_0 L13_1 L13_2 L13_3 L13_4 L13_5 L13_6 L13_7 L13_8 L13_9 V13_a V13_b V13_k V13_v V13_p V13_q V13_dx V13_ta V13_tv V13_tb V13_tp N13 B13_0 HW13
        have k14_0 := L14_0.out.cell
        have l14_0 := L14_0.out.lt
        have k14_1 := L14_1.out.cell
        have l14_1 := L14_1.out.lt
        have k14_2 := L14_2.out.cell
        have l14_2 := L14_2.out.lt
        have k14_3 := L14_3.out.cell
        have l14_3 := L14_3.out.lt
        have k14_4 := L14_4.out.cell
        have l14_4 := L14_4.out.lt
        have k14_5 := L14_5.out.cell
        have l14_5 := L14_5.out.lt
        have k14_6 := L14_6.out.cell
        have l14_6 := L14_6.out.lt
        have k14_7 := L14_7.out.cell
        have l14_7 := L14_7.out.lt
        have k14_8 := L14_8.out.cell
        have l14_8 := L14_8.out.lt
        have k14_9 := L14_9.out.cell
        have l14_9 := L14_9.out.lt
        have k14_10 := L14_10.out.cell
        have l14_10 := L14_10.out.lt
        rcases HF2.out with ⟨rfl, e1, rfl⟩ | ⟨rfl, e1, rfl⟩ | ⟨e1, rfl⟩
        · have g2 : (bp == bp) = true := by simp
          have CS2 := Lib.hid (fun w2 v2 v3 h h2 => rsame_true e1 w2 (fun _ => True) (fun _ => True) v2 v3 h h2)
          clear e1 HF2
          go_wp2_with fail
          refine (CS2.out _ _ _ (V14_tp.out.keep (by exact Below.new _ _)) (V14_tq.out.keep (by exact Below.new _ _))).mono ?_
          rintro e w15 ⟨rfl, hb⟩
          have HD15 := Lib.hid (show Below w14.heap.size w14 w15 from Below.next (Below.new _ _) hb)
          have L15_0 := Lib.hid (L14_0.out.keep HD15.out)
          have L15_1 := Lib.hid (L14_1.out.keep HD15.out)
          have L15_2 := Lib.hid (L14_2.out.keep HD15.out)
          have L15_3 := Lib.hid (L14_3.out.keep HD15.out)
          have L15_4 := Lib.hid (L14_4.out.keep HD15.out)
          have L15_5 := Lib.hid (L14_5.out.keep HD15.out)
          have L15_6 := Lib.hid (L14_6.out.keep HD15.out)
          have L15_7 := Lib.hid (L14_7.out.keep HD15.out)
          have L15_8 := Lib.hid (L14_8.out.keep HD15.out)
          have L15_9 := Lib.hid (L14_9.out.keep HD15.out)
          have L15_10 := Lib.hid (L14_10.out.keep HD15.out)
          have L15_11 := Lib.hid ((Blk.new w14 25 #[.int .i64 tdx.kind, .bool tdx.bool, .int .i64 tdx.int, .string tdx.str, .slice qa14 tdx.list.length qc14, .slice qm14 tdx.map.length qn14]).keep hb)
          have V15_a := Lib.hid (V14_a.out.keep HD15.out)
          have V15_b := Lib.hid (V14_b.out.keep HD15.out)
          have V15_k := Lib.hid (V14_k.out.keep HD15.out)
          have V15_v := Lib.hid (V14_v.out.keep HD15.out)
          have V15_p := Lib.hid (V14_p.out.keep HD15.out)
          have V15_q := Lib.hid (V14_q.out.keep HD15.out)
          have V15_dx := Lib.hid (V14_dx.out.keep HD15.out)
          have V15_ta := Lib.hid (V14_ta.out.keep HD15.out)
          have V15_tv := Lib.hid (V14_tv.out.keep HD15.out)
          have V15_tb := Lib.hid (V14_tb.out.keep HD15.out)
          have V15_tp := Lib.hid (V14_tp.out.keep HD15.out)
          have V15_tq := Lib.hid (V14_tq.out.keep HD15.out)
          have V15_tdx := Lib.hid (N14.out.keep HD15.out)
          have B15_0 := Lib.hid (Below.next B14_0.out HD15.out)
          have HW15 := Lib.hid (Below.next HW14.out HD15.out)
          clear k14_0 l14_0 k14_1 l14_1 k14_2 l14_2 k14_3 l14_3 k14_4 l14_4 k14_5 l14_5 k14_6 l14_6 k14_7 l14_7 k14_8 l14_8 k14_9 l14_9 k14_10 l14_10 hb HD15 L14_0 L14_1 L14_2 L14_3 L14_4 L14_5 L14_6 L14_7 L14_8 L14_9 L14_10 V14_a V14_b V14_k V14_v V14_p V14_q V14_dx V14_ta V14_tv V14_tb V14_tp V14_tq N14 B14_0 HW14
          have k15_0 := L15_0.out.cell
          have l15_0 := L15_0.out.lt
          have k15_1 := L15_1.out.cell
          have l15_1 := L15_1.out.lt
          have k15_2 := L15_2.out.cell
          have l15_2 := L15_2.out.lt
          have k15_3 := L15_3.out.cell
          have l15_3 := L15_3.out.lt
          have k15_4 := L15_4.out.cell
          have l15_4 := L15_4.out.lt
          have k15_5 := L15_5.out.cell
          have l15_5 := L15_5.out.lt
          have k15_6 := L15_6.out.cell
          have l15_6 := L15_6.out.lt
          have k15_7 := L15_7.out.cell
          have l15_7 := L15_7.out.lt
          have k15_8 := L15_8.out.cell
          have l15_8 := L15_8.out.lt
          have k15_9 := L15_9.out.cell
          have l15_9 := L15_9.out.lt
          have k15_10 := L15_10.out.cell
          have l15_10 := L15_10.out.lt
          have k15_11 := L15_11.out.cell
          have l15_11 := L15_11.out.lt
          go_wp2_with fail
          go_roundw
          case rel => exact ⟨j + 1, by omega, by go_num, B15_0.out⟩
          case measure => simp [intOf]; omega
        · have g2 : (bp == bp) = true := by simp
          have CS2 := Lib.hid (fun w2 v2 v3 h h2 => rsame_false e1 w2 (fun _ => True) (fun _ => True) v2 v3 h h2)
          clear e1 HF2
          go_wp2_with fail
          refine (CS2.out _ _ _ (V14_tp.out.keep (by exact Below.new _ _)) (V14_tq.out.keep (by exact Below.new _ _))).mono ?_
          rintro e w15 ⟨rfl, hb⟩
          have HD15 := Lib.hid (show Below w14.heap.size w14 w15 from Below.next (Below.new _ _) hb)
          have L15_0 := Lib.hid (L14_0.out.keep HD15.out)
          have L15_1 := Lib.hid (L14_1.out.keep HD15.out)
          have L15_2 := Lib.hid (L14_2.out.keep HD15.out)
          have L15_3 := Lib.hid (L14_3.out.keep HD15.out)
          have L15_4 := Lib.hid (L14_4.out.keep HD15.out)
          have L15_5 := Lib.hid (L14_5.out.keep HD15.out)
          have L15_6 := Lib.hid (L14_6.out.keep HD15.out)
          have L15_7 := Lib.hid (L14_7.out.keep HD15.out)
          have L15_8 := Lib.hid (L14_8.out.keep HD15.out)
          have L15_9 := Lib.hid (L14_9.out.keep HD15.out)
          have L15_10 := Lib.hid (L14_10.out.keep HD15.out)
          have L15_11 := Lib.hid ((Blk.new w14 25 #[.int .i64 tdx.kind, .bool tdx.bool, .int .i64 tdx.int, .string tdx.str, .slice qa14 tdx.list.length qc14, .slice qm14 tdx.map.length qn14]).keep hb)
          have V15_a := Lib.hid (V14_a.out.keep HD15.out)
          have V15_b := Lib.hid (V14_b.out.keep HD15.out)
          have V15_k := Lib.hid (V14_k.out.keep HD15.out)
          have V15_v := Lib.hid (V14_v.out.keep HD15.out)
          have V15_p := Lib.hid (V14_p.out.keep HD15.out)
          have V15_q := Lib.hid (V14_q.out.keep HD15.out)
          have V15_dx := Lib.hid (V14_dx.out.keep HD15.out)
          have V15_ta := Lib.hid (V14_ta.out.keep HD15.out)
          have V15_tv := Lib.hid (V14_tv.out.keep HD15.out)
          have V15_tb := Lib.hid (V14_tb.out.keep HD15.out)
          have V15_tp := Lib.hid (V14_tp.out.keep HD15.out)
          have V15_tq := Lib.hid (V14_tq.out.keep HD15.out)
          have V15_tdx := Lib.hid (N14.out.keep HD15.out)
          have B15_0 := Lib.hid (Below.next B14_0.out HD15.out)
          have HW15 := Lib.hid (Below.next HW14.out HD15.out)
          clear k14_0 l14_0 k14_1 l14_1 k14_2 l14_2 k14_3 l14_3 k14_4 l14_4 k14_5 l14_5 k14_6 l14_6 k14_7 l14_7 k14_8 l14_8 k14_9 l14_9 k14_10 l14_10 hb HD15 L14_0 L14_1 L14_2 L14_3 L14_4 L14_5 L14_6 L14_7 L14_8 L14_9 L14_10 V14_a V14_b V14_k V14_v V14_p V14_q V14_dx V14_ta V14_tv V14_tb V14_tp V14_tq N14 B14_0 HW14
          have k15_0 := L15_0.out.cell
          have l15_0 := L15_0.out.lt
          have k15_1 := L15_1.out.cell
          have l15_1 := L15_1.out.lt
          have k15_2 := L15_2.out.cell
          have l15_2 := L15_2.out.lt
          have k15_3 := L15_3.out.cell
          have l15_3 := L15_3.out.lt
          have k15_4 := L15_4.out.cell
          have l15_4 := L15_4.out.lt
          have k15_5 := L15_5.out.cell
          have l15_5 := L15_5.out.lt
          have k15_6 := L15_6.out.cell
          have l15_6 := L15_6.out.lt
          have k15_7 := L15_7.out.cell
          have l15_7 := L15_7.out.lt
          have k15_8 := L15_8.out.cell
          have l15_8 := L15_8.out.lt
          have k15_9 := L15_9.out.cell
          have l15_9 := L15_9.out.lt
          have k15_10 := L15_10.out.cell
          have l15_10 := L15_10.out.lt
          have k15_11 := L15_11.out.cell
          have l15_11 := L15_11.out.lt
          go_wp2_with fail
          go_roundw
          case rel => exact ⟨j + 1, by omega, by go_num, B15_0.out⟩
          case measure => simp [intOf]; omega
        · have g2 : (bp == bq) = false := beq_eq_false_iff_ne.2 e1
          clear e1 HF2
          go_wp2_with fail
          go_roundw
          case rel => exact ⟨j + 1, by omega, by go_num, Below.next B14_0.out (Below.new _ _)⟩
          case measure => simp [intOf]; omega
      · go_wp2_with fail
        refine (Gp.out _ _ (V10_p.out.keep (by exact Below.new _ _))).mono ?_
        rintro e w11 ⟨v11, rfl, hr, hb⟩
        obtain ⟨qa11, qc11, qm11, qn11, rfl, -⟩ := hr.inv
        have N11 := Lib.hid (hr.any)
        clear hr
        have HD11 := Lib.hid (show Below w10.heap.size w10 w11 from Below.next (Below.new _ _) hb)
        have L11_0 := Lib.hid (L10_0.out.keep HD11.out)
        have L11_1 := Lib.hid (L10_1.out.keep HD11.out)
        have L11_2 := Lib.hid (L10_2.out.keep HD11.out)
        have L11_3 := Lib.hid (L10_3.out.keep HD11.out)
        have L11_4 := Lib.hid (L10_4.out.keep HD11.out)
        have L11_5 := Lib.hid (L10_5.out.keep HD11.out)
        have L11_6 := Lib.hid (L10_6.out.keep HD11.out)
        have L11_7 := Lib.hid (L10_7.out.keep HD11.out)
        have L11_8 := Lib.hid ((Blk.new w10 25 #[.int .i64 tb.kind, .bool tb.bool, .int .i64 tb.int, .string tb.str, .slice qa10 tb.list.length qc10, .slice qm10 tb.map.length qn10]).keep hb)
        have V11_a := Lib.hid (V10_a.out.keep HD11.out)
        have V11_b := Lib.hid (V10_b.out.keep HD11.out)
        have V11_k := Lib.hid (V10_k.out.keep HD11.out)
        have V11_v := Lib.hid (V10_v.out.keep HD11.out)
        have V11_p := Lib.hid (V10_p.out.keep HD11.out)
        have V11_q := Lib.hid (V10_q.out.keep HD11.out)
        have V11_dx := Lib.hid (V10_dx.out.keep HD11.out)
        have V11_ta := Lib.hid (V10_ta.out.keep HD11.out)
        have V11_tv := Lib.hid (V10_tv.out.keep HD11.out)
        have V11_tb := Lib.hid (N10.out.keep HD11.out)
        have B11_0 := Lib.hid (Below.next B10_0.out HD11.out)
        have HW11 := Lib.hid (Below.next HW10.out HD11.out)
        clear k10_0 l10_0 k10_1 l10_1 k10_2 l10_2 k10_3 l10_3 k10_4 l10_4 k10_5 l10_5 k10_6 l10_6 k10_7 l10_7 hb HD11 L10_0 L10_1 L10_2 L10_3 L10_4 L10_5 L10_6 L10_7 V10_a V10_b V10_k V10_v V10_p V10_q V10_dx V10_ta V10_tv N10 B10_0 HW10
        have k11_0 := L11_0.out.cell
        have l11_0 := L11_0.out.lt
        have k11_1 := L11_1.out.cell
        have l11_1 := L11_1.out.lt
        have k11_2 := L11_2.out.cell
        have l11_2 := L11_2.out.lt
        have k11_3 := L11_3.out.cell
        have l11_3 := L11_3.out.lt
        have k11_4 := L11_4.out.cell
        have l11_4 := L11_4.out.lt
        have k11_5 := L11_5.out.cell
        have l11_5 := L11_5.out.lt
        have k11_6 := L11_6.out.cell
        have l11_6 := L11_6.out.lt
        have k11_7 := L11_7.out.cell
        have l11_7 := L11_7.out.lt
        have k11_8 := L11_8.out.cell
        have l11_8 := L11_8.out.lt
        go_wp2_with fail
        refine (Gq.out _ _ (V11_q.out.keep (by exact Below.new _ _))).mono ?_
        rintro e w12 ⟨v12, rfl, hr, hb⟩
        obtain ⟨qa12, qc12, qm12, qn12, rfl, -⟩ := hr.inv
        have N12 := Lib.hid (hr.any)
        clear hr
        have HD12 := Lib.hid (show Below w11.heap.size w11 w12 from Below.next (Below.new _ _) hb)
        have L12_0 := Lib.hid (L11_0.out.keep HD12.out)
        have L12_1 := Lib.hid (L11_1.out.keep HD12.out)
        have L12_2 := Lib.hid (L11_2.out.keep HD12.out)
        have L12_3 := Lib.hid (L11_3.out.keep HD12.out)
        have L12_4 := Lib.hid (L11_4.out.keep HD12.out)
        have L12_5 := Lib.hid (L11_5.out.keep HD12.out)
        have L12_6 := Lib.hid (L11_6.out.keep HD12.out)
        have L12_7 := Lib.hid (L11_7.out.keep HD12.out)
        have L12_8 := Lib.hid (L11_8.out.keep HD12.out)
        have L12_9 := Lib.hid ((Blk.new w11 25 #[.int .i64 tp.kind, .bool tp.bool, .int .i64 tp.int, .string tp.str, .slice qa11 tp.list.length qc11, .slice qm11 tp.map.length qn11]).keep hb)
        have V12_a := Lib.hid (V11_a.out.keep HD12.out)
        have V12_b := Lib.hid (V11_b.out.keep HD12.out)
        have V12_k := Lib.hid (V11_k.out.keep HD12.out)
        have V12_v := Lib.hid (V11_v.out.keep HD12.out)
        have V12_p := Lib.hid (V11_p.out.keep HD12.out)
        have V12_q := Lib.hid (V11_q.out.keep HD12.out)
        have V12_dx := Lib.hid (V11_dx.out.keep HD12.out)
        have V12_ta := Lib.hid (V11_ta.out.keep HD12.out)
        have V12_tv := Lib.hid (V11_tv.out.keep HD12.out)
        have V12_tb := Lib.hid (V11_tb.out.keep HD12.out)
        have V12_tp := Lib.hid (N11.out.keep HD12.out)
        have B12_0 := Lib.hid (Below.next B11_0.out HD12.out)
        have HW12 := Lib.hid (Below.next HW11.out HD12.out)
        clear k11_0 l11_0 k11_1 l11_1 k11_2 l11_2 k11_3 l11_3 k11_4 l11_4 k11_5 l11_5 k11_6 l11_6 k11_7 l11_7 k11_8 l11_8 hb HD12 L11_0 L11_1 L11_2 L11_3 L11_4 L11_5 L11_6 L11_7 L11_8 V11_a V11_b V11_k V11_v V11_p V11_q V11_dx V11_ta V11_tv V11_tb N11 B11_0 HW11
        have k12_0 := L12_0.out.cell
        have l12_0 := L12_0.out.lt
        have k12_1 := L12_1.out.cell
        have l12_1 := L12_1.out.lt
        have k12_2 := L12_2.out.cell
        have l12_2 := L12_2.out.lt
        have k12_3 := L12_3.out.cell
        have l12_3 := L12_3.out.lt
        have k12_4 := L12_4.out.cell
        have l12_4 := L12_4.out.lt
        have k12_5 := L12_5.out.cell
        have l12_5 := L12_5.out.lt
        have k12_6 := L12_6.out.cell
        have l12_6 := L12_6.out.lt
        have k12_7 := L12_7.out.cell
        have l12_7 := L12_7.out.lt
        have k12_8 := L12_8.out.cell
        have l12_8 := L12_8.out.lt
        have k12_9 := L12_9.out.cell
        have l12_9 := L12_9.out.lt
        go_wp2_with fail
        refine (Gdx.out _ _ (V12_dx.out.keep (by exact Below.new _ _))).mono ?_
        rintro e w13 ⟨v13, rfl, hr, hb⟩
        obtain ⟨qa13, qc13, qm13, qn13, rfl, -⟩ := hr.inv
        have N13 := Lib.hid (hr.any)
        clear hr
        have HD13 := Lib.hid (show Below w12.heap.size w12 w13 from Below.next (Below.new _ _) hb)
        have L13_0 := Lib.hid (L12_0.out.keep HD13.out)
        have L13_1 := Lib.hid (L12_1.out.keep HD13.out)
        have L13_2 := Lib.hid (L12_2.out.keep HD13.out)
        have L13_3 := Lib.hid (L12_3.out.keep HD13.out)
        have L13_4 := Lib.hid (L12_4.out.keep HD13.out)
        have L13_5 := Lib.hid (L12_5.out.keep HD13.out)
        have L13_6 := Lib.hid (L12_6.out.keep HD13.out)
        have L13_7 := Lib.hid (L12_7.out.keep HD13.out)
        have L13_8 := Lib.hid (L12_8.out.keep HD13.out)
        have L13_9 := Lib.hid (L12_9.out.keep HD13.out)
        have L13_10 := Lib.hid ((Blk.new w12 25 #[.int .i64 tq.kind, .bool tq.bool, .int .i64 tq.int, .string tq.str, .slice qa12 tq.list.length qc12, .slice qm12 tq.map.length qn12]).keep hb)
        have V13_a := Lib.hid (V12_a.out.keep HD13.out)
        have V13_b := Lib.hid (V12_b.out.keep HD13.out)
        have V13_k := Lib.hid (V12_k.out.keep HD13.out)
        have V13_v := Lib.hid (V12_v.out.keep HD13.out)
        have V13_p := Lib.hid (V12_p.out.keep HD13.out)
        have V13_q := Lib.hid (V12_q.out.keep HD13.out)
        have V13_dx := Lib.hid (V12_dx.out.keep HD13.out)
        have V13_ta := Lib.hid (V12_ta.out.keep HD13.out)
        have V13_tv := Lib.hid (V12_tv.out.keep HD13.out)
        have V13_tb := Lib.hid (V12_tb.out.keep HD13.out)
        have V13_tp := Lib.hid (V12_tp.out.keep HD13.out)
        have V13_tq := Lib.hid (N12.out.keep HD13.out)
        have B13_0 := Lib.hid (Below.next B12_0.out HD13.out)
        have HW13 := Lib.hid (Below.next HW12.out HD13.out)
        clear k12_0 l12_0 k12_1 l12_1 k12_2 l12_2 k12_3 l12_3 k12_4 l12_4 k12_5 l12_5 k12_6 l12_6 k12_7 l12_7 k12_8 l12_8 k12_9 l12_9 hb HD13 L12_0 L12_1 L12_2 L12_3 L12_4 L12_5 L12_6 L12_7 L12_8 L12_9 V12_a V12_b V12_k V12_v V12_p V12_q V12_dx V12_ta V12_tv V12_tb V12_tp N12 B12_0 HW12
        have k13_0 := L13_0.out.cell
        have l13_0 := L13_0.out.lt
        have k13_1 := L13_1.out.cell
        have l13_1 := L13_1.out.lt
        have k13_2 := L13_2.out.cell
        have l13_2 := L13_2.out.lt
        have k13_3 := L13_3.out.cell
        have l13_3 := L13_3.out.lt
        have k13_4 := L13_4.out.cell
        have l13_4 := L13_4.out.lt
        have k13_5 := L13_5.out.cell
        have l13_5 := L13_5.out.lt
        have k13_6 := L13_6.out.cell
        have l13_6 := L13_6.out.lt
        have k13_7 := L13_7.out.cell
        have l13_7 := L13_7.out.lt
        have k13_8 := L13_8.out.cell
        have l13_8 := L13_8.out.lt
        have k13_9 := L13_9.out.cell
        have l13_9 := L13_9.out.lt
        have k13_10 := L13_10.out.cell
        have l13_10 := L13_10.out.lt
        rcases HF2.out with ⟨rfl, e1, rfl⟩ | ⟨rfl, e1, rfl⟩ | ⟨e1, rfl⟩
        · have g2 : (bp == bp) = true := by simp
          have CS2 := Lib.hid (fun w2 v2 v3 h h2 => rsame_true e1 w2 (fun _ => True) (fun _ => True) v2 v3 h h2)
          clear e1 HF2
          go_wp2_with fail
          refine (CS2.out _ _ _ (V13_tp.out.keep (by exact Below.new _ _)) (V13_tq.out.keep (by exact Below.new _ _))).mono ?_
          rintro e w14 ⟨rfl, hb⟩
          have HD14 := Lib.hid (show Below w13.heap.size w13 w14 from Below.next (Below.new _ _) hb)
          have L14_0 := Lib.hid (L13_0.out.keep HD14.out)
          have L14_1 := Lib.hid (L13_1.out.keep HD14.out)
          have L14_2 := Lib.hid (L13_2.out.keep HD14.out)
          have L14_3 := Lib.hid (L13_3.out.keep HD14.out)
          have L14_4 := Lib.hid (L13_4.out.keep HD14.out)
          have L14_5 := Lib.hid (L13_5.out.keep HD14.out)
          have L14_6 := Lib.hid (L13_6.out.keep HD14.out)
          have L14_7 := Lib.hid (L13_7.out.keep HD14.out)
          have L14_8 := Lib.hid (L13_8.out.keep HD14.out)
          have L14_9 := Lib.hid (L13_9.out.keep HD14.out)
          have L14_10 := Lib.hid (L13_10.out.keep HD14.out)
          have L14_11 := Lib.hid ((Blk.new w13 25 #[.int .i64 tdx.kind, .bool tdx.bool, .int .i64 tdx.int, .string tdx.str, .slice qa13 tdx.list.length qc13, .slice qm13 tdx.map.length qn13]).keep hb)
          have V14_a := Lib.hid (V13_a.out.keep HD14.out)
          have V14_b := Lib.hid (V13_b.out.keep HD14.out)
          have V14_k := Lib.hid (V13_k.out.keep HD14.out)
          have V14_v := Lib.hid (V13_v.out.keep HD14.out)
          have V14_p := Lib.hid (V13_p.out.keep HD14.out)
          have V14_q := Lib.hid (V13_q.out.keep HD14.out)
          have V14_dx := Lib.hid (V13_dx.out.keep HD14.out)
          have V14_ta := Lib.hid (V13_ta.out.keep HD14.out)
          have V14_tv := Lib.hid (V13_tv.out.keep HD14.out)
          have V14_tb := Lib.hid (V13_tb.out.keep HD14.out)
          have V14_tp := Lib.hid (V13_tp.out.keep HD14.out)
          have V14_tq := Lib.hid (V13_tq.out.keep HD14.out)
          have V14_tdx := Lib.hid (N13.out.keep HD14.out)
          have B14_0 := Lib.hid (Below.next B13_0.out HD14.out)
          have HW14 := Lib.hid (Below.next HW13.out HD14.out)
          clear k13_0 l13_0 k13_1 l13_1 k13_2 l13_2 k13_3 l13_3 k13_4 l13_4 k13_5 l13_5 k13_6 l13_6 k13_7 l13_7 k13_8 l13_8 k13_9 l13_9 k13_10 l13_10 hb HD14 L13_0 L13_1 L13_2 L13_3 L13_4 L13_5 L13_6 L13_7 L13_8 L13_9 L13_10 V13_a V13_b V13_k V13_v V13_p V13_q V13_dx V13_ta V13_tv V13_tb V13_tp V13_tq N13 B13_0 HW13
          have k14_0 := L14_0.out.cell
          have l14_0 := L14_0.out.lt
          have k14_1 := L14_1.out.cell
          have l14_1 := L14_1.out.lt
          have k14_2 := L14_2.out.cell
          have l14_2 := L14_2.out.lt
          have k14_3 := L14_3.out.cell
          have l14_3 := L14_3.out.lt
          have k14_4 := L14_4.out.cell
          have l14_4 := L14_4.out.lt
          have k14_5 := L14_5.out.cell
          have l14_5 := L14_5.out.lt
          have k14_6 := L14_6.out.cell
          have l14_6 := L14_6.out.lt
          have k14_7 := L14_7.out.cell
          have l14_7 := L14_7.out.lt
          have k14_8 := L14_8.out.cell
          have l14_8 := L14_8.out.lt
          have k14_9 := L14_9.out.cell
          have l14_9 := L14_9.out.lt
          have k14_10 := L14_10.out.cell
          have l14_10 := L14_10.out.lt
          have k14_11 := L14_11.out.cell
          have l14_11 := L14_11.out.lt
          go_wp2_with fail
          go_roundw
          case rel => exact ⟨j + 1, by omega, by go_num, B14_0.out⟩
          case measure => simp [intOf]; omega
        · have g2 : (bp == bp) = true := by simp
          have CS2 := Lib.hid (fun w2 v2 v3 h h2 => rsame_false e1 w2 (fun _ => True) (fun _ => True) v2 v3 h h2)
          clear e1 HF2
          go_wp2_with fail
          refine (CS2.out _ _ _ (V13_tp.out.keep (by exact Below.new _ _)) (V13_tq.out.keep (by exact Below.new _ _))).mono ?_
          rintro e w14 ⟨rfl, hb⟩
          have HD14 := Lib.hid (show Below w13.heap.size w13 w14 from Below.next (Below.new _ _) hb)
          have L14_0 := Lib.hid (L13_0.out.keep HD14.out)
          have L14_1 := Lib.hid (L13_1.out.keep HD14.out)
          have L14_2 := Lib.hid (L13_2.out.keep HD14.out)
          have L14_3 := Lib.hid (L13_3.out.keep HD14.out)
          have L14_4 := Lib.hid (L13_4.out.keep HD14.out)
          have L14_5 := Lib.hid (L13_5.out.keep HD14.out)
          have L14_6 := Lib.hid (L13_6.out.keep HD14.out)
          have L14_7 := Lib.hid (L13_7.out.keep HD14.out)
          have L14_8 := Lib.hid (L13_8.out.keep HD14.out)
          have L14_9 := Lib.hid (L13_9.out.keep HD14.out)
          have L14_10 := Lib.hid (L13_10.out.keep HD14.out)
          have L14_11 := Lib.hid ((Blk.new w13 25 #[.int .i64 tdx.kind, .bool tdx.bool, .int .i64 tdx.int, .string tdx.str, .slice qa13 tdx.list.length qc13, .slice qm13 tdx.map.length qn13]).keep hb)
          have V14_a := Lib.hid (V13_a.out.keep HD14.out)
          have V14_b := Lib.hid (V13_b.out.keep HD14.out)
          have V14_k := Lib.hid (V13_k.out.keep HD14.out)
          have V14_v := Lib.hid (V13_v.out.keep HD14.out)
          have V14_p := Lib.hid (V13_p.out.keep HD14.out)
          have V14_q := Lib.hid (V13_q.out.keep HD14.out)
          have V14_dx := Lib.hid (V13_dx.out.keep HD14.out)
          have V14_ta := Lib.hid (V13_ta.out.keep HD14.out)
          have V14_tv := Lib.hid (V13_tv.out.keep HD14.out)
          have V14_tb := Lib.hid (V13_tb.out.keep HD14.out)
          have V14_tp := Lib.hid (V13_tp.out.keep HD14.out)
          have V14_tq := Lib.hid (V13_tq.out.keep HD14.out)
          have V14_tdx := Lib.hid (N13.out.keep HD14.out)
          have B14_0 := Lib.hid (Below.next B13_0.out HD14.out)
          have HW14 := Lib.hid (Below.next HW13.out HD14.out)
          clear k13_0 l13_0 k13_1 l13_1 k13_2 l13_2 k13_3 l13_3 k13_4 l13_4 k13_5 l13_5 k13_6 l13_6 k13_7 l13_7 k13_8 l13_8 k13_9 l13_9 k13_10 l13_10 hb HD14 L13_0 L13_1 L13_2 L13_3 L13_4 L13_5 L13_6 L13_7 L13_8 L13_9 L13_10 V13_a V13_b V13_k V13_v V13_p V13_q V13_dx V13_ta V13_tv V13_tb V13_tp V13_tq N13 B13_0 HW13
          have k14_0 := L14_0.out.cell
          have l14_0 := L14_0.out.lt
          have k14_1 := L14_1.out.cell
          have l14_1 := L14_1.out.lt
          have k14_2 := L14_2.out.cell
          have l14_2 := L14_2.out.lt
          have k14_3 := L14_3.out.cell
          have l14_3 := L14_3.out.lt
          have k14_4 := L14_4.out.cell
          have l14_4 := L14_4.out.lt
          have k14_5 := L14_5.out.cell
          have l14_5 := L14_5.out.lt
          have k14_6 := L14_6.out.cell
          have l14_6 := L14_6.out.lt
          have k14_7 := L14_7.out.cell
          have l14_7 := L14_7.out.lt
          have k14_8 := L14_8.out.cell
          have l14_8 := L14_8.out.lt
          have k14_9 := L14_9.out.cell
          have l14_9 := L14_9.out.lt
          have k14_10 := L14_10.out.cell
          have l14_10 := L14_10.out.lt
          have k14_11 := L14_11.out.cell
          have l14_11 := L14_11.out.lt
          go_wp2_with fail
          go_roundw
          case rel => exact ⟨j + 1, by omega, by go_num, B14_0.out⟩
          case measure => simp [intOf]; omega
        · have g2 : (bp == bq) = false := beq_eq_false_iff_ne.2 e1
          clear e1 HF2
          go_wp2_with fail
          go_roundw
          case rel => exact ⟨j + 1, by omega, by go_num, Below.next B13_0.out (Below.new _ _)⟩
          case measure => simp [intOf]; omega

end Go.Proofs.Ytmdihildjblgnaa
