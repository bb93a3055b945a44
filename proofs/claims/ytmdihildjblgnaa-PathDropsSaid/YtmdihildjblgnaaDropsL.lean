/- PathDrops answers true for every input: the law. -/
import Derived.Test.YtmdihildjblgnaaDropsP
import Derived.Test.YtmdihildjblgnaaLeavesL
import Derived.Test.YtmdihildjblgnaaAllP
import Derived.Test.YtmdihildjblgnaaInvB
namespace Go.Proofs.Ytmdihildjblgnaa
open Go.RowKit
attribute [local go_sem ↓] Go.wp_at_zero Go.wp_at_succ

/-- What the law's trees are, by their leaves. -/
theorem drops_pure {v p d : T} {k : Nat} (hg : Good v) (hk : k < v.leaves.length) (hx : getP v.leaves[k].1 v = some v.leaves[k].2) (hm : v.leaves[k].2.map = []) (hl : v.leaves[k].1 ≠ [])
    (hp : p = pruneW v.leaves[k].1 v) (hd : d = dropP v.leaves[k].1 v) : Neat 6000 p ∧ Neat 6000 d ∧ getP v.leaves[k].1 p = none ∧ getP v.leaves[k].1 d = none ∧
    (∀ q (hq : q < v.leaves.length), q ≠ k → getP v.leaves[q].1 p = some v.leaves[q].2 ∧ getP v.leaves[q].1 d = some v.leaves[q].2) ∧
    (∀ i, 1 ≤ i → i < v.leaves[k].1.length → (∀ y, getP (v.leaves[k].1.take i) p = some y → y.map ≠ []) ∧ ∃ y, getP (v.leaves[k].1.take i) d = some y ∧ y.kind = 5) := by
  have hn := hg.neat
  have hpw := leaves_pw hn
  have hpn : Neat 6000 p := by
    rw [hp]; unfold pruneW
    split
    · exact hn
    · exact pruneN_neat (dropP_neat hn)
  have hdn : Neat 6000 d := by rw [hd]; exact dropP_neat hn
  have hp' : p = pruneP v.leaves[k].1 v := hp.trans (prune_one hn)
  refine ⟨hpn, hdn, by rw [hp']; exact prune_gone hn hl hx, by rw [hd]; exact drop_gone hn hl hx, fun q hq hqk => ?_, fun i h1 h2 => ⟨fun y hy => ?_, by rw [hd]; exact drop_way hn hx h1 h2⟩⟩
  · obtain ⟨e1, e2⟩ := (mem_leaves hn v.leaves[q].1 v.leaves[q].2).1 (List.getElem_mem hq)
    have hne : v.leaves[q].1 ≠ v.leaves[k].1 := by
      rcases Nat.lt_or_ge q k with h | h
      · exact List.pairwise_iff_getElem.1 hpw q k hq hk h
      · exact fun e => List.pairwise_iff_getElem.1 hpw k q hk hq (by omega) e.symm
    exact ⟨by rw [hp']; exact prune_other hn hx hm e1 e2 hne, by rw [hd]; exact drop_other hn hl hx hm e1 e2 hne⟩
  · rw [hp'] at hy; exact prune_way hn hx h1 h2 hy

set_option maxRecDepth 100000 in
set_option maxHeartbeats 16000000 in
theorem dropsL (v : T) (n : Int) (hn0 : 0 ≤ n) (hn1 : n ≤ 255) (vv : Value) (w : World) (hv : RepT w (fun _ => True) vv v) :
    Calls Try.prog 12 #[vv, .int .u8 n] w fun e w' => e = .returned (.bool true) ∧ Below w.heap.size w w' := by
  obtain ⟨la, lc, ma, mc, rfl, -⟩ := hv.inv
  have HV := Lib.hid hv
  clear hv
  go_enter Try.func12, Try.ntmps12
  go_wp2_with fail
  refine (right [v] _ (fun _ => True) _ 1 (repE_L.1 (rep_block (E := eltV) (S := fun _ => True) (l := [v]) [[.int .i64 v.kind, .bool v.bool, .int .i64 v.int, .string v.str, .slice la v.list.length lc, .slice ma v.map.length mc]] (Blk.new_at (w.alloc (.cells #[.int .i64 v.kind, .bool v.bool, .int .i64 v.int, .string v.str, .slice la v.list.length lc, .slice ma v.map.length mc] 25)) 25 #[.int .i64 v.kind, .bool v.bool, .int .i64 v.int, .string v.str, .slice la v.list.length lc, .slice ma v.map.length mc] (n := w.heap.size + 1) (by simp)) rfl trivial ⟨HV.out.keep (by exact (Below.new _ _).alloc (by simp) _), trivial⟩)) (by simp)).mono ?_
  rintro e w1 ⟨r, rfl, hr, hb⟩
  have hb1 : Below w.heap.size w w1 := Below.next ((Below.new _ _).alloc (by simp) _) hb
  have L0 := Lib.hid (((Blk.new w 25 #[.int .i64 v.kind, .bool v.bool, .int .i64 v.int, .string v.str, .slice la v.list.length lc, .slice ma v.map.length mc]).alloc (.cells #[.int .i64 v.kind, .bool v.bool, .int .i64 v.int, .string v.str, .slice la v.list.length lc, .slice ma v.map.length mc] 25)).keep hb)
  have HW1 := Lib.hid hb1
  have HV1 := Lib.hid (HV.out.keep hb1)
  have HR := Lib.hid hr
  clear hb hb1 HV hr
  have q_0 := L0.out.cell
  have l_0 := L0.out.lt
  cases r
  · go_wp2_with (go_at_call 44; refine (awake2 _).mono ?_; rintro e w9 ⟨rfl, hb9⟩)
    go_ret
    exact ⟨rfl, Below.next HW1.out hb9⟩
  have hg : Good v := HR.out rfl v (by simp)
  by_cases h5 : v.kind = 5
  case neg =>
    have g5 : (v.kind != 5) = true := bne_iff_ne.2 h5
    clear h5 hg
    go_wp2_with (go_at_call 44; refine (awake2 _).mono ?_; rintro e w9 ⟨rfl, hb9⟩)
    go_ret
    exact ⟨rfl, Below.next HW1.out hb9⟩
  by_cases hm : v.map = []
  case pos =>
    have g5 : (v.kind != 5) = false := by rw [h5]; rfl
    have g6 : ((v.map.length : Int) == 0) = true := by rw [hm]; rfl
    clear h5 hg hm
    go_wp2_with (go_at_call 44; refine (awake2 _).mono ?_; rintro e w9 ⟨rfl, hb9⟩)
    go_ret
    exact ⟨rfl, Below.next HW1.out hb9⟩
  have g5 : (v.kind != 5) = false := by rw [h5]; rfl
  have g6 : ((v.map.length : Int) == 0) = false := beq_eq_false_iff_ne.2 (by have := List.length_pos_iff.2 hm; omega)
  have CP := Lib.hid (fun w c (h : RepT w (fun _ => True) c v) => tpleaves v hg.neat (by have := hg.1; omega) c w _ h)
  have hL1 : v.leaves.length ≤ 6000 := by have := (leaves_wt v).1; have := hg.1; omega
  have hL0 : v.leaves.length ≠ 0 := fun e => leaves_ne v (List.eq_nil_of_length_eq_zero e)
  have HG := Lib.hid (show Good v ∧ v.kind = 5 ∧ v.map ≠ [] from ⟨hg, h5, hm⟩)
  clear HR hg h5 hm
  go_wp2_with fail
  refine (CP.out _ _ HV1.out).mono ?_
  rintro e w3 ⟨A2, c2, rfl, hrep2, hlc2, hcm2, hb3⟩
  replace L0 := Lib.hid (L0.out.keep hb3); replace HW1 := Lib.hid (Below.next HW1.out hb3); replace HV1 := Lib.hid (HV1.out.keep hb3)
  have HP := Lib.hid hrep2
  clear q_0 l_0 hb3 hrep2
  have q_0 := L0.out.cell
  have l_0 := L0.out.lt
  have hL2 : ((v.leaves.length : Int) == 0) = false := beq_eq_false_iff_ne.2 (by omega)
  have hL3 : (0 : Int) < (v.leaves.length : Int) := by omega
  obtain ⟨k, hke⟩ : ∃ k : Nat, k = n.toNat % v.leaves.length := ⟨_, rfl⟩
  have hk : k < v.leaves.length := hke ▸ Nat.mod_lt _ (by omega)
  have hkk : n % (v.leaves.length : Int) = (k : Int) := by rw [hke, Int.natCast_emod, Int.toNat_of_nonneg hn0]
  have hk1 : (0 : Int) ≤ (k : Int) := by omega
  have hk2 : (k : Int) < (v.leaves.length : Int) := by omega
  obtain ⟨b4, o4, sx, sxc, la7, lc7, ma7, mc7, rfl, hbx, ⟨x0, x1, x2, x3, x4, x5, x6⟩, hsx1, hsx2, hsx, -⟩ := leaf_at HP.out hk
  have HKL := Lib.hid (show getP v.leaves[k].1 v = some v.leaves[k].2 ∧ v.leaves[k].2.map = [] ∧ v.leaves[k].1 ≠ [] ∧ v.leaves[k].1.length ≤ 6000 from by
    have h1 := List.getElem_mem hk
    have h2 := (mem_leaves HG.out.1.neat v.leaves[k].1 v.leaves[k].2).1 h1
    have h3 := (leaves_wt v).2 _ h1
    have h4 := HG.out.1.1
    exact ⟨h2.1, h2.2, leaves_cons HG.out.2.2 _ h1, by omega⟩)
  have HSX := Lib.hid (hsx.weak (S' := fun _ => True) (fun _ _ => trivial))
  clear hsx hke x1 x2 x3 x4 x5 x6
  obtain ⟨p, hpe⟩ : ∃ p, p = pruneW v.leaves[k].1 v := ⟨_, rfl⟩
  obtain ⟨d, hde⟩ : ∃ p, p = dropP v.leaves[k].1 v := ⟨_, rfl⟩
  have CPR := Lib.hid (fun w' c0 (h0 : RepT w' (fun _ => True) c0 v) (h1 : RepS w' (fun _ => True) sx v.leaves[k].1) => (show Calls Try.prog 51 #[c0, .slice sx v.leaves[k].1.length sxc] w' (NewPost w' p) from hpe ▸ tpprune (n := 6000) (by omega) v.leaves[k].1 v HG.out.1.neat sx sxc c0 w' _ h0 h1 (by have := HKL.out.2.2.2; omega) hsx1 hsx2))
  have CDR := Lib.hid (fun w' c0 (h0 : RepT w' (fun _ => True) c0 v) (h1 : RepS w' (fun _ => True) sx v.leaves[k].1) => (show Calls Try.prog 49 #[c0, .slice sx v.leaves[k].1.length sxc] w' (NewPost w' d) from hde ▸ tpdrop (n := 6000) (by omega) v.leaves[k].1 v HG.out.1.neat sx sxc c0 w' _ h0 h1 hsx1 hsx2))
  have HPURE := Lib.hid (drops_pure HG.out.1 hk HKL.out.1 HKL.out.2.1 HKL.out.2.2.1 hpe hde)
  have HPE := Lib.hid hpe; have HDE := Lib.hid hde
  clear hpe hde CP
  have HSN := Lib.hid (show v.leaves[k].1 ≠ [] from HKL.out.2.2.1); have HSL := Lib.hid (show v.leaves[k].1.length ≤ 6000 from HKL.out.2.2.2)
  generalize hst : v.leaves[k].1 = st at *
  have HST := Lib.hid hst
  clear hst
  go_wp2_with fail
  have LB0 := L0; have HWc := HW1; have HB3 := Lib.hid (Below.refl w3.heap.size w3)
  clear L0 HW1
  rw [hkk]
  clear hkk
  clear q_0 l_0
  refine lay_frame (fun Af (FR : Value → Value → Value → Value → Value → Value → Value → Value → Act) => ∀ x56 x57 x58 x59 x60 x61 x8 x9, ((((((((Af.put (some 56) x56).put (some 57) x57).put (some 58) x58).put (some 59) x59).put (some 60) x60).put (some 61) x61).put (some 8) x8).put (some 9) x9) = FR x56 x57 x58 x59 x60 x61 x8 x9) ?FR ?heq (fun hfr => ?main)
  case heq =>
    intro x56 x57 x58 x59 x60 x61 x8 x9
    simp only [Act.put, List.setIfInBounds_toArray, List.set_cons_zero, List.set_cons_succ]
    rfl
  refine wp_region_inv (n := 10) (fun Af dd sAc wx => ∃ (O : Nat → Nat) (x56 x57 x58 x59 x60 x61 x8 x9 : Value), sAc = ((((((((Af.put (some 56) x56).put (some 57) x57).put (some 58) x58).put (some 59) x59).put (some 60) x60).put (some 61) x61).put (some 8) x8).put (some 9) x9) ∧ Below w3.heap.size w3 wx ∧ (∀ b, b < w3.heap.size → O b = 0) ∧ (dd 0 = true → x56 = .agg #[.int .i64 v.kind, .bool v.bool, .int .i64 v.int, .string v.str, .slice la v.list.length lc, .slice ma v.map.length mc]) ∧ (dd 1 = true → x57 = .slice sx st.length sxc) ∧ (dd 2 = true → RepT wx (fun b => O b = 0) x58 p) ∧ (dd 3 = true → x59 = .agg #[.int .i64 v.kind, .bool v.bool, .int .i64 v.int, .string v.str, .slice la v.list.length lc, .slice ma v.map.length mc]) ∧ (dd 4 = true → x60 = .slice sx st.length sxc) ∧ (dd 5 = true → RepT wx (fun b => O b = 0) x61 d) ∧ (dd 6 = true → BoxI O wx w3.heap.size x8 1 (dd 8) x58) ∧ (dd 7 = true → BoxI O wx w3.heap.size x9 2 (dd 9) x61) ∧ (dd 8 = true → dd 6 = true ∧ dd 2 = true) ∧ (dd 9 = true → dd 7 = true ∧ dd 5 = true)) (by kernel_rfl) (by kernel_rfl) rfl ?_ ⟨?_, ?_, ?_, ?_, ?_, ?_, ?_, ?_, ?_, ?_, trivial⟩ ?_
  · refine ⟨fun _ => 0, undef, undef, undef, undef, undef, undef, undef, undef, by rw [hfr], (Below.refl _ _).drew, fun _ _ => rfl, fun h => absurd h Bool.false_ne_true, fun h => absurd h Bool.false_ne_true, fun h => absurd h Bool.false_ne_true, fun h => absurd h Bool.false_ne_true, fun h => absurd h Bool.false_ne_true, fun h => absurd h Bool.false_ne_true, fun h => absurd h Bool.false_ne_true, fun h => absurd h Bool.false_ne_true, fun h => absurd h Bool.false_ne_true, fun h => absurd h Bool.false_ne_true⟩
  · intro dd sAc wx hd hpre hI K hK
    obtain ⟨O, x56, x57, x58, x59, x60, x61, x8, x9, hsx, HB, HO, F0, F1, F2, F3, F4, F5, F6, F7, G8, G9⟩ := hI
    have kb0 := (LB0.out.keep HB).cell; have lb0 := (LB0.out.keep HB).lt
    rw [hsx, hfr]
    go_simp
    exact hK.out _ _ ⟨O, (.agg #[.int .i64 v.kind, .bool v.bool, .int .i64 v.int, .string v.str, .slice la v.list.length lc, .slice ma v.map.length mc]), x57, x58, x59, x60, x61, x8, x9, by rw [hfr]; try simp only [Act.put, List.setIfInBounds_toArray, List.set_cons_zero, List.set_cons_succ], HB, HO, fun _ => rfl, F1, F2, F3, F4, F5, F6, F7, G8, G9⟩
  · intro dd sAc wx hd hpre hI K hK
    obtain ⟨O, x56, x57, x58, x59, x60, x61, x8, x9, hsx, HB, HO, F0, F1, F2, F3, F4, F5, F6, F7, G8, G9⟩ := hI
    rw [hsx, hfr]
    go_simp
    exact hK.out _ _ ⟨O, x56, (.slice sx st.length sxc), x58, x59, x60, x61, x8, x9, by rw [hfr]; try simp only [Act.put, List.setIfInBounds_toArray, List.set_cons_zero, List.set_cons_succ], HB, HO, F0, fun _ => rfl, F2, F3, F4, F5, F6, F7, G8, G9⟩
  · intro dd sAc wx hd hpre hI K hK
    obtain ⟨O, x56, x57, x58, x59, x60, x61, x8, x9, hsx, HB, HO, F0, F1, F2, F3, F4, F5, F6, F7, G8, G9⟩ := hI
    obtain rfl := F0 (hpre ⟨0, .data⟩ (by simp) rfl)
    obtain rfl := F1 (hpre ⟨1, .data⟩ (by simp) rfl)
    rw [hsx, hfr]
    go_simp
    refine (CPR.out _ _ (HV1.out.keep HB) (HSX.out.keep HB)).mono ?_
    rintro ee wy ⟨vv, rfl, hr, hb⟩
    go_wp2_with fail
    have hs := Stp.call (O := O) hb
    exact hK.out _ _ ⟨ownC O wx.heap.size, (.agg #[.int .i64 v.kind, .bool v.bool, .int .i64 v.int, .string v.str, .slice la v.list.length lc, .slice ma v.map.length mc]), (.slice sx st.length sxc), vv, x59, x60, x61, x8, x9, by rw [hfr]; try simp only [Act.put, List.setIfInBounds_toArray, List.set_cons_zero, List.set_cons_succ], Below.next HB hb, ownC_low HO, fun _ => rfl, fun _ => rfl, fun _ => hr.called, F3, F4, fun h => (F5 h).stp hs (fun _ e => nomatch e), fun h => ((F6 h).val (by cases h2 : dd 8 with | false => rfl | true => rw [(G8 h2).2] at hd; cases hd)).stp hs (fun _ e => nomatch e), fun h => (F7 h).stp hs (fun _ e => nomatch e), fun h => ⟨(G8 h).1, rfl⟩, G9⟩
  · intro dd sAc wx hd hpre hI K hK
    obtain ⟨O, x56, x57, x58, x59, x60, x61, x8, x9, hsx, HB, HO, F0, F1, F2, F3, F4, F5, F6, F7, G8, G9⟩ := hI
    have kb0 := (LB0.out.keep HB).cell; have lb0 := (LB0.out.keep HB).lt
    rw [hsx, hfr]
    go_simp
    exact hK.out _ _ ⟨O, x56, x57, x58, (.agg #[.int .i64 v.kind, .bool v.bool, .int .i64 v.int, .string v.str, .slice la v.list.length lc, .slice ma v.map.length mc]), x60, x61, x8, x9, by rw [hfr]; try simp only [Act.put, List.setIfInBounds_toArray, List.set_cons_zero, List.set_cons_succ], HB, HO, F0, F1, F2, fun _ => rfl, F4, F5, F6, F7, G8, G9⟩
  · intro dd sAc wx hd hpre hI K hK
    obtain ⟨O, x56, x57, x58, x59, x60, x61, x8, x9, hsx, HB, HO, F0, F1, F2, F3, F4, F5, F6, F7, G8, G9⟩ := hI
    rw [hsx, hfr]
    go_simp
    exact hK.out _ _ ⟨O, x56, x57, x58, x59, (.slice sx st.length sxc), x61, x8, x9, by rw [hfr]; try simp only [Act.put, List.setIfInBounds_toArray, List.set_cons_zero, List.set_cons_succ], HB, HO, F0, F1, F2, F3, fun _ => rfl, F5, F6, F7, G8, G9⟩
  · intro dd sAc wx hd hpre hI K hK
    obtain ⟨O, x56, x57, x58, x59, x60, x61, x8, x9, hsx, HB, HO, F0, F1, F2, F3, F4, F5, F6, F7, G8, G9⟩ := hI
    obtain rfl := F3 (hpre ⟨3, .data⟩ (by simp) rfl)
    obtain rfl := F4 (hpre ⟨4, .data⟩ (by simp) rfl)
    rw [hsx, hfr]
    go_simp
    refine (CDR.out _ _ (HV1.out.keep HB) (HSX.out.keep HB)).mono ?_
    rintro ee wy ⟨vv, rfl, hr, hb⟩
    go_wp2_with fail
    have hs := Stp.call (O := O) hb
    exact hK.out _ _ ⟨ownC O wx.heap.size, x56, x57, x58, (.agg #[.int .i64 v.kind, .bool v.bool, .int .i64 v.int, .string v.str, .slice la v.list.length lc, .slice ma v.map.length mc]), (.slice sx st.length sxc), vv, x8, x9, by rw [hfr]; try simp only [Act.put, List.setIfInBounds_toArray, List.set_cons_zero, List.set_cons_succ], Below.next HB hb, ownC_low HO, F0, F1, fun h => (F2 h).stp hs (fun _ e => nomatch e), fun _ => rfl, fun _ => rfl, fun _ => hr.called, fun h => (F6 h).stp hs (fun _ e => nomatch e), fun h => ((F7 h).val (by cases h2 : dd 9 with | false => rfl | true => rw [(G9 h2).2] at hd; cases hd)).stp hs (fun _ e => nomatch e), G8, fun h => ⟨(G9 h).1, rfl⟩⟩
  · intro dd sAc wx hd hpre hI K hK
    obtain ⟨O, x56, x57, x58, x59, x60, x61, x8, x9, hsx, HB, HO, F0, F1, F2, F3, F4, F5, F6, F7, G8, G9⟩ := hI
    rw [hsx, hfr]
    go_simp
    have hs := Stp.new (O := O) (w := wx) (.cells #[.int .i64 0, .bool false, .int .i64 0, .string ⟨#[]⟩, .slice none 0 0, .slice none 0 0] 25) 1
    have hst : dd 8 = false := by
          cases h : dd 8 with
          | false => rfl
          | true => rw [(G8 h).1] at hd; cases hd
    have hnew : BoxI (ownN O wx.heap.size 1) (wx.alloc (.cells #[.int .i64 0, .bool false, .int .i64 0, .string ⟨#[]⟩, .slice none 0 0, .slice none 0 0] 25)) w3.heap.size (.pointer (some ⟨wx.heap.size, 0, none⟩)) 1 (dd 8) x58 := by rw [hst]; exact BoxI.new _ _ HB.size
    exact hK.out _ _ ⟨ownN O wx.heap.size 1, x56, x57, x58, x59, x60, x61, (.pointer (some ⟨wx.heap.size, 0, none⟩)), x9, by rw [hfr]; try simp only [Act.put, List.setIfInBounds_toArray, List.set_cons_zero, List.set_cons_succ], (HB.alloc HB.size _), ownN_low HO HB.size, F0, F1, fun h => (F2 h).stp hs (fun _ e => nomatch e), F3, F4, fun h => (F5 h).stp hs (fun _ e => nomatch e), fun _ => hnew, fun h => (F7 h).stp hs (fun _ e => nomatch e), fun h => ⟨rfl, (G8 h).2⟩, G9⟩
  · intro dd sAc wx hd hpre hI K hK
    obtain ⟨O, x56, x57, x58, x59, x60, x61, x8, x9, hsx, HB, HO, F0, F1, F2, F3, F4, F5, F6, F7, G8, G9⟩ := hI
    rw [hsx, hfr]
    go_simp
    have hs := Stp.new (O := O) (w := wx) (.cells #[.int .i64 0, .bool false, .int .i64 0, .string ⟨#[]⟩, .slice none 0 0, .slice none 0 0] 25) 2
    have hst : dd 9 = false := by
          cases h : dd 9 with
          | false => rfl
          | true => rw [(G9 h).1] at hd; cases hd
    have hnew : BoxI (ownN O wx.heap.size 2) (wx.alloc (.cells #[.int .i64 0, .bool false, .int .i64 0, .string ⟨#[]⟩, .slice none 0 0, .slice none 0 0] 25)) w3.heap.size (.pointer (some ⟨wx.heap.size, 0, none⟩)) 2 (dd 9) x61 := by rw [hst]; exact BoxI.new _ _ HB.size
    exact hK.out _ _ ⟨ownN O wx.heap.size 2, x56, x57, x58, x59, x60, x61, x8, (.pointer (some ⟨wx.heap.size, 0, none⟩)), by rw [hfr]; try simp only [Act.put, List.setIfInBounds_toArray, List.set_cons_zero, List.set_cons_succ], (HB.alloc HB.size _), ownN_low HO HB.size, F0, F1, fun h => (F2 h).stp hs (fun _ e => nomatch e), F3, F4, fun h => (F5 h).stp hs (fun _ e => nomatch e), fun h => (F6 h).stp hs (fun _ e => nomatch e), fun _ => hnew, G8, fun h => ⟨rfl, (G9 h).2⟩⟩
  · intro dd sAc wx hd hpre hI K hK
    obtain ⟨O, x56, x57, x58, x59, x60, x61, x8, x9, hsx, HB, HO, F0, F1, F2, F3, F4, F5, F6, F7, G8, G9⟩ := hI
    have e2 := F2 (hpre ⟨2, .data⟩ (by simp) rfl)
    have hb0 := F6 (hpre ⟨6, .data⟩ (by simp) rfl)
    rw [hd] at hb0
    obtain ⟨g, rfl, hog, hBg, hbg⟩ := hb0.at_
    obtain ⟨qa, qc, qm, qn, rfl, -⟩ := e2.inv
    have kg := hbg.cell; have lg := hbg.lt; have zg := hbg.frozen
    rw [hsx, hfr]
    dsimp only [cond_false] at kg
    go_simp
    have hs := Stp.set6 (O := O) (w := wx) (b := g) (o := 0) (c0 := .int .i64 p.kind) (c1 := .bool p.bool) (c2 := .int .i64 p.int) (c3 := .string p.str) (c4 := .slice qa p.list.length qc) (c5 := .slice qm p.map.length qn)
    exact hK.out _ _ ⟨O, x56, x57, (.agg #[.int .i64 p.kind, .bool p.bool, .int .i64 p.int, .string p.str, .slice qa p.list.length qc, .slice qm p.map.length qn]), x59, x60, x61, (.pointer (some ⟨g, 0, none⟩)), x9, by rw [hfr]; try simp only [Act.put, List.setIfInBounds_toArray, List.set_cons_zero, List.set_cons_succ], set6_below (o := 0) HB hBg, HO, F0, F1, fun h => (F2 h).stp hs (fun b e => by injection e with e; rw [← e, hog]; decide), F3, F4, fun h => (F5 h).stp hs (fun b e => by injection e with e; rw [← e, hog]; decide), fun _ => hb0.put, fun h => (F7 h).stp hs (fun b e => by injection e with e; rw [← e, hog]; decide), fun _ => ⟨hpre ⟨6, .data⟩ (by simp) rfl, hpre ⟨2, .data⟩ (by simp) rfl⟩, G9⟩
  · intro dd sAc wx hd hpre hI K hK
    obtain ⟨O, x56, x57, x58, x59, x60, x61, x8, x9, hsx, HB, HO, F0, F1, F2, F3, F4, F5, F6, F7, G8, G9⟩ := hI
    have e5 := F5 (hpre ⟨5, .data⟩ (by simp) rfl)
    have hb0 := F7 (hpre ⟨7, .data⟩ (by simp) rfl)
    rw [hd] at hb0
    obtain ⟨g, rfl, hog, hBg, hbg⟩ := hb0.at_
    obtain ⟨qa, qc, qm, qn, rfl, -⟩ := e5.inv
    have kg := hbg.cell; have lg := hbg.lt; have zg := hbg.frozen
    rw [hsx, hfr]
    dsimp only [cond_false] at kg
    go_simp
    have hs := Stp.set6 (O := O) (w := wx) (b := g) (o := 0) (c0 := .int .i64 d.kind) (c1 := .bool d.bool) (c2 := .int .i64 d.int) (c3 := .string d.str) (c4 := .slice qa d.list.length qc) (c5 := .slice qm d.map.length qn)
    exact hK.out _ _ ⟨O, x56, x57, x58, x59, x60, (.agg #[.int .i64 d.kind, .bool d.bool, .int .i64 d.int, .string d.str, .slice qa d.list.length qc, .slice qm d.map.length qn]), x8, (.pointer (some ⟨g, 0, none⟩)), by rw [hfr]; try simp only [Act.put, List.setIfInBounds_toArray, List.set_cons_zero, List.set_cons_succ], set6_below (o := 0) HB hBg, HO, F0, F1, fun h => (F2 h).stp hs (fun b e => by injection e with e; rw [← e, hog]; decide), F3, F4, fun h => (F5 h).stp hs (fun b e => by injection e with e; rw [← e, hog]; decide), fun h => (F6 h).stp hs (fun b e => by injection e with e; rw [← e, hog]; decide), fun _ => hb0.put, G8, fun _ => ⟨hpre ⟨7, .data⟩ (by simp) rfl, hpre ⟨5, .data⟩ (by simp) rfl⟩⟩
  · intro dd sAc wx hd hI
    obtain ⟨O, x56, x57, x58, x59, x60, x61, x8, x9, hsx, HB, HO, F0, F1, F2, F3, F4, F5, F6, F7, G8, G9⟩ := hI
    rw [hsx, hfr]
    clear hsx hfr
    have B8 := F6 (hd 6 (by decide)); rw [hd 8 (by decide)] at B8; obtain ⟨g8, rfl, -, hg8, B8⟩ := B8.at_
    have N8 := F2 (hd 2 (by decide)); obtain ⟨pa, pc, pm, pn, rfl, -⟩ := N8.inv
    have LB8 : Hid (Blk wx g8 25 #[.int .i64 p.kind, .bool p.bool, .int .i64 p.int, .string p.str, .slice pa p.list.length pc, .slice pm p.map.length pn]) := B8
    have V8 := Lib.hid (N8.any)
    have B9 := F7 (hd 7 (by decide)); rw [hd 9 (by decide)] at B9; obtain ⟨g9, rfl, -, hg9, B9⟩ := B9.at_
    have N9 := F5 (hd 5 (by decide)); obtain ⟨da, dc, dm, dn, rfl, -⟩ := N9.inv
    have LB9 : Hid (Blk wx g9 25 #[.int .i64 d.kind, .bool d.bool, .int .i64 d.int, .string d.str, .slice da d.list.length dc, .slice dm d.map.length dn]) := B9
    have V9 := Lib.hid (N9.any)
    have LA := Lib.hid (LB0.out.keep HB); have VA := Lib.hid (HV1.out.keep HB); have VS := Lib.hid (HSX.out.keep HB); have VR := Lib.hid (HP.out.keep HB); have HW2 := Lib.hid (Below.next HWc.out HB)
    clear F0 F1 F2 F3 F4 F5 F6 F7 G8 G9 B8 B9 N8 N9 hg8 hg9 hd HO HB LB0 HV1 HSX HP HWc HB3 CPR CDR
    have HPN := Lib.hid HPURE.out.1; have HDN := Lib.hid HPURE.out.2.1
    have HPF := Lib.hid HPURE.out.2.2.2.2.1; have HWY := Lib.hid HPURE.out.2.2.2.2.2; have HP1 := HPURE.out.2.2.1; have HP2 := HPURE.out.2.2.2.1
    have hst0 : st ≠ [] := HSN.out
    have hst1 : st.length ≤ 6000 := HSL.out
    have CG : Hid (∀ (x : T) (m : List ByteArray) (b : Bool) (y : T), Neat 6000 x → m.length ≤ 1000000 → (getP m x).isSome = b → (getP m x).getD T.zero = y → ∀ (w : World) (c0 : Value) (a : Option Addr) (c : Nat), RepT w (fun _ => True) c0 x → RepS w (fun _ => True) a m → Calls Try.prog 45 #[c0, .slice a m.length c] w (GotB w b y)) := fun x m b y hx hm e1 e2 w c0 a c h1 h2 => by have := tpget m x hx a c c0 w _ h1 h2 (by omega); rw [e1, e2] at this; exact this
    have C1 := Lib.hid (CG.out p st false T.zero HPN.out (by omega) (by rw [HP1]; rfl) (by rw [HP1]; rfl))
    have C2 := Lib.hid (CG.out d st false T.zero HDN.out (by omega) (by rw [HP2]; rfl) (by rw [HP2]; rfl))
    clear HP1 HP2 HPURE HPE HDE
    have HW4 := HW2
    clear HW2
    have k4_0 := LA.out.cell; have l4_0 := LA.out.lt
    have k4_1 := LB8.out.cell; have l4_1 := LB8.out.lt
    have k4_2 := LB9.out.cell; have l4_2 := LB9.out.lt
    go_wp2_with fail
    refine (C1.out _ _ _ _ (V8.out) (VS.out)).mono ?_
    rintro e w5 ⟨v5, rfl, hr, hb⟩
    obtain ⟨qa5, qc5, qm5, qn5, rfl, -⟩ := hr.inv
    have N5 := Lib.hid (hr.any)
    clear hr
    have HD5 := Lib.hid (show Below wx.heap.size wx w5 from hb)
    have L5_0 := Lib.hid (LA.out.keep HD5.out)
    have L5_1 := Lib.hid (LB8.out.keep HD5.out)
    have L5_2 := Lib.hid (LB9.out.keep HD5.out)
    have V5_v := Lib.hid (VA.out.keep HD5.out)
    have V5_p := Lib.hid (V8.out.keep HD5.out)
    have V5_d := Lib.hid (V9.out.keep HD5.out)
    have V5_S := Lib.hid (VS.out.keep HD5.out)
    have V5_ROW := Lib.hid (VR.out.keep HD5.out)
    have HW5 := Lib.hid (Below.next HW4.out HD5.out)
    clear k4_0 l4_0 k4_1 l4_1 k4_2 l4_2 hb HD5 LA LB8 LB9 VA V8 V9 VS VR HW4
    have k5_0 := L5_0.out.cell
    have l5_0 := L5_0.out.lt
    have k5_1 := L5_1.out.cell
    have l5_1 := L5_1.out.lt
    have k5_2 := L5_2.out.cell
    have l5_2 := L5_2.out.lt
    go_wp2_with fail
    refine (C2.out _ _ _ _ (V5_d.out.keep (by exact Below.new _ _)) (V5_S.out.keep (by exact Below.new _ _))).mono ?_
    rintro e w6 ⟨v6, rfl, hr, hb⟩
    obtain ⟨qa6, qc6, qm6, qn6, rfl, -⟩ := hr.inv
    have N6 := Lib.hid (hr.any)
    clear hr
    have HD6 := Lib.hid (show Below w5.heap.size w5 w6 from Below.next (Below.new _ _) hb)
    have L6_0 := Lib.hid (L5_0.out.keep HD6.out)
    have L6_1 := Lib.hid (L5_1.out.keep HD6.out)
    have L6_2 := Lib.hid (L5_2.out.keep HD6.out)
    have V6_v := Lib.hid (V5_v.out.keep HD6.out)
    have V6_p := Lib.hid (V5_p.out.keep HD6.out)
    have V6_d := Lib.hid (V5_d.out.keep HD6.out)
    have V6_S := Lib.hid (V5_S.out.keep HD6.out)
    have V6_ROW := Lib.hid (V5_ROW.out.keep HD6.out)
    have V6_z1 := Lib.hid (N5.out.keep HD6.out)
    have HW6 := Lib.hid (Below.next HW5.out HD6.out)
    clear k5_0 l5_0 k5_1 l5_1 k5_2 l5_2 hb HD6 L5_0 L5_1 L5_2 V5_v V5_p V5_d V5_S V5_ROW N5 HW5
    have k6_0 := L6_0.out.cell
    have l6_0 := L6_0.out.lt
    have k6_1 := L6_1.out.cell
    have l6_1 := L6_1.out.lt
    have k6_2 := L6_2.out.cell
    have l6_2 := L6_2.out.lt
    go_wp2_with fail
    obtain ⟨w7, hwz⟩ : ∃ x, x = (w6.alloc (.cells #[.int .i64 T.zero.kind, .bool T.zero.bool, .int .i64 T.zero.int, .string T.zero.str, .slice qa6 T.zero.list.length qc6, .slice qm6 T.zero.map.length qn6] 25)) := ⟨_, rfl⟩
    have hb : Below (w6.alloc (.cells #[.int .i64 T.zero.kind, .bool T.zero.bool, .int .i64 T.zero.int, .string T.zero.str, .slice qa6 T.zero.list.length qc6, .slice qm6 T.zero.map.length qn6] 25)).heap.size (w6.alloc (.cells #[.int .i64 T.zero.kind, .bool T.zero.bool, .int .i64 T.zero.int, .string T.zero.str, .slice qa6 T.zero.list.length qc6, .slice qm6 T.zero.map.length qn6] 25)) w7 := by rw [hwz]; exact Below.refl _ _
    rw [← hwz]
    clear hwz
    have HD7 := Lib.hid (show Below w6.heap.size w6 w7 from Below.next (Below.new _ _) hb)
    have L7_0 := Lib.hid (L6_0.out.keep HD7.out)
    have L7_1 := Lib.hid (L6_1.out.keep HD7.out)
    have L7_2 := Lib.hid (L6_2.out.keep HD7.out)
    have V7_v := Lib.hid (V6_v.out.keep HD7.out)
    have V7_p := Lib.hid (V6_p.out.keep HD7.out)
    have V7_d := Lib.hid (V6_d.out.keep HD7.out)
    have V7_S := Lib.hid (V6_S.out.keep HD7.out)
    have V7_ROW := Lib.hid (V6_ROW.out.keep HD7.out)
    have V7_z1 := Lib.hid (V6_z1.out.keep HD7.out)
    have V7_z2 := Lib.hid (N6.out.keep HD7.out)
    have HW7 := Lib.hid (Below.next HW6.out HD7.out)
    clear k6_0 l6_0 k6_1 l6_1 k6_2 l6_2 hb HD7 L6_0 L6_1 L6_2 V6_v V6_p V6_d V6_S V6_ROW V6_z1 N6 HW6
    have k7_0 := L7_0.out.cell
    have l7_0 := L7_0.out.lt
    have k7_1 := L7_1.out.cell
    have l7_1 := L7_1.out.lt
    have k7_2 := L7_2.out.cell
    have l7_2 := L7_2.out.lt
    go_wp2_with fail
    have hL3 : v.leaves.length ≤ 6000 := hL1
    generalize hLV : v.leaves = L at *
    go_loopw [78] (fun x wr => ∃ q : Nat, q ≤ L.length ∧ x = .int .i64 q ∧ Below w7.heap.size w7 wr) (fun x _ => L.length - (intOf x).toNat)
    case atStart => exact ⟨0, Nat.zero_le _, rfl, Below.refl _ _⟩
    case round =>
      obtain ⟨q, hq, rfl, hbl⟩ := hrel
      have L8_0 := Lib.hid (L7_0.out.keep hbl)
      have L8_1 := Lib.hid (L7_1.out.keep hbl)
      have L8_2 := Lib.hid (L7_2.out.keep hbl)
      have V8_v := Lib.hid (V7_v.out.keep hbl)
      have V8_p := Lib.hid (V7_p.out.keep hbl)
      have V8_d := Lib.hid (V7_d.out.keep hbl)
      have V8_S := Lib.hid (V7_S.out.keep hbl)
      have V8_ROW := Lib.hid (V7_ROW.out.keep hbl)
      have V8_z1 := Lib.hid (V7_z1.out.keep hbl)
      have V8_z2 := Lib.hid (V7_z2.out.keep hbl)
      have HW8 := Lib.hid (Below.next HW7.out hbl)
      have BL8 := Lib.hid hbl
      clear k7_0 l7_0 k7_1 l7_1 k7_2 l7_2 hbl
      have k8_0 := L8_0.out.cell; have l8_0 := L8_0.out.lt
      have k8_1 := L8_1.out.cell; have l8_1 := L8_1.out.lt
      have k8_2 := L8_2.out.cell; have l8_2 := L8_2.out.lt
      by_cases hlt : q < L.length
      case pos =>
        have hq1 : (0 : Int) ≤ (q : Int) := by omega
        have hq2 : (q : Int) < (L.length : Int) := by omega
        obtain ⟨b5, o5, sy, syc, ya, yc, ym, yn, e5, hby, ⟨y0, y1, y2, y3, y4, y5, y6⟩, hys1, hys2, hys, hyr⟩ := leaf_at V8_ROW.out hlt
        obtain ⟨rfl, rfl⟩ : b4 = b5 ∧ o4 = o5 := by simpa using e5
        clear e5
        have VY := Lib.hid (hys.weak (S' := fun _ => True) (fun _ _ => trivial)); have VZ := Lib.hid (hyr.any)
        clear hys hyr
        have HLM := Lib.hid (show L[q].1.length ≤ 6000 from by subst hLV; have h3 := (leaves_wt v).2 _ (List.getElem_mem hlt); have h4 := HG.out.1.1; omega)
        obtain ⟨bp, hbp⟩ : ∃ b, (getP L[q].1 p).isSome = b := ⟨_, rfl⟩
        obtain ⟨tp, htp⟩ : ∃ b, (getP L[q].1 p).getD T.zero = b := ⟨_, rfl⟩
        obtain ⟨bd, hbd⟩ : ∃ b, (getP L[q].1 d).isSome = b := ⟨_, rfl⟩
        obtain ⟨td, htd⟩ : ∃ b, (getP L[q].1 d).getD T.zero = b := ⟨_, rfl⟩
        have HF := Lib.hid (show q ≠ k → bp = true ∧ tp = L[q].2 ∧ bd = true ∧ td = L[q].2 from fun hne => by obtain ⟨e1, e2⟩ := HPF.out q hlt hne; rw [← hbp, ← htp, ← hbd, ← htd, e1, e2]; exact ⟨rfl, rfl, rfl, rfl⟩)
        have D1 := Lib.hid (CG.out p L[q].1 bp tp HPN.out (by have := HLM.out; omega) hbp htp)
        have D2 := Lib.hid (CG.out d L[q].1 bd td HDN.out (by have := HLM.out; omega) hbd htd)
        clear hbp htp hbd htd HLM
        have CS : Hid (∀ (s t : T) (_ : s = t) (w : World) (a b : Value), RepT w (fun _ => True) a s → RepT w (fun _ => True) b t → Calls Try.prog 28 #[a, b] w (fun e w' => e = .returned (.bool true) ∧ Below w.heap.size w w')) := fun s t h w a b h0 h1 => rsame_true h w _ _ a b h0 h1
        generalize L[q].1 = m at *
        generalize L[q].2 = z at *
        go_wp2_with fail
        refine (D1.out _ _ _ _ (V8_p.out.keep (by exact Below.new _ _)) (VY.out.keep (by exact Below.new _ _))).mono ?_
        rintro e w9 ⟨v9, rfl, hr, hb⟩
        obtain ⟨qa9, qc9, qm9, qn9, rfl, -⟩ := hr.inv
        have N9 := Lib.hid (hr.any)
        clear hr
        have HD9 := Lib.hid (show Below wr.heap.size wr w9 from Below.next (Below.new _ _) hb)
        have L9_0 := Lib.hid (L8_0.out.keep HD9.out)
        have L9_1 := Lib.hid (L8_1.out.keep HD9.out)
        have L9_2 := Lib.hid (L8_2.out.keep HD9.out)
        have L9_3 := Lib.hid ((Blk.new wr 66 #[.slice sy m.length syc, .int .i64 z.kind, .bool z.bool, .int .i64 z.int, .string z.str, .slice ya z.list.length yc, .slice ym z.map.length yn]).keep hb)
        have V9_v := Lib.hid (V8_v.out.keep HD9.out)
        have V9_p := Lib.hid (V8_p.out.keep HD9.out)
        have V9_d := Lib.hid (V8_d.out.keep HD9.out)
        have V9_S := Lib.hid (V8_S.out.keep HD9.out)
        have V9_ROW := Lib.hid (V8_ROW.out.keep HD9.out)
        have V9_z1 := Lib.hid (V8_z1.out.keep HD9.out)
        have V9_z2 := Lib.hid (V8_z2.out.keep HD9.out)
        have V9_Y := Lib.hid (VY.out.keep HD9.out)
        have V9_z := Lib.hid (VZ.out.keep HD9.out)
        have B9_0 := Lib.hid (Below.next BL8.out HD9.out)
        have HW9 := Lib.hid (Below.next HW8.out HD9.out)
        clear k8_0 l8_0 k8_1 l8_1 k8_2 l8_2 hb HD9 L8_0 L8_1 L8_2 V8_v V8_p V8_d V8_S V8_ROW V8_z1 V8_z2 VY VZ BL8 HW8
        have k9_0 := L9_0.out.cell
        have l9_0 := L9_0.out.lt
        have k9_1 := L9_1.out.cell
        have l9_1 := L9_1.out.lt
        have k9_2 := L9_2.out.cell
        have l9_2 := L9_2.out.lt
        have k9_3 := L9_3.out.cell
        have l9_3 := L9_3.out.lt
        go_wp2_with fail
        refine (D2.out _ _ _ _ (V9_d.out.keep (by exact Below.new _ _)) (V9_Y.out.keep (by exact Below.new _ _))).mono ?_
        rintro e w10 ⟨v10, rfl, hr, hb⟩
        obtain ⟨qa10, qc10, qm10, qn10, rfl, -⟩ := hr.inv
        have N10 := Lib.hid (hr.any)
        clear hr
        have HD10 := Lib.hid (show Below w9.heap.size w9 w10 from Below.next (Below.new _ _) hb)
        have L10_0 := Lib.hid (L9_0.out.keep HD10.out)
        have L10_1 := Lib.hid (L9_1.out.keep HD10.out)
        have L10_2 := Lib.hid (L9_2.out.keep HD10.out)
        have L10_3 := Lib.hid (L9_3.out.keep HD10.out)
        have L10_4 := Lib.hid ((Blk.new w9 25 #[.int .i64 tp.kind, .bool tp.bool, .int .i64 tp.int, .string tp.str, .slice qa9 tp.list.length qc9, .slice qm9 tp.map.length qn9]).keep hb)
        have V10_v := Lib.hid (V9_v.out.keep HD10.out)
        have V10_p := Lib.hid (V9_p.out.keep HD10.out)
        have V10_d := Lib.hid (V9_d.out.keep HD10.out)
        have V10_S := Lib.hid (V9_S.out.keep HD10.out)
        have V10_ROW := Lib.hid (V9_ROW.out.keep HD10.out)
        have V10_z1 := Lib.hid (V9_z1.out.keep HD10.out)
        have V10_z2 := Lib.hid (V9_z2.out.keep HD10.out)
        have V10_Y := Lib.hid (V9_Y.out.keep HD10.out)
        have V10_z := Lib.hid (V9_z.out.keep HD10.out)
        have V10_tp := Lib.hid (N9.out.keep HD10.out)
        have B10_0 := Lib.hid (Below.next B9_0.out HD10.out)
        have HW10 := Lib.hid (Below.next HW9.out HD10.out)
        clear k9_0 l9_0 k9_1 l9_1 k9_2 l9_2 k9_3 l9_3 hb HD10 L9_0 L9_1 L9_2 L9_3 V9_v V9_p V9_d V9_S V9_ROW V9_z1 V9_z2 V9_Y V9_z N9 B9_0 HW9
        have k10_0 := L10_0.out.cell
        have l10_0 := L10_0.out.lt
        have k10_1 := L10_1.out.cell
        have l10_1 := L10_1.out.lt
        have k10_2 := L10_2.out.cell
        have l10_2 := L10_2.out.lt
        have k10_3 := L10_3.out.cell
        have l10_3 := L10_3.out.lt
        have k10_4 := L10_4.out.cell
        have l10_4 := L10_4.out.lt
        by_cases hqk : q = k
        case pos =>
          have gq : ((q : Int) != (k : Int)) = false := by rw [hqk]; simp
          clear hqk
          go_wp2_with fail
          go_roundw
          case rel => exact ⟨q + 1, by omega, by go_num, Below.next B10_0.out (Below.new _ _)⟩
          case measure => simp [intOf]; omega
        have gq : ((q : Int) != (k : Int)) = true := bne_iff_ne.2 (fun e => hqk (by omega))
        obtain ⟨rfl, e2, rfl, e4⟩ := HF.out hqk
        have CS1 := Lib.hid (CS.out tp z e2); have CS2 := Lib.hid (CS.out td z e4); clear hqk HF e2 e4
        go_wp2_with fail
        refine (CS1.out _ _ _ (V10_tp.out.keep (by exact Below.new _ _)) (V10_z.out.keep (by exact Below.new _ _))).mono ?_
        rintro e w11 ⟨rfl, hb⟩
        have HD11 := Lib.hid (show Below w10.heap.size w10 w11 from Below.next (Below.new _ _) hb)
        have L11_0 := Lib.hid (L10_0.out.keep HD11.out)
        have L11_1 := Lib.hid (L10_1.out.keep HD11.out)
        have L11_2 := Lib.hid (L10_2.out.keep HD11.out)
        have L11_3 := Lib.hid (L10_3.out.keep HD11.out)
        have L11_4 := Lib.hid (L10_4.out.keep HD11.out)
        have L11_5 := Lib.hid ((Blk.new w10 25 #[.int .i64 td.kind, .bool td.bool, .int .i64 td.int, .string td.str, .slice qa10 td.list.length qc10, .slice qm10 td.map.length qn10]).keep hb)
        have V11_v := Lib.hid (V10_v.out.keep HD11.out)
        have V11_p := Lib.hid (V10_p.out.keep HD11.out)
        have V11_d := Lib.hid (V10_d.out.keep HD11.out)
        have V11_S := Lib.hid (V10_S.out.keep HD11.out)
        have V11_ROW := Lib.hid (V10_ROW.out.keep HD11.out)
        have V11_z1 := Lib.hid (V10_z1.out.keep HD11.out)
        have V11_z2 := Lib.hid (V10_z2.out.keep HD11.out)
        have V11_Y := Lib.hid (V10_Y.out.keep HD11.out)
        have V11_z := Lib.hid (V10_z.out.keep HD11.out)
        have V11_tp := Lib.hid (V10_tp.out.keep HD11.out)
        have V11_td := Lib.hid (N10.out.keep HD11.out)
        have B11_0 := Lib.hid (Below.next B10_0.out HD11.out)
        have HW11 := Lib.hid (Below.next HW10.out HD11.out)
        clear k10_0 l10_0 k10_1 l10_1 k10_2 l10_2 k10_3 l10_3 k10_4 l10_4 hb HD11 L10_0 L10_1 L10_2 L10_3 L10_4 V10_v V10_p V10_d V10_S V10_ROW V10_z1 V10_z2 V10_Y V10_z V10_tp N10 B10_0 HW10
        have k11_0 := L11_0.out.cell
        have l11_0 := L11_0.out.lt
        have k11_1 := L11_1.out.cell
        have l11_1 := L11_1.out.lt
        have k11_2 := L11_2.out.cell
        have l11_2 := L11_2.out.lt
        have k11_3 := L11_3.out.cell
        have l11_3 := L11_3.out.lt
        have k11_4 := L11_4.out.cell
        have l11_4 := L11_4.out.lt
        have k11_5 := L11_5.out.cell
        have l11_5 := L11_5.out.lt
        go_wp2_with fail
        refine (CS2.out _ _ _ (V11_td.out) (V11_z.out)).mono ?_
        rintro e w12 ⟨rfl, hb⟩
        have HD12 := Lib.hid (show Below w11.heap.size w11 w12 from hb)
        have L12_0 := Lib.hid (L11_0.out.keep HD12.out)
        have L12_1 := Lib.hid (L11_1.out.keep HD12.out)
        have L12_2 := Lib.hid (L11_2.out.keep HD12.out)
        have L12_3 := Lib.hid (L11_3.out.keep HD12.out)
        have L12_4 := Lib.hid (L11_4.out.keep HD12.out)
        have L12_5 := Lib.hid (L11_5.out.keep HD12.out)
        have V12_v := Lib.hid (V11_v.out.keep HD12.out)
        have V12_p := Lib.hid (V11_p.out.keep HD12.out)
        have V12_d := Lib.hid (V11_d.out.keep HD12.out)
        have V12_S := Lib.hid (V11_S.out.keep HD12.out)
        have V12_ROW := Lib.hid (V11_ROW.out.keep HD12.out)
        have V12_z1 := Lib.hid (V11_z1.out.keep HD12.out)
        have V12_z2 := Lib.hid (V11_z2.out.keep HD12.out)
        have V12_Y := Lib.hid (V11_Y.out.keep HD12.out)
        have V12_z := Lib.hid (V11_z.out.keep HD12.out)
        have V12_tp := Lib.hid (V11_tp.out.keep HD12.out)
        have V12_td := Lib.hid (V11_td.out.keep HD12.out)
        have B12_0 := Lib.hid (Below.next B11_0.out HD12.out)
        have HW12 := Lib.hid (Below.next HW11.out HD12.out)
        clear k11_0 l11_0 k11_1 l11_1 k11_2 l11_2 k11_3 l11_3 k11_4 l11_4 k11_5 l11_5 hb HD12 L11_0 L11_1 L11_2 L11_3 L11_4 L11_5 V11_v V11_p V11_d V11_S V11_ROW V11_z1 V11_z2 V11_Y V11_z V11_tp V11_td B11_0 HW11
        have k12_0 := L12_0.out.cell
        have l12_0 := L12_0.out.lt
        have k12_1 := L12_1.out.cell
        have l12_1 := L12_1.out.lt
        have k12_2 := L12_2.out.cell
        have l12_2 := L12_2.out.lt
        have k12_3 := L12_3.out.cell
        have l12_3 := L12_3.out.lt
        have k12_4 := L12_4.out.cell
        have l12_4 := L12_4.out.lt
        have k12_5 := L12_5.out.cell
        have l12_5 := L12_5.out.lt
        go_wp2_with fail
        go_roundw
        case rel => exact ⟨q + 1, by omega, by go_num, B12_0.out⟩
        case measure => simp [intOf]; omega
      case neg =>
        obtain rfl : q = L.length := by omega
        rename World => wr0
        go_wp2_with fail
        go_loopw [20] (fun x wr => ∃ j : Nat, 1 ≤ j ∧ j ≤ st.length ∧ x = .int .i64 j ∧ Below wr0.heap.size wr0 wr) (fun x _ => st.length - (intOf x).toNat)
        case atStart => exact ⟨1, Nat.le_refl _, List.length_pos_iff.2 hst0, rfl, Below.refl _ _⟩
        case round =>
          obtain ⟨j, hj0, hj, rfl, hbj⟩ := hrel
          have L9_0 := Lib.hid (L8_0.out.keep hbj)
          have L9_1 := Lib.hid (L8_1.out.keep hbj)
          have L9_2 := Lib.hid (L8_2.out.keep hbj)
          have V9_v := Lib.hid (V8_v.out.keep hbj)
          have V9_p := Lib.hid (V8_p.out.keep hbj)
          have V9_d := Lib.hid (V8_d.out.keep hbj)
          have V9_S := Lib.hid (V8_S.out.keep hbj)
          have V9_ROW := Lib.hid (V8_ROW.out.keep hbj)
          have V9_z1 := Lib.hid (V8_z1.out.keep hbj)
          have V9_z2 := Lib.hid (V8_z2.out.keep hbj)
          have HW9 := Lib.hid (Below.next HW8.out hbj)
          have BL9 := Lib.hid hbj
          clear k8_0 l8_0 k8_1 l8_1 k8_2 l8_2 hbj
          have k9_0 := L9_0.out.cell; have l9_0 := L9_0.out.lt
          have k9_1 := L9_1.out.cell; have l9_1 := L9_1.out.lt
          have k9_2 := L9_2.out.cell; have l9_2 := L9_2.out.lt
          by_cases hlt : j < st.length
          case neg =>
            have gj : ¬ ((j : Int) < (st.length : Int)) := by omega
            go_wp2_with (go_at_call 44; refine (awake2 _).mono ?_; rintro e w9 ⟨rfl, hb9⟩)
            go_ret
            exact ⟨rfl, Below.next HW9.out hb9⟩
          have kk1 : (0 : Int) ≤ (j : Int) := by omega
          have kk2 : (j : Int) ≤ (sxc : Int) := by omega
          have kk3 : (0 : Int) ≤ (sxc : Int) := by omega
          have kk4 : (j : Int) ≤ (st.length : Int) := by omega
          have kk5 : (j : Int) < (st.length : Int) := by omega
          obtain ⟨hwp, hwd⟩ := HWY.out j hj0 hlt
          obtain ⟨bp, hbp⟩ : ∃ b, (getP (st.take j) p).isSome = b := ⟨_, rfl⟩
          obtain ⟨tp, htp⟩ : ∃ b, (getP (st.take j) p).getD T.zero = b := ⟨_, rfl⟩
          have Ep : Hid (∀ (w : World) (c0 : Value), RepT w (fun _ => True) c0 p → RepS w (fun _ => True) sx st → Calls Try.prog 45 #[c0, .slice sx j sxc] w (GotB w bp tp)) := fun w c0 h1 h2 => by have := tpget_take hj p HPN.out sx sxc c0 w _ h1 h2 (by omega); rw [hbp, htp] at this; exact this
          obtain ⟨bd, hbd⟩ : ∃ b, (getP (st.take j) d).isSome = b := ⟨_, rfl⟩
          obtain ⟨td, htd⟩ : ∃ b, (getP (st.take j) d).getD T.zero = b := ⟨_, rfl⟩
          have Ed : Hid (∀ (w : World) (c0 : Value), RepT w (fun _ => True) c0 d → RepS w (fun _ => True) sx st → Calls Try.prog 45 #[c0, .slice sx j sxc] w (GotB w bd td)) := fun w c0 h1 h2 => by have := tpget_take hj d HDN.out sx sxc c0 w _ h1 h2 (by omega); rw [hbd, htd] at this; exact this
          have HF1 := Lib.hid (show bp = true → tp.map ≠ [] from fun h => by rw [← hbp] at h; obtain ⟨y, hy⟩ := Option.isSome_iff_exists.1 h; rw [← htp, hy]; exact hwp y hy)
          have HF2 := Lib.hid (show bd = true ∧ td.kind = 5 from by obtain ⟨y, hy, h5⟩ := hwd; rw [← hbd, ← htd, hy]; exact ⟨rfl, h5⟩)
          clear hbp htp hbd htd hwp hwd
          go_wp2_with fail
          go_cut [21, 22] from 130 to 136 (fun p1 p2 wx => ∃ (g : Nat) (ia : Option Addr) (ic : Nat) (im : Option Addr) (jn : Nat), p1 = .pointer (some ⟨g, 0, none⟩) ∧ p2 = .bool bp ∧ Boxed wr wx g tp ia ic im jn)
          case first =>
            go_region_with (first
              | (go_at_call 45; first
                | ((with_reducible refine (Ep.out _ _ (V9_p.out.keep (by exact (Below.refl _ _).drew)) (V9_S.out.keep (by exact (Below.refl _ _).drew))).mono ?_); rintro e w1 ⟨v1, rfl, hr1, hb1⟩; obtain ⟨la2, lc2, ma2, mc2, rfl, -⟩ := hr1.inv; have HBX := Lib.hid (Boxed.behind hb1 hr1); clear hb1 hr1)
                | ((with_reducible refine (Ep.out _ _ (V9_p.out.keep (by exact (Below.new _ _).drew)) (V9_S.out.keep (by exact (Below.new _ _).drew))).mono ?_); rintro e w1 ⟨v1, rfl, hr1, hb1⟩; obtain ⟨la2, lc2, ma2, mc2, rfl, -⟩ := hr1.inv; have kz := (((Blk.new wr 25 #[.int .i64 0, .bool false, .int .i64 0, .string ⟨#[]⟩, .slice none 0 0, .slice none 0 0]).drew).keep hb1).cell; have fz := (((Blk.new wr 25 #[.int .i64 0, .bool false, .int .i64 0, .string ⟨#[]⟩, .slice none 0 0, .slice none 0 0]).drew).keep hb1).frozen; have lz := (((Blk.new wr 25 #[.int .i64 0, .bool false, .int .i64 0, .string ⟨#[]⟩, .slice none 0 0, .slice none 0 0]).drew).keep hb1).lt; have HBX := Lib.hid (Boxed.ahead hb1 hr1); clear hb1 hr1)))
            all_goals
              go_wp2_with fail
              go_meet
              exact ⟨_, _, _, _, _, rfl, rfl, HBX.out⟩
          case rest =>
            obtain ⟨gp, pja, pjc, pjm, pjn, rfl, rfl, hbx⟩ := hcut
            rename World => w6
            have hbe := hbx.bel; have NB := Lib.hid hbx.box; have NV := Lib.hid (hbx.rep.weak (S' := fun _ => True) (fun _ _ _ => trivial)); clear hbx
            have hbe2 := Below.next BL9.out hbe
            have L10_0 := Lib.hid (L9_0.out.keep hbe)
            have L10_1 := Lib.hid (L9_1.out.keep hbe)
            have L10_2 := Lib.hid (L9_2.out.keep hbe)
            have V10_v := Lib.hid (V9_v.out.keep hbe)
            have V10_p := Lib.hid (V9_p.out.keep hbe)
            have V10_d := Lib.hid (V9_d.out.keep hbe)
            have V10_S := Lib.hid (V9_S.out.keep hbe)
            have V10_ROW := Lib.hid (V9_ROW.out.keep hbe)
            have V10_z1 := Lib.hid (V9_z1.out.keep hbe)
            have V10_z2 := Lib.hid (V9_z2.out.keep hbe)
            have HW10 := Lib.hid (Below.next HW9.out hbe)
            have BL10 := Lib.hid hbe
            clear k9_0 l9_0 k9_1 l9_1 k9_2 l9_2 hbe
            have k10_0 := L10_0.out.cell; have l10_0 := L10_0.out.lt
            have k10_1 := L10_1.out.cell; have l10_1 := L10_1.out.lt
            have k10_2 := L10_2.out.cell; have l10_2 := L10_2.out.lt
            have OB10 := Lib.hid hbe2; clear hbe2 BL9
            have k10_n := NB.out.cell; have l10_n := NB.out.lt
            have NBp := NB; clear NB; clear NV
            go_wp2_with fail
            go_cut [23, 24] from 138 to 144 (fun p1 p2 wx => ∃ (g : Nat) (ia : Option Addr) (ic : Nat) (im : Option Addr) (jn : Nat), p1 = .pointer (some ⟨g, 0, none⟩) ∧ p2 = .bool bd ∧ Boxed w6 wx g td ia ic im jn)
            case first =>
              go_region_with (first
                | (go_at_call 45; first
                  | ((with_reducible refine (Ed.out _ _ (V10_d.out.keep (by exact (Below.refl _ _).drew)) (V10_S.out.keep (by exact (Below.refl _ _).drew))).mono ?_); rintro e w1 ⟨v1, rfl, hr1, hb1⟩; obtain ⟨la2, lc2, ma2, mc2, rfl, -⟩ := hr1.inv; have HBX := Lib.hid (Boxed.behind hb1 hr1); clear hb1 hr1)
                  | ((with_reducible refine (Ed.out _ _ (V10_d.out.keep (by exact (Below.new _ _).drew)) (V10_S.out.keep (by exact (Below.new _ _).drew))).mono ?_); rintro e w1 ⟨v1, rfl, hr1, hb1⟩; obtain ⟨la2, lc2, ma2, mc2, rfl, -⟩ := hr1.inv; have kz := (((Blk.new w6 25 #[.int .i64 0, .bool false, .int .i64 0, .string ⟨#[]⟩, .slice none 0 0, .slice none 0 0]).drew).keep hb1).cell; have fz := (((Blk.new w6 25 #[.int .i64 0, .bool false, .int .i64 0, .string ⟨#[]⟩, .slice none 0 0, .slice none 0 0]).drew).keep hb1).frozen; have lz := (((Blk.new w6 25 #[.int .i64 0, .bool false, .int .i64 0, .string ⟨#[]⟩, .slice none 0 0, .slice none 0 0]).drew).keep hb1).lt; have HBX := Lib.hid (Boxed.ahead hb1 hr1); clear hb1 hr1)))
              all_goals
                go_wp2_with fail
                go_meet
                exact ⟨_, _, _, _, _, rfl, rfl, HBX.out⟩
            case rest =>
              obtain ⟨gd, dja, djc, djm, djn, rfl, rfl, hbx⟩ := hcut
              rename World => w7
              have hbe := hbx.bel; have NB := Lib.hid hbx.box; have NV := Lib.hid (hbx.rep.weak (S' := fun _ => True) (fun _ _ _ => trivial)); clear hbx
              have hbe2 := Below.next OB10.out hbe
              have L11_0 := Lib.hid (L10_0.out.keep hbe)
              have L11_1 := Lib.hid (L10_1.out.keep hbe)
              have L11_2 := Lib.hid (L10_2.out.keep hbe)
              have L11_3 := Lib.hid (NBp.out.keep hbe)
              have V11_v := Lib.hid (V10_v.out.keep hbe)
              have V11_p := Lib.hid (V10_p.out.keep hbe)
              have V11_d := Lib.hid (V10_d.out.keep hbe)
              have V11_S := Lib.hid (V10_S.out.keep hbe)
              have V11_ROW := Lib.hid (V10_ROW.out.keep hbe)
              have V11_z1 := Lib.hid (V10_z1.out.keep hbe)
              have V11_z2 := Lib.hid (V10_z2.out.keep hbe)
              have HW11 := Lib.hid (Below.next HW10.out hbe)
              have BL11 := Lib.hid hbe
              clear k10_0 l10_0 k10_1 l10_1 k10_2 l10_2 k10_n l10_n hbe
              have k11_0 := L11_0.out.cell; have l11_0 := L11_0.out.lt
              have k11_1 := L11_1.out.cell; have l11_1 := L11_1.out.lt
              have k11_2 := L11_2.out.cell; have l11_2 := L11_2.out.lt
              have k11_3 := L11_3.out.cell; have l11_3 := L11_3.out.lt
              have OB11 := Lib.hid hbe2; clear hbe2 OB10
              have k11_n := NB.out.cell; have l11_n := NB.out.lt
              have NBd := NB; clear NB; clear NV
              have hj5 : (td.kind != 5) = false := by rw [HF2.out.2]; rfl
              obtain rfl := HF2.out.1
              cases bp
              case false =>
                go_wp2_with fail
                go_roundw
                case rel => exact ⟨j + 1, by omega, by omega, by go_num, OB11.out⟩
                case measure => simp [intOf]; omega
              have hi5 : ((tp.map.length : Int) == 0) = false := beq_eq_false_iff_ne.2 (by have := List.length_pos_iff.2 (HF1.out rfl); omega)
              go_wp2_with fail
              go_roundw
              case rel => exact ⟨j + 1, by omega, by omega, by go_num, OB11.out⟩
              case measure => simp [intOf]; omega
end Go.Proofs.Ytmdihildjblgnaa
