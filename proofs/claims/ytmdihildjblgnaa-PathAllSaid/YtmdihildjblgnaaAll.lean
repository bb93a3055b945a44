/- PathAll answers true for every input: the law. -/
import Derived.Test.YtmdihildjblgnaaAllP
import Derived.Test.YtmdihildjblgnaaSzD
namespace Go.Proofs.Ytmdihildjblgnaa
open Go.RowKit
attribute [local go_sem ↓] Go.wp_at_zero Go.wp_at_succ

/-- What one round of the law's loop asks. -/
theorem all_round {v : T} (hg : Good v) (h5 : v.kind = 5) (hm : v.map ≠ []) {by_ q : Nat} (hq : q < v.leaves.length) : ∃ (P P2 D D2 : T) (k : Nat) (hk : k < v.leaves.length), k = (q + by_) % v.leaves.length ∧ P = prA ((turned v.leaves (by_ % v.leaves.length)).take q) v ∧ P2 = prA ((turned v.leaves (by_ % v.leaves.length)).take (q + 1)) v ∧
    D = drA ((turned v.leaves (by_ % v.leaves.length)).take q) v ∧ D2 = drA ((turned v.leaves (by_ % v.leaves.length)).take (q + 1)) v ∧
    Neat 6000 P ∧ Neat 6000 D ∧ v.leaves[k].1.length ≤ 6000 ∧ pruneW v.leaves[k].1 P = P2 ∧ dropP v.leaves[k].1 D = D2 := by
  have hn : 0 < v.leaves.length := by omega
  have hk : (q + by_) % v.leaves.length < v.leaves.length := Nat.mod_lt _ hn
  have hR := turned_perm v.leaves (by_ % v.leaves.length)
  have hql : q < (turned v.leaves (by_ % v.leaves.length)).length := by rw [turned_len]; exact hq
  have e : (turned v.leaves (by_ % v.leaves.length))[q] = v.leaves[(q + by_) % v.leaves.length] := by
    rw [turned_get (L := v.leaves) (k := by_ % v.leaves.length) hq (Nat.mod_lt _ hn) (by rw [Nat.add_mod_mod]; exact hk) hql]
    simp only [Nat.add_mod_mod]
  refine ⟨_, _, _, _, _, hk, rfl, rfl, rfl, rfl, rfl, (prA_inv hg.neat h5 hm hR q (Nat.le_of_lt hql)).1, (drA_inv hg.neat h5 hm hR q (Nat.le_of_lt hql)).1, ?_, ?_, ?_⟩
  · have := (leaves_wt v).2 _ (List.getElem_mem hk); have := hg.1; omega
  · rw [List.take_succ_eq_append_getElem hql, prA_snoc, e]
  · rw [List.take_succ_eq_append_getElem hql, drA_snoc, e]
theorem all_end {v : T} (hg : Good v) (h5 : v.kind = 5) (hm : v.map ≠ []) (by_ : Nat) :
    (prA ((turned v.leaves (by_ % v.leaves.length)).take v.leaves.length) v).kind = 5 ∧ (prA ((turned v.leaves (by_ % v.leaves.length)).take v.leaves.length) v).map = [] ∧
    Neat 6000 (drA ((turned v.leaves (by_ % v.leaves.length)).take v.leaves.length) v) ∧ (drA ((turned v.leaves (by_ % v.leaves.length)).take v.leaves.length) v).kind = 5 ∧ (drA ((turned v.leaves (by_ % v.leaves.length)).take v.leaves.length) v).wt ≤ 6000 ∧
    ∀ l ∈ (drA ((turned v.leaves (by_ % v.leaves.length)).take v.leaves.length) v).leaves, l.2.kind = 5 := by
  rw [List.take_of_length_le (l := turned v.leaves _) (by rw [turned_len]; exact Nat.le_refl _)]
  have hR := turned_perm v.leaves (by_ % v.leaves.length)
  obtain ⟨a, b⟩ := prA_end hg.neat h5 hm hR
  obtain ⟨c, d, e, f⟩ := drA_end hg.neat h5 hm hR
  exact ⟨a, b, c, d, Nat.le_trans e hg.1, f⟩

set_option maxRecDepth 100000 in
set_option maxHeartbeats 40000000 in
theorem allL (v : T) (n : Int) (hn0 : 0 ≤ n) (hn1 : n ≤ 255) (vv : Value) (w : World) (hv : RepT w (fun _ => True) vv v) :
    Calls Try.prog 14 #[vv, .int .u8 n] w fun e w' => e = .returned (.bool true) ∧ Below w.heap.size w w' := by
  obtain ⟨la, lc, ma, mc, rfl, -⟩ := hv.inv
  have HV := Lib.hid hv
  clear hv
  go_enter Try.func14, Try.ntmps14
  go_wp2_with fail
  refine (right [v] _ (fun _ => True) _ 1 (repE_L.1 (rep_block (E := eltV) (S := fun _ => True) (l := [v]) [[.int .i64 v.kind, .bool v.bool, .int .i64 v.int, .string v.str, .slice la v.list.length lc, .slice ma v.map.length mc]] (Blk.new_at (w.alloc (.cells #[.int .i64 v.kind, .bool v.bool, .int .i64 v.int, .string v.str, .slice la v.list.length lc, .slice ma v.map.length mc] 25)) 25 #[.int .i64 v.kind, .bool v.bool, .int .i64 v.int, .string v.str, .slice la v.list.length lc, .slice ma v.map.length mc] (n := w.heap.size + 1) (by simp)) rfl trivial ⟨HV.out.keep (by exact (Below.new _ _).alloc (by simp) _), trivial⟩)) (by simp)).mono ?_
  rintro e w1 ⟨r, rfl, hr, hb⟩
  have hb1 : Below w.heap.size w w1 := Below.next ((Below.new _ _).alloc (by simp) _) hb
  have L0 := Lib.hid (((Blk.new w 25 #[.int .i64 v.kind, .bool v.bool, .int .i64 v.int, .string v.str, .slice la v.list.length lc, .slice ma v.map.length mc]).alloc (.cells #[.int .i64 v.kind, .bool v.bool, .int .i64 v.int, .string v.str, .slice la v.list.length lc, .slice ma v.map.length mc] 25)).keep hb)
  have HW1 := Lib.hid hb1
  have HV1 := Lib.hid (HV.out.keep hb1)
  have HR := Lib.hid hr
  clear hb hb1 HV hr
  have q_0 := L0.out.cell
  have l_0 := L0.out.lt
  cases r
  · go_wp2_with (go_at_call 44; refine (awake2 _).mono ?_; rintro e w9 ⟨rfl, hb9⟩)
    go_ret
    exact ⟨rfl, Below.next HW1.out hb9⟩
  have hg : Good v := HR.out rfl v (by simp)
  by_cases h5 : v.kind = 5
  case neg =>
    have g5 : (v.kind != 5) = true := bne_iff_ne.2 h5
    clear h5 hg
    go_wp2_with (go_at_call 44; refine (awake2 _).mono ?_; rintro e w9 ⟨rfl, hb9⟩)
    go_ret
    exact ⟨rfl, Below.next HW1.out hb9⟩
  by_cases hm : v.map = []
  case pos =>
    have g5 : (v.kind != 5) = false := by rw [h5]; rfl
    have g6 : ((v.map.length : Int) == 0) = true := by rw [hm]; rfl
    clear h5 hg hm
    go_wp2_with (go_at_call 44; refine (awake2 _).mono ?_; rintro e w9 ⟨rfl, hb9⟩)
    go_ret
    exact ⟨rfl, Below.next HW1.out hb9⟩
  have g5 : (v.kind != 5) = false := by rw [h5]; rfl
  have g6 : ((v.map.length : Int) == 0) = false := beq_eq_false_iff_ne.2 (by have := List.length_pos_iff.2 hm; omega)
  have CP := Lib.hid (fun w c (h : RepT w (fun _ => True) c v) => tpleaves v hg.neat (by have := hg.1; omega) c w _ h)
  have hL1 : v.leaves.length ≤ 6000 := by have := (leaves_wt v).1; have := hg.1; omega
  have hL0 : v.leaves.length ≠ 0 := fun e => leaves_ne v (List.eq_nil_of_length_eq_zero e)
  have HRD := Lib.hid (fun q (hq : q < v.leaves.length) => all_round hg h5 hm (by_ := n.toNat) hq)
  have HED := Lib.hid (all_end hg h5 hm n.toNat)
  have hsz : v.size < 4611686018427387904 := by have := size_le_wt v; have := hg.1; omega
  clear HR hg h5 hm
  go_wp2_with fail
  refine (tsize v _ _ _ HV1.out hsz).mono ?_
  rintro e w2 ⟨rfl, hb2⟩
  replace L0 := Lib.hid (L0.out.keep hb2); replace HW1 := Lib.hid (Below.next HW1.out hb2); replace HV1 := Lib.hid (HV1.out.keep hb2)
  clear q_0 l_0 hb2
  have q_0 := L0.out.cell
  have l_0 := L0.out.lt
  by_cases h300 : 300 < v.size
  case pos =>
    have g7 : decide (300 < (v.size : Int)) = true := decide_eq_true (by omega)
    clear h300
    go_wp2_with (go_at_call 44; refine (awake2 _).mono ?_; rintro e w9 ⟨rfl, hb9⟩)
    go_ret
    exact ⟨rfl, Below.next HW1.out hb9⟩
  have g7 : decide (300 < (v.size : Int)) = false := decide_eq_false (by omega)
  clear h300
  go_wp2_with fail
  refine (CP.out _ _ HV1.out).mono ?_
  rintro e w3 ⟨A2, c2, rfl, hrep2, hlc2, hcm2, hb3⟩
  replace L0 := Lib.hid (L0.out.keep hb3); replace HW1 := Lib.hid (Below.next HW1.out hb3); replace HV1 := Lib.hid (HV1.out.keep hb3)
  have HP := Lib.hid hrep2
  clear q_0 l_0 hb3 hrep2
  have q_0 := L0.out.cell
  have l_0 := L0.out.lt
  generalize hLe : v.leaves = L at *
  clear hLe
  go_wp2_with fail
  go_cut [6, 7] from 35 to 36 (fun p6 p7 wx => ∃ (g6 g7 : Nat), p6 = .pointer (some ⟨g6, 0, none⟩) ∧ p7 = .pointer (some ⟨g7, 0, none⟩) ∧ g6 ≠ g7 ∧ w3.heap.size ≤ g6 ∧ w3.heap.size ≤ g7 ∧ Hid (Blk wx g6 25 #[.int .i64 v.kind, .bool v.bool, .int .i64 v.int, .string v.str, .slice la v.list.length lc, .slice ma v.map.length mc]) ∧ Hid (Blk wx g7 25 #[.int .i64 v.kind, .bool v.bool, .int .i64 v.int, .string v.str, .slice la v.list.length lc, .slice ma v.map.length mc]) ∧ Hid (Below w3.heap.size w3 wx))
  case first =>
    go_region_held3 (fun w' => (∀ i, w'.cell? ⟨w.heap.size, i, none⟩ = (#[.int .i64 v.kind, .bool v.bool, .int .i64 v.int, .string v.str, .slice la v.list.length lc, .slice ma v.map.length mc] : Array Value)[i]?)) (first | (with_reducible exact q_0) | (refine fun i => ?_; (simp (disch := ((try simp only [size_alloc, size_drew, size_set]); omega)) only [cell_alloc_lt, cell_drew]; with_reducible exact q_0 i))) (fail)
    all_goals
      go_wp2_with fail
      go_meet
      refine ⟨_, _, rfl, rfl, ?_, ?_, ?_, ?_, ?_, ?_⟩
      · first | omega | ((try simp only [size_alloc, size_drew, size_set]); omega)
      · first | omega | ((try simp only [size_alloc, size_drew, size_set]); omega)
      · first | omega | ((try simp only [size_alloc, size_drew, size_set]); omega)
      · first | exact ((Blk.new _ _ _).alloc _).drew | exact (Blk.new2 _ _ _ _).drew
      · first | exact ((Blk.new _ _ _).alloc _).drew | exact (Blk.new2 _ _ _ _).drew
      · exact ((Below.new _ _).alloc (by simp) _).drew
  case rest =>
    obtain ⟨g6, g7, rfl, rfl, hg67, hg6, hg7, hk6, hk7, hbc⟩ := hcut
    have K6 := Lib.hid hk6.out; have K7 := Lib.hid hk7.out; have HBC := Lib.hid hbc.out
    have RV := Lib.hid (((HV1.out.mono (w' := w3) (S' := fun b => b < w3.heap.size) (fun _ _ h => h) (fun _ _ _ _ => rfl)).keep HBC.out).weak (S' := fun b => b ≠ g6 ∧ b ≠ g7) (fun b hb _ => ⟨by omega, by omega⟩))
    have HP2 := Lib.hid ((HP.out.mono (w' := w3) (S' := fun b => b < w3.heap.size) (fun _ _ h => h) (fun _ _ _ _ => rfl)).keep HBC.out)
    have HW2 := Lib.hid (Below.next HW1.out HBC.out)
    have hw0 := HW1.out.size
    clear hk6 hk7 hbc q_0 l_0 HP HW1 HV1 L0
    have hL3 : (0 : Int) < (L.length : Int) := by omega
    have hw3 := HW2.out.size
    go_wp2_with fail
    go_loopw [39] (fun x wr => ∃ (q : Nat) (P D : T) (la4 : Option Addr) (lc4 : Nat) (ma4 : Option Addr) (mc4 : Nat) (la5 : Option Addr) (lc5 : Nat) (ma5 : Option Addr) (mc5 : Nat), q ≤ L.length ∧ x = .int .i64 q ∧ Hid (P = prA ((turned L (n.toNat % L.length)).take q) v) ∧ Hid (D = drA ((turned L (n.toNat % L.length)).take q) v) ∧ Hid (Below w.heap.size w wr) ∧ Hid (Below w3.heap.size w3 wr) ∧ Hid (Blk wr g6 25 #[.int .i64 P.kind, .bool P.bool, .int .i64 P.int, .string P.str, .slice la4 P.list.length lc4, .slice ma4 P.map.length mc4]) ∧ Hid (Blk wr g7 25 #[.int .i64 D.kind, .bool D.bool, .int .i64 D.int, .string D.str, .slice la5 D.list.length lc5, .slice ma5 D.map.length mc5]) ∧ Hid (RepT wr (fun b => b ≠ g6 ∧ b ≠ g7) (.agg #[.int .i64 P.kind, .bool P.bool, .int .i64 P.int, .string P.str, .slice la4 P.list.length lc4, .slice ma4 P.map.length mc4]) P) ∧ Hid (RepT wr (fun b => b ≠ g6 ∧ b ≠ g7) (.agg #[.int .i64 D.kind, .bool D.bool, .int .i64 D.int, .string D.str, .slice la5 D.list.length lc5, .slice ma5 D.map.length mc5]) D) ∧ Hid (RepE eltP2 wr (fun b => b < w3.heap.size) A2 L)) (fun x _ => L.length - (intOf x).toNat)
    case atStart => exact ⟨0, v, v, _, _, _, _, _, _, _, _, Nat.zero_le _, rfl, rfl, rfl, HW2, HBC, K6, K7, RV, RV, HP2⟩
    case round =>
      obtain ⟨q, P, D, la4, lc4, ma4, mc4, la5, lc5, ma5, mc5, hq, rfl, hP, hD, hbw, hb3, hk6, hk7, hrp, hrd, hp⟩ := hrel
      clear HW2 HBC K6 K7 RV HP2
      have HBW := Lib.hid hbw.out; have HB3 := Lib.hid hb3.out; have K6 := Lib.hid hk6.out; have K7 := Lib.hid hk7.out; have RP := Lib.hid hrp.out; have RD := Lib.hid hrd.out; have HP := Lib.hid hp.out
      clear hbw hb3 hk6 hk7 hrp hrd hp
      by_cases hlt : q < L.length
      · obtain ⟨P', P2, D', D2, k, hk, hke, hP1, hP2, hD1, hD2, hnP, hnD, hst6, hpr, hdr⟩ := HRD.out q hlt
        obtain rfl : P' = P := hP1.trans hP.out.symm
        obtain rfl : D' = D := hD1.trans hD.out.symm
        obtain ⟨b4, o4, sx, sxc, la7, lc7, ma7, mc7, rfl, hbx, ⟨x0, x1, x2, x3, x4, x5, x6⟩, hsx1, hsx2, hsx, -⟩ := leaf_at HP.out hk
        have CPR := Lib.hid (fun w' c0 (h0 : RepT w' (fun _ => True) c0 P') (h1 : RepS w' (fun _ => True) sx L[k].1) => (show Calls Try.prog 51 #[c0, .slice sx L[k].1.length sxc] w' (NewPost w' P2) from hpr ▸ tpprune (n := 6000) (by omega) L[k].1 P' hnP sx sxc c0 w' _ h0 h1 (by omega) hsx1 hsx2))
        have CDR := Lib.hid (fun w' c0 (h0 : RepT w' (fun _ => True) c0 D') (h1 : RepS w' (fun _ => True) sx L[k].1) => (show Calls Try.prog 49 #[c0, .slice sx L[k].1.length sxc] w' (NewPost w' D2) from hdr ▸ tpdrop (n := 6000) (by omega) L[k].1 D' hnD sx sxc c0 w' _ h0 h1 hsx1 hsx2))
        have HP2 := Lib.hid hP2; have HD2 := Lib.hid hD2
        have hkk : ((q : Int) + n) % (L.length : Int) = (k : Int) := by rw [hke, Int.natCast_emod, Int.natCast_add, Int.toNat_of_nonneg hn0]
        have hk1 : (0 : Int) ≤ (k : Int) := by omega
        have hk2 : (k : Int) < (L.length : Int) := by omega
        have hn2 : (q : Int) + n ≤ 10000 := by omega
        have hn3 : (0 : Int) ≤ (q : Int) + n := by omega
        have HSX := Lib.hid (hsx.weak (S' := fun _ => True) (fun _ _ => trivial))
        have hgl6 := K6.out.lt
        have hgl7 := K7.out.lt
        clear hsx hP hD hP1 hD1 hP2 hD2 hnP hnD hst6 hpr hdr hke
        generalize L[k] = lx at *
        obtain ⟨xs, xv⟩ := lx
        simp only at *
        have k6 := K6.out.cell; have k7 := K7.out.cell
        go_wp2_with fail
        have hbn := Below.new wr (.cells #[.slice sx xs.length sxc, .int .i64 xv.kind, .bool xv.bool, .int .i64 xv.int, .string xv.str, .slice la7 xv.list.length lc7, .slice ma7 xv.map.length mc7] 66)
        obtain ⟨wn, ewn⟩ : ∃ z, z = wr.alloc (.cells #[.slice sx xs.length sxc, .int .i64 xv.kind, .bool xv.bool, .int .i64 xv.int, .string xv.str, .slice la7 xv.list.length lc7, .slice ma7 xv.map.length mc7] 66) := ⟨_, rfl⟩
        have KX := Lib.hid (show Blk wn wr.heap.size 66 #[.slice sx xs.length sxc, .int .i64 xv.kind, .bool xv.bool, .int .i64 xv.int, .string xv.str, .slice la7 xv.list.length lc7, .slice ma7 xv.map.length mc7] from ewn ▸ Blk.new _ _ _)
        rw [← ewn] at hbn
        rw [← ewn]
        have HBN := hbn
        have szn : wn.heap.size = wr.heap.size + 1 := by rw [ewn, size_alloc]
        clear k6 k7 ewn hbn
        replace K6 := Lib.hid (K6.out.keep HBN); replace K7 := Lib.hid (K7.out.keep HBN); replace RP := Lib.hid (RP.out.keep HBN); replace RD := Lib.hid (RD.out.keep HBN); replace HBW := Lib.hid (Below.next HBW.out HBN); replace HB3 := Lib.hid (Below.next HB3.out HBN); replace HP := Lib.hid (HP.out.keep HBN); replace HSX := Lib.hid (HSX.out.keep HBN)
        clear HBN
        have k6 := K6.out.cell; have k7 := K7.out.cell; have kx := KX.out.cell; have l6 := K6.out.lt; have l7 := K7.out.lt; have lx := KX.out.lt
        go_region_with (first
          | (go_at_call 51; ((with_reducible refine (CPR.out _ _ ((RP.out.weak (fun _ _ _ => trivial)).keep (by exact (Below.refl _ _).drew)) (HSX.out.keep (by exact (Below.refl _ _).drew))).mono ?_)); rintro e wp ⟨vp, rfl, hr, hb⟩; obtain ⟨la8, lc8, ma8, mc8, rfl, -⟩ := hr.inv; have HBN := Below.next ((Below.refl _ _).drew) hb; have szp := hb.size; replace KX := Lib.hid (KX.out.keep HBN); replace K6 := Lib.hid (K6.out.keep HBN); replace K7 := Lib.hid (K7.out.keep HBN); replace RP := Lib.hid (RP.out.keep HBN); replace RD := Lib.hid (RD.out.keep HBN); replace HBW := Lib.hid (Below.next HBW.out HBN); replace HB3 := Lib.hid (Below.next HB3.out HBN); replace HP := Lib.hid (HP.out.keep HBN); replace HSX := Lib.hid (HSX.out.keep HBN); have HRP := Lib.hid hr; have k6' := K6.out.cell; have k7' := K7.out.cell; have kx' := KX.out.cell; have l6' := K6.out.lt; have l7' := K7.out.lt; have lx' := KX.out.lt; clear hr hb HBN)
          | (go_at_call 49; ((with_reducible refine (CDR.out _ _ (RD.out.weak (fun _ _ _ => trivial)) HSX.out).mono ?_)); rintro e wd ⟨vd, rfl, hr, hb⟩; obtain ⟨la9, lc9, ma9, mc9, rfl, -⟩ := hr.inv; have HBN := hb; have szd := hb.size; replace KX := Lib.hid (KX.out.keep HBN); replace K6 := Lib.hid (K6.out.keep HBN); replace K7 := Lib.hid (K7.out.keep HBN); replace RP := Lib.hid (RP.out.keep HBN); replace RD := Lib.hid (RD.out.keep HBN); replace HBW := Lib.hid (Below.next HBW.out HBN); replace HB3 := Lib.hid (Below.next HB3.out HBN); replace HP := Lib.hid (HP.out.keep HBN); replace HSX := Lib.hid (HSX.out.keep HBN); replace HRP := Lib.hid (HRP.out.keep HBN); have HRDD := Lib.hid hr; have k6'' := K6.out.cell; have k7'' := K7.out.cell; have z6 := K6.out.frozen; have z7 := K7.out.frozen; have l6'' := K6.out.lt; have l7'' := K7.out.lt; clear hr hb HBN))
        all_goals
          have szq := szp
          rw [size_drew] at szq
          have fr6 : ∀ b o, b ≠ g6 → b ≠ g7 → (set6 (set6 wd g6 0 (.int .i64 P2.kind) (.bool P2.bool) (.int .i64 P2.int) (.string P2.str) (.slice la8 P2.list.length lc8) (.slice ma8 P2.map.length mc8)) g7 0 (.int .i64 D2.kind) (.bool D2.bool) (.int .i64 D2.int) (.string D2.str) (.slice la9 D2.list.length lc9) (.slice ma9 D2.map.length mc9)).cell? ⟨b, o, none⟩ = wd.cell? ⟨b, o, none⟩ := fun b o h1 h2 => (World.cell?_of_block (a := ⟨b, o, none⟩) (set6_heap (o := 0) h2)).trans (World.cell?_of_block (a := ⟨b, o, none⟩) (set6_heap (o := 0) h1))
          have FR6 := Lib.hid fr6
          clear fr6
          go_wp2_with fail
          go_roundw
          case rel => exact ⟨q + 1, P2, D2, la8, lc8, ma8, mc8, la9, lc9, ma9, mc9, by omega, by go_num, HP2, HD2, set6_below (o := 0) (set6_below (o := 0) HBW.out (by omega)) (by omega), set6_below (o := 0) (set6_below (o := 0) HB3.out hg6) hg7, Blk.s6 ((((((K6.out.set_ 0 _).set_ 1 _).set_ 2 _).set_ 3 _).set_ 4 _).set_ 5 _) hg67, (((((((K7.out.s6 hg67.symm).set_ 0 _).set_ 1 _).set_ 2 _).set_ 3 _).set_ 4 _).set_ 5 _), HRP.out.mono (fun b (hb : _ ≤ b) _ => (by rw [size_drew] at hb; exact ⟨by omega, by omega⟩)) (fun b o (hb : _ ≤ b) _ => by rw [size_drew] at hb; exact FR6.out b o (by omega) (by omega)), HRDD.out.mono (fun b (hb : _ ≤ b) _ => ⟨by omega, by omega⟩) (fun b o (hb : _ ≤ b) _ => FR6.out b o (by omega) (by omega)), HP.out.mono (fun _ h _ => h) (fun b o hb _ => FR6.out b o (by omega) (by omega))⟩
          case measure => simp [intOf]; omega
      · obtain rfl : q = L.length := by omega
        obtain ⟨e1, e2, e3, e4, e5, e6⟩ := HED.out
        rw [← hP.out] at e1 e2
        rw [← hD.out] at e3 e4 e5 e6
        have CD := Lib.hid (fun w' c0 (h0 : RepT w' (fun _ => True) c0 D) => tpleaves D e3 (by omega) c0 w' _ h0)
        have hp5 : (P.kind == 5) = true := by rw [e1]; rfl
        have hp0 : ((P.map.length : Int) == 0) = true := by rw [e2]; rfl
        have hd5 : (D.kind == 5) = true := by rw [e4]; rfl
        have HK := Lib.hid e6
        have hM6 : D.leaves.length ≤ 6000 := by have := (leaves_wt D).1; omega
        have hLp : decide (0 < L.length) = true := decide_eq_true (by omega)
        clear e1 e2 e3 e4 e5 e6 hP hD
        have k6 := K6.out.cell; have k7 := K7.out.cell; have l6 := K6.out.lt; have l7 := K7.out.lt
        go_wp2_with fail
        refine (CD.out _ _ (RD.out.weak (fun _ _ _ => trivial))).mono ?_
        rintro e w5 ⟨A5, c5, rfl, hrep5, hlc5, hcm5, hb5⟩
        replace K6 := Lib.hid (K6.out.keep hb5); replace K7 := Lib.hid (K7.out.keep hb5); replace HBW := Lib.hid (Below.next HBW.out hb5)
        have H5 := Lib.hid hrep5
        clear k6 k7 l6 l7 hrep5 hb5
        generalize hLd : D.leaves = M at *
        have HKM := Lib.hid (fun j (hj : j < M.length) => HK.out M[j] (List.getElem_mem hj))
        clear hLd HK
        go_wp2_with fail
        go_loopw [64] (fun x wr => ∃ j : Nat, j ≤ M.length ∧ x = .int .i64 j ∧ Hid (Below w5.heap.size w5 wr)) (fun x _ => M.length - (intOf x).toNat)
        case atStart => exact ⟨0, Nat.zero_le _, rfl, Below.refl _ _⟩
        case round =>
          obtain ⟨j, hj, rfl, hbj⟩ := hrel
          by_cases hlj : j < M.length
          · obtain ⟨b5, o5, sy, syc, la6, lc6, ma6, mc6, rfl, hby, ⟨y0, y1, y2, y3, y4, y5, y6⟩, -, -, -, -⟩ := leaf_at (H5.out.keep hbj.out) hlj
            have hy5 : (M[j].2.kind != 5) = false := by rw [HKM.out j hlj]; rfl
            have HBJ := Lib.hid hbj.out
            have hj1 : (0 : Int) ≤ (j : Int) := by omega
            have hj2 : (j : Int) < (M.length : Int) := by omega
            have hj3 : j + 1 ≤ M.length := hlj
            clear hbj
            generalize M[j] = ly at *
            obtain ⟨ys, yv⟩ := ly
            simp only at *
            go_wp2_with fail
            go_roundw
            case rel => exact ⟨j + 1, hj3, by go_num, Below.next HBJ.out (Below.new _ _)⟩
            case measure => simp [intOf]; omega
          · obtain rfl : j = M.length := by omega
            replace K6 := Lib.hid (K6.out.keep hbj.out); replace K7 := Lib.hid (K7.out.keep hbj.out); replace HBW := Lib.hid (Below.next HBW.out hbj.out)
            clear hbj
            have k6 := K6.out.cell; have k7 := K7.out.cell; have l6 := K6.out.lt; have l7 := K7.out.lt
            go_wp2_with fail
            refine (awake2 _).mono ?_
            rintro e w8 ⟨rfl, hb8⟩
            replace K6 := Lib.hid (K6.out.keep hb8); replace K7 := Lib.hid (K7.out.keep hb8); replace HBW := Lib.hid (Below.next HBW.out hb8)
            clear k6 k7 l6 l7 hb8
            have k6 := K6.out.cell; have k7 := K7.out.cell; have l6 := K6.out.lt; have l7 := K7.out.lt
            go_wp2_with fail
            go_ret
            exact ⟨rfl, HBW.out⟩
end Go.Proofs.Ytmdihildjblgnaa
