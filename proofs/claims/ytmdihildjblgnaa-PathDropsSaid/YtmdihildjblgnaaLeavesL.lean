/- PathLeaves answers true for every input: the law. -/
import Derived.Test.YtmdihildjblgnaaRLeaves
import Derived.Test.YtmdihildjblgnaaTexts
import Derived.Test.YtmdihildjblgnaaAwakeP
namespace Go.Proofs.Ytmdihildjblgnaa
open Go.RowKit
attribute [local go_sem ↓] Go.wp_at_zero Go.wp_at_succ

/-- The leaves, from one of them on. -/
def turned (L : List LeafT) (k : Nat) : List LeafT := L.drop k ++ L.take k
theorem turned_perm (L : List LeafT) (k : Nat) : (turned L k).Perm L := by
  have := List.perm_append_comm (l₁ := L.drop k) (l₂ := L.take k)
  rw [List.take_append_drop] at this
  exact this
theorem turned_len (L : List LeafT) (k : Nat) : (turned L k).length = L.length := (turned_perm L k).length_eq
theorem turned_get {L : List LeafT} {k q : Nat} (hq : q < L.length) (hk : k < L.length) (h1 : (q + k) % L.length < L.length) (h2 : q < (turned L k).length) : (turned L k)[q] = L[(q + k) % L.length] := by
  apply Option.some.inj
  rw [← List.getElem?_eq_getElem, ← List.getElem?_eq_getElem]
  unfold turned
  rw [List.getElem?_append]
  split
  · next h =>
    rw [List.length_drop] at h
    rw [List.getElem?_drop, Nat.mod_eq_of_lt (by omega), Nat.add_comm]
  · next h =>
    rw [List.length_drop] at h
    rw [List.length_drop, List.getElem?_take_of_lt (by omega), Nat.mod_eq_sub_mod (by omega), Nat.mod_eq_of_lt (by omega)]
    congr 1; omega
theorem putAll_snoc (L : List LeafT) (l : LeafT) (t : T) : putAll (L ++ [l]) t = putP l.1 l.2 (putAll L t) := by unfold putAll; rw [List.foldl_append]; rfl
theorem putAll_neat {n : Nat} {L : List LeafT} (h : ∀ l ∈ L, (∀ s ∈ l.1, keyB s = true) ∧ Neat n l.2) : ∀ q, q ≤ L.length → Neat (n + q) (putAll (L.take q) T.zero) := by
  intro q
  induction q with
  | zero => intro _; exact Neat.zero
  | succ q ih =>
    intro hq
    rw [List.take_succ_eq_append_getElem hq, putAll_snoc]
    obtain ⟨h1, h2⟩ := h L[q] (List.getElem_mem hq)
    exact putP_neat h1 (ih (by omega)) (h2.mono (by omega)) (by omega)
/-- What one round of the law's loop asks. -/
theorem leaves_round {v : T} (hg : Good v) {by_ q : Nat} (hq : q < v.leaves.length) : ∃ (M M2 : T) (k : Nat) (hk : k < v.leaves.length), k = (q + by_) % v.leaves.length ∧ M = putAll ((turned v.leaves (by_ % v.leaves.length)).take q) T.zero ∧ M2 = putAll ((turned v.leaves (by_ % v.leaves.length)).take (q + 1)) T.zero ∧
    Neat (6000 + q) M ∧ Neat 6000 v.leaves[k].2 ∧ (∀ s ∈ v.leaves[k].1, keyB s = true) ∧ v.leaves[k].1.length ≤ 6000 ∧ putP v.leaves[k].1 v.leaves[k].2 M = M2 := by
  have hn : 0 < v.leaves.length := by omega
  have hk : (q + by_) % v.leaves.length < v.leaves.length := Nat.mod_lt _ hn
  have hlv := leaves_of hg.neat
  have hkk := hlv _ (List.getElem_mem hk)
  have hnt := putAll_neat (L := turned v.leaves (by_ % v.leaves.length)) (fun l hl => hlv l ((turned_perm _ _).mem_iff.1 hl)) q (by rw [turned_len]; omega)
  refine ⟨_, _, _, hk, rfl, rfl, rfl, hnt, hkk.2, hkk.1, ?_, ?_⟩
  · have := (leaves_wt v).2 _ (List.getElem_mem hk); have := hg.1; omega
  · rw [List.take_succ_eq_append_getElem (by rw [turned_len]; exact hq), putAll_snoc]
    have e := turned_get (L := v.leaves) (k := by_ % v.leaves.length) hq (Nat.mod_lt _ hn) (by rw [Nat.add_mod_mod]; exact hk) (by rw [turned_len]; exact hq)
    rw [e]
    simp only [Nat.add_mod_mod]
theorem leaves_end {v : T} (hg : Good v) (by_ : Nat) : putAll ((turned v.leaves (by_ % v.leaves.length)).take v.leaves.length) T.zero = v := by
  rw [List.take_of_length_le (by rw [turned_len]; exact Nat.le_refl _)]
  exact putAll_leaves hg.neat (turned_perm _ _)

set_option maxRecDepth 100000 in
set_option maxHeartbeats 4000000 in
theorem leavesL (v : T) (n : Int) (hn0 : 0 ≤ n) (hn1 : n ≤ 255) (vv : Value) (w : World) (hv : RepT w (fun _ => True) vv v) :
    Calls Try.prog 11 #[vv, .int .u8 n] w fun e w' => e = .returned (.bool true) ∧ Below w.heap.size w w' := by
  obtain ⟨la, lc, ma, mc, rfl, -⟩ := hv.inv
  have HV := Lib.hid hv
  clear hv
  go_enter Try.func11, Try.ntmps11
  go_wp2_with fail
  refine (right [v] _ (fun _ => True) _ 1 (repE_L.1 (rep_block (E := eltV) (S := fun _ => True) (l := [v]) [[.int .i64 v.kind, .bool v.bool, .int .i64 v.int, .string v.str, .slice la v.list.length lc, .slice ma v.map.length mc]] (Blk.new_at (w.alloc (.cells #[.int .i64 v.kind, .bool v.bool, .int .i64 v.int, .string v.str, .slice la v.list.length lc, .slice ma v.map.length mc] 25)) 25 #[.int .i64 v.kind, .bool v.bool, .int .i64 v.int, .string v.str, .slice la v.list.length lc, .slice ma v.map.length mc] (n := w.heap.size + 1) (by simp)) rfl trivial ⟨HV.out.keep (by exact (Below.new _ _).alloc (by simp) _), trivial⟩)) (by simp)).mono ?_
  rintro e w1 ⟨r, rfl, hr, hb⟩
  have hb1 : Below w.heap.size w w1 := Below.next ((Below.new _ _).alloc (by simp) _) hb
  have L0 := Lib.hid (((Blk.new w 25 #[.int .i64 v.kind, .bool v.bool, .int .i64 v.int, .string v.str, .slice la v.list.length lc, .slice ma v.map.length mc]).alloc (.cells #[.int .i64 v.kind, .bool v.bool, .int .i64 v.int, .string v.str, .slice la v.list.length lc, .slice ma v.map.length mc] 25)).keep hb)
  have HW1 := Lib.hid hb1
  have HV1 := Lib.hid (HV.out.keep hb1)
  have HR := Lib.hid hr
  clear hb hb1 HV hr
  have q_0 := L0.out.cell
  have l_0 := L0.out.lt
  cases r
  · go_wp2_with (go_at_call 44; refine (awake2 _).mono ?_; rintro e w9 ⟨rfl, hb9⟩)
    go_ret
    exact ⟨rfl, Below.next HW1.out hb9⟩
  have hg : Good v := HR.out rfl v (by simp)
  have CP := Lib.hid (fun w c (h : RepT w (fun _ => True) c v) => tpleaves v hg.neat (by have := hg.1; omega) c w _ h)
  have CR := Lib.hid (fun w c (h : RepT w (fun _ => True) c v) => rpleaves v (by have := hg.1; omega) c w _ h)
  have hL1 : v.leaves.length ≤ 6000 := by have := (leaves_wt v).1; have := hg.1; omega
  have hL0 : v.leaves.length ≠ 0 := fun e => leaves_ne v (List.eq_nil_of_length_eq_zero e)
  have HRD := Lib.hid (fun q (hq : q < v.leaves.length) => leaves_round hg (by_ := n.toNat) hq)
  have HED := Lib.hid (leaves_end hg n.toNat)
  have HLW := Lib.hid (fun q (hq : q < v.leaves.length) => (by have := (leaves_wt v).2 _ (List.getElem_mem hq); have := hg.1; omega : v.leaves[q].1.length ≤ 1000000))
  clear HR hg
  go_wp2_with fail
  go_region_held3 (fun w' => (∀ i, w'.cell? ⟨w.heap.size, i, none⟩ = (#[.int .i64 v.kind, .bool v.bool, .int .i64 v.int, .string v.str, .slice la v.list.length lc, .slice ma v.map.length mc] : Array Value)[i]?)) (first | (with_reducible exact q_0) | exact fun i => ((L0.out.drew).cell i)) (first
    | (go_at_call 57; refine (CP.out _ _ (HV1.out.keep (by exact (Below.refl _ _).drew))).mono ?_; rintro e w2 ⟨A2, c2, rfl, hrep2, hlc2, hcm2, hb2⟩; have hbq := Below.next ((Below.refl _ _).drew) hb2; replace L0 := Lib.hid (L0.out.keep hbq); replace HW1 := Lib.hid (Below.next HW1.out hbq); replace HV1 := Lib.hid (HV1.out.keep hbq); have HP := Lib.hid hrep2; clear q_0; have q_0 := L0.out.cell; clear hbq hb2 hrep2)
    | (go_at_call 55; refine (CR.out _ _ HV1.out).mono ?_; rintro e w3 ⟨A3, c3, rfl, hrep3, hlc3, hcm3, hb3⟩; replace L0 := Lib.hid (L0.out.keep hb3); replace HW1 := Lib.hid (Below.next HW1.out hb3); replace HV1 := Lib.hid (HV1.out.keep hb3); replace HP := Lib.hid (HP.out.keep hb3); have HQ := Lib.hid hrep3; clear q_0; have q_0 := L0.out.cell; clear hb3 hrep3))
  generalize hLe : v.leaves = L at *
  have HLE := Lib.hid hLe
  clear hLe
  have hL2 : ((L.length : Int) == 0) = false := beq_eq_false_iff_ne.2 (by omega)
  have hL3 : (0 : Int) < (L.length : Int) := by omega
  clear hL0 l_0
  have l_0 := L0.out.lt
  go_wp2_with fail
  have hbz := Below.new w3 (.cells #[.int .i64 0, .bool false, .int .i64 0, .string ⟨#[]⟩, .slice none 0 0, .slice none 0 0] 25)
  have HB7 := Lib.hid (Blk.new w3 25 #[.int .i64 0, .bool false, .int .i64 0, .string ⟨#[]⟩, .slice none 0 0, .slice none 0 0])
  replace HP := Lib.hid ((HP.out.mono (w' := w3) (S' := fun b => b < w3.heap.size) (fun _ _ h => h) (fun _ _ _ _ => rfl)).keep hbz)
  replace HQ := Lib.hid ((HQ.out.mono (w' := w3) (S' := fun b => b < w3.heap.size) (fun _ _ h => h) (fun _ _ _ _ => rfl)).keep hbz)
  replace HV1 := Lib.hid ((HV1.out.mono (w' := w3) (S' := fun b => b < w3.heap.size) (fun _ _ h => h) (fun _ _ _ _ => rfl)).keep hbz)
  replace HW1 := Lib.hid (Below.next HW1.out hbz)
  have hsz3 := L0.out.lt
  replace L0 := Lib.hid (L0.out.keep hbz)
  clear hbz q_0 l_0
  go_loopw [32] (fun x wr => ∃ (q : Nat) (M : T) (la4 : Option Addr) (lc4 : Nat) (ma4 : Option Addr) (mc4 : Nat), q ≤ L.length ∧ x = .int .i64 q ∧ Hid (M = putAll ((turned L (n.toNat % L.length)).take q) T.zero) ∧ Hid (Below w.heap.size w wr) ∧ Hid (Below w3.heap.size w3 wr) ∧ Hid (Blk wr w.heap.size 25 #[.int .i64 v.kind, .bool v.bool, .int .i64 v.int, .string v.str, .slice la v.list.length lc, .slice ma v.map.length mc]) ∧ Hid (Blk wr w3.heap.size 25 #[.int .i64 M.kind, .bool M.bool, .int .i64 M.int, .string M.str, .slice la4 M.list.length lc4, .slice ma4 M.map.length mc4]) ∧ Hid (RepT wr (fun b => w3.heap.size < b) (.agg #[.int .i64 M.kind, .bool M.bool, .int .i64 M.int, .string M.str, .slice la4 M.list.length lc4, .slice ma4 M.map.length mc4]) M) ∧ Hid (RepE eltP2 wr (fun b => b < w3.heap.size) A2 L) ∧ Hid (RepE eltR2 wr (fun b => b < w3.heap.size) A3 L) ∧ Hid (RepT wr (fun b => b < w3.heap.size) (.agg #[.int .i64 v.kind, .bool v.bool, .int .i64 v.int, .string v.str, .slice la v.list.length lc, .slice ma v.map.length mc]) v)) (fun x _ => L.length - (intOf x).toNat)
  case atStart => exact ⟨0, T.zero, none, 0, none, 0, Nat.zero_le _, rfl, rfl, HW1, Below.new _ _, L0, HB7, rep_zero _ _, HP, HQ, HV1⟩
  case round =>
    obtain ⟨q, M, la4, lc4, ma4, mc4, hq, rfl, hM, hba, hb3, hk0, hk7, hrm, hp, hqq, hv1⟩ := hrel
    clear HW1 L0 HB7 HP HQ HV1
    have HBA := Lib.hid hba.out; have HB3 := Lib.hid hb3.out; have HK0 := Lib.hid hk0.out; have HK7 := Lib.hid hk7.out; have HRM := Lib.hid hrm.out; have HP := Lib.hid hp.out; have HQ := Lib.hid hqq.out; have HV1 := Lib.hid hv1.out
    clear hba hb3 hk0 hk7 hrm hp hqq hv1
    by_cases hlt : q < L.length
    · obtain ⟨M', M2, k, hk, hke, hM1, hM2, hnM, hny, hkeys, hst6, hput⟩ := HRD.out q hlt
      obtain rfl : M' = M := hM1.trans hM.out.symm
      obtain ⟨b2, o2, sa, sc, la5, lc5, ma5, mc5, e2, hbp, ⟨r_0, r_1, r_2, r_3, r_4, r_5, r_6⟩, -, -, hsa, hya⟩ := leaf_at HP.out hlt
      obtain ⟨b3, o3, sb, sd, la6, lc6, ma6, mc6, e3, hbq, ⟨r_7, r_8, r_9, r_10, r_11, r_12, r_13⟩, -, -, hsb, hyb⟩ := leaf_at HQ.out hlt
      have hstl := HLW.out q hlt
      have HPUT := Lib.hid (fun w' (c0 d0 : Value) (a : Option Addr) (c : Nat) (h0 : RepT w' (fun _ => True) c0 M') (h1 : RepT w' (fun _ => True) d0 L[k].2) (h2 : RepS w' (fun _ => True) a L[k].1) (h3 : L[k].1.length ≤ c) (h4 : c ≤ maxLen) => tpput (n := 6000 + q) (m := 6000 + q + 1) (by omega) (by omega) L[k].1 M' L[k].2 hnM (hny.mono (by omega)) hkeys a c c0 d0 w' (fun _ => True) (fun _ => True) h0 h1 h2 h3 h4)
      have HPE := Lib.hid (show putP L[k].1 L[k].2 M' = putAll ((turned L (n.toNat % L.length)).take (q + 1)) T.zero from hput.trans hM2)
      have HKK := Lib.hid hk
      have HKE := Lib.hid (show ((q : Int) + n) % (L.length : Int) = (k : Int) by rw [hke, Int.natCast_emod, Int.natCast_add, Int.toNat_of_nonneg hn0])
      have HSA := Lib.hid (hsa.weak (S' := fun _ => True) (fun _ _ => trivial)); have HSB := Lib.hid (hsb.weak (S' := fun _ => True) (fun _ _ => trivial)); have HYA := Lib.hid hya.any; have HYB := Lib.hid hyb.any
      have hi1 : (0 : Int) ≤ (q : Int) := by omega
      have hi2 : (q : Int) < (L.length : Int) := by omega
      have hE2 := Lib.hid e2
      clear hsa hsb hya hyb hnM hny hkeys hput hM1 hM2 hke hM hst6
      subst e2 e3
      generalize L[q] = lf at *
      obtain ⟨st, y⟩ := lf
      simp only at *
      go_wp2_with fail
      go_region_held3 (fun w' => w'.cell? ⟨b2, o2 + q * 7, none⟩ = some (.slice sa st.length sc) ∧ w'.cell? ⟨b2, o2 + q * 7 + 1, none⟩ = some (.int .i64 y.kind) ∧ w'.cell? ⟨b2, o2 + q * 7 + 2, none⟩ = some (.bool y.bool) ∧ w'.cell? ⟨b2, o2 + q * 7 + 3, none⟩ = some (.int .i64 y.int) ∧ w'.cell? ⟨b2, o2 + q * 7 + 4, none⟩ = some (.string y.str) ∧ w'.cell? ⟨b2, o2 + q * 7 + 5, none⟩ = some (.slice la5 y.list.length lc5) ∧ w'.cell? ⟨b2, o2 + q * 7 + 6, none⟩ = some (.slice ma5 y.map.length mc5) ∧ w'.cell? ⟨b3, o3 + q * 7, none⟩ = some (.slice sb st.length sd) ∧ w'.cell? ⟨b3, o3 + q * 7 + 1, none⟩ = some (.int .i64 y.kind) ∧ w'.cell? ⟨b3, o3 + q * 7 + 2, none⟩ = some (.bool y.bool) ∧ w'.cell? ⟨b3, o3 + q * 7 + 3, none⟩ = some (.int .i64 y.int) ∧ w'.cell? ⟨b3, o3 + q * 7 + 4, none⟩ = some (.string y.str) ∧ w'.cell? ⟨b3, o3 + q * 7 + 5, none⟩ = some (.slice la6 y.list.length lc6) ∧ w'.cell? ⟨b3, o3 + q * 7 + 6, none⟩ = some (.slice ma6 y.map.length mc6))
        (first | (with_reducible exact ⟨r_0, r_1, r_2, r_3, r_4, r_5, r_6, r_7, r_8, r_9, r_10, r_11, r_12, r_13⟩) | (refine ⟨?_, ?_, ?_, ?_, ?_, ?_, ?_, ?_, ?_, ?_, ?_, ?_, ?_, ?_⟩ <;> (simp only [cell_drew]; first | (with_reducible exact r_0) | (with_reducible exact r_1) | (with_reducible exact r_2) | (with_reducible exact r_3) | (with_reducible exact r_4) | (with_reducible exact r_5) | (with_reducible exact r_6) | (with_reducible exact r_7) | (with_reducible exact r_8) | (with_reducible exact r_9) | (with_reducible exact r_10) | (with_reducible exact r_11) | (with_reducible exact r_12) | (with_reducible exact r_13))))
        (first
        | (go_at_call 58; refine at_world HBA (by first | (with_reducible exact Below.refl _ _) | (with_reducible exact (Below.refl _ _).drew)) (fun HBW => ?_); ((with_reducible refine (ttexts_eq st _ _ _ _ _ (HSA.out.keep HBW) (HSB.out.keep HBW) hstl).mono ?_)); rintro e wt ⟨rfl, hb⟩; have HBN := Below.next HBW hb; replace r_0 := (HBN.cell (p := ⟨b2, o2 + q * 7, none⟩) hbp).trans r_0; replace r_1 := (HBN.cell (p := ⟨b2, o2 + q * 7 + 1, none⟩) hbp).trans r_1; replace r_2 := (HBN.cell (p := ⟨b2, o2 + q * 7 + 2, none⟩) hbp).trans r_2; replace r_3 := (HBN.cell (p := ⟨b2, o2 + q * 7 + 3, none⟩) hbp).trans r_3; replace r_4 := (HBN.cell (p := ⟨b2, o2 + q * 7 + 4, none⟩) hbp).trans r_4; replace r_5 := (HBN.cell (p := ⟨b2, o2 + q * 7 + 5, none⟩) hbp).trans r_5; replace r_6 := (HBN.cell (p := ⟨b2, o2 + q * 7 + 6, none⟩) hbp).trans r_6; replace r_7 := (HBN.cell (p := ⟨b3, o3 + q * 7, none⟩) hbq).trans r_7; replace r_8 := (HBN.cell (p := ⟨b3, o3 + q * 7 + 1, none⟩) hbq).trans r_8; replace r_9 := (HBN.cell (p := ⟨b3, o3 + q * 7 + 2, none⟩) hbq).trans r_9; replace r_10 := (HBN.cell (p := ⟨b3, o3 + q * 7 + 3, none⟩) hbq).trans r_10; replace r_11 := (HBN.cell (p := ⟨b3, o3 + q * 7 + 4, none⟩) hbq).trans r_11; replace r_12 := (HBN.cell (p := ⟨b3, o3 + q * 7 + 5, none⟩) hbq).trans r_12; replace r_13 := (HBN.cell (p := ⟨b3, o3 + q * 7 + 6, none⟩) hbq).trans r_13; replace hbp := Nat.lt_of_lt_of_le hbp HBN.size; replace hbq := Nat.lt_of_lt_of_le hbq HBN.size; replace HBA := Lib.hid (Below.next HBA.out HBN); replace HB3 := Lib.hid (Below.next HB3.out HBN); replace HK0 := Lib.hid (HK0.out.keep HBN); replace HK7 := Lib.hid (HK7.out.keep HBN); replace HRM := Lib.hid (HRM.out.keep HBN); replace HP := Lib.hid (HP.out.keep HBN); replace HQ := Lib.hid (HQ.out.keep HBN); replace HV1 := Lib.hid (HV1.out.keep HBN); replace HSA := Lib.hid (HSA.out.keep HBN); replace HSB := Lib.hid (HSB.out.keep HBN); replace HYA := Lib.hid (HYA.out.keep HBN); replace HYB := Lib.hid (HYB.out.keep HBN); clear hb HBN HBW)
        | (go_at_call 28; refine at_world HBA (by first | (with_reducible exact Below.refl _ _) | (with_reducible exact (Below.refl _ _).drew)) (fun HBW => ?_); ((with_reducible refine (rsame_true rfl _ _ _ _ _ (HYA.out.keep HBW) (HYB.out.keep HBW)).mono ?_)); rintro e wu ⟨rfl, hb⟩; have HBN := Below.next HBW hb; replace r_0 := (HBN.cell (p := ⟨b2, o2 + q * 7, none⟩) hbp).trans r_0; replace r_1 := (HBN.cell (p := ⟨b2, o2 + q * 7 + 1, none⟩) hbp).trans r_1; replace r_2 := (HBN.cell (p := ⟨b2, o2 + q * 7 + 2, none⟩) hbp).trans r_2; replace r_3 := (HBN.cell (p := ⟨b2, o2 + q * 7 + 3, none⟩) hbp).trans r_3; replace r_4 := (HBN.cell (p := ⟨b2, o2 + q * 7 + 4, none⟩) hbp).trans r_4; replace r_5 := (HBN.cell (p := ⟨b2, o2 + q * 7 + 5, none⟩) hbp).trans r_5; replace r_6 := (HBN.cell (p := ⟨b2, o2 + q * 7 + 6, none⟩) hbp).trans r_6; replace r_7 := (HBN.cell (p := ⟨b3, o3 + q * 7, none⟩) hbq).trans r_7; replace r_8 := (HBN.cell (p := ⟨b3, o3 + q * 7 + 1, none⟩) hbq).trans r_8; replace r_9 := (HBN.cell (p := ⟨b3, o3 + q * 7 + 2, none⟩) hbq).trans r_9; replace r_10 := (HBN.cell (p := ⟨b3, o3 + q * 7 + 3, none⟩) hbq).trans r_10; replace r_11 := (HBN.cell (p := ⟨b3, o3 + q * 7 + 4, none⟩) hbq).trans r_11; replace r_12 := (HBN.cell (p := ⟨b3, o3 + q * 7 + 5, none⟩) hbq).trans r_12; replace r_13 := (HBN.cell (p := ⟨b3, o3 + q * 7 + 6, none⟩) hbq).trans r_13; replace hbp := Nat.lt_of_lt_of_le hbp HBN.size; replace hbq := Nat.lt_of_lt_of_le hbq HBN.size; replace HBA := Lib.hid (Below.next HBA.out HBN); replace HB3 := Lib.hid (Below.next HB3.out HBN); replace HK0 := Lib.hid (HK0.out.keep HBN); replace HK7 := Lib.hid (HK7.out.keep HBN); replace HRM := Lib.hid (HRM.out.keep HBN); replace HP := Lib.hid (HP.out.keep HBN); replace HQ := Lib.hid (HQ.out.keep HBN); replace HV1 := Lib.hid (HV1.out.keep HBN); replace HSA := Lib.hid (HSA.out.keep HBN); replace HSB := Lib.hid (HSB.out.keep HBN); replace HYA := Lib.hid (HYA.out.keep HBN); replace HYB := Lib.hid (HYB.out.keep HBN); clear hb HBN HBW))
      all_goals
        obtain ⟨b4, o4, sx, sxc, la7, lc7, ma7, mc7, e4, hbx, ⟨x0, x1, x2, x3, x4, x5, x6⟩, hsx1, hsx2, hsx, hyx⟩ := leaf_at HP.out HKK.out
        obtain ⟨rfl, rfl⟩ : b2 = b4 ∧ o2 = o4 := by simpa using e4
        have hkk := HKE.out
        have hk1 : (0 : Int) ≤ (k : Int) := by omega
        have hk2 : (k : Int) < (L.length : Int) := by have := HKK.out; omega
        have hn2 : (q : Int) + n ≤ 10000 := by omega
        have hn3 : (0 : Int) ≤ (q : Int) + n := by omega
        have HSX := Lib.hid (hsx.weak (S' := fun _ => True) (fun _ _ => trivial)); have HYX := Lib.hid hyx.any
        have k0 := HK0.out.cell; have l0 := HK0.out.lt; have k7 := HK7.out.cell; have l7 := HK7.out.lt
        clear r_0 r_1 r_2 r_3 r_4 r_5 r_6 r_7 r_8 r_9 r_10 r_11 r_12 r_13 HSA HSB HYA HYB hsx hyx hE2 e4
        generalize L[k] = lx at *
        obtain ⟨xs, xv⟩ := lx
        simp only at *
        go_wp2_with fail
        have hbn := Below.new wu (.cells #[.slice sx xs.length sxc, .int .i64 xv.kind, .bool xv.bool, .int .i64 xv.int, .string xv.str, .slice la7 xv.list.length lc7, .slice ma7 xv.map.length mc7] 66)
        refine (HPUT.out _ _ _ _ _ ((HRM.out.weak (fun _ _ _ => trivial)).keep hbn) (HYX.out.keep hbn) (HSX.out.keep hbn) hsx1 hsx2).mono ?_
        rintro e wv ⟨vv, rfl, hr8, hb8⟩
        obtain ⟨la8, lc8, ma8, mc8, rfl, -⟩ := hr8.inv
        have hs7 := HK7.out.lt
        have hs8 := hb8.size
        rw [size_alloc] at hs8
        have hbq2 := Below.next hbn hb8
        replace HBA := Lib.hid (Below.next HBA.out hbq2); replace HB3 := Lib.hid (Below.next HB3.out hbq2); replace HK0 := Lib.hid (HK0.out.keep hbq2); replace HK7 := Lib.hid (HK7.out.keep hbq2); replace HP := Lib.hid (HP.out.keep hbq2); replace HQ := Lib.hid (HQ.out.keep hbq2); replace HV1 := Lib.hid (HV1.out.keep hbq2)
        have HR8 := Lib.hid (hr8.mono (S' := fun b => w3.heap.size < b) (fun b (hb : _ ≤ b) _ => by rw [size_alloc] at hb; show w3.heap.size < b; omega) (fun _ _ _ _ => rfl))
        clear k0 l0 k7 l7 hr8 hb8 hbq2 hbn
        have k7 := HK7.out.cell; have f7 := HK7.out.frozen; have l7 := HK7.out.lt
        rw [HPE.out] at HR8
        generalize hD : putAll ((turned L (n.toNat % L.length)).take (q + 1)) T.zero = D at *
        have HDD := Lib.hid hD
        have hPD : putP xs xv M' = D := HPE.out
        rw [hPD]
        clear hD hPD
        go_wp2_with fail
        have fr : ∀ b o, b < w3.heap.size → (set6 wv w3.heap.size 0 (.int .i64 D.kind) (.bool D.bool) (.int .i64 D.int) (.string D.str) (.slice la8 D.list.length lc8) (.slice ma8 D.map.length mc8)).cell? ⟨b, o, none⟩ = wv.cell? ⟨b, o, none⟩ := fun b o hb => World.cell?_of_block (w := wv) (set6_heap (o := 0) (show b ≠ w3.heap.size by omega))
        go_roundw
        case rel => exact ⟨q + 1, D, la8, lc8, ma8, mc8, by omega, by go_num, HDD.out.symm, set6_below (o := 0) HBA.out (by omega), set6_below (o := 0) HB3.out (by omega), (set6_heap (by omega)).trans HK0.out, ((((((HK7.out.set_ 0 _).set_ 1 _).set_ 2 _).set_ 3 _).set_ 4 _).set_ 5 _), HR8.out.mono (fun _ h _ => h) (fun b o (hb : w3.heap.size < b) _ => World.cell?_of_block (w := wv) (set6_heap (o := 0) (show b ≠ w3.heap.size by omega))), HP.out.mono (fun _ h _ => h) (fun b o hb _ => fr b o hb), HQ.out.mono (fun _ h _ => h) (fun b o hb _ => fr b o hb), HV1.out.mono (fun _ h _ => h) (fun b o hb _ => fr b o hb)⟩
        case measure => simp [intOf]; omega
    · obtain rfl : q = L.length := by omega
      have HME := Lib.hid (show M = v by rw [hM.out]; exact HED.out)
      have k0 := HK0.out.cell; have l0 := HK0.out.lt; have k7 := HK7.out.cell; have l7 := HK7.out.lt
      clear hM
      go_wp2_with fail
      refine (awake2 _).mono ?_
      rintro e w8 ⟨rfl, hb8⟩
      replace HBA := Lib.hid (Below.next HBA.out hb8); replace HK0 := Lib.hid (HK0.out.keep hb8); replace HK7 := Lib.hid (HK7.out.keep hb8); replace HRM := Lib.hid (HRM.out.keep hb8); replace HV1 := Lib.hid (HV1.out.keep hb8)
      clear k0 l0 k7 l7 hb8
      have k0 := HK0.out.cell; have l0 := HK0.out.lt; have k7 := HK7.out.cell; have l7 := HK7.out.lt
      go_wp2_with fail
      refine (rsame_true HME.out _ _ _ _ _ HRM.out HV1.out).mono ?_
      rintro e w9 ⟨rfl, hb9⟩
      go_wp2_with fail
      go_ret
      exact ⟨rfl, Below.next HBA.out hb9⟩
end Go.Proofs.Ytmdihildjblgnaa
