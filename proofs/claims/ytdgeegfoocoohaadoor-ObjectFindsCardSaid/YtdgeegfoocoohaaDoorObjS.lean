/- object.Sort's comparison; the binary search among objects by their IDs. -/
import Derived.Test.YtdgeegfoocoohaaDoorObjX
import Derived.Test.YtdgeegfoocoohaaDoorObjWR
namespace Go.Proofs.YtdgeegfoocoohaaDoor
open Go.RowKit
attribute [local go_sem ↓] Go.wp_at_zero Go.wp_at_succ

set_option maxRecDepth 100000 in
set_option maxHeartbeats 1000000 in
theorem byO (x id : ID3) (c3 c4 c5 c6 c7 c8 : Value) (w : World) (hv : ObjV w) :
    Calls Tryd.prog 14 #[.agg #[.string x.k, .string x.s, .string x.n, c3, c4, c5, c6, c7, c8], .agg #[.string id.k, .string id.s, .string id.n]] w fun e w' => e = .returned (.int .i64 (cmpID x id)) ∧ Below w.heap.size w w' := by
  have HV := Lib.hid hv
  have H := Lib.hid (fun w hv => tcmpID x id w hv)
  generalize cmpID x id = r at H
  clear hv
  obtain ⟨xk, xs, xn⟩ := x
  obtain ⟨ik, is, «in»⟩ := id
  simp only at *
  go_enter Tryd.func14, Tryd.ntmps14
  go_wp2_with fail
  refine (H.out _ (HV.out.keep (by exact (Below.new _ _).alloc (by simp) _))).mono ?_
  rintro e w' ⟨rfl, hb⟩
  go_wp2_with fail
  go_ret
  exact ⟨rfl, Below.next (by exact (Below.new _ _).alloc (by simp) _) hb⟩

def SrchPostO (w : World) (l : List (ID3 × T)) (id : ID3) (e : Ending) (w' : World) : Prop :=
  ∃ i f, e = .returned (.tuple #[.int .i64 (i : Nat), .bool f]) ∧ SrchO l id i f ∧ Below w.heap.size w w'
theorem KO.mono {l : List (ID3 × T)} (hk : KO l) {id : ID3} {i j : Nat} (hj : j < l.length) (h : i < j) (hc : cmpID l[j].1 id < 0) : cmpID (l[i]'(by omega)).1 id < 0 := cmpID_trans (hk i j hj h) hc

set_option maxRecDepth 100000 in
set_option maxHeartbeats 2000000 in
theorem searchO (l : List (ID3 × T)) (id : ID3) (a : Option Addr) (c : Nat) (w : World) (S : Nat → Prop) (hv : ObjV w) (h : RepE eltO w S a l) (hl : l.length ≤ 1034834473201) (hks : KO l) :
    Calls Tryd.prog 13 #[.slice a l.length c, .agg #[.string id.k, .string id.s, .string id.n], .func (.func 14) #[] #[]] w (SrchPostO w l id) := by
  have HKS := Lib.hid hks
  have HV := Lib.hid hv
  clear hks hv
  have hb0 : Below w.heap.size w (w.alloc (.cells #[.string id.k, .string id.s, .string id.n] 29)) := Below.new _ _
  have hl0 : Blk (w.alloc (.cells #[.string id.k, .string id.s, .string id.n] 29)) w.heap.size 29 #[.string id.k, .string id.s, .string id.n] := Blk.new _ _ _
  obtain ⟨W0, e0⟩ : ∃ z, z = w.alloc (.cells #[.string id.k, .string id.s, .string id.n] 29) := ⟨_, rfl⟩
  rw [← e0] at hb0 hl0
  have E0 := Lib.hid e0
  have HB0 := Lib.hid hb0
  have HL0 := Lib.hid hl0
  clear e0 hb0 hl0
  go_enter Tryd.func13, Tryd.ntmps13
  go_wp2_with fail
  rw [← E0.out]
  clear E0
  go_loopw [9, 10] (fun x y wr => ∃ i j : Nat, x = .int .i64 i ∧ y = .int .i64 j ∧ i ≤ j ∧ j ≤ l.length ∧ Hid (∀ k (h : k < l.length), k < i → cmpID l[k].1 id < 0) ∧ Hid (∀ k (h : k < l.length), j ≤ k → 0 ≤ cmpID l[k].1 id) ∧ Hid (Below W0.heap.size W0 wr))
    (fun x y _ => (intOf y).toNat - (intOf x).toNat)
  case atStart => exact ⟨0, l.length, rfl, rfl, Nat.zero_le _, Nat.le_refl _, fun k _ h => by omega, fun k h h2 => by omega, Lib.hid (Below.refl _ _)⟩
  case round =>
    obtain ⟨i, j, rfl, rfl, hij, hjl, hlo, hhi, HR0⟩ := hrel
    have hbw := Below.next HB0.out HR0.out
    have HBW := Lib.hid hbw
    have LI := Lib.hid (HL0.out.keep HR0.out)
    by_cases hlt : i < j
    · have hq2 : i ≤ (i + j) / 2 := by omega
      have hq3 : (i + j) / 2 < j := by omega
      have hqm : (i + j) / 2 < l.length := by omega
      obtain ⟨bl, ol, la', lc', ma', mc', rfl, -, hblt, -, ⟨c0, c1, c2, c3, c4, c5, c6, c7, c8⟩, -⟩ := RepO.at_ (h.keep hbw) hqm
      have gq1 : (0 : Int) ≤ (((i + j) / 2 : Nat) : Int) := by omega
      have gq2 : (((i + j) / 2 : Nat) : Int) < (l.length : Int) := by omega
      have gq3 : (0 : Int) ≤ ((i : Int) + (j : Int)) / 2 := by omega
      have gq4 : ((i : Int) + (j : Int)) / 2 < (l.length : Int) := by omega
      have gq5 : (((i : Int) + (j : Int)) / 2).toNat = (i + j) / 2 := by omega
      have q_0 := LI.out.cell
      clear hbw
      by_cases hk : cmpID l[(i + j) / 2].1 id < 0
      · have HLO : Hid (∀ k (h : k < l.length), k < (i + j) / 2 + 1 → cmpID l[k].1 id < 0) := fun k h h2 => by
          rcases Nat.lt_or_ge k ((i + j) / 2) with h3 | h3
          · exact HKS.out.mono hqm h3 hk
          · obtain rfl : k = (i + j) / 2 := by omega
            exact hk
        have hneg := hk
        have HB := Lib.hid (byO l[(i + j) / 2].1 id)
        generalize cmpID l[(i + j) / 2].1 id = r at HB hneg
        clear hk hlo
        go_wp2_with fail
        go_region_held3 (fun w' => (∀ i, w'.cell? ⟨w.heap.size, i, none⟩ = (#[.string id.k, .string id.s, .string id.n] : Array Value)[i]?) ∧ w'.cell? ⟨bl, ol + ((i + j) / 2) * 9, none⟩ = some (.string l[(i + j) / 2].1.k) ∧ w'.cell? ⟨bl, ol + ((i + j) / 2) * 9 + 1, none⟩ = some (.string l[(i + j) / 2].1.s) ∧ w'.cell? ⟨bl, ol + ((i + j) / 2) * 9 + 2, none⟩ = some (.string l[(i + j) / 2].1.n) ∧ w'.cell? ⟨bl, ol + ((i + j) / 2) * 9 + 3, none⟩ = some (.int .i64 l[(i + j) / 2].2.kind) ∧ w'.cell? ⟨bl, ol + ((i + j) / 2) * 9 + 4, none⟩ = some (.bool l[(i + j) / 2].2.bool) ∧ w'.cell? ⟨bl, ol + ((i + j) / 2) * 9 + 5, none⟩ = some (.int .i64 l[(i + j) / 2].2.int) ∧ w'.cell? ⟨bl, ol + ((i + j) / 2) * 9 + 6, none⟩ = some (.string l[(i + j) / 2].2.str) ∧ w'.cell? ⟨bl, ol + ((i + j) / 2) * 9 + 7, none⟩ = some (.slice la' l[(i + j) / 2].2.list.length lc') ∧ w'.cell? ⟨bl, ol + ((i + j) / 2) * 9 + 8, none⟩ = some (.slice ma' l[(i + j) / 2].2.map.length mc')) (first | exact ⟨q_0, c0, c1, c2, c3, c4, c5, c6, c7, c8⟩ | exact ⟨(LI.out.keep hb1).cell, (hb1.cell (p := ⟨bl, _, none⟩) hblt).trans c0, (hb1.cell (p := ⟨bl, _, none⟩) hblt).trans c1, (hb1.cell (p := ⟨bl, _, none⟩) hblt).trans c2, (hb1.cell (p := ⟨bl, _, none⟩) hblt).trans c3, (hb1.cell (p := ⟨bl, _, none⟩) hblt).trans c4, (hb1.cell (p := ⟨bl, _, none⟩) hblt).trans c5, (hb1.cell (p := ⟨bl, _, none⟩) hblt).trans c6, (hb1.cell (p := ⟨bl, _, none⟩) hblt).trans c7, (hb1.cell (p := ⟨bl, _, none⟩) hblt).trans c8⟩) (first
          | (go_at_call 14; refine (HB.out _ _ _ _ _ _ _ (HV.out.keep (by exact Below.drew HBW.out))).mono ?_; rintro e w1 ⟨rfl, hb1⟩; have hb1 := Below.next (Below.drew (Below.refl wr.heap.size wr)) hb1))
        go_wp2_with fail
        go_roundw
        case rel => exact ⟨(i + j) / 2 + 1, j, by go_num, rfl, by omega, hjl, HLO, hhi, Lib.hid (Below.next HR0.out hb1)⟩
        case measure => simp [intOf]; omega
      · have hk' : 0 ≤ cmpID l[(i + j) / 2].1 id := by omega
        have HHI : Hid (∀ k (h : k < l.length), (i + j) / 2 ≤ k → 0 ≤ cmpID l[k].1 id) := fun k h h2 => by
          rcases Nat.lt_or_ge ((i + j) / 2) k with h3 | h3
          · rcases Int.lt_or_le (cmpID l[k].1 id) 0 with hc | hc
            · exact absurd (HKS.out.mono h h3 hc) hk
            · exact hc
          · obtain rfl : k = (i + j) / 2 := by omega
            exact hk'
        have hneg := hk'
        have HB := Lib.hid (byO l[(i + j) / 2].1 id)
        generalize cmpID l[(i + j) / 2].1 id = r at HB hneg
        clear hk hk' hhi
        go_wp2_with fail
        go_region_held3 (fun w' => (∀ i, w'.cell? ⟨w.heap.size, i, none⟩ = (#[.string id.k, .string id.s, .string id.n] : Array Value)[i]?) ∧ w'.cell? ⟨bl, ol + ((i + j) / 2) * 9, none⟩ = some (.string l[(i + j) / 2].1.k) ∧ w'.cell? ⟨bl, ol + ((i + j) / 2) * 9 + 1, none⟩ = some (.string l[(i + j) / 2].1.s) ∧ w'.cell? ⟨bl, ol + ((i + j) / 2) * 9 + 2, none⟩ = some (.string l[(i + j) / 2].1.n) ∧ w'.cell? ⟨bl, ol + ((i + j) / 2) * 9 + 3, none⟩ = some (.int .i64 l[(i + j) / 2].2.kind) ∧ w'.cell? ⟨bl, ol + ((i + j) / 2) * 9 + 4, none⟩ = some (.bool l[(i + j) / 2].2.bool) ∧ w'.cell? ⟨bl, ol + ((i + j) / 2) * 9 + 5, none⟩ = some (.int .i64 l[(i + j) / 2].2.int) ∧ w'.cell? ⟨bl, ol + ((i + j) / 2) * 9 + 6, none⟩ = some (.string l[(i + j) / 2].2.str) ∧ w'.cell? ⟨bl, ol + ((i + j) / 2) * 9 + 7, none⟩ = some (.slice la' l[(i + j) / 2].2.list.length lc') ∧ w'.cell? ⟨bl, ol + ((i + j) / 2) * 9 + 8, none⟩ = some (.slice ma' l[(i + j) / 2].2.map.length mc')) (first | exact ⟨q_0, c0, c1, c2, c3, c4, c5, c6, c7, c8⟩ | exact ⟨(LI.out.keep hb1).cell, (hb1.cell (p := ⟨bl, _, none⟩) hblt).trans c0, (hb1.cell (p := ⟨bl, _, none⟩) hblt).trans c1, (hb1.cell (p := ⟨bl, _, none⟩) hblt).trans c2, (hb1.cell (p := ⟨bl, _, none⟩) hblt).trans c3, (hb1.cell (p := ⟨bl, _, none⟩) hblt).trans c4, (hb1.cell (p := ⟨bl, _, none⟩) hblt).trans c5, (hb1.cell (p := ⟨bl, _, none⟩) hblt).trans c6, (hb1.cell (p := ⟨bl, _, none⟩) hblt).trans c7, (hb1.cell (p := ⟨bl, _, none⟩) hblt).trans c8⟩) (first
          | (go_at_call 14; refine (HB.out _ _ _ _ _ _ _ (HV.out.keep (by exact Below.drew HBW.out))).mono ?_; rintro e w1 ⟨rfl, hb1⟩; have hb1 := Below.next (Below.drew (Below.refl wr.heap.size wr)) hb1))
        go_wp2_with fail
        go_roundw
        case rel => exact ⟨i, (i + j) / 2, rfl, by go_num, hq2, by omega, hlo, HHI, Lib.hid (Below.next HR0.out hb1)⟩
        case measure => simp [intOf]; omega
    · obtain rfl : i = j := by omega
      by_cases hin : i < l.length
      · obtain ⟨bl, ol, la', lc', ma', mc', rfl, -, hblt, -, ⟨c0, c1, c2, c3, c4, c5, c6, c7, c8⟩, -⟩ := RepO.at_ (h.keep hbw) hin
        have gq1 : (0 : Int) ≤ (i : Int) := by omega
        have gq2 : (i : Int) < (l.length : Int) := by omega
        have q_0 := LI.out.cell
        clear hbw
        have HB := Lib.hid (byO l[i].1 id)
        by_cases he : l[i].1 = id
        · have HP : Hid (SrchO l id i true) := ⟨hjl, hlo.out, hhi.out, by simp [hin, he]⟩
          rw [(cmpID_zero _ _).2 he] at HB
          clear hlo hhi he
          go_wp2_with fail
          go_region_held3 (fun w' => (∀ i, w'.cell? ⟨w.heap.size, i, none⟩ = (#[.string id.k, .string id.s, .string id.n] : Array Value)[i]?) ∧ w'.cell? ⟨bl, ol + i * 9, none⟩ = some (.string l[i].1.k) ∧ w'.cell? ⟨bl, ol + i * 9 + 1, none⟩ = some (.string l[i].1.s) ∧ w'.cell? ⟨bl, ol + i * 9 + 2, none⟩ = some (.string l[i].1.n) ∧ w'.cell? ⟨bl, ol + i * 9 + 3, none⟩ = some (.int .i64 l[i].2.kind) ∧ w'.cell? ⟨bl, ol + i * 9 + 4, none⟩ = some (.bool l[i].2.bool) ∧ w'.cell? ⟨bl, ol + i * 9 + 5, none⟩ = some (.int .i64 l[i].2.int) ∧ w'.cell? ⟨bl, ol + i * 9 + 6, none⟩ = some (.string l[i].2.str) ∧ w'.cell? ⟨bl, ol + i * 9 + 7, none⟩ = some (.slice la' l[i].2.list.length lc') ∧ w'.cell? ⟨bl, ol + i * 9 + 8, none⟩ = some (.slice ma' l[i].2.map.length mc')) (first | exact ⟨q_0, c0, c1, c2, c3, c4, c5, c6, c7, c8⟩ | exact ⟨(LI.out.keep hb1).cell, (hb1.cell (p := ⟨bl, _, none⟩) hblt).trans c0, (hb1.cell (p := ⟨bl, _, none⟩) hblt).trans c1, (hb1.cell (p := ⟨bl, _, none⟩) hblt).trans c2, (hb1.cell (p := ⟨bl, _, none⟩) hblt).trans c3, (hb1.cell (p := ⟨bl, _, none⟩) hblt).trans c4, (hb1.cell (p := ⟨bl, _, none⟩) hblt).trans c5, (hb1.cell (p := ⟨bl, _, none⟩) hblt).trans c6, (hb1.cell (p := ⟨bl, _, none⟩) hblt).trans c7, (hb1.cell (p := ⟨bl, _, none⟩) hblt).trans c8⟩) (first
            | (go_at_call 14; refine (HB.out _ _ _ _ _ _ _ (HV.out.keep (by exact Below.drew HBW.out))).mono ?_; rintro e w1 ⟨rfl, hb1⟩; have hb1 := Below.next (Below.drew (Below.refl wr.heap.size wr)) hb1))
          go_wp2_with fail
          go_ret2
          exact ⟨i, true, rfl, HP, Below.next HBW.out hb1⟩
        · have HP : Hid (SrchO l id i false) := ⟨hjl, hlo.out, hhi.out, by simp [hin, he]⟩
          have hz : (cmpID l[i].1 id == 0) = false := beq_eq_false_iff_ne.2 (fun e => he ((cmpID_zero _ _).1 e))
          generalize cmpID l[i].1 id = r at HB hz
          clear hlo hhi he
          go_wp2_with fail
          go_region_held3 (fun w' => (∀ i, w'.cell? ⟨w.heap.size, i, none⟩ = (#[.string id.k, .string id.s, .string id.n] : Array Value)[i]?) ∧ w'.cell? ⟨bl, ol + i * 9, none⟩ = some (.string l[i].1.k) ∧ w'.cell? ⟨bl, ol + i * 9 + 1, none⟩ = some (.string l[i].1.s) ∧ w'.cell? ⟨bl, ol + i * 9 + 2, none⟩ = some (.string l[i].1.n) ∧ w'.cell? ⟨bl, ol + i * 9 + 3, none⟩ = some (.int .i64 l[i].2.kind) ∧ w'.cell? ⟨bl, ol + i * 9 + 4, none⟩ = some (.bool l[i].2.bool) ∧ w'.cell? ⟨bl, ol + i * 9 + 5, none⟩ = some (.int .i64 l[i].2.int) ∧ w'.cell? ⟨bl, ol + i * 9 + 6, none⟩ = some (.string l[i].2.str) ∧ w'.cell? ⟨bl, ol + i * 9 + 7, none⟩ = some (.slice la' l[i].2.list.length lc') ∧ w'.cell? ⟨bl, ol + i * 9 + 8, none⟩ = some (.slice ma' l[i].2.map.length mc')) (first | exact ⟨q_0, c0, c1, c2, c3, c4, c5, c6, c7, c8⟩ | exact ⟨(LI.out.keep hb1).cell, (hb1.cell (p := ⟨bl, _, none⟩) hblt).trans c0, (hb1.cell (p := ⟨bl, _, none⟩) hblt).trans c1, (hb1.cell (p := ⟨bl, _, none⟩) hblt).trans c2, (hb1.cell (p := ⟨bl, _, none⟩) hblt).trans c3, (hb1.cell (p := ⟨bl, _, none⟩) hblt).trans c4, (hb1.cell (p := ⟨bl, _, none⟩) hblt).trans c5, (hb1.cell (p := ⟨bl, _, none⟩) hblt).trans c6, (hb1.cell (p := ⟨bl, _, none⟩) hblt).trans c7, (hb1.cell (p := ⟨bl, _, none⟩) hblt).trans c8⟩) (first
            | (go_at_call 14; refine (HB.out _ _ _ _ _ _ _ (HV.out.keep (by exact Below.drew HBW.out))).mono ?_; rintro e w1 ⟨rfl, hb1⟩; have hb1 := Below.next (Below.drew (Below.refl wr.heap.size wr)) hb1))
          go_wp2_with fail
          go_ret2
          exact ⟨i, false, by simp, HP, Below.next HBW.out hb1⟩
      · obtain rfl : i = l.length := by omega
        have HP : Hid (SrchO l id l.length false) := ⟨hjl, hlo.out, hhi.out, by simp⟩
        clear hlo hhi
        go_upto_region 8 with fail
        refine wp_region_held_drew (S := (fun _ => True)) (by kernel_rfl) (by exact trivial) (fun hHeld => ?_)
        refine wpAnyH_take (i := 0) (v := ?vm1_0) (by conv => lhs; simp only [List.getElem?_toArray, List.getElem?_cons_succ, List.getElem?_cons_zero]) (by kernel_rfl) (by kernel_rfl) (by kernel_rfl) (by exact fun _ _ _ h => h) (Or.inl ⟨by rfl, ?hym1_0⟩) (by assumption) ?_
        case hym1_0 => (intro w0 hSw; (try dsimp only at hSw); go_simp; try with_reducible rfl)
        try simp only [Act.put, List.setIfInBounds_toArray, List.set_cons_zero, List.set_cons_succ]
        refine wpAnyH_take (i := 1) (v := ?vm1_1) (by conv => lhs; simp only [List.getElem?_toArray, List.getElem?_cons_succ, List.getElem?_cons_zero]) (by kernel_rfl) (by kernel_rfl) (by kernel_rfl) (by exact fun _ _ _ h => h) (Or.inl ⟨by rfl, ?hym1_1⟩) (by assumption) ?_
        case hym1_1 => (intro w0 hSw; (try dsimp only at hSw); go_simp; try with_reducible rfl)
        try simp only [Act.put, List.setIfInBounds_toArray, List.set_cons_zero, List.set_cons_succ]
        refine wpAnyH_take (i := 2) (v := ?vm1_2) (by conv => lhs; simp only [List.getElem?_toArray, List.getElem?_cons_succ, List.getElem?_cons_zero]) (by kernel_rfl) (by kernel_rfl) (by kernel_rfl) (by exact fun _ _ _ h => h) (Or.inl ⟨by rfl, ?hym1_2⟩) (by assumption) ?_
        case hym1_2 => (intro w0 hSw; (try dsimp only at hSw); go_simp; try with_reducible rfl)
        try simp only [Act.put, List.setIfInBounds_toArray, List.set_cons_zero, List.set_cons_succ]
        refine wpAnyH_take (i := 3) (v := .bool false) (by conv => lhs; simp only [List.getElem?_toArray, List.getElem?_cons_succ, List.getElem?_cons_zero]) (by kernel_rfl) (by kernel_rfl) (by kernel_rfl) (by exact fun _ _ _ h => h) (Or.inl ⟨by rfl, ?hym1_3⟩) (by assumption) ?_
        case hym1_3 => (intro w0 hSw; (try dsimp only at hSw); go_simp; try with_reducible rfl)
        try simp only [Act.put, List.setIfInBounds_toArray, List.set_cons_zero, List.set_cons_succ]
        refine wpAnyH_take (i := 4) (v := .bool false) (by conv => lhs; simp only [List.getElem?_toArray, List.getElem?_cons_succ, List.getElem?_cons_zero]) (by kernel_rfl) (by kernel_rfl) (by kernel_rfl) (by exact fun _ _ _ h => h) (Or.inl ⟨by rfl, ?hym1_4⟩) (by assumption) ?_
        case hym1_4 => (intro w0 hSw; (try dsimp only at hSw); go_simp; try with_reducible rfl)
        try simp only [Act.put, List.setIfInBounds_toArray, List.set_cons_zero, List.set_cons_succ]
        refine wpAnyH_take (i := 5) (v := undef) (by conv => lhs; simp only [List.getElem?_toArray, List.getElem?_cons_succ, List.getElem?_cons_zero]) (by kernel_rfl) (by kernel_rfl) (by kernel_rfl) (by exact fun _ _ _ h => h) (Or.inr ⟨by rfl, rfl⟩) (by assumption) ?_
        try simp only [Act.put, List.setIfInBounds_toArray, List.set_cons_zero, List.set_cons_succ]
        refine wpAnyH_take (i := 6) (v := undef) (by conv => lhs; simp only [List.getElem?_toArray, List.getElem?_cons_succ, List.getElem?_cons_zero]) (by kernel_rfl) (by kernel_rfl) (by kernel_rfl) (by exact fun _ _ _ h => h) (Or.inr ⟨by rfl, rfl⟩) (by assumption) ?_
        try simp only [Act.put, List.setIfInBounds_toArray, List.set_cons_zero, List.set_cons_succ]
        refine wpAnyH_take (i := 7) (v := undef) (by conv => lhs; simp only [List.getElem?_toArray, List.getElem?_cons_succ, List.getElem?_cons_zero]) (by kernel_rfl) (by kernel_rfl) (by kernel_rfl) (by exact fun _ _ _ h => h) (Or.inr ⟨by rfl, rfl⟩) (by assumption) ?_
        try simp only [Act.put, List.setIfInBounds_toArray, List.set_cons_zero, List.set_cons_succ]
        refine wpAnyH_take (i := 8) (v := undef) (by conv => lhs; simp only [List.getElem?_toArray, List.getElem?_cons_succ, List.getElem?_cons_zero]) (by kernel_rfl) (by kernel_rfl) (by kernel_rfl) (by exact fun _ _ _ h => h) (Or.inr ⟨by rfl, rfl⟩) (by assumption) ?_
        try simp only [Act.put, List.setIfInBounds_toArray, List.set_cons_zero, List.set_cons_succ]
        refine wpAnyH_take (i := 9) (v := undef) (by conv => lhs; simp only [List.getElem?_toArray, List.getElem?_cons_succ, List.getElem?_cons_zero]) (by kernel_rfl) (by kernel_rfl) (by kernel_rfl) (by exact fun _ _ _ h => h) (Or.inr ⟨by rfl, rfl⟩) (by assumption) ?_
        try simp only [Act.put, List.setIfInBounds_toArray, List.set_cons_zero, List.set_cons_succ]
        refine wpAnyH_take (i := 10) (v := undef) (by conv => lhs; simp only [List.getElem?_toArray, List.getElem?_cons_succ, List.getElem?_cons_zero]) (by kernel_rfl) (by kernel_rfl) (by kernel_rfl) (by exact fun _ _ _ h => h) (Or.inr ⟨by rfl, rfl⟩) (by assumption) ?_
        try simp only [Act.put, List.setIfInBounds_toArray, List.set_cons_zero, List.set_cons_succ]
        refine wpAnyH_ready (rs := [11]) (by kernel_rfl) (by simp) ?_
        refine AllReadyH.cons (by conv => lhs; simp only [List.getElem?_toArray, List.getElem?_cons_succ, List.getElem?_cons_zero]) (fun K hK => ?_) AllReadyH.nil
        go_simp
        refine hK.out _ _ (by exact trivial) (fun hHeld => ?_)
        clear hK K
        try simp only [Act.put, List.setIfInBounds_toArray, List.set_cons_zero, List.set_cons_succ]
        refine wpAnyH_take (i := 12) (v := undef) (by conv => lhs; simp only [List.getElem?_toArray, List.getElem?_cons_succ, List.getElem?_cons_zero]) (by kernel_rfl) (by kernel_rfl) (by kernel_rfl) (by exact fun _ _ _ h => h) (Or.inr ⟨by rfl, rfl⟩) (by assumption) ?_
        try simp only [Act.put, List.setIfInBounds_toArray, List.set_cons_zero, List.set_cons_succ]
        refine wpAnyH_take (i := 13) (v := .bool false) (by conv => lhs; simp only [List.getElem?_toArray, List.getElem?_cons_succ, List.getElem?_cons_zero]) (by kernel_rfl) (by kernel_rfl) (by kernel_rfl) (by exact fun _ _ _ h => h) (Or.inl ⟨by rfl, ?hym2_13⟩) (by assumption) ?_
        case hym2_13 => (intro w0 hSw; (try dsimp only at hSw); go_simp; try with_reducible rfl)
        try simp only [Act.put, List.setIfInBounds_toArray, List.set_cons_zero, List.set_cons_succ]
        refine wpAnyH_take (i := 14) (v := ?vm2_14) (by conv => lhs; simp only [List.getElem?_toArray, List.getElem?_cons_succ, List.getElem?_cons_zero]) (by kernel_rfl) (by kernel_rfl) (by kernel_rfl) (by exact fun _ _ _ h => h) (Or.inl ⟨by rfl, ?hym2_14⟩) (by assumption) ?_
        case hym2_14 => (intro w0 hSw; (try dsimp only at hSw); go_simp; try with_reducible rfl)
        try simp only [Act.put, List.setIfInBounds_toArray, List.set_cons_zero, List.set_cons_succ]
        refine wpAnyH_take (i := 15) (v := .bool false) (by conv => lhs; simp only [List.getElem?_toArray, List.getElem?_cons_succ, List.getElem?_cons_zero]) (by kernel_rfl) (by kernel_rfl) (by kernel_rfl) (by exact fun _ _ _ h => h) (Or.inl ⟨by rfl, ?hym2_15⟩) (by assumption) ?_
        case hym2_15 => (intro w0 hSw; (try dsimp only at hSw); go_simp; try with_reducible rfl)
        try simp only [Act.put, List.setIfInBounds_toArray, List.set_cons_zero, List.set_cons_succ]
        refine wpAnyH_done (by kernel_rfl) ?_ _
        go_wp2_with fail
        go_ret2
        exact ⟨l.length, false, rfl, HP, Below.drew HBW.out⟩
end Go.Proofs.YtdgeegfoocoohaaDoor
