/- Several texts as one. -/
import Derived.Test.YtgbbojnigicnoaaDoorSchGHR
import Derived.Test.YtgbbojnigicnoaaDoorRefNB
/- The reference: Right. -/
namespace Go.Proofs.YtgbbojnigicnoaaDoor
open Go.RowKit Go.Lib
attribute [local go_sem ↓] Go.wp_at_zero Go.wp_at_succ

/-- Is the word of a type one of the first words of kinds, or any? -/
def tyF (x : T) (j : Nat) : Bool := decide (x.kind = 3) && (kindsW.take j).any fun z => decide (x.str = z) || decide (x.str = anyW)
theorem tyF_zero (x : T) : tyF x 0 = false := by unfold tyF; simp
theorem tyF_succ (x : T) {j : Nat} (h : j < 6) : tyF x (j + 1) = (tyF x j || (decide (x.kind = 3) && (decide (x.str = kindW j) || decide (x.str = anyW)))) := by
  unfold tyF
  have hk : j < kindsW.length := h
  rw [List.take_succ_eq_append_getElem hk, List.any_append]
  have : kindsW[j] = kindW (j : Int) := by unfold kindW; simp [List.getD_eq_getElem?_getD, hk]
  rw [this]
  cases decide (x.kind = 3) <;> simp
theorem tyF_end (x : T) : tyF x 6 = (decide (x.kind = 3) && (decide (x.str = anyW) || kindsW.any fun z => decide (x.str = z))) := by
  unfold tyF
  have : kindsW.take 6 = kindsW := rfl
  rw [this]
  have h : (kindsW.any fun z => decide (x.str = z) || decide (x.str = anyW)) = (decide (x.str = anyW) || kindsW.any fun z => decide (x.str = z)) := by
    generalize decide (x.str = anyW) = b
    cases b
    · simp
    · simp [kindsW]
  rw [h]
theorem RepT.lay {w : World} {S : Nat → Prop} {x : T} {la : Option Addr} {lc : Nat} {ma : Option Addr} {mc : Nat} (h : RepT w S (.agg #[.int .i64 x.kind, .bool x.bool, .int .i64 x.int, .string x.str, .slice la x.list.length lc, .slice ma x.map.length mc]) x) : RepParts w S la lc ma mc x := by
  obtain ⟨a, b, c, d, hv, hp⟩ := h.inv
  simp at hv
  obtain ⟨⟨rfl, rfl⟩, rfl, rfl⟩ := hv
  exact hp
def RRightOk (t : T) : Prop := ∀ (w : World) (S : Nat → Prop) (v : Value), RepT w S v t → t.wt ≤ 1000000 → Calls Tryd.prog 8 #[v] w fun e w2 => e = .returned (.bool t.sch) ∧ Below w.heap.size w w2
set_option maxRecDepth 100000 in
set_option maxHeartbeats 16000000 in
theorem rright_step (t : T) (hm : ∀ p ∈ t.map, RRightOk p.2 ∧ ∀ q ∈ p.2.map, RRightOk q.2) : RRightOk t := by
  intro w S v h hz
  obtain ⟨la, lc, ma, mc, rfl, hp⟩ := h.inv
  have hM := hp.2.2.2.2.2.2.2.2.2.2
  clear hp
  have hm6 : t.map.length ≤ 1000000 := by have := wt_map t; omega
  have HM := Lib.hid (hM.keep (Below.new w (.cells #[.int .i64 t.kind, .bool t.bool, .int .i64 t.int, .string t.str, .slice la t.list.length lc, .slice ma t.map.length mc] 25)))
  have HB0 := Lib.hid (Below.new w (.cells #[.int .i64 t.kind, .bool t.bool, .int .i64 t.int, .string t.str, .slice la t.list.length lc, .slice ma t.map.length mc] 25))
  have L1 := Lib.hid (show Blk (w.alloc (.cells #[.int .i64 t.kind, .bool t.bool, .int .i64 t.int, .string t.str, .slice la t.list.length lc, .slice ma t.map.length mc] 25)) w.heap.size 25 #[.int .i64 t.kind, .bool t.bool, .int .i64 t.int, .string t.str, .slice la t.list.length lc, .slice ma t.map.length mc] from Blk.new _ _ _)
  have HMM := Lib.hid hm; have HWT := Lib.hid hz
  clear hM hm h hz
  by_cases h5 : ¬ t.kind = 5
  · have g5 : (t.kind != 5) = true := by simpa using h5
    rw [sch_eq, decide_eq_false h5, Bool.false_and]
    clear h5
    go_enter Tryd.func8, Tryd.ntmps8
    go_wp2_with fail
    go_ret
    exact ⟨rfl, Below.new _ _⟩
  have h5 := Decidable.not_not.1 h5
  have g5 : (t.kind != 5) = false := by rw [h5]; rfl
  have HSC := Lib.hid (show t.sch = t.map.all T.schP from by rw [sch_eq, decide_eq_true h5, Bool.true_and])
  obtain ⟨res, hres⟩ : ∃ z, z = t.sch := ⟨_, rfl⟩
  rw [← hres]
  rw [← hres] at HSC
  clear h5 hres
  obtain ⟨W0, e0⟩ : ∃ z, z = w.alloc (.cells #[.int .i64 t.kind, .bool t.bool, .int .i64 t.int, .string t.str, .slice la t.list.length lc, .slice ma t.map.length mc] 25) := ⟨_, rfl⟩
  obtain ⟨n1, e1⟩ : ∃ z, z = w.heap.size := ⟨_, rfl⟩
  rw [← e0] at HM HB0 L1
  rw [← e1] at L1
  have E0 := Lib.hid e0; have E1 := Lib.hid e1
  clear e0 e1
  go_enter Tryd.func8, Tryd.ntmps8
  refine wp_seq_cut (fun K0 hK0 => ?_)
  go_wp2_with fail
  refine hK0.out _ _ ?_
  rw [← E0.out, ← E1.out]
  clear E0 hK0 K0
  have k1 := L1.out.cell; have m1 := L1.out.lt
  go_wp2_with fail
  go_loopw [3] (fun i wr => ∃ q : Nat, q ≤ t.map.length ∧ i = .int .i64 q ∧ Hid ((t.map.take q).all T.schP = true) ∧ Hid (Below W0.heap.size W0 wr)) (fun i _ => t.map.length - (Lib.intOf i).toNat)
  case atStart => exact ⟨0, Nat.zero_le _, rfl, Lib.hid (by rw [List.take_zero]; rfl), Lib.hid (Below.refl _ _)⟩
  case round =>
    clear k1 m1
    obtain ⟨q, hq, rfl, HAL, HBR⟩ := hrel
    have LR := Lib.hid (L1.out.keep HBR.out)
    have k1 := LR.out.cell; have m1 := LR.out.lt
    by_cases hlt : q < t.map.length
    · obtain ⟨bl, ol, xla, xlc, xma, xmc, rfl, haw, hbl, hsz, ⟨d0, d1, d2, d3, d4, d5, d6⟩, hr⟩ := (HM.out.keep HBR.out).at_ hlt
      have hq6 : q ≤ 1000000 := by omega
      have hz : (t.map.take (q + 1)).all T.schP = T.schP t.map[q] := by rw [List.take_succ_eq_append_getElem hlt, List.all_append, HAL.out, Bool.true_and]; simp
      have ha : T.schP t.map[q] = false → res = false := fun e => by rw [HSC.out]; exact Bool.eq_false_iff.2 (fun e2 => by rw [List.all_eq_true.1 e2 _ (List.getElem_mem hlt)] at e; cases e)
      have hcx := HMM.out _ (List.getElem_mem hlt)
      have hwx := wt_sub _ (List.getElem_mem hlt)
      generalize t.map[q] = pr at d0 d1 d2 d3 d4 d5 d6 hr hz ha hwx hcx hsz
      obtain ⟨key, x⟩ := pr
      simp only at d0 d1 d2 d3 d4 d5 d6 hr hwx hcx hsz
      have HZ := Lib.hid hz; have HA := Lib.hid ha; have HWX := Lib.hid hwx; have HCX := Lib.hid hcx
      have HR := Lib.hid (hr.keep (Below.new wr (.cells #[.int .i64 x.kind, .bool x.bool, .int .i64 x.int, .string x.str, .slice xla x.list.length xlc, .slice xma x.map.length xmc] 25)))
      have HXB := Lib.hid (show Blk (wr.alloc (.cells #[.int .i64 x.kind, .bool x.bool, .int .i64 x.int, .string x.str, .slice xla x.list.length xlc, .slice xma x.map.length xmc] 25)) wr.heap.size 25 #[.int .i64 x.kind, .bool x.bool, .int .i64 x.int, .string x.str, .slice xla x.list.length xlc, .slice xma x.map.length xmc] from Blk.new _ _ _)
      have HB2 := Lib.hid (Below.new wr (.cells #[.int .i64 x.kind, .bool x.bool, .int .i64 x.int, .string x.str, .slice xla x.list.length xlc, .slice xma x.map.length xmc] 25))
      clear hz ha hwx hcx hr
      go_upto_region 8 with fail
      obtain ⟨WA, eA⟩ : ∃ z, z = wr.alloc (.cells #[.int .i64 x.kind, .bool x.bool, .int .i64 x.int, .string x.str, .slice xla x.list.length xlc, .slice xma x.map.length xmc] 25) := ⟨_, rfl⟩
      obtain ⟨n4, e11⟩ : ∃ z, z = wr.heap.size := ⟨_, rfl⟩
      rw [← eA] at HR HXB HB2
      rw [← e11] at HXB
      rw [← eA, ← e11]
      have HB3 := Lib.hid (show Below W0.heap.size W0 WA from HBR.out.trans (HB2.out.mono HBR.out.size))
      have d0w : WA.cell? ⟨bl, ol + q * 7, none⟩ = some (.string key) := by rw [HB2.out.cell hbl]; exact d0
      have hbl2 : bl < WA.heap.size := Nat.lt_of_lt_of_le hbl HB2.out.size
      have LA := Lib.hid (LR.out.keep HB2.out)
      clear eA e11 d0 d1 d2 d3 d4 d5 d6 k1 m1 HB2 hbl
      have k1 := LA.out.cell; have m1 := LA.out.lt
      have k2 := HXB.out.cell; have m2 := HXB.out.lt
      have HSP := Lib.hid (schP_eq key x)
      obtain ⟨sp, hsp⟩ : ∃ z, z = T.schP (key, x) := ⟨_, rfl⟩
      rw [← hsp] at HZ HA HSP
      clear hsp
      by_cases h0 : key = typeW
      · have g0 : (key.toList == [116, 121, 112, 101]) = true := by rw [show ([116, 121, 112, 101] : List UInt8) = typeW.toList from by rw [ByteArray.toList_eq]; rfl, keq_iff]; exact decide_eq_true h0
        rw [if_pos h0] at HSP
        clear h0
        have hz1 := tyF_end x
        rw [← HSP.out] at hz1
        have HEND := Lib.hid hz1
        clear hz1 HCX HWX HR
        go_wp2_with fail
        go_loopw [5, 6] (fun x5 x6 wq => ∃ j : Nat, j ≤ 6 ∧ x6 = .int .i64 j ∧ x5 = .bool (tyF x j) ∧ Hid (Below WA.heap.size WA wq)) (fun _ x6 _ => 6 - (Lib.intOf x6).toNat)
        case atStart => exact ⟨0, Nat.zero_le _, rfl, by rw [tyF_zero], Lib.hid (Below.refl _ _)⟩
        case round =>
          clear k1 m1 k2 m2
          obtain ⟨j, hj, rfl, rfl, HBQ⟩ := hrel
          by_cases hlj : j < 6
          · have hts := tyF_succ x hlj
            have LQ := Lib.hid (HXB.out.keep HBQ.out)
            obtain ⟨b, hb⟩ : ∃ b, b = tyF x j := ⟨_, rfl⟩
            rw [← hb] at hts ⊢
            clear hb
            go_upto_region 13 with fail
            cases b with
            | true =>
              have HTS := Lib.hid (show tyF x (j + 1) = true from by rw [hts]; rfl)
              clear hts
              refine wp_region_held_drew (S := (fun w' => ∀ i, w'.cell? ⟨n4, i, none⟩ = (#[.int .i64 x.kind, .bool x.bool, .int .i64 x.int, .string x.str, .slice xla x.list.length xlc, .slice xma x.map.length xmc] : Array Value)[i]?)) (by kernel_rfl) (by exact (LQ.out.keep (Below.refl _ _).drew).cell) (fun hHeld => ?_)
              refine wpAnyH_take (i := 0) (v := .bool true) (by conv => lhs; simp only [List.getElem?_toArray, List.getElem?_cons_succ, List.getElem?_cons_zero]) (by kernel_rfl) (by kernel_rfl) (by kernel_rfl) (by exact fun _ _ _ h => h) (Or.inl ⟨by rfl, ?hym1_0⟩) (by assumption) ?_
              case hym1_0 => (intro w0 hSw; (try dsimp only at hSw); go_simp; (try with_reducible rfl); (try assumption))
              try simp only [Act.put, List.setIfInBounds_toArray, List.set_cons_zero, List.set_cons_succ]
              refine wpAnyH_take (i := 1) (v := .bool true) (by conv => lhs; simp only [List.getElem?_toArray, List.getElem?_cons_succ, List.getElem?_cons_zero]) (by kernel_rfl) (by kernel_rfl) (by kernel_rfl) (by exact fun _ _ _ h => h) (Or.inl ⟨by rfl, ?hym1_1⟩) (by assumption) ?_
              case hym1_1 => (intro w0 hSw; (try dsimp only at hSw); go_simp; (try with_reducible rfl); (try assumption))
              try simp only [Act.put, List.setIfInBounds_toArray, List.set_cons_zero, List.set_cons_succ]
              refine wpAnyH_take (i := 2) (v := undef) (by conv => lhs; simp only [List.getElem?_toArray, List.getElem?_cons_succ, List.getElem?_cons_zero]) (by kernel_rfl) (by kernel_rfl) (by kernel_rfl) (by exact fun _ _ _ h => h) (Or.inr ⟨by rfl, rfl⟩) (by assumption) ?_
              try simp only [Act.put, List.setIfInBounds_toArray, List.set_cons_zero, List.set_cons_succ]
              refine wpAnyH_take (i := 3) (v := undef) (by conv => lhs; simp only [List.getElem?_toArray, List.getElem?_cons_succ, List.getElem?_cons_zero]) (by kernel_rfl) (by kernel_rfl) (by kernel_rfl) (by exact fun _ _ _ h => h) (Or.inr ⟨by rfl, rfl⟩) (by assumption) ?_
              try simp only [Act.put, List.setIfInBounds_toArray, List.set_cons_zero, List.set_cons_succ]
              refine wpAnyH_take (i := 4) (v := undef) (by conv => lhs; simp only [List.getElem?_toArray, List.getElem?_cons_succ, List.getElem?_cons_zero]) (by kernel_rfl) (by kernel_rfl) (by kernel_rfl) (by exact fun _ _ _ h => h) (Or.inr ⟨by rfl, rfl⟩) (by assumption) ?_
              try simp only [Act.put, List.setIfInBounds_toArray, List.set_cons_zero, List.set_cons_succ]
              refine wpAnyH_take (i := 5) (v := undef) (by conv => lhs; simp only [List.getElem?_toArray, List.getElem?_cons_succ, List.getElem?_cons_zero]) (by kernel_rfl) (by kernel_rfl) (by kernel_rfl) (by exact fun _ _ _ h => h) (Or.inr ⟨by rfl, rfl⟩) (by assumption) ?_
              try simp only [Act.put, List.setIfInBounds_toArray, List.set_cons_zero, List.set_cons_succ]
              refine wpAnyH_take (i := 6) (v := undef) (by conv => lhs; simp only [List.getElem?_toArray, List.getElem?_cons_succ, List.getElem?_cons_zero]) (by kernel_rfl) (by kernel_rfl) (by kernel_rfl) (by exact fun _ _ _ h => h) (Or.inr ⟨by rfl, rfl⟩) (by assumption) ?_
              try simp only [Act.put, List.setIfInBounds_toArray, List.set_cons_zero, List.set_cons_succ]
              refine wpAnyH_take (i := 7) (v := undef) (by conv => lhs; simp only [List.getElem?_toArray, List.getElem?_cons_succ, List.getElem?_cons_zero]) (by kernel_rfl) (by kernel_rfl) (by kernel_rfl) (by exact fun _ _ _ h => h) (Or.inr ⟨by rfl, rfl⟩) (by assumption) ?_
              try simp only [Act.put, List.setIfInBounds_toArray, List.set_cons_zero, List.set_cons_succ]
              refine wpAnyH_take (i := 8) (v := undef) (by conv => lhs; simp only [List.getElem?_toArray, List.getElem?_cons_succ, List.getElem?_cons_zero]) (by kernel_rfl) (by kernel_rfl) (by kernel_rfl) (by exact fun _ _ _ h => h) (Or.inr ⟨by rfl, rfl⟩) (by assumption) ?_
              try simp only [Act.put, List.setIfInBounds_toArray, List.set_cons_zero, List.set_cons_succ]
              refine wpAnyH_take (i := 9) (v := undef) (by conv => lhs; simp only [List.getElem?_toArray, List.getElem?_cons_succ, List.getElem?_cons_zero]) (by kernel_rfl) (by kernel_rfl) (by kernel_rfl) (by exact fun _ _ _ h => h) (Or.inr ⟨by rfl, rfl⟩) (by assumption) ?_
              try simp only [Act.put, List.setIfInBounds_toArray, List.set_cons_zero, List.set_cons_succ]
              refine wpAnyH_take (i := 10) (v := undef) (by conv => lhs; simp only [List.getElem?_toArray, List.getElem?_cons_succ, List.getElem?_cons_zero]) (by kernel_rfl) (by kernel_rfl) (by kernel_rfl) (by exact fun _ _ _ h => h) (Or.inr ⟨by rfl, rfl⟩) (by assumption) ?_
              try simp only [Act.put, List.setIfInBounds_toArray, List.set_cons_zero, List.set_cons_succ]
              refine wpAnyH_take (i := 11) (v := undef) (by conv => lhs; simp only [List.getElem?_toArray, List.getElem?_cons_succ, List.getElem?_cons_zero]) (by kernel_rfl) (by kernel_rfl) (by kernel_rfl) (by exact fun _ _ _ h => h) (Or.inr ⟨by rfl, rfl⟩) (by assumption) ?_
              try simp only [Act.put, List.setIfInBounds_toArray, List.set_cons_zero, List.set_cons_succ]
              refine wpAnyH_take (i := 12) (v := undef) (by conv => lhs; simp only [List.getElem?_toArray, List.getElem?_cons_succ, List.getElem?_cons_zero]) (by kernel_rfl) (by kernel_rfl) (by kernel_rfl) (by exact fun _ _ _ h => h) (Or.inr ⟨by rfl, rfl⟩) (by assumption) ?_
              try simp only [Act.put, List.setIfInBounds_toArray, List.set_cons_zero, List.set_cons_succ]
              refine wpAnyH_take (i := 13) (v := undef) (by conv => lhs; simp only [List.getElem?_toArray, List.getElem?_cons_succ, List.getElem?_cons_zero]) (by kernel_rfl) (by kernel_rfl) (by kernel_rfl) (by exact fun _ _ _ h => h) (Or.inr ⟨by rfl, rfl⟩) (by assumption) ?_
              try simp only [Act.put, List.setIfInBounds_toArray, List.set_cons_zero, List.set_cons_succ]
              refine wpAnyH_take (i := 14) (v := undef) (by conv => lhs; simp only [List.getElem?_toArray, List.getElem?_cons_succ, List.getElem?_cons_zero]) (by kernel_rfl) (by kernel_rfl) (by kernel_rfl) (by exact fun _ _ _ h => h) (Or.inr ⟨by rfl, rfl⟩) (by assumption) ?_
              try simp only [Act.put, List.setIfInBounds_toArray, List.set_cons_zero, List.set_cons_succ]
              refine wpAnyH_take (i := 15) (v := undef) (by conv => lhs; simp only [List.getElem?_toArray, List.getElem?_cons_succ, List.getElem?_cons_zero]) (by kernel_rfl) (by kernel_rfl) (by kernel_rfl) (by exact fun _ _ _ h => h) (Or.inr ⟨by rfl, rfl⟩) (by assumption) ?_
              try simp only [Act.put, List.setIfInBounds_toArray, List.set_cons_zero, List.set_cons_succ]
              refine wpAnyH_take (i := 16) (v := undef) (by conv => lhs; simp only [List.getElem?_toArray, List.getElem?_cons_succ, List.getElem?_cons_zero]) (by kernel_rfl) (by kernel_rfl) (by kernel_rfl) (by exact fun _ _ _ h => h) (Or.inr ⟨by rfl, rfl⟩) (by assumption) ?_
              try simp only [Act.put, List.setIfInBounds_toArray, List.set_cons_zero, List.set_cons_succ]
              refine wpAnyH_take (i := 17) (v := .bool true) (by conv => lhs; simp only [List.getElem?_toArray, List.getElem?_cons_succ, List.getElem?_cons_zero]) (by kernel_rfl) (by kernel_rfl) (by kernel_rfl) (by exact fun _ _ _ h => h) (Or.inl ⟨by rfl, ?hym1_17⟩) (by assumption) ?_
              case hym1_17 => (intro w0 hSw; (try dsimp only at hSw); go_simp; (try with_reducible rfl); (try assumption))
              try simp only [Act.put, List.setIfInBounds_toArray, List.set_cons_zero, List.set_cons_succ]
              refine wpAnyH_take (i := 18) (v := ?vm1_18) (by conv => lhs; simp only [List.getElem?_toArray, List.getElem?_cons_succ, List.getElem?_cons_zero]) (by kernel_rfl) (by kernel_rfl) (by kernel_rfl) (by exact fun _ _ _ h => h) (Or.inl ⟨by rfl, ?hym1_18⟩) (by assumption) ?_
              case hym1_18 => (intro w0 hSw; (try dsimp only at hSw); go_simp; (try with_reducible rfl); (try assumption))
              try simp only [Act.put, List.setIfInBounds_toArray, List.set_cons_zero, List.set_cons_succ]
              refine wpAnyH_done (by kernel_rfl) ?_ _
              go_wp2_with fail
              go_roundw
              case rel => exact ⟨j + 1, by omega, by go_num, by rw [HTS.out], Lib.hid (HBQ.out.trans ((Below.refl wr.heap.size wr).drew.mono HBQ.out.size))⟩
              case measure => simp [Lib.intOf]; omega
            | false =>
              rw [Bool.false_or] at hts
              by_cases hk : ¬ x.kind = 3
              · have gk : (x.kind == 3) = false := beq_eq_false_iff_ne.2 hk
                have HTS := Lib.hid (show tyF x (j + 1) = false from by rw [hts, decide_eq_false hk]; rfl)
                clear hts hk
                refine wp_region_held_drew (S := (fun w' => ∀ i, w'.cell? ⟨n4, i, none⟩ = (#[.int .i64 x.kind, .bool x.bool, .int .i64 x.int, .string x.str, .slice xla x.list.length xlc, .slice xma x.map.length xmc] : Array Value)[i]?)) (by kernel_rfl) (by exact (LQ.out.keep (Below.refl _ _).drew).cell) (fun hHeld => ?_)
                refine wpAnyH_take (i := 0) (v := .bool false) (by conv => lhs; simp only [List.getElem?_toArray, List.getElem?_cons_succ, List.getElem?_cons_zero]) (by kernel_rfl) (by kernel_rfl) (by kernel_rfl) (by exact fun _ _ _ h => h) (Or.inl ⟨by rfl, ?hym2_0⟩) (by assumption) ?_
                case hym2_0 => (intro w0 hSw; (try dsimp only at hSw); go_simp; (try with_reducible rfl); (try assumption))
                try simp only [Act.put, List.setIfInBounds_toArray, List.set_cons_zero, List.set_cons_succ]
                refine wpAnyH_take (i := 1) (v := .bool false) (by conv => lhs; simp only [List.getElem?_toArray, List.getElem?_cons_succ, List.getElem?_cons_zero]) (by kernel_rfl) (by kernel_rfl) (by kernel_rfl) (by exact fun _ _ _ h => h) (Or.inl ⟨by rfl, ?hym2_1⟩) (by assumption) ?_
                case hym2_1 => (intro w0 hSw; (try dsimp only at hSw); go_simp; (try with_reducible rfl); (try assumption))
                try simp only [Act.put, List.setIfInBounds_toArray, List.set_cons_zero, List.set_cons_succ]
                refine wpAnyH_take (i := 2) (v := ?vm2_2) (by conv => lhs; simp only [List.getElem?_toArray, List.getElem?_cons_succ, List.getElem?_cons_zero]) (by kernel_rfl) (by kernel_rfl) (by kernel_rfl) (by exact fun _ _ _ h => h) (Or.inl ⟨by rfl, ?hym2_2⟩) (by assumption) ?_
                case hym2_2 => (intro w0 hSw; (try dsimp only at hSw); go_simp; (try with_reducible rfl); (try assumption))
                try simp only [Act.put, List.setIfInBounds_toArray, List.set_cons_zero, List.set_cons_succ]
                refine wpAnyH_take (i := 3) (v := ?vm2_3) (by conv => lhs; simp only [List.getElem?_toArray, List.getElem?_cons_succ, List.getElem?_cons_zero]) (by kernel_rfl) (by kernel_rfl) (by kernel_rfl) (by exact fun _ _ _ h => h) (Or.inl ⟨by rfl, ?hym2_3⟩) (by assumption) ?_
                case hym2_3 => (intro w0 hSw; (try dsimp only at hSw); go_simp; (try with_reducible rfl); (try assumption))
                try simp only [Act.put, List.setIfInBounds_toArray, List.set_cons_zero, List.set_cons_succ]
                refine wpAnyH_take (i := 4) (v := .bool false) (by conv => lhs; simp only [List.getElem?_toArray, List.getElem?_cons_succ, List.getElem?_cons_zero]) (by kernel_rfl) (by kernel_rfl) (by kernel_rfl) (by exact fun _ _ _ h => h) (Or.inl ⟨by rfl, ?hym2_4⟩) (by assumption) ?_
                case hym2_4 => (intro w0 hSw; (try dsimp only at hSw); go_simp; (try with_reducible rfl); (try assumption))
                try simp only [Act.put, List.setIfInBounds_toArray, List.set_cons_zero, List.set_cons_succ]
                refine wpAnyH_take (i := 5) (v := .bool false) (by conv => lhs; simp only [List.getElem?_toArray, List.getElem?_cons_succ, List.getElem?_cons_zero]) (by kernel_rfl) (by kernel_rfl) (by kernel_rfl) (by exact fun _ _ _ h => h) (Or.inl ⟨by rfl, ?hym2_5⟩) (by assumption) ?_
                case hym2_5 => (intro w0 hSw; (try dsimp only at hSw); go_simp; (try with_reducible rfl); (try assumption))
                try simp only [Act.put, List.setIfInBounds_toArray, List.set_cons_zero, List.set_cons_succ]
                refine wpAnyH_take (i := 6) (v := undef) (by conv => lhs; simp only [List.getElem?_toArray, List.getElem?_cons_succ, List.getElem?_cons_zero]) (by kernel_rfl) (by kernel_rfl) (by kernel_rfl) (by exact fun _ _ _ h => h) (Or.inr ⟨by rfl, rfl⟩) (by assumption) ?_
                try simp only [Act.put, List.setIfInBounds_toArray, List.set_cons_zero, List.set_cons_succ]
                refine wpAnyH_take (i := 7) (v := undef) (by conv => lhs; simp only [List.getElem?_toArray, List.getElem?_cons_succ, List.getElem?_cons_zero]) (by kernel_rfl) (by kernel_rfl) (by kernel_rfl) (by exact fun _ _ _ h => h) (Or.inr ⟨by rfl, rfl⟩) (by assumption) ?_
                try simp only [Act.put, List.setIfInBounds_toArray, List.set_cons_zero, List.set_cons_succ]
                refine wpAnyH_take (i := 8) (v := undef) (by conv => lhs; simp only [List.getElem?_toArray, List.getElem?_cons_succ, List.getElem?_cons_zero]) (by kernel_rfl) (by kernel_rfl) (by kernel_rfl) (by exact fun _ _ _ h => h) (Or.inr ⟨by rfl, rfl⟩) (by assumption) ?_
                try simp only [Act.put, List.setIfInBounds_toArray, List.set_cons_zero, List.set_cons_succ]
                refine wpAnyH_take (i := 9) (v := undef) (by conv => lhs; simp only [List.getElem?_toArray, List.getElem?_cons_succ, List.getElem?_cons_zero]) (by kernel_rfl) (by kernel_rfl) (by kernel_rfl) (by exact fun _ _ _ h => h) (Or.inr ⟨by rfl, rfl⟩) (by assumption) ?_
                try simp only [Act.put, List.setIfInBounds_toArray, List.set_cons_zero, List.set_cons_succ]
                refine wpAnyH_take (i := 10) (v := undef) (by conv => lhs; simp only [List.getElem?_toArray, List.getElem?_cons_succ, List.getElem?_cons_zero]) (by kernel_rfl) (by kernel_rfl) (by kernel_rfl) (by exact fun _ _ _ h => h) (Or.inr ⟨by rfl, rfl⟩) (by assumption) ?_
                try simp only [Act.put, List.setIfInBounds_toArray, List.set_cons_zero, List.set_cons_succ]
                refine wpAnyH_take (i := 11) (v := undef) (by conv => lhs; simp only [List.getElem?_toArray, List.getElem?_cons_succ, List.getElem?_cons_zero]) (by kernel_rfl) (by kernel_rfl) (by kernel_rfl) (by exact fun _ _ _ h => h) (Or.inr ⟨by rfl, rfl⟩) (by assumption) ?_
                try simp only [Act.put, List.setIfInBounds_toArray, List.set_cons_zero, List.set_cons_succ]
                refine wpAnyH_take (i := 12) (v := undef) (by conv => lhs; simp only [List.getElem?_toArray, List.getElem?_cons_succ, List.getElem?_cons_zero]) (by kernel_rfl) (by kernel_rfl) (by kernel_rfl) (by exact fun _ _ _ h => h) (Or.inr ⟨by rfl, rfl⟩) (by assumption) ?_
                try simp only [Act.put, List.setIfInBounds_toArray, List.set_cons_zero, List.set_cons_succ]
                refine wpAnyH_take (i := 13) (v := undef) (by conv => lhs; simp only [List.getElem?_toArray, List.getElem?_cons_succ, List.getElem?_cons_zero]) (by kernel_rfl) (by kernel_rfl) (by kernel_rfl) (by exact fun _ _ _ h => h) (Or.inr ⟨by rfl, rfl⟩) (by assumption) ?_
                try simp only [Act.put, List.setIfInBounds_toArray, List.set_cons_zero, List.set_cons_succ]
                refine wpAnyH_take (i := 14) (v := undef) (by conv => lhs; simp only [List.getElem?_toArray, List.getElem?_cons_succ, List.getElem?_cons_zero]) (by kernel_rfl) (by kernel_rfl) (by kernel_rfl) (by exact fun _ _ _ h => h) (Or.inr ⟨by rfl, rfl⟩) (by assumption) ?_
                try simp only [Act.put, List.setIfInBounds_toArray, List.set_cons_zero, List.set_cons_succ]
                refine wpAnyH_take (i := 15) (v := undef) (by conv => lhs; simp only [List.getElem?_toArray, List.getElem?_cons_succ, List.getElem?_cons_zero]) (by kernel_rfl) (by kernel_rfl) (by kernel_rfl) (by exact fun _ _ _ h => h) (Or.inr ⟨by rfl, rfl⟩) (by assumption) ?_
                try simp only [Act.put, List.setIfInBounds_toArray, List.set_cons_zero, List.set_cons_succ]
                refine wpAnyH_take (i := 16) (v := .bool false) (by conv => lhs; simp only [List.getElem?_toArray, List.getElem?_cons_succ, List.getElem?_cons_zero]) (by kernel_rfl) (by kernel_rfl) (by kernel_rfl) (by exact fun _ _ _ h => h) (Or.inl ⟨by rfl, ?hym2_16⟩) (by assumption) ?_
                case hym2_16 => (intro w0 hSw; (try dsimp only at hSw); go_simp; (try with_reducible rfl); (try assumption))
                try simp only [Act.put, List.setIfInBounds_toArray, List.set_cons_zero, List.set_cons_succ]
                refine wpAnyH_take (i := 17) (v := .bool false) (by conv => lhs; simp only [List.getElem?_toArray, List.getElem?_cons_succ, List.getElem?_cons_zero]) (by kernel_rfl) (by kernel_rfl) (by kernel_rfl) (by exact fun _ _ _ h => h) (Or.inl ⟨by rfl, ?hym2_17⟩) (by assumption) ?_
                case hym2_17 => (intro w0 hSw; (try dsimp only at hSw); go_simp; (try with_reducible rfl); (try assumption))
                try simp only [Act.put, List.setIfInBounds_toArray, List.set_cons_zero, List.set_cons_succ]
                refine wpAnyH_take (i := 18) (v := ?vm2_18) (by conv => lhs; simp only [List.getElem?_toArray, List.getElem?_cons_succ, List.getElem?_cons_zero]) (by kernel_rfl) (by kernel_rfl) (by kernel_rfl) (by exact fun _ _ _ h => h) (Or.inl ⟨by rfl, ?hym2_18⟩) (by assumption) ?_
                case hym2_18 => (intro w0 hSw; (try dsimp only at hSw); go_simp; (try with_reducible rfl); (try assumption))
                try simp only [Act.put, List.setIfInBounds_toArray, List.set_cons_zero, List.set_cons_succ]
                refine wpAnyH_done (by kernel_rfl) ?_ _
                go_wp2_with fail
                go_roundw
                case rel => exact ⟨j + 1, by omega, by go_num, by rw [HTS.out], Lib.hid (HBQ.out.trans ((Below.refl wr.heap.size wr).drew.mono HBQ.out.size))⟩
                case measure => simp [Lib.intOf]; omega
              have hk := Decidable.not_not.1 hk
              have gk : (x.kind == 3) = true := by rw [hk]; rfl
              rw [decide_eq_true hk, Bool.true_and] at hts
              clear hk
              by_cases he : x.str = kindW (j : Int)
              · have ge : (x.str.toList == (kindW (j : Int)).toList) = true := by rw [keq_iff]; exact decide_eq_true he
                have ge2 : x.str.toList = (kindW (j : Int)).toList := congrArg ByteArray.toList he
                have HTS := Lib.hid (show tyF x (j + 1) = true from by rw [hts, decide_eq_true he]; rfl)
                clear hts he
                refine wp_region_held_drew (S := (fun w' => ∀ i, w'.cell? ⟨n4, i, none⟩ = (#[.int .i64 x.kind, .bool x.bool, .int .i64 x.int, .string x.str, .slice xla x.list.length xlc, .slice xma x.map.length xmc] : Array Value)[i]?)) (by kernel_rfl) (by exact (LQ.out.keep (Below.refl _ _).drew).cell) (fun hHeld => ?_)
                refine wpAnyH_take (i := 0) (v := .bool false) (by conv => lhs; simp only [List.getElem?_toArray, List.getElem?_cons_succ, List.getElem?_cons_zero]) (by kernel_rfl) (by kernel_rfl) (by kernel_rfl) (by exact fun _ _ _ h => h) (Or.inl ⟨by rfl, ?hym3_0⟩) (by assumption) ?_
                case hym3_0 => (intro w0 hSw; (try dsimp only at hSw); go_simp; (try with_reducible rfl); (try assumption))
                try simp only [Act.put, List.setIfInBounds_toArray, List.set_cons_zero, List.set_cons_succ]
                refine wpAnyH_take (i := 1) (v := .bool false) (by conv => lhs; simp only [List.getElem?_toArray, List.getElem?_cons_succ, List.getElem?_cons_zero]) (by kernel_rfl) (by kernel_rfl) (by kernel_rfl) (by exact fun _ _ _ h => h) (Or.inl ⟨by rfl, ?hym3_1⟩) (by assumption) ?_
                case hym3_1 => (intro w0 hSw; (try dsimp only at hSw); go_simp; (try with_reducible rfl); (try assumption))
                try simp only [Act.put, List.setIfInBounds_toArray, List.set_cons_zero, List.set_cons_succ]
                refine wpAnyH_take (i := 2) (v := ?vm3_2) (by conv => lhs; simp only [List.getElem?_toArray, List.getElem?_cons_succ, List.getElem?_cons_zero]) (by kernel_rfl) (by kernel_rfl) (by kernel_rfl) (by exact fun _ _ _ h => h) (Or.inl ⟨by rfl, ?hym3_2⟩) (by assumption) ?_
                case hym3_2 => (intro w0 hSw; (try dsimp only at hSw); go_simp; (try with_reducible rfl); (try assumption))
                try simp only [Act.put, List.setIfInBounds_toArray, List.set_cons_zero, List.set_cons_succ]
                refine wpAnyH_take (i := 3) (v := ?vm3_3) (by conv => lhs; simp only [List.getElem?_toArray, List.getElem?_cons_succ, List.getElem?_cons_zero]) (by kernel_rfl) (by kernel_rfl) (by kernel_rfl) (by exact fun _ _ _ h => h) (Or.inl ⟨by rfl, ?hym3_3⟩) (by assumption) ?_
                case hym3_3 => (intro w0 hSw; (try dsimp only at hSw); go_simp; (try with_reducible rfl); (try assumption))
                try simp only [Act.put, List.setIfInBounds_toArray, List.set_cons_zero, List.set_cons_succ]
                refine wpAnyH_take (i := 4) (v := .bool true) (by conv => lhs; simp only [List.getElem?_toArray, List.getElem?_cons_succ, List.getElem?_cons_zero]) (by kernel_rfl) (by kernel_rfl) (by kernel_rfl) (by exact fun _ _ _ h => h) (Or.inl ⟨by rfl, ?hym3_4⟩) (by assumption) ?_
                case hym3_4 => (intro w0 hSw; (try dsimp only at hSw); go_simp; (try with_reducible rfl); (try assumption))
                try simp only [Act.put, List.setIfInBounds_toArray, List.set_cons_zero, List.set_cons_succ]
                refine wpAnyH_take (i := 5) (v := .bool true) (by conv => lhs; simp only [List.getElem?_toArray, List.getElem?_cons_succ, List.getElem?_cons_zero]) (by kernel_rfl) (by kernel_rfl) (by kernel_rfl) (by exact fun _ _ _ h => h) (Or.inl ⟨by rfl, ?hym3_5⟩) (by assumption) ?_
                case hym3_5 => (intro w0 hSw; (try dsimp only at hSw); go_simp; (try with_reducible rfl); (try assumption))
                try simp only [Act.put, List.setIfInBounds_toArray, List.set_cons_zero, List.set_cons_succ]
                refine wpAnyH_take (i := 6) (v := ?vm3_6) (by conv => lhs; simp only [List.getElem?_toArray, List.getElem?_cons_succ, List.getElem?_cons_zero]) (by kernel_rfl) (by kernel_rfl) (by kernel_rfl) (by exact fun _ _ _ h => h) (Or.inl ⟨by rfl, ?hym3_6⟩) (by assumption) ?_
                case hym3_6 => (intro w0 hSw; (try dsimp only at hSw); go_simp; (try with_reducible rfl); (try assumption))
                try simp only [Act.put, List.setIfInBounds_toArray, List.set_cons_zero, List.set_cons_succ]
                refine wpAnyH_take (i := 7) (v := ?vm3_7) (by conv => lhs; simp only [List.getElem?_toArray, List.getElem?_cons_succ, List.getElem?_cons_zero]) (by kernel_rfl) (by kernel_rfl) (by kernel_rfl) (by exact fun _ _ _ h => h) (Or.inl ⟨by rfl, ?hym3_7⟩) (by assumption) ?_
                case hym3_7 => (intro w0 hSw; (try dsimp only at hSw); go_simp; (try with_reducible rfl); (try assumption))
                try simp only [Act.put, List.setIfInBounds_toArray, List.set_cons_zero, List.set_cons_succ]
                refine wpAnyH_take (i := 8) (v := ?vm3_8) (by conv => lhs; simp only [List.getElem?_toArray, List.getElem?_cons_succ, List.getElem?_cons_zero]) (by kernel_rfl) (by kernel_rfl) (by kernel_rfl) (by exact fun _ _ _ h => h) (Or.inl ⟨by rfl, ?hym3_8⟩) (by assumption) ?_
                case hym3_8 => (intro w0 hSw; (try dsimp only at hSw); go_simp; (try with_reducible rfl); (try assumption))
                try simp only [Act.put, List.setIfInBounds_toArray, List.set_cons_zero, List.set_cons_succ]
                refine wpAnyH_ready (rs := [9]) (by kernel_rfl) (by simp) ?_
                refine AllReadyH.cons (by conv => lhs; simp only [List.getElem?_toArray, List.getElem?_cons_succ, List.getElem?_cons_zero]) (fun K hK => ?_) AllReadyH.nil
                go_simp
                refine (rkind25 (j : Int) (by omega) (by omega) _).mono ?_
                rintro e w9 ⟨rfl, hb9⟩
                have HB9 := Lib.hid (Below.next (Below.refl wr.heap.size wr).drew hb9)
                clear hb9
                go_wp2_with fail
                refine hK.out _ _ (by exact (LQ.out.keep HB9.out).cell) (fun hHeld => ?_)
                clear hK K
                try simp only [Act.put, List.setIfInBounds_toArray, List.set_cons_zero, List.set_cons_succ]
                refine wpAnyH_take (i := 10) (v := .bool true) (by conv => lhs; simp only [List.getElem?_toArray, List.getElem?_cons_succ, List.getElem?_cons_zero]) (by kernel_rfl) (by kernel_rfl) (by kernel_rfl) (by exact fun _ _ _ h => h) (Or.inl ⟨by rfl, ?hym4_10⟩) (by assumption) ?_
                case hym4_10 => (intro w0 hSw; (try dsimp only at hSw); go_simp; (try with_reducible rfl); (try assumption))
                try simp only [Act.put, List.setIfInBounds_toArray, List.set_cons_zero, List.set_cons_succ]
                refine wpAnyH_take (i := 11) (v := .bool true) (by conv => lhs; simp only [List.getElem?_toArray, List.getElem?_cons_succ, List.getElem?_cons_zero]) (by kernel_rfl) (by kernel_rfl) (by kernel_rfl) (by exact fun _ _ _ h => h) (Or.inl ⟨by rfl, ?hym4_11⟩) (by assumption) ?_
                case hym4_11 => (intro w0 hSw; (try dsimp only at hSw); go_simp; (try with_reducible rfl); (try assumption))
                try simp only [Act.put, List.setIfInBounds_toArray, List.set_cons_zero, List.set_cons_succ]
                refine wpAnyH_take (i := 12) (v := undef) (by conv => lhs; simp only [List.getElem?_toArray, List.getElem?_cons_succ, List.getElem?_cons_zero]) (by kernel_rfl) (by kernel_rfl) (by kernel_rfl) (by exact fun _ _ _ h => h) (Or.inr ⟨by rfl, rfl⟩) (by assumption) ?_
                try simp only [Act.put, List.setIfInBounds_toArray, List.set_cons_zero, List.set_cons_succ]
                refine wpAnyH_take (i := 13) (v := undef) (by conv => lhs; simp only [List.getElem?_toArray, List.getElem?_cons_succ, List.getElem?_cons_zero]) (by kernel_rfl) (by kernel_rfl) (by kernel_rfl) (by exact fun _ _ _ h => h) (Or.inr ⟨by rfl, rfl⟩) (by assumption) ?_
                try simp only [Act.put, List.setIfInBounds_toArray, List.set_cons_zero, List.set_cons_succ]
                refine wpAnyH_take (i := 14) (v := undef) (by conv => lhs; simp only [List.getElem?_toArray, List.getElem?_cons_succ, List.getElem?_cons_zero]) (by kernel_rfl) (by kernel_rfl) (by kernel_rfl) (by exact fun _ _ _ h => h) (Or.inr ⟨by rfl, rfl⟩) (by assumption) ?_
                try simp only [Act.put, List.setIfInBounds_toArray, List.set_cons_zero, List.set_cons_succ]
                refine wpAnyH_take (i := 15) (v := .bool true) (by conv => lhs; simp only [List.getElem?_toArray, List.getElem?_cons_succ, List.getElem?_cons_zero]) (by kernel_rfl) (by kernel_rfl) (by kernel_rfl) (by exact fun _ _ _ h => h) (Or.inl ⟨by rfl, ?hym4_15⟩) (by assumption) ?_
                case hym4_15 => (intro w0 hSw; (try dsimp only at hSw); go_simp; (try with_reducible rfl); (try assumption))
                try simp only [Act.put, List.setIfInBounds_toArray, List.set_cons_zero, List.set_cons_succ]
                refine wpAnyH_take (i := 16) (v := .bool true) (by conv => lhs; simp only [List.getElem?_toArray, List.getElem?_cons_succ, List.getElem?_cons_zero]) (by kernel_rfl) (by kernel_rfl) (by kernel_rfl) (by exact fun _ _ _ h => h) (Or.inl ⟨by rfl, ?hym4_16⟩) (by assumption) ?_
                case hym4_16 => (intro w0 hSw; (try dsimp only at hSw); go_simp; (try with_reducible rfl); (try assumption))
                try simp only [Act.put, List.setIfInBounds_toArray, List.set_cons_zero, List.set_cons_succ]
                refine wpAnyH_take (i := 17) (v := .bool true) (by conv => lhs; simp only [List.getElem?_toArray, List.getElem?_cons_succ, List.getElem?_cons_zero]) (by kernel_rfl) (by kernel_rfl) (by kernel_rfl) (by exact fun _ _ _ h => h) (Or.inl ⟨by rfl, ?hym4_17⟩) (by assumption) ?_
                case hym4_17 => (intro w0 hSw; (try dsimp only at hSw); go_simp; (try with_reducible rfl); (try assumption))
                try simp only [Act.put, List.setIfInBounds_toArray, List.set_cons_zero, List.set_cons_succ]
                refine wpAnyH_take (i := 18) (v := ?vm4_18) (by conv => lhs; simp only [List.getElem?_toArray, List.getElem?_cons_succ, List.getElem?_cons_zero]) (by kernel_rfl) (by kernel_rfl) (by kernel_rfl) (by exact fun _ _ _ h => h) (Or.inl ⟨by rfl, ?hym4_18⟩) (by assumption) ?_
                case hym4_18 => (intro w0 hSw; (try dsimp only at hSw); go_simp; (try with_reducible rfl); (try assumption))
                try simp only [Act.put, List.setIfInBounds_toArray, List.set_cons_zero, List.set_cons_succ]
                refine wpAnyH_done (by kernel_rfl) ?_ _
                go_wp2_with fail
                go_roundw
                case rel => exact ⟨j + 1, by omega, by go_num, by rw [HTS.out], Lib.hid (HBQ.out.trans (HB9.out.mono HBQ.out.size))⟩
                case measure => simp [Lib.intOf]; omega
              have ge : (x.str.toList == (kindW (j : Int)).toList) = false := by rw [keq_iff]; exact decide_eq_false he
              have ge2 : ¬ x.str.toList = (kindW (j : Int)).toList := fun e => by rw [beq_eq_false_iff_ne] at ge; exact ge e
              rw [decide_eq_false he, Bool.false_or] at hts
              clear he
              by_cases ha : x.str = anyW
              · have ga : (x.str.toList == [97, 110, 121]) = true := by rw [show ([97, 110, 121] : List UInt8) = anyW.toList from by rw [ByteArray.toList_eq]; rfl, keq_iff]; exact decide_eq_true ha
                have ga2 : x.str.toList = [97, 110, 121] := by rw [ha, ByteArray.toList_eq]; rfl
                have ge3 : ¬ ([97, 110, 121] : List UInt8) = (kindW (j : Int)).toList := ga2 ▸ ge2
                have HTS := Lib.hid (show tyF x (j + 1) = true from by rw [hts, decide_eq_true ha])
                clear hts ha
                refine wp_region_held_drew (S := (fun w' => ∀ i, w'.cell? ⟨n4, i, none⟩ = (#[.int .i64 x.kind, .bool x.bool, .int .i64 x.int, .string x.str, .slice xla x.list.length xlc, .slice xma x.map.length xmc] : Array Value)[i]?)) (by kernel_rfl) (by exact (LQ.out.keep (Below.refl _ _).drew).cell) (fun hHeld => ?_)
                refine wpAnyH_take (i := 0) (v := .bool false) (by conv => lhs; simp only [List.getElem?_toArray, List.getElem?_cons_succ, List.getElem?_cons_zero]) (by kernel_rfl) (by kernel_rfl) (by kernel_rfl) (by exact fun _ _ _ h => h) (Or.inl ⟨by rfl, ?hym5_0⟩) (by assumption) ?_
                case hym5_0 => (intro w0 hSw; (try dsimp only at hSw); go_simp; (try with_reducible rfl); (try assumption))
                try simp only [Act.put, List.setIfInBounds_toArray, List.set_cons_zero, List.set_cons_succ]
                refine wpAnyH_take (i := 1) (v := .bool false) (by conv => lhs; simp only [List.getElem?_toArray, List.getElem?_cons_succ, List.getElem?_cons_zero]) (by kernel_rfl) (by kernel_rfl) (by kernel_rfl) (by exact fun _ _ _ h => h) (Or.inl ⟨by rfl, ?hym5_1⟩) (by assumption) ?_
                case hym5_1 => (intro w0 hSw; (try dsimp only at hSw); go_simp; (try with_reducible rfl); (try assumption))
                try simp only [Act.put, List.setIfInBounds_toArray, List.set_cons_zero, List.set_cons_succ]
                refine wpAnyH_take (i := 2) (v := ?vm5_2) (by conv => lhs; simp only [List.getElem?_toArray, List.getElem?_cons_succ, List.getElem?_cons_zero]) (by kernel_rfl) (by kernel_rfl) (by kernel_rfl) (by exact fun _ _ _ h => h) (Or.inl ⟨by rfl, ?hym5_2⟩) (by assumption) ?_
                case hym5_2 => (intro w0 hSw; (try dsimp only at hSw); go_simp; (try with_reducible rfl); (try assumption))
                try simp only [Act.put, List.setIfInBounds_toArray, List.set_cons_zero, List.set_cons_succ]
                refine wpAnyH_take (i := 3) (v := ?vm5_3) (by conv => lhs; simp only [List.getElem?_toArray, List.getElem?_cons_succ, List.getElem?_cons_zero]) (by kernel_rfl) (by kernel_rfl) (by kernel_rfl) (by exact fun _ _ _ h => h) (Or.inl ⟨by rfl, ?hym5_3⟩) (by assumption) ?_
                case hym5_3 => (intro w0 hSw; (try dsimp only at hSw); go_simp; (try with_reducible rfl); (try assumption))
                try simp only [Act.put, List.setIfInBounds_toArray, List.set_cons_zero, List.set_cons_succ]
                refine wpAnyH_take (i := 4) (v := .bool true) (by conv => lhs; simp only [List.getElem?_toArray, List.getElem?_cons_succ, List.getElem?_cons_zero]) (by kernel_rfl) (by kernel_rfl) (by kernel_rfl) (by exact fun _ _ _ h => h) (Or.inl ⟨by rfl, ?hym5_4⟩) (by assumption) ?_
                case hym5_4 => (intro w0 hSw; (try dsimp only at hSw); go_simp; (try with_reducible rfl); (try assumption))
                try simp only [Act.put, List.setIfInBounds_toArray, List.set_cons_zero, List.set_cons_succ]
                refine wpAnyH_take (i := 5) (v := .bool true) (by conv => lhs; simp only [List.getElem?_toArray, List.getElem?_cons_succ, List.getElem?_cons_zero]) (by kernel_rfl) (by kernel_rfl) (by kernel_rfl) (by exact fun _ _ _ h => h) (Or.inl ⟨by rfl, ?hym5_5⟩) (by assumption) ?_
                case hym5_5 => (intro w0 hSw; (try dsimp only at hSw); go_simp; (try with_reducible rfl); (try assumption))
                try simp only [Act.put, List.setIfInBounds_toArray, List.set_cons_zero, List.set_cons_succ]
                refine wpAnyH_take (i := 6) (v := ?vm5_6) (by conv => lhs; simp only [List.getElem?_toArray, List.getElem?_cons_succ, List.getElem?_cons_zero]) (by kernel_rfl) (by kernel_rfl) (by kernel_rfl) (by exact fun _ _ _ h => h) (Or.inl ⟨by rfl, ?hym5_6⟩) (by assumption) ?_
                case hym5_6 => (intro w0 hSw; (try dsimp only at hSw); go_simp; (try with_reducible rfl); (try assumption))
                try simp only [Act.put, List.setIfInBounds_toArray, List.set_cons_zero, List.set_cons_succ]
                refine wpAnyH_take (i := 7) (v := ?vm5_7) (by conv => lhs; simp only [List.getElem?_toArray, List.getElem?_cons_succ, List.getElem?_cons_zero]) (by kernel_rfl) (by kernel_rfl) (by kernel_rfl) (by exact fun _ _ _ h => h) (Or.inl ⟨by rfl, ?hym5_7⟩) (by assumption) ?_
                case hym5_7 => (intro w0 hSw; (try dsimp only at hSw); go_simp; (try with_reducible rfl); (try assumption))
                try simp only [Act.put, List.setIfInBounds_toArray, List.set_cons_zero, List.set_cons_succ]
                refine wpAnyH_take (i := 8) (v := ?vm5_8) (by conv => lhs; simp only [List.getElem?_toArray, List.getElem?_cons_succ, List.getElem?_cons_zero]) (by kernel_rfl) (by kernel_rfl) (by kernel_rfl) (by exact fun _ _ _ h => h) (Or.inl ⟨by rfl, ?hym5_8⟩) (by assumption) ?_
                case hym5_8 => (intro w0 hSw; (try dsimp only at hSw); go_simp; (try with_reducible rfl); (try assumption))
                try simp only [Act.put, List.setIfInBounds_toArray, List.set_cons_zero, List.set_cons_succ]
                refine wpAnyH_ready (rs := [9]) (by kernel_rfl) (by simp) ?_
                refine AllReadyH.cons (by conv => lhs; simp only [List.getElem?_toArray, List.getElem?_cons_succ, List.getElem?_cons_zero]) (fun K hK => ?_) AllReadyH.nil
                go_simp
                refine (rkind25 (j : Int) (by omega) (by omega) _).mono ?_
                rintro e w9 ⟨rfl, hb9⟩
                have HB9 := Lib.hid (Below.next (Below.refl wr.heap.size wr).drew hb9)
                clear hb9
                go_wp2_with fail
                refine hK.out _ _ (by exact (LQ.out.keep HB9.out).cell) (fun hHeld => ?_)
                clear hK K
                try simp only [Act.put, List.setIfInBounds_toArray, List.set_cons_zero, List.set_cons_succ]
                refine wpAnyH_take (i := 10) (v := .bool false) (by conv => lhs; simp only [List.getElem?_toArray, List.getElem?_cons_succ, List.getElem?_cons_zero]) (by kernel_rfl) (by kernel_rfl) (by kernel_rfl) (by exact fun _ _ _ h => h) (Or.inl ⟨by rfl, ?hym6_10⟩) (by assumption) ?_
                case hym6_10 => (intro w0 hSw; (try dsimp only at hSw); go_simp; (try with_reducible rfl); (try assumption))
                try simp only [Act.put, List.setIfInBounds_toArray, List.set_cons_zero, List.set_cons_succ]
                refine wpAnyH_take (i := 11) (v := .bool false) (by conv => lhs; simp only [List.getElem?_toArray, List.getElem?_cons_succ, List.getElem?_cons_zero]) (by kernel_rfl) (by kernel_rfl) (by kernel_rfl) (by exact fun _ _ _ h => h) (Or.inl ⟨by rfl, ?hym6_11⟩) (by assumption) ?_
                case hym6_11 => (intro w0 hSw; (try dsimp only at hSw); go_simp; (try with_reducible rfl); (try assumption))
                try simp only [Act.put, List.setIfInBounds_toArray, List.set_cons_zero, List.set_cons_succ]
                refine wpAnyH_take (i := 12) (v := ?vm6_12) (by conv => lhs; simp only [List.getElem?_toArray, List.getElem?_cons_succ, List.getElem?_cons_zero]) (by kernel_rfl) (by kernel_rfl) (by kernel_rfl) (by exact fun _ _ _ h => h) (Or.inl ⟨by rfl, ?hym6_12⟩) (by assumption) ?_
                case hym6_12 => (intro w0 hSw; (try dsimp only at hSw); go_simp; (try with_reducible rfl); (try assumption))
                try simp only [Act.put, List.setIfInBounds_toArray, List.set_cons_zero, List.set_cons_succ]
                refine wpAnyH_take (i := 13) (v := ?vm6_13) (by conv => lhs; simp only [List.getElem?_toArray, List.getElem?_cons_succ, List.getElem?_cons_zero]) (by kernel_rfl) (by kernel_rfl) (by kernel_rfl) (by exact fun _ _ _ h => h) (Or.inl ⟨by rfl, ?hym6_13⟩) (by assumption) ?_
                case hym6_13 => (intro w0 hSw; (try dsimp only at hSw); go_simp; (try with_reducible rfl); (try assumption))
                try simp only [Act.put, List.setIfInBounds_toArray, List.set_cons_zero, List.set_cons_succ]
                refine wpAnyH_take (i := 14) (v := .bool true) (by conv => lhs; simp only [List.getElem?_toArray, List.getElem?_cons_succ, List.getElem?_cons_zero]) (by kernel_rfl) (by kernel_rfl) (by kernel_rfl) (by exact fun _ _ _ h => h) (Or.inl ⟨by rfl, ?hym6_14⟩) (by assumption) ?_
                case hym6_14 => (intro w0 hSw; (try dsimp only at hSw); go_simp; (try with_reducible rfl); (try assumption))
                try simp only [Act.put, List.setIfInBounds_toArray, List.set_cons_zero, List.set_cons_succ]
                refine wpAnyH_take (i := 15) (v := .bool true) (by conv => lhs; simp only [List.getElem?_toArray, List.getElem?_cons_succ, List.getElem?_cons_zero]) (by kernel_rfl) (by kernel_rfl) (by kernel_rfl) (by exact fun _ _ _ h => h) (Or.inl ⟨by rfl, ?hym6_15⟩) (by assumption) ?_
                case hym6_15 => (intro w0 hSw; (try dsimp only at hSw); go_simp; (try with_reducible rfl); (try assumption))
                try simp only [Act.put, List.setIfInBounds_toArray, List.set_cons_zero, List.set_cons_succ]
                refine wpAnyH_take (i := 16) (v := .bool true) (by conv => lhs; simp only [List.getElem?_toArray, List.getElem?_cons_succ, List.getElem?_cons_zero]) (by kernel_rfl) (by kernel_rfl) (by kernel_rfl) (by exact fun _ _ _ h => h) (Or.inl ⟨by rfl, ?hym6_16⟩) (by assumption) ?_
                case hym6_16 => (intro w0 hSw; (try dsimp only at hSw); go_simp; (try with_reducible rfl); (try assumption))
                try simp only [Act.put, List.setIfInBounds_toArray, List.set_cons_zero, List.set_cons_succ]
                refine wpAnyH_take (i := 17) (v := .bool true) (by conv => lhs; simp only [List.getElem?_toArray, List.getElem?_cons_succ, List.getElem?_cons_zero]) (by kernel_rfl) (by kernel_rfl) (by kernel_rfl) (by exact fun _ _ _ h => h) (Or.inl ⟨by rfl, ?hym6_17⟩) (by assumption) ?_
                case hym6_17 => (intro w0 hSw; (try dsimp only at hSw); go_simp; (try with_reducible rfl); (try assumption))
                try simp only [Act.put, List.setIfInBounds_toArray, List.set_cons_zero, List.set_cons_succ]
                refine wpAnyH_take (i := 18) (v := ?vm6_18) (by conv => lhs; simp only [List.getElem?_toArray, List.getElem?_cons_succ, List.getElem?_cons_zero]) (by kernel_rfl) (by kernel_rfl) (by kernel_rfl) (by exact fun _ _ _ h => h) (Or.inl ⟨by rfl, ?hym6_18⟩) (by assumption) ?_
                case hym6_18 => (intro w0 hSw; (try dsimp only at hSw); go_simp; (try with_reducible rfl); (try assumption))
                try simp only [Act.put, List.setIfInBounds_toArray, List.set_cons_zero, List.set_cons_succ]
                refine wpAnyH_done (by kernel_rfl) ?_ _
                go_wp2_with fail
                go_roundw
                case rel => exact ⟨j + 1, by omega, by go_num, by rw [HTS.out], Lib.hid (HBQ.out.trans (HB9.out.mono HBQ.out.size))⟩
                case measure => simp [Lib.intOf]; omega
              have ga : (x.str.toList == [97, 110, 121]) = false := by rw [show ([97, 110, 121] : List UInt8) = anyW.toList from by rw [ByteArray.toList_eq]; rfl, keq_iff]; exact decide_eq_false ha
              have ga2 : ¬ x.str.toList = [97, 110, 121] := fun e => by rw [beq_eq_false_iff_ne] at ga; exact ga e
              have HTS := Lib.hid (show tyF x (j + 1) = false from by rw [hts, decide_eq_false ha])
              clear hts ha
              refine wp_region_held_drew (S := (fun w' => ∀ i, w'.cell? ⟨n4, i, none⟩ = (#[.int .i64 x.kind, .bool x.bool, .int .i64 x.int, .string x.str, .slice xla x.list.length xlc, .slice xma x.map.length xmc] : Array Value)[i]?)) (by kernel_rfl) (by exact (LQ.out.keep (Below.refl _ _).drew).cell) (fun hHeld => ?_)
              refine wpAnyH_take (i := 0) (v := .bool false) (by conv => lhs; simp only [List.getElem?_toArray, List.getElem?_cons_succ, List.getElem?_cons_zero]) (by kernel_rfl) (by kernel_rfl) (by kernel_rfl) (by exact fun _ _ _ h => h) (Or.inl ⟨by rfl, ?hym7_0⟩) (by assumption) ?_
              case hym7_0 => (intro w0 hSw; (try dsimp only at hSw); go_simp; (try with_reducible rfl); (try assumption))
              try simp only [Act.put, List.setIfInBounds_toArray, List.set_cons_zero, List.set_cons_succ]
              refine wpAnyH_take (i := 1) (v := .bool false) (by conv => lhs; simp only [List.getElem?_toArray, List.getElem?_cons_succ, List.getElem?_cons_zero]) (by kernel_rfl) (by kernel_rfl) (by kernel_rfl) (by exact fun _ _ _ h => h) (Or.inl ⟨by rfl, ?hym7_1⟩) (by assumption) ?_
              case hym7_1 => (intro w0 hSw; (try dsimp only at hSw); go_simp; (try with_reducible rfl); (try assumption))
              try simp only [Act.put, List.setIfInBounds_toArray, List.set_cons_zero, List.set_cons_succ]
              refine wpAnyH_take (i := 2) (v := ?vm7_2) (by conv => lhs; simp only [List.getElem?_toArray, List.getElem?_cons_succ, List.getElem?_cons_zero]) (by kernel_rfl) (by kernel_rfl) (by kernel_rfl) (by exact fun _ _ _ h => h) (Or.inl ⟨by rfl, ?hym7_2⟩) (by assumption) ?_
              case hym7_2 => (intro w0 hSw; (try dsimp only at hSw); go_simp; (try with_reducible rfl); (try assumption))
              try simp only [Act.put, List.setIfInBounds_toArray, List.set_cons_zero, List.set_cons_succ]
              refine wpAnyH_take (i := 3) (v := ?vm7_3) (by conv => lhs; simp only [List.getElem?_toArray, List.getElem?_cons_succ, List.getElem?_cons_zero]) (by kernel_rfl) (by kernel_rfl) (by kernel_rfl) (by exact fun _ _ _ h => h) (Or.inl ⟨by rfl, ?hym7_3⟩) (by assumption) ?_
              case hym7_3 => (intro w0 hSw; (try dsimp only at hSw); go_simp; (try with_reducible rfl); (try assumption))
              try simp only [Act.put, List.setIfInBounds_toArray, List.set_cons_zero, List.set_cons_succ]
              refine wpAnyH_take (i := 4) (v := .bool true) (by conv => lhs; simp only [List.getElem?_toArray, List.getElem?_cons_succ, List.getElem?_cons_zero]) (by kernel_rfl) (by kernel_rfl) (by kernel_rfl) (by exact fun _ _ _ h => h) (Or.inl ⟨by rfl, ?hym7_4⟩) (by assumption) ?_
              case hym7_4 => (intro w0 hSw; (try dsimp only at hSw); go_simp; (try with_reducible rfl); (try assumption))
              try simp only [Act.put, List.setIfInBounds_toArray, List.set_cons_zero, List.set_cons_succ]
              refine wpAnyH_take (i := 5) (v := .bool true) (by conv => lhs; simp only [List.getElem?_toArray, List.getElem?_cons_succ, List.getElem?_cons_zero]) (by kernel_rfl) (by kernel_rfl) (by kernel_rfl) (by exact fun _ _ _ h => h) (Or.inl ⟨by rfl, ?hym7_5⟩) (by assumption) ?_
              case hym7_5 => (intro w0 hSw; (try dsimp only at hSw); go_simp; (try with_reducible rfl); (try assumption))
              try simp only [Act.put, List.setIfInBounds_toArray, List.set_cons_zero, List.set_cons_succ]
              refine wpAnyH_take (i := 6) (v := ?vm7_6) (by conv => lhs; simp only [List.getElem?_toArray, List.getElem?_cons_succ, List.getElem?_cons_zero]) (by kernel_rfl) (by kernel_rfl) (by kernel_rfl) (by exact fun _ _ _ h => h) (Or.inl ⟨by rfl, ?hym7_6⟩) (by assumption) ?_
              case hym7_6 => (intro w0 hSw; (try dsimp only at hSw); go_simp; (try with_reducible rfl); (try assumption))
              try simp only [Act.put, List.setIfInBounds_toArray, List.set_cons_zero, List.set_cons_succ]
              refine wpAnyH_take (i := 7) (v := ?vm7_7) (by conv => lhs; simp only [List.getElem?_toArray, List.getElem?_cons_succ, List.getElem?_cons_zero]) (by kernel_rfl) (by kernel_rfl) (by kernel_rfl) (by exact fun _ _ _ h => h) (Or.inl ⟨by rfl, ?hym7_7⟩) (by assumption) ?_
              case hym7_7 => (intro w0 hSw; (try dsimp only at hSw); go_simp; (try with_reducible rfl); (try assumption))
              try simp only [Act.put, List.setIfInBounds_toArray, List.set_cons_zero, List.set_cons_succ]
              refine wpAnyH_take (i := 8) (v := ?vm7_8) (by conv => lhs; simp only [List.getElem?_toArray, List.getElem?_cons_succ, List.getElem?_cons_zero]) (by kernel_rfl) (by kernel_rfl) (by kernel_rfl) (by exact fun _ _ _ h => h) (Or.inl ⟨by rfl, ?hym7_8⟩) (by assumption) ?_
              case hym7_8 => (intro w0 hSw; (try dsimp only at hSw); go_simp; (try with_reducible rfl); (try assumption))
              try simp only [Act.put, List.setIfInBounds_toArray, List.set_cons_zero, List.set_cons_succ]
              refine wpAnyH_ready (rs := [9]) (by kernel_rfl) (by simp) ?_
              refine AllReadyH.cons (by conv => lhs; simp only [List.getElem?_toArray, List.getElem?_cons_succ, List.getElem?_cons_zero]) (fun K hK => ?_) AllReadyH.nil
              go_simp
              refine (rkind25 (j : Int) (by omega) (by omega) _).mono ?_
              rintro e w9 ⟨rfl, hb9⟩
              have HB9 := Lib.hid (Below.next (Below.refl wr.heap.size wr).drew hb9)
              clear hb9
              go_wp2_with fail
              refine hK.out _ _ (by exact (LQ.out.keep HB9.out).cell) (fun hHeld => ?_)
              clear hK K
              try simp only [Act.put, List.setIfInBounds_toArray, List.set_cons_zero, List.set_cons_succ]
              refine wpAnyH_take (i := 10) (v := .bool false) (by conv => lhs; simp only [List.getElem?_toArray, List.getElem?_cons_succ, List.getElem?_cons_zero]) (by kernel_rfl) (by kernel_rfl) (by kernel_rfl) (by exact fun _ _ _ h => h) (Or.inl ⟨by rfl, ?hym8_10⟩) (by assumption) ?_
              case hym8_10 => (intro w0 hSw; (try dsimp only at hSw); go_simp; (try with_reducible rfl); (try assumption))
              try simp only [Act.put, List.setIfInBounds_toArray, List.set_cons_zero, List.set_cons_succ]
              refine wpAnyH_take (i := 11) (v := .bool false) (by conv => lhs; simp only [List.getElem?_toArray, List.getElem?_cons_succ, List.getElem?_cons_zero]) (by kernel_rfl) (by kernel_rfl) (by kernel_rfl) (by exact fun _ _ _ h => h) (Or.inl ⟨by rfl, ?hym8_11⟩) (by assumption) ?_
              case hym8_11 => (intro w0 hSw; (try dsimp only at hSw); go_simp; (try with_reducible rfl); (try assumption))
              try simp only [Act.put, List.setIfInBounds_toArray, List.set_cons_zero, List.set_cons_succ]
              refine wpAnyH_take (i := 12) (v := ?vm8_12) (by conv => lhs; simp only [List.getElem?_toArray, List.getElem?_cons_succ, List.getElem?_cons_zero]) (by kernel_rfl) (by kernel_rfl) (by kernel_rfl) (by exact fun _ _ _ h => h) (Or.inl ⟨by rfl, ?hym8_12⟩) (by assumption) ?_
              case hym8_12 => (intro w0 hSw; (try dsimp only at hSw); go_simp; (try with_reducible rfl); (try assumption))
              try simp only [Act.put, List.setIfInBounds_toArray, List.set_cons_zero, List.set_cons_succ]
              refine wpAnyH_take (i := 13) (v := ?vm8_13) (by conv => lhs; simp only [List.getElem?_toArray, List.getElem?_cons_succ, List.getElem?_cons_zero]) (by kernel_rfl) (by kernel_rfl) (by kernel_rfl) (by exact fun _ _ _ h => h) (Or.inl ⟨by rfl, ?hym8_13⟩) (by assumption) ?_
              case hym8_13 => (intro w0 hSw; (try dsimp only at hSw); go_simp; (try with_reducible rfl); (try assumption))
              try simp only [Act.put, List.setIfInBounds_toArray, List.set_cons_zero, List.set_cons_succ]
              refine wpAnyH_take (i := 14) (v := .bool false) (by conv => lhs; simp only [List.getElem?_toArray, List.getElem?_cons_succ, List.getElem?_cons_zero]) (by kernel_rfl) (by kernel_rfl) (by kernel_rfl) (by exact fun _ _ _ h => h) (Or.inl ⟨by rfl, ?hym8_14⟩) (by assumption) ?_
              case hym8_14 => (intro w0 hSw; (try dsimp only at hSw); go_simp; (try with_reducible rfl); (try assumption))
              try simp only [Act.put, List.setIfInBounds_toArray, List.set_cons_zero, List.set_cons_succ]
              refine wpAnyH_take (i := 15) (v := .bool false) (by conv => lhs; simp only [List.getElem?_toArray, List.getElem?_cons_succ, List.getElem?_cons_zero]) (by kernel_rfl) (by kernel_rfl) (by kernel_rfl) (by exact fun _ _ _ h => h) (Or.inl ⟨by rfl, ?hym8_15⟩) (by assumption) ?_
              case hym8_15 => (intro w0 hSw; (try dsimp only at hSw); go_simp; (try with_reducible rfl); (try assumption))
              try simp only [Act.put, List.setIfInBounds_toArray, List.set_cons_zero, List.set_cons_succ]
              refine wpAnyH_take (i := 16) (v := .bool false) (by conv => lhs; simp only [List.getElem?_toArray, List.getElem?_cons_succ, List.getElem?_cons_zero]) (by kernel_rfl) (by kernel_rfl) (by kernel_rfl) (by exact fun _ _ _ h => h) (Or.inl ⟨by rfl, ?hym8_16⟩) (by assumption) ?_
              case hym8_16 => (intro w0 hSw; (try dsimp only at hSw); go_simp; (try with_reducible rfl); (try assumption))
              try simp only [Act.put, List.setIfInBounds_toArray, List.set_cons_zero, List.set_cons_succ]
              refine wpAnyH_take (i := 17) (v := .bool false) (by conv => lhs; simp only [List.getElem?_toArray, List.getElem?_cons_succ, List.getElem?_cons_zero]) (by kernel_rfl) (by kernel_rfl) (by kernel_rfl) (by exact fun _ _ _ h => h) (Or.inl ⟨by rfl, ?hym8_17⟩) (by assumption) ?_
              case hym8_17 => (intro w0 hSw; (try dsimp only at hSw); go_simp; (try with_reducible rfl); (try assumption))
              try simp only [Act.put, List.setIfInBounds_toArray, List.set_cons_zero, List.set_cons_succ]
              refine wpAnyH_take (i := 18) (v := ?vm8_18) (by conv => lhs; simp only [List.getElem?_toArray, List.getElem?_cons_succ, List.getElem?_cons_zero]) (by kernel_rfl) (by kernel_rfl) (by kernel_rfl) (by exact fun _ _ _ h => h) (Or.inl ⟨by rfl, ?hym8_18⟩) (by assumption) ?_
              case hym8_18 => (intro w0 hSw; (try dsimp only at hSw); go_simp; (try with_reducible rfl); (try assumption))
              try simp only [Act.put, List.setIfInBounds_toArray, List.set_cons_zero, List.set_cons_succ]
              refine wpAnyH_done (by kernel_rfl) ?_ _
              go_wp2_with fail
              go_roundw
              case rel => exact ⟨j + 1, by omega, by go_num, by rw [HTS.out], Lib.hid (HBQ.out.trans (HB9.out.mono HBQ.out.size))⟩
              case measure => simp [Lib.intOf]; omega
          · obtain rfl : j = 6 := by omega
            rw [HEND.out]
            have HB5 := Lib.hid (HB3.out.trans (HBQ.out.mono HB3.out.size))
            have LQ := Lib.hid (LA.out.keep HBQ.out)
            have k1 := LQ.out.cell; have m1 := LQ.out.lt
            cases sp with
            | true =>
              have HSV := Lib.hid (show (true : Bool) = true from rfl)
              go_wp2_with fail
              go_roundw
              case rel => exact ⟨q + 1, by omega, by go_num, Lib.hid (HZ.out.trans HSV.out), Lib.hid (HB5.out)⟩
              case measure => simp [Lib.intOf]; omega
            | false =>
              have HSV := Lib.hid (show (false : Bool) = false from rfl)
              go_wp2_with fail
              go_ret
              exact ⟨congrArg (fun b => Ending.returned (.bool b)) (HA.out HSV.out).symm, by rw [E1.out]; exact HB0.out.trans ((HB5.out).mono HB0.out.size)⟩
      have g0 : (key.toList == [116, 121, 112, 101]) = false := by rw [show ([116, 121, 112, 101] : List UInt8) = typeW.toList from by rw [ByteArray.toList_eq]; rfl, keq_iff]; exact decide_eq_false h0
      by_cases h1 : key = closedW
      · have g1 : (key.toList == [99, 108, 111, 115, 101, 100]) = true := by rw [show ([99, 108, 111, 115, 101, 100] : List UInt8) = closedW.toList from by rw [ByteArray.toList_eq]; rfl, keq_iff]; exact decide_eq_true h1
        rw [if_neg h0, if_pos h1] at HSP
        clear h0 h1
        by_cases hk : x.kind = 1
        · have gk : (x.kind == 1) = true := by rw [hk]; rfl
          have HSV := Lib.hid (show sp = true from by rw [HSP.out]; exact decide_eq_true hk)
          clear hk
          go_wp2_with fail
          go_roundw
          case rel => exact ⟨q + 1, by omega, by go_num, Lib.hid (HZ.out.trans HSV.out), Lib.hid (HB3.out)⟩
          case measure => simp [Lib.intOf]; omega
        · have gk : (x.kind == 1) = false := beq_eq_false_iff_ne.2 hk
          have HSV := Lib.hid (show sp = false from by rw [HSP.out]; exact decide_eq_false hk)
          clear hk
          go_wp2_with fail
          go_ret
          exact ⟨congrArg (fun b => Ending.returned (.bool b)) (HA.out HSV.out).symm, by rw [E1.out]; exact HB0.out.trans ((HB3.out).mono HB0.out.size)⟩
      have g1 : (key.toList == [99, 108, 111, 115, 101, 100]) = false := by rw [show ([99, 108, 111, 115, 101, 100] : List UInt8) = closedW.toList from by rw [ByteArray.toList_eq]; rfl, keq_iff]; exact decide_eq_false h1
      by_cases h2 : key = leastW
      · have g2 : (key.toList == [108, 101, 97, 115, 116]) = true := by rw [show ([108, 101, 97, 115, 116] : List UInt8) = leastW.toList from by rw [ByteArray.toList_eq]; rfl, keq_iff]; exact decide_eq_true h2
        rw [if_neg h0, if_neg h1, if_pos h2] at HSP
        clear h0 h1 h2
        by_cases hk : x.kind = 2
        · have gk : (x.kind == 2) = true := by rw [hk]; rfl
          have HSV := Lib.hid (show sp = true from by rw [HSP.out]; exact decide_eq_true hk)
          clear hk
          go_wp2_with fail
          go_roundw
          case rel => exact ⟨q + 1, by omega, by go_num, Lib.hid (HZ.out.trans HSV.out), Lib.hid (HB3.out)⟩
          case measure => simp [Lib.intOf]; omega
        · have gk : (x.kind == 2) = false := beq_eq_false_iff_ne.2 hk
          have HSV := Lib.hid (show sp = false from by rw [HSP.out]; exact decide_eq_false hk)
          clear hk
          go_wp2_with fail
          go_ret
          exact ⟨congrArg (fun b => Ending.returned (.bool b)) (HA.out HSV.out).symm, by rw [E1.out]; exact HB0.out.trans ((HB3.out).mono HB0.out.size)⟩
      have g2 : (key.toList == [108, 101, 97, 115, 116]) = false := by rw [show ([108, 101, 97, 115, 116] : List UInt8) = leastW.toList from by rw [ByteArray.toList_eq]; rfl, keq_iff]; exact decide_eq_false h2
      by_cases h3 : key = mostW
      · have g3 : (key.toList == [109, 111, 115, 116]) = true := by rw [show ([109, 111, 115, 116] : List UInt8) = mostW.toList from by rw [ByteArray.toList_eq]; rfl, keq_iff]; exact decide_eq_true h3
        rw [if_neg h0, if_neg h1, if_neg h2, if_pos h3] at HSP
        clear h0 h1 h2 h3
        by_cases hk : x.kind = 2
        · have gk : (x.kind == 2) = true := by rw [hk]; rfl
          have HSV := Lib.hid (show sp = true from by rw [HSP.out]; exact decide_eq_true hk)
          clear hk
          go_wp2_with fail
          go_roundw
          case rel => exact ⟨q + 1, by omega, by go_num, Lib.hid (HZ.out.trans HSV.out), Lib.hid (HB3.out)⟩
          case measure => simp [Lib.intOf]; omega
        · have gk : (x.kind == 2) = false := beq_eq_false_iff_ne.2 hk
          have HSV := Lib.hid (show sp = false from by rw [HSP.out]; exact decide_eq_false hk)
          clear hk
          go_wp2_with fail
          go_ret
          exact ⟨congrArg (fun b => Ending.returned (.bool b)) (HA.out HSV.out).symm, by rw [E1.out]; exact HB0.out.trans ((HB3.out).mono HB0.out.size)⟩
      have g3 : (key.toList == [109, 111, 115, 116]) = false := by rw [show ([109, 111, 115, 116] : List UInt8) = mostW.toList from by rw [ByteArray.toList_eq]; rfl, keq_iff]; exact decide_eq_false h3
      by_cases h4 : key = oneW
      · have g4 : (key.toList == [111, 110, 101]) = true := by rw [show ([111, 110, 101] : List UInt8) = oneW.toList from by rw [ByteArray.toList_eq]; rfl, keq_iff]; exact decide_eq_true h4
        rw [if_neg h0, if_neg h1, if_neg h2, if_neg h3, if_pos h4] at HSP
        clear h0 h1 h2 h3 h4
        by_cases hk : x.kind = 4
        · have gk : (x.kind == 4) = true := by rw [hk]; rfl
          have HSV := Lib.hid (show sp = true from by rw [HSP.out]; exact decide_eq_true hk)
          clear hk
          go_wp2_with fail
          go_roundw
          case rel => exact ⟨q + 1, by omega, by go_num, Lib.hid (HZ.out.trans HSV.out), Lib.hid (HB3.out)⟩
          case measure => simp [Lib.intOf]; omega
        · have gk : (x.kind == 4) = false := beq_eq_false_iff_ne.2 hk
          have HSV := Lib.hid (show sp = false from by rw [HSP.out]; exact decide_eq_false hk)
          clear hk
          go_wp2_with fail
          go_ret
          exact ⟨congrArg (fun b => Ending.returned (.bool b)) (HA.out HSV.out).symm, by rw [E1.out]; exact HB0.out.trans ((HB3.out).mono HB0.out.size)⟩
      have g4 : (key.toList == [111, 110, 101]) = false := by rw [show ([111, 110, 101] : List UInt8) = oneW.toList from by rw [ByteArray.toList_eq]; rfl, keq_iff]; exact decide_eq_false h4
      by_cases h5 : key = reqW
      · have g5 : (key.toList == [114, 101, 113, 117, 105, 114, 101, 100]) = true := by rw [show ([114, 101, 113, 117, 105, 114, 101, 100] : List UInt8) = reqW.toList from by rw [ByteArray.toList_eq]; rfl, keq_iff]; exact decide_eq_true h5
        rw [if_neg h0, if_neg h1, if_neg h2, if_neg h3, if_neg h4, if_pos h5] at HSP
        clear h0 h1 h2 h3 h4 h5
        obtain ⟨okq, hokq⟩ : ∃ okq : Nat → Bool, okq = fun j => decide (x.kind = 4) && (x.list.take j).all (fun y => decide (y.kind = 3)) := ⟨_, rfl⟩
        have HQ0 := Lib.hid (show okq 0 = decide (x.kind = 4) from by rw [hokq]; simp)
        have HQS := Lib.hid (show ∀ j (h : j < x.list.length), okq (j + 1) = (okq j && decide (x.list[j].kind = 3)) from by intro j h; rw [hokq]; simp only [List.take_succ_eq_append_getElem h, List.all_append, List.all_cons, List.all_nil, Bool.and_true, Bool.and_assoc])
        have HEND := Lib.hid (show okq x.list.length = sp from by rw [HSP.out, hokq]; simp)
        clear hokq
        have hpx := HR.out.lay
        have HSUB := Lib.hid hpx.2.2.2.2.2.2.2.2.2.1
        have hbig : x.list.length ≤ 1000000 := by have := wt_list x; have := HWX.out; have := HWT.out; omega
        clear hpx
        go_wp2_with fail
        go_loopw [5, 7] (fun x5 x6 wq => ∃ j : Nat, j ≤ x.list.length ∧ x6 = .int .i64 j ∧ x5 = .bool (okq j) ∧ Hid (Below WA.heap.size WA wq)) (fun _ x6 _ => x.list.length - (Lib.intOf x6).toNat)
        case atStart => exact ⟨0, Nat.zero_le _, rfl, by rw [HQ0.out]; rfl, Lib.hid (Below.refl _ _)⟩
        case round =>
          clear k1 m1 k2 m2
          obtain ⟨j, hj, rfl, rfl, HBQ⟩ := hrel
          have LQ := Lib.hid (HXB.out.keep HBQ.out)
          have k2 := LQ.out.cell; have m2 := LQ.out.lt
          by_cases hlj : j < x.list.length
          · have hts := HQS.out j hlj
            obtain ⟨b, hb⟩ : ∃ b, b = okq j := ⟨_, rfl⟩
            rw [← hb] at hts ⊢
            clear hb
            cases b with
            | false =>
              have HTS := Lib.hid (show okq (j + 1) = false from by rw [hts]; rfl)
              clear hts
              go_wp2_with fail
              go_roundw
              case rel => exact ⟨j + 1, by omega, by go_num, by rw [HTS.out], HBQ⟩
              case measure => simp [Lib.intOf]; omega
            | true =>
              rw [Bool.true_and] at hts
              obtain ⟨b2, o2, _, _, _, _, rfl, -, hb2, ⟨e0, -⟩, -⟩ := (HSUB.out.keep HBQ.out).at_ hlj
              have HTS := Lib.hid hts
              generalize x.list[j].kind = kk at *
              clear hts
              go_wp2_with fail
              go_roundw
              case rel => exact ⟨j + 1, by omega, by go_num, by rw [HTS.out]; rfl, HBQ⟩
              case measure => simp [Lib.intOf]; omega
          · obtain rfl : j = x.list.length := by omega
            rw [HEND.out]
            have HB5 := Lib.hid (HB3.out.trans (HBQ.out.mono HB3.out.size))
            have LQ := Lib.hid (LA.out.keep HBQ.out)
            have k1 := LQ.out.cell; have m1 := LQ.out.lt
            cases sp with
            | true =>
              have HSV := Lib.hid (show (true : Bool) = true from rfl)
              go_wp2_with fail
              go_roundw
              case rel => exact ⟨q + 1, by omega, by go_num, Lib.hid (HZ.out.trans HSV.out), Lib.hid (HB5.out)⟩
              case measure => simp [Lib.intOf]; omega
            | false =>
              have HSV := Lib.hid (show (false : Bool) = false from rfl)
              go_wp2_with fail
              go_ret
              exact ⟨congrArg (fun b => Ending.returned (.bool b)) (HA.out HSV.out).symm, by rw [E1.out]; exact HB0.out.trans ((HB5.out).mono HB0.out.size)⟩
      have g5 : (key.toList == [114, 101, 113, 117, 105, 114, 101, 100]) = false := by rw [show ([114, 101, 113, 117, 105, 114, 101, 100] : List UInt8) = reqW.toList from by rw [ByteArray.toList_eq]; rfl, keq_iff]; exact decide_eq_false h5
      by_cases h6 : key = itemsW
      · have g6 : (key.toList == [105, 116, 101, 109, 115]) = true := by rw [show ([105, 116, 101, 109, 115] : List UInt8) = itemsW.toList from by rw [ByteArray.toList_eq]; rfl, keq_iff]; exact decide_eq_true h6
        rw [if_neg h0, if_neg h1, if_neg h2, if_neg h3, if_neg h4, if_neg h5, if_pos h6] at HSP
        clear h0 h1 h2 h3 h4 h5 h6
        obtain ⟨xv, hxv⟩ : ∃ z, z = x.sch := ⟨_, rfl⟩
        have HC := Lib.hid (fun w2 h1 => HCX.out.1 w2 S (.agg #[.int .i64 x.kind, .bool x.bool, .int .i64 x.int, .string x.str, .slice xla x.list.length xlc, .slice xma x.map.length xmc]) h1 (Nat.le_trans HWX.out HWT.out))
        rw [← hxv] at HC HSP
        clear hxv
        go_wp2_with fail
        refine (HC.out _ HR.out).mono ?_
        rintro e wb ⟨rfl, hb⟩
        have HB4 := Lib.hid (HB3.out.trans (hb.mono HB3.out.size))
        have LB := Lib.hid (LA.out.keep hb)
        clear hb k1 m1 k2 m2
        have HSV := HSP
        cases xv
        · go_wp2_with fail
          go_ret
          exact ⟨congrArg (fun b => Ending.returned (.bool b)) (HA.out HSV.out).symm, by rw [E1.out]; exact HB0.out.trans ((HB4.out).mono HB0.out.size)⟩
        · go_wp2_with fail
          go_roundw
          case rel => exact ⟨q + 1, by omega, by go_num, Lib.hid (HZ.out.trans HSV.out), Lib.hid (HB4.out)⟩
          case measure => simp [Lib.intOf]; omega
      have g6 : (key.toList == [105, 116, 101, 109, 115]) = false := by rw [show ([105, 116, 101, 109, 115] : List UInt8) = itemsW.toList from by rw [ByteArray.toList_eq]; rfl, keq_iff]; exact decide_eq_false h6
      by_cases h7 : key = keysW
      · have g7 : (key.toList == [107, 101, 121, 115]) = true := by rw [show ([107, 101, 121, 115] : List UInt8) = keysW.toList from by rw [ByteArray.toList_eq]; rfl, keq_iff]; exact decide_eq_true h7
        rw [if_neg h0, if_neg h1, if_neg h2, if_neg h3, if_neg h4, if_neg h5, if_neg h6, if_pos h7] at HSP
        clear h0 h1 h2 h3 h4 h5 h6 h7
        obtain ⟨okq, hokq⟩ : ∃ okq : Nat → Bool, okq = fun j => decide (x.kind = 5) && (x.map.take j).all (fun y => y.2.sch) := ⟨_, rfl⟩
        have HQ0 := Lib.hid (show okq 0 = decide (x.kind = 5) from by rw [hokq]; simp)
        have HQS := Lib.hid (show ∀ j (h : j < x.map.length), okq (j + 1) = (okq j && x.map[j].2.sch) from by intro j h; rw [hokq]; simp only [List.take_succ_eq_append_getElem h, List.all_append, List.all_cons, List.all_nil, Bool.and_true, Bool.and_assoc])
        have HEND := Lib.hid (show okq x.map.length = sp from by rw [HSP.out, hokq]; simp)
        clear hokq
        have hpx := HR.out.lay
        have HSUB := Lib.hid hpx.2.2.2.2.2.2.2.2.2.2
        have hbig : x.map.length ≤ 1000000 := by have := wt_map x; have := HWX.out; have := HWT.out; omega
        clear hpx
        go_wp2_with fail
        go_loopw [5, 8] (fun x5 x6 wq => ∃ j : Nat, j ≤ x.map.length ∧ x6 = .int .i64 j ∧ x5 = .bool (okq j) ∧ Hid (Below WA.heap.size WA wq)) (fun _ x6 _ => x.map.length - (Lib.intOf x6).toNat)
        case atStart => exact ⟨0, Nat.zero_le _, rfl, by rw [HQ0.out]; rfl, Lib.hid (Below.refl _ _)⟩
        case round =>
          clear k1 m1 k2 m2
          obtain ⟨j, hj, rfl, rfl, HBQ⟩ := hrel
          have LQ := Lib.hid (HXB.out.keep HBQ.out)
          have k2 := LQ.out.cell; have m2 := LQ.out.lt
          by_cases hlj : j < x.map.length
          · have hts := HQS.out j hlj
            obtain ⟨b, hb⟩ : ∃ b, b = okq j := ⟨_, rfl⟩
            rw [← hb] at hts ⊢
            clear hb
            cases b with
            | false =>
              have HTS := Lib.hid (show okq (j + 1) = false from by rw [hts]; rfl)
              clear hts
              go_wp2_with fail
              go_roundw
              case rel => exact ⟨j + 1, by omega, by go_num, by rw [HTS.out], HBQ⟩
              case measure => simp [Lib.intOf]; omega
            | true =>
              rw [Bool.true_and] at hts
              obtain ⟨b2, o2, yla, ylc, yma, ymc, rfl, -, hb2, -, ⟨e0, e1, e2, e3, e4, e5, e6⟩, hr2⟩ := (HSUB.out.keep HBQ.out).at_ hlj
              have hcy := HCX.out.2 _ (List.getElem_mem hlj)
              have hwy := wt_sub _ (List.getElem_mem hlj)
              generalize x.map[j] = py at *
              obtain ⟨ky, y⟩ := py
              simp only at *
              have HR2 := Lib.hid hr2; have HCY := Lib.hid hcy; have HWY := Lib.hid hwy
              obtain ⟨yv, hyv⟩ : ∃ z, z = y.sch := ⟨_, rfl⟩
              have HC := Lib.hid (fun w2 h1 => HCY.out w2 S (.agg #[.int .i64 y.kind, .bool y.bool, .int .i64 y.int, .string y.str, .slice yla y.list.length ylc, .slice yma y.map.length ymc]) h1 (by have := HWX.out; have := HWT.out; have := HWY.out; omega))
              rw [← hyv] at HC hts
              have HTS := Lib.hid hts
              clear hyv hts hcy hwy hr2 e0
              go_wp2_with fail
              refine (HC.out _ HR2.out).mono ?_
              rintro e wb ⟨rfl, hb⟩
              have HB9 := Lib.hid (HBQ.out.trans (hb.mono HBQ.out.size))
              clear hb k2 m2 e1 e2 e3 e4 e5 e6
              go_wp2_with fail
              go_roundw
              case rel => exact ⟨j + 1, by omega, by go_num, by rw [HTS.out], HB9⟩
              case measure => simp [Lib.intOf]; omega
          · obtain rfl : j = x.map.length := by omega
            rw [HEND.out]
            have HB5 := Lib.hid (HB3.out.trans (HBQ.out.mono HB3.out.size))
            have LQ := Lib.hid (LA.out.keep HBQ.out)
            have k1 := LQ.out.cell; have m1 := LQ.out.lt
            cases sp with
            | true =>
              have HSV := Lib.hid (show (true : Bool) = true from rfl)
              go_wp2_with fail
              go_roundw
              case rel => exact ⟨q + 1, by omega, by go_num, Lib.hid (HZ.out.trans HSV.out), Lib.hid (HB5.out)⟩
              case measure => simp [Lib.intOf]; omega
            | false =>
              have HSV := Lib.hid (show (false : Bool) = false from rfl)
              go_wp2_with fail
              go_ret
              exact ⟨congrArg (fun b => Ending.returned (.bool b)) (HA.out HSV.out).symm, by rw [E1.out]; exact HB0.out.trans ((HB5.out).mono HB0.out.size)⟩
      have g7 : (key.toList == [107, 101, 121, 115]) = false := by rw [show ([107, 101, 121, 115] : List UInt8) = keysW.toList from by rw [ByteArray.toList_eq]; rfl, keq_iff]; exact decide_eq_false h7
      rw [if_neg h0, if_neg h1, if_neg h2, if_neg h3, if_neg h4, if_neg h5, if_neg h6, if_neg h7] at HSP
      clear h0 h1 h2 h3 h4 h5 h6 h7
      have HSV := HSP
      go_wp2_with fail
      go_ret
      exact ⟨congrArg (fun b => Ending.returned (.bool b)) (HA.out HSV.out).symm, by rw [E1.out]; exact HB0.out.trans ((HB3.out).mono HB0.out.size)⟩
    · have hq' : q = t.map.length := by omega
      subst hq'
      rw [List.take_length, ← HSC.out] at HAL
      have HSV := Lib.hid HAL.out
      go_wp2_with fail
      go_ret
      exact ⟨congrArg (fun b => Ending.returned (.bool b)) HSV.out.symm, by rw [E1.out]; exact HB0.out.trans (HBR.out.mono HB0.out.size)⟩
theorem rright_all (t : T) : RRightOk t ∧ ∀ q ∈ t.map, RRightOk q.2 := by
  induction t using T.ind' with
  | h t _ ihm => exact ⟨rright_step t ihm, fun q hq => (ihm q hq).1⟩
theorem rright25 (t : T) : RRightOk t := (rright_all t).1
end Go.Proofs.YtgbbojnigicnoaaDoor

/- A row that grows beside what stays; flaws behind a row of one's own, one or many. -/
namespace Go.Proofs.YtgbbojnigicnoaaDoor
open Go.RowKit Go.Lib

/-- What grows: a row (its block r); all else stays. -/
structure Gro (w w' : World) (r r' : Option Nat) : Prop where
  os : w'.os = w.os
  tape : w'.tape = w.tape
  output : w'.output = w.output
  size : w.heap.size ≤ w'.heap.size
  block : ∀ b, b < w.heap.size → r ≠ some b → w'.heap[b]? = w.heap[b]?
  row : ∀ b, r' = some b → r = some b ∨ w.heap.size ≤ b
theorem Gro.refl (w : World) (r : Option Nat) : Gro w w r r := ⟨rfl, rfl, rfl, Nat.le_refl _, fun _ _ _ => rfl, fun _ h => .inl h⟩
theorem Gro.of {w w' : World} {r : Option Nat} (h : Below w.heap.size w w') : Gro w w' r r := ⟨h.os, h.tape, h.output, h.size, fun b hb _ => h.block b hb, fun _ h => .inl h⟩
theorem Gro.trans {w1 w2 w3 : World} {r1 r2 r3 : Option Nat} (h : Gro w1 w2 r1 r2) (k : Gro w2 w3 r2 r3) : Gro w1 w3 r1 r3 :=
  ⟨k.os.trans h.os, k.tape.trans h.tape, k.output.trans h.output, Nat.le_trans h.size k.size, fun b hb hr => (k.block b (Nat.lt_of_lt_of_le hb h.size) (fun e => by rcases h.row b e with e2 | e2; exact hr e2; omega)).trans (h.block b hb hr),
    fun b e => by
      rcases k.row b e with e2 | e2
      · exact h.row b e2
      · exact .inr (Nat.le_trans h.size e2)⟩
theorem Gro.blk {w w' : World} {r r' : Option Nat} (g : Gro w w' r r') {b ty : Nat} {cs : Array Value} (h : Blk w b ty cs) (hb : r ≠ some b) : Blk w' b ty cs := (g.block b h.lt hb).trans h
theorem Gro.ne {w w' : World} {r r' : Option Nat} (g : Gro w w' r r') {b : Nat} (hlt : b < w.heap.size) (hb : r ≠ some b) : r' ≠ some b := fun e => by rcases g.row b e with e2 | e2; exact hb e2; omega
theorem Gro.below {w w' W : World} {r r' : Option Nat} {B : Nat} (g : Gro w w' r r') (h : Below B W w) (hr : ∀ b, r = some b → B ≤ b) (hB : B ≤ W.heap.size) : Below B W w' :=
  ⟨g.os.trans h.os, g.tape.trans h.tape, g.output.trans h.output, Nat.le_trans h.size g.size, fun b hb => (g.block b (Nat.lt_of_lt_of_le hb (Nat.le_trans hB h.size)) (fun e => by have := hr b e; omega)).trans (h.block b hb)⟩
theorem RepS.gro {w w' : World} {r r' : Option Nat} {S : Nat → Prop} {a : Option Addr} {l : List ByteArray} (h : RepS w S a l) (g : Gro w w' r r') (hS : ∀ b, S b → r ≠ some b) : RepS w' S a l :=
  h.mono (fun _ h _ => h) (fun b o hb hlt => World.cell?_of_block (a := ⟨b, o, none⟩) (g.block b hlt (hS b hb)))
/-- Where flaws' steps may lie. -/
def StepS (Sl : Nat → Prop) (B : Nat) : Nat → Prop := fun b => (Sl b ∧ b < B) ∨ B ≤ b
/-- The row of flaws that Check makes, in world w, since world w0. -/
abbrev Flaws (w0 : World) (Sl : Nat → Prop) (w : World) (A : Option Addr) (c : Nat) (N : List FlawT) : Prop := OwnE eltFR w w0.heap.size (StepS Sl w0.heap.size) A c N
theorem gro_of {α : Type} {w w' : World} {A A' : Option Addr} {c c' : Nat} {l l' : List α} (hgr : w.grownBy w' (Value.ownBlock (.slice A l.length c)))
    (hat : Value.ownBlock (.slice A' l'.length c') = Value.ownBlock (.slice A l.length c) ∨ Value.ownBlock (.slice A' l'.length c') = some w.heap.size) :
    Gro w w' (Value.ownBlock (.slice A l.length c)) (Value.ownBlock (.slice A' l'.length c')) :=
  ⟨hgr.os, hgr.tape, hgr.output, hgr.size, fun b hb hr => hgr.block b hb (fun e => hr e.symm), fun b e => by
    rcases hat with h | h
    · exact .inl (h ▸ e)
    · rw [h] at e; injection e with e; exact .inr (by omega)⟩
/-- One flaw more. -/
theorem flaw_append {w0 w : World} {Sl S2 : Nat → Prop} {A a : Option Addr} {c ac : Nat} {N : List FlawT} {l : List ByteArray} (k : Int) (h : Flaws w0 Sl w A c N) (hl : RepS w S2 a l) (h2 : ∀ b, S2 b → b < w.heap.size → StepS Sl w0.heap.size b ∧ Value.ownBlock (.slice A N.length c) ≠ some b) (hn : N.length ≤ 1000000000) (hB : w0.heap.size ≤ w.heap.size) :
    ∃ A' c' w', (Builtin.append_ #[34, 34] 34 #[.slice A N.length c, .slice (some ⟨w.heap.size, 0, none⟩) 1 1]).run Tryd.prog (w.alloc (.cells #[.int .i64 k, .slice a l.length ac] 54)) = .ok (.slice A' (N ++ [(k, l)]).length c') w' ∧ Flaws w0 Sl w' A' c' (N ++ [(k, l)]) ∧ Gro w w' (Value.ownBlock (.slice A N.length c)) (Value.ownBlock (.slice A' (N ++ [(k, l)]).length c')) := by
  have ha : Below w.heap.size w (w.alloc (.cells #[.int .i64 k, .slice a l.length ac] 54)) := Below.new _ _
  have hk := h.keep ha
  obtain ⟨A', c', w', hrun, ho, hgr, hat⟩ := own_append_at (E := eltFR) (l2 := [(k, l)]) (es := [.int .i64 k, .slice a l.length ac]) (ad := ⟨w.heap.size, 0, none⟩) (cc := 1) (ty := 34) (t := 34) rfl hk (by show (N.length + 1) * 32 ≤ _; omega) (by simp; unfold maxLen; omega) (by simp; omega) (by rfl)
    (fun j u hu => by rw [show (⟨w.heap.size, 0, none⟩ : Addr).add j = ⟨w.heap.size, 0 + j, none⟩ from by unfold Addr.add; split <;> simp_all, Nat.zero_add, (Blk.new w 54 #[.int .i64 k, .slice a l.length ac]).cell]; simpa using hu)
    (fun i hi => by
      obtain rfl : i = 0 := by simpa using hi
      exact ⟨a, ac, rfl, hl.mono (fun b hb hlt => h2 b hb hlt) (fun b o _ hlt => ha.cell hlt)⟩)
  have g := gro_of hgr hat
  exact ⟨A', c', w', hrun, ho, (Gro.of ha).trans g⟩
/-- The cells of a row of flaws, laid out. -/
theorem rep_cells {α : Type} {E : Elt α} {w : World} {S : Nat → Prop} {b o : Nat} {l : List α} (h : RepE E w S (some ⟨b, o, none⟩) l) :
    ∃ es : List Value, es.length = l.length * E.sz ∧ (∀ j u, es[j]? = some u → w.cell? ⟨b, o + j, none⟩ = some u) ∧ ∀ i (hi : i < l.length), E.R w S ((es.drop (i * E.sz)).take E.sz) l[i] := by
  have hp := E.pos
  have hcell : ∀ i (hi : i < l.length), ∃ cs, cs.length = E.sz ∧ cellsAt w b (o + i * E.sz) cs ∧ E.R w S cs l[i] := fun i hi => by
    obtain ⟨b', o', cs, e, _, hc, hr⟩ := h i hi
    obtain ⟨rfl, rfl⟩ : b = b' ∧ o = o' := by simpa using e
    exact ⟨cs, E.len hr, hc, hr⟩
  refine ⟨(List.range (l.length * E.sz)).map fun j => (w.cell? ⟨b, o + j, none⟩).getD (.int .i64 0), by simp, fun j u hu => ?_, fun i hi => ?_⟩
  · rw [List.getElem?_map] at hu
    cases hj : (List.range (l.length * E.sz))[j]? with
    | none => rw [hj] at hu; cases hu
    | some j' =>
      obtain ⟨hlt, e⟩ := List.getElem?_eq_some_iff.1 hj
      rw [List.getElem_range] at e
      subst e
      rw [List.length_range] at hlt
      rw [hj] at hu
      simp only [Option.map_some, Option.some.injEq] at hu
      have hq : j / E.sz < l.length := by rw [Nat.div_lt_iff_lt_mul hp]; exact hlt
      obtain ⟨cs, hl, hc, _⟩ := hcell (j / E.sz) hq
      have hm := Nat.mod_lt j hp
      have h1 := hc (j % E.sz) cs[j % E.sz] (by rw [List.getElem?_eq_getElem])
      rw [show o + j / E.sz * E.sz + j % E.sz = o + j from by have := Nat.div_add_mod' j E.sz; omega] at h1
      rw [h1] at hu
      simp only [Option.getD_some] at hu
      rw [h1, hu]
  · obtain ⟨cs, hl, hc, hr⟩ := hcell i hi
    have : List.take E.sz (List.drop (i * E.sz) ((List.range (l.length * E.sz)).map fun j => (w.cell? ⟨b, o + j, none⟩).getD (.int .i64 0))) = cs := by
      refine List.ext_getElem? fun j => ?_
      have hi1 : (i + 1) * E.sz ≤ l.length * E.sz := Nat.mul_le_mul_right _ hi
      rw [Nat.add_mul, Nat.one_mul] at hi1
      rcases Nat.lt_or_ge j E.sz with hj | hj
      · rw [List.getElem?_take_of_lt hj, List.getElem?_drop, List.getElem?_map, List.getElem?_eq_getElem (by rw [List.length_range]; omega), List.getElem_range, List.getElem?_eq_getElem (by omega)]
        have h1 := hc j cs[j] (by rw [List.getElem?_eq_getElem])
        rw [show o + i * E.sz + j = o + (i * E.sz + j) by omega] at h1
        simp [h1]
      · rw [List.getElem?_eq_none (by rw [List.length_take]; omega), List.getElem?_eq_none (by omega)]
    rw [this]; exact hr
/-- A call's flaws behind a row of one's own. -/
theorem flaw_spread {w0 w : World} {Sl S2 : Nat → Prop} {A a : Option Addr} {c c2 : Nat} {N l : List FlawT} (h : Flaws w0 Sl w A c N) (hl : RepE eltFR w S2 a l) (h2 : ∀ b, S2 b → b < w.heap.size → StepS Sl w0.heap.size b ∧ Value.ownBlock (.slice A N.length c) ≠ some b) (hn : N.length + l.length ≤ 1000000000) (hB : w0.heap.size ≤ w.heap.size) :
    ∃ A' c' w', (Builtin.append_ #[34, 34] 34 #[.slice A N.length c, .slice a l.length c2]).run Tryd.prog w = .ok (.slice A' (N ++ l).length c') w' ∧ Flaws w0 Sl w' A' c' (N ++ l) ∧ Gro w w' (Value.ownBlock (.slice A N.length c)) (Value.ownBlock (.slice A' (N ++ l).length c')) := by
  have fin : ∀ (ad : Addr) (es : List Value), es.length = l.length * eltFR.sz → (∀ j u, es[j]? = some u → w.cell? (ad.add j) = some u) → (∀ i (hi : i < l.length), eltFR.R w S2 ((es.drop (i * eltFR.sz)).take eltFR.sz) l[i]) →
      ∃ A' c' w', (Builtin.append_ #[34, 34] 34 #[.slice A N.length c, .slice (some ad) l.length c2]).run Tryd.prog w = .ok (.slice A' (N ++ l).length c') w' ∧ Flaws w0 Sl w' A' c' (N ++ l) ∧ Gro w w' (Value.ownBlock (.slice A N.length c)) (Value.ownBlock (.slice A' (N ++ l).length c')) := by
    intro ad es h1 h3 h4
    obtain ⟨A', c', w', hrun, ho, hgr, hat⟩ := own_append_at (E := eltFR) (l2 := l) (es := es) (ad := ad) (cc := c2) (ty := 34) (t := 34) rfl h (by show (N.length + l.length) * 32 ≤ _; omega) (by unfold maxLen; omega) hB h1 h3 (fun i hi => Elt.weak (h4 i hi) h2)
    exact ⟨A', c', w', hrun, ho, gro_of hgr hat⟩
  cases l with
  | nil =>
    cases a with
    | none =>
      rw [List.append_nil]
      obtain ⟨xs, h1, h5, h6⟩ := h
      obtain ⟨i0, hi0, hz0, hz1, hz2⟩ := info_parts eltFR.hinfo
      exact ⟨_, _, _, run_append_nil _ _ _ _ _ i0 _ eltFR.hund hi0 _ _ _ h1 c2, ⟨xs, h1, h5, h6⟩, Gro.refl _ _⟩
    | some ad => exact fin ad [] (by simp) (by simp) (by intro i hi; simp at hi)
  | cons p r =>
    obtain ⟨b, o, _, rfl, -⟩ := hl 0 (by simp)
    obtain ⟨es, h1, h3, h4⟩ := rep_cells hl
    exact fin ⟨b, o, none⟩ es h1 (fun j u hu => by rw [show (⟨b, o, none⟩ : Addr).add j = ⟨b, o + j, none⟩ from by unfold Addr.add; split <;> simp_all]; exact h3 j u hu) h4
end Go.Proofs.YtgbbojnigicnoaaDoor

