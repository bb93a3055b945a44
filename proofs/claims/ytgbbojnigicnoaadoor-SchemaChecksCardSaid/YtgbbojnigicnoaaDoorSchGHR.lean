/- Several texts as one. -/
import Derived.Test.YtgbbojnigicnoaaDoorSchEF
import Derived.Deep.Cut
import Derived.Lib.ItoaMem
/- checker.check. -/
namespace Go.Proofs.YtgbbojnigicnoaaDoor
open Go.RowKit Go.Lib
attribute [local go_sem ↓] Go.wp_at_zero Go.wp_at_succ

set_option maxRecDepth 100000 in
set_option maxHeartbeats 40000000 in
theorem check_step (t : T) (hLI : ∀ x ∈ t.list, CheckOk x) (hMI : ∀ q ∈ t.map, CheckOk q.2) : CheckOk t := by
  intro s l a ac sla slc sma smc la lc ma mc w B gc A c F h hs ht hl hv hab hfs hft hn hF
  obtain ⟨r, hr⟩ : ∃ r, r = Value.ownBlock (.slice A F.length c) := ⟨_, rfl⟩
  rw [← hr] at hs ht hl
  have hb0 : Below w.heap.size w ((w.alloc (.cells #[.int .i64 s.kind, .bool s.bool, .int .i64 s.int, .string s.str, .slice sla s.list.length slc, .slice sma s.map.length smc] 25)).alloc (.cells #[.int .i64 t.kind, .bool t.bool, .int .i64 t.int, .string t.str, .slice la t.list.length lc, .slice ma t.map.length mc] 25)) := (Below.new _ _).alloc (by simp) _
  have HS := Lib.hid (show VBox ((w.alloc (.cells #[.int .i64 s.kind, .bool s.bool, .int .i64 s.int, .string s.str, .slice sla s.list.length slc, .slice sma s.map.length smc] 25)).alloc (.cells #[.int .i64 t.kind, .bool t.bool, .int .i64 t.int, .string t.str, .slice la t.list.length lc, .slice ma t.map.length mc] 25)) gc r w.heap.size s sla slc sma smc from ⟨(Blk.new _ _ _).alloc _, hr ▸ h.aw (Nat.le_refl _), hs.keep hb0⟩)
  have HT := Lib.hid (show VBox ((w.alloc (.cells #[.int .i64 s.kind, .bool s.bool, .int .i64 s.int, .string s.str, .slice sla s.list.length slc, .slice sma s.map.length smc] 25)).alloc (.cells #[.int .i64 t.kind, .bool t.bool, .int .i64 t.int, .string t.str, .slice la t.list.length lc, .slice ma t.map.length mc] 25)) gc r (w.heap.size + 1) t la lc ma mc from ⟨Blk.new_at _ _ _ (by simp), hr ▸ h.aw (Nat.le_succ _), ht.keep hb0⟩)
  have HX := Lib.hid (show Ctx w ((w.alloc (.cells #[.int .i64 s.kind, .bool s.bool, .int .i64 s.int, .string s.str, .slice sla s.list.length slc, .slice sma s.map.length smc] 25)).alloc (.cells #[.int .i64 t.kind, .bool t.bool, .int .i64 t.int, .string t.str, .slice la t.list.length lc, .slice ma t.map.length mc] 25)) B gc r A c F F [] a l from ⟨(List.append_nil _).symm, h.keep hb0, hr ▸ Grow.of hb0, hr ▸ hl.mono (fun _ h _ => h) (fun b o _ hlt => hb0.cell hlt), hv.keep hb0⟩)
  have HRR := Lib.hid hr
  have hsl : ∀ x, getT s oneW = some x → x.list.length ≤ 1000000000 := fun x hx => by have := (hfs.getT hx).2; have := wt_list x; omega
  have hks := hfs.KS
  have HFS := Lib.hid hfs; have HFT := Lib.hid hft; have HAB := Lib.hid hab
  have hln : l.length ≤ 1000000 := by omega
  have HLN := Lib.hid hn; have HFN := Lib.hid hF
  have HLI := Lib.hid hLI; have HMI := Lib.hid hMI
  have hlow : 0 < B := Nat.lt_trans hab.1 h.low
  obtain ⟨W0, e0⟩ : ∃ z, z = ((w.alloc (.cells #[.int .i64 s.kind, .bool s.bool, .int .i64 s.int, .string s.str, .slice sla s.list.length slc, .slice sma s.map.length smc] 25)).alloc (.cells #[.int .i64 t.kind, .bool t.bool, .int .i64 t.int, .string t.str, .slice la t.list.length lc, .slice ma t.map.length mc] 25)) := ⟨_, rfl⟩
  rw [← e0] at HS HT HX
  have E0 := Lib.hid e0
  have HFl := Lib.hid (show F.length ≤ 999999000 by omega)
  obtain ⟨n5, e5⟩ : ∃ n, n = w.heap.size := ⟨_, rfl⟩
  obtain ⟨n6, e6⟩ : ∃ n, n = w.heap.size + 1 := ⟨_, rfl⟩
  rw [← e5] at HS
  rw [← e6] at HT
  have E5 := Lib.hid e5; have E6 := Lib.hid e6
  clear e0 e5 e6 hb0 h hs ht hl hv hab hfs hft hn hF hLI hMI hr
  go_enter Tryd.func16, Tryd.ntmps16
  refine wp_seq_cut (fun K0 hK0 => ?_)
  go_wp2_with fail
  refine hK0.out _ _ ?_
  rw [← E0.out, ← E6.out, ← E5.out]
  clear E0 E5 E6 hK0 K0
  -- a value itself
  refine wp_seq_cut (fun K1 hK1 => ?_)
  go_cut [] (fun wx => Hid (typeBad s t = false) ∧ ∃ A' c' F', Hid (Ctx w wx B gc r A' c' F' F (leastF s t l ++ mostF s t l ++ oneF s t l) a l) ∧ Hid (Grow W0 wx gc r (Value.ownBlock (.slice A' F'.length c'))))
  case first =>
    have k1 := HS.out.blk.cell; have l1 := HS.out.blk.lt; have k2 := HT.out.blk.cell; have l2 := HT.out.blk.lt
    go_wp2_with fail
    refine (town s t l a ac sla slc sma smc la lc ma mc W0 B gc A c F HX.out.chk (HRR.out ▸ HS.out.rep) (HRR.out ▸ HT.out.rep) HX.out.steps HX.out.tabs.1 (fun hv w2 h2 => hv.below h2 hlow) hks HFT.out.kind hln (by have := HFl.out; omega) hsl).mono ?_
    rintro e w1 hp
    unfold OwnPostC at hp
    cases hbad : typeBad s t with
    | true =>
      rw [hbad, if_pos rfl] at hp
      obtain ⟨A2, c2, F2, rfl, hx, hg⟩ := HX.out.post HAB.out hp
      have HY := Lib.hid hx
      have HB := Lib.hid hbad
      clear hx hg hp hbad k1 k2 l1 l2
      go_wp2_with fail
      go_end0
      exact (HRR.out ▸ HY.out).fin (by rw [chk_eq, if_pos HB.out]; rfl)
    | false =>
      rw [hbad, if_neg (by decide)] at hp
      obtain ⟨A2, c2, F2, rfl, hx, hg⟩ := HX.out.post HAB.out hp
      have HY := Lib.hid hx; have HG := Lib.hid hg
      have HB := Lib.hid hbad
      clear hx hg hp hbad k1 k2 l1 l2
      go_wp2_with fail
      go_meet
      case rel => exact ⟨HB, A2, c2, F2, HY, Lib.hid (HRR.out ▸ HG.out)⟩
  case rest =>
  obtain ⟨HB, A1, c1, F1, HX1, HG1⟩ := hcut
  refine hK1.out _ _ ?_
  clear hK1 K1
  obtain ⟨r1, hr1⟩ : ∃ r, r = Value.ownBlock (.slice A1 F1.length c1) := ⟨_, rfl⟩
  have HR1 := Lib.hid hr1
  rw [← hr1] at HG1
  have HS1 := Lib.hid (HS.out.grow HG1.out); have HT1 := Lib.hid (HT.out.grow HG1.out)
  clear hr1 HS HT HX HG1 hsl
  obtain ⟨N1, en1⟩ : ∃ N, N = leastF s t l ++ mostF s t l ++ oneF s t l := ⟨_, rfl⟩
  rw [← en1] at HX1
  have EN1 := Lib.hid en1
  clear en1
  -- part itemsW
  refine wp_seq_cut (fun K2 hK2 => ?_)
  have k1 := HS1.out.blk.cell; have l1 := HS1.out.blk.lt
  go_wp2_with fail
  refine (tpart s itemsW _ _ _ HS1.out.rep hks).mono ?_
  rintro e wb ⟨v1, rfl, hr1, hb1⟩
  obtain ⟨ila, ilc, ima, imc, rfl, -⟩ := hr1.inv
  obtain ⟨it, hit⟩ : ∃ x, x = (getT s itemsW).getD T.zero := ⟨_, rfl⟩
  obtain ⟨iok, hiok⟩ : ∃ x, x = (getT s itemsW).isSome := ⟨_, rfl⟩
  rw [← hit] at hr1
  rw [← hit, ← hiok]
  have HWb := Lib.hid hb1
  have HVi2 := Lib.hid (VBox.made HX1.out hr1 hb1)
  rw [← HR1.out] at HVi2
  have hbw := hb1.alloc hb1.size (.cells #[.int .i64 it.kind, .bool it.bool, .int .i64 it.int, .string it.str, .slice ila it.list.length ilc, .slice ima it.map.length imc] 25)
  have HiT := Lib.hid hit; have HiOK := Lib.hid hiok
  clear hr1 hb1 hit hiok k1 l1
  go_wp2_with fail
  refine hK2.out _ _ ?_
  clear hK2 K2
  obtain ⟨WY2, e9⟩ : ∃ z, z = wb.alloc (.cells #[.int .i64 it.kind, .bool it.bool, .int .i64 it.int, .string it.str, .slice ila it.list.length ilc, .slice ima it.map.length imc] 25) := ⟨_, rfl⟩
  obtain ⟨n8, e8⟩ : ∃ z, z = wb.heap.size := ⟨_, rfl⟩
  rw [← e9] at HVi2 hbw
  rw [← e8] at HVi2
  rw [← e9, ← e8]
  have HX2 := Lib.hid (HX1.out.keep hbw); have HS2 := Lib.hid (HS1.out.keep hbw); have HT2 := Lib.hid (HT1.out.keep hbw)
  clear e8 e9 hbw HWb wb HX1 HS1 HT1
  -- all flaws
  obtain ⟨LL, hLL⟩ : ∃ x, x = T.chkL t.list (getT s itemsW) 0 l := ⟨_, rfl⟩
  obtain ⟨MM, hMM⟩ : ∃ x, x = (if t.kind = 5 then needF s t l ++ T.chkM t.map ((getT s keysW).getD T.zero) ((getT s closedW).getD T.zero).bool l else []) := ⟨_, rfl⟩
  have HALL := Lib.hid (show t.chk s l = N1 ++ LL ++ MM from by rw [chk_eq, if_neg (by rw [HB.out]; decide), hLL, hMM, EN1.out])
  have HTOT := Lib.hid (show F.length + N1.length + LL.length + MM.length ≤ 999999000 from by have h1 := HFN.out; rw [HALL.out] at h1; simp only [List.length_append] at h1; omega)
  have HLLE := Lib.hid hLL; have HMME := Lib.hid hMM
  clear hLL hMM HFN
  -- the list
  refine wp_seq_cut (fun K3 hK3 => ?_)
  have k2 := HT2.out.blk.cell; have l2 := HT2.out.blk.lt
  have HLI2 := Lib.hid HT2.out.list
  go_wp2_with fail
  go_loopw [41] (fun i wr => ∃ q : Nat, q ≤ t.list.length ∧ i = .int .i64 q ∧ ∃ A' c' F', Hid (Ctx w wr B gc r A' c' F' F (N1 ++ T.chkL (t.list.take q) (getT s itemsW) 0 l) a l) ∧ Hid (Grow WY2 wr gc r1 (Value.ownBlock (.slice A' F'.length c')))) (fun i _ => t.list.length - (Lib.intOf i).toNat)
  case atStart => exact ⟨0, Nat.zero_le _, rfl, A1, c1, F1, Lib.hid (by have := HX2.out; rw [List.take_zero, T.chkL, List.append_nil]; exact this), Lib.hid (HR1.out ▸ Grow.refl _ _ _)⟩
  case round =>
    clear k2 l2
    obtain ⟨q, hq, rfl, A2, c2, F2, HXr, HGr⟩ := hrel
    by_cases hlt : q < t.list.length
    · obtain ⟨bl, ol, xla, xlc, xma, xmc, rfl, haw, hbl, ⟨d0, d1, d2, d3, d4, d5⟩, hr⟩ := (HLI2.out.grow HGr.out).at_ hlt
      have hq6 : q ≤ 1000000 := by have := wt_list t; have := HFT.out.2; omega
      cases iok with
      | false =>
        have hO : getT s itemsW = none := by have h1 := HiOK.out; cases h : getT s itemsW with | none => rfl | some y => rw [h] at h1; cases h1
        have HZ := Lib.hid (show T.chkL (t.list.take (q + 1)) (getT s itemsW) 0 l = T.chkL (t.list.take q) (getT s itemsW) 0 l from by rw [chkL_take _ _ _ _ _ hlt, hO]; exact List.append_nil _)
        clear hO
        generalize t.list[q] = x at d0 d1 d2 d3 d4 d5 hr
        clear hr
        go_wp2_with fail
        go_roundw
        case rel => exact ⟨q + 1, by omega, by go_num, A2, c2, F2, Lib.hid (by rw [HZ.out]; exact HXr.out.keep (Below.new _ _)), Lib.hid (HGr.out.trans (Grow.of (Below.new _ _)))⟩
        case measure => simp [Lib.intOf]; omega
      | true =>
        have hO : getT s itemsW = some it := by have h1 := HiOK.out; have h2 := HiT.out; cases h : getT s itemsW with | none => rw [h] at h1; cases h1 | some y => rw [h] at h2; exact congrArg some h2.symm
        have hz : T.chkL (t.list.take (q + 1)) (getT s itemsW) 0 l = T.chkL (t.list.take q) (getT s itemsW) 0 l ++ t.list[q].chk it (l ++ [itoaB q]) := by rw [chkL_take _ _ _ _ _ hlt, hO, Nat.zero_add]; rfl
        have HFI := Lib.hid (HFS.out.getT hO)
        have hfx := HFT.out.list (List.getElem_mem hlt)
        have hwx := list_wtF (List.getElem_mem hlt)
        have hcx := HLI.out _ (List.getElem_mem hlt)
        have hbd : F2.length + (t.list[q].chk it (l ++ [itoaB q])).length ≤ 999999000 := by
          have h1 := congrArg List.length HXr.out.eq; have h2 := chkL_len t.list (getT s itemsW) l 0 (q + 1); rw [hz] at h2; have h3 := HTOT.out; rw [HLLE.out] at h3; simp only [List.length_append] at *; omega
        clear hO
        generalize t.list[q] = x at d0 d1 d2 d3 d4 d5 hr hz hfx hwx hcx hbd
        obtain ⟨l2, hl2⟩ : ∃ z, z = l ++ [itoaB q] := ⟨_, rfl⟩
        rw [← hl2] at hz hbd
        have HZ := Lib.hid hz; have HFX := Lib.hid hfx; have HWX := Lib.hid hwx; have HCX := Lib.hid hcx; have HBD := Lib.hid hbd; have HL2 := Lib.hid hl2
        have HXB := Lib.hid (VBox.new HXr.out hr)
        have HBA := Lib.hid (Below.new wr (.cells #[.int .i64 x.kind, .bool x.bool, .int .i64 x.int, .string x.str, .slice xla x.list.length xlc, .slice xma x.map.length xmc] 25))
        have HIA := Lib.hid ((HVi2.out.grow HGr.out).keep HBA.out)
        have HXA := Lib.hid (HXr.out.keep HBA.out)
        clear hz hfx hwx hcx hbd hl2 hr
        go_upto_region 7 with fail
        obtain ⟨WA, eA⟩ : ∃ z, z = wr.alloc (.cells #[.int .i64 x.kind, .bool x.bool, .int .i64 x.int, .string x.str, .slice xla x.list.length xlc, .slice xma x.map.length xmc] 25) := ⟨_, rfl⟩
        obtain ⟨n11, e11⟩ : ∃ z, z = wr.heap.size := ⟨_, rfl⟩
        rw [← eA] at HXB HBA HIA HXA
        rw [← e11] at HXB
        rw [← eA, ← e11]
        have HBA2 := Lib.hid (show Below wr.heap.size wr WA from HBA.out)
        clear HBA eA e11 d0 d1 d2 d3 d4 d5
        refine wp_region_tail (S := (fun w' => (∀ i, w'.cell? ⟨n8, i, none⟩ = (#[.int .i64 it.kind, .bool it.bool, .int .i64 it.int, .string it.str, .slice ila it.list.length ilc, .slice ima it.map.length imc] : Array Value)[i]?) ∧ (∀ i, w'.cell? ⟨n11, i, none⟩ = (#[.int .i64 x.kind, .bool x.bool, .int .i64 x.int, .string x.str, .slice xla x.list.length xlc, .slice xma x.map.length xmc] : Array Value)[i]?))) 9 (by kernel_rfl) (by kernel_rfl) (by exact ⟨(HIA.out.blk.keep (Below.refl _ _).drew).cell, (HXB.out.blk.keep (Below.refl _ _).drew).cell⟩) (fun hHeld => ?_)
        simp only [List.dropLast]
        refine wpAnyH_take (i := 0) (v := ?vm1_0) (by conv => lhs; simp only [List.getElem?_toArray, List.getElem?_cons_succ, List.getElem?_cons_zero]) (by kernel_rfl) (by kernel_rfl) (by kernel_rfl) (by exact fun _ _ _ h => h) (Or.inl ⟨by rfl, ?hym1_0⟩) (by assumption) ?_
        case hym1_0 => (intro w0 hSw; (try dsimp only at hSw); go_simp; (try with_reducible rfl); (try assumption))
        try simp only [Act.put, List.setIfInBounds_toArray, List.set_cons_zero, List.set_cons_succ]
        refine wpAnyH_take (i := 1) (v := ?vm1_1) (by conv => lhs; simp only [List.getElem?_toArray, List.getElem?_cons_succ, List.getElem?_cons_zero]) (by kernel_rfl) (by kernel_rfl) (by kernel_rfl) (by exact fun _ _ _ h => h) (Or.inl ⟨by rfl, ?hym1_1⟩) (by assumption) ?_
        case hym1_1 => (intro w0 hSw; (try dsimp only at hSw); go_simp; (try with_reducible rfl); (try assumption))
        try simp only [Act.put, List.setIfInBounds_toArray, List.set_cons_zero, List.set_cons_succ]
        refine wpAnyH_take (i := 2) (v := ?vm1_2) (by conv => lhs; simp only [List.getElem?_toArray, List.getElem?_cons_succ, List.getElem?_cons_zero]) (by kernel_rfl) (by kernel_rfl) (by kernel_rfl) (by exact fun _ _ _ h => h) (Or.inl ⟨by rfl, ?hym1_2⟩) (by assumption) ?_
        case hym1_2 => (intro w0 hSw; (try dsimp only at hSw); go_simp; (try with_reducible rfl); (try assumption))
        try simp only [Act.put, List.setIfInBounds_toArray, List.set_cons_zero, List.set_cons_succ]
        refine wpAnyH_take (i := 3) (v := ?vm1_3) (by conv => lhs; simp only [List.getElem?_toArray, List.getElem?_cons_succ, List.getElem?_cons_zero]) (by kernel_rfl) (by kernel_rfl) (by kernel_rfl) (by exact fun _ _ _ h => h) (Or.inl ⟨by rfl, ?hym1_3⟩) (by assumption) ?_
        case hym1_3 => (intro w0 hSw; (try dsimp only at hSw); go_simp; (try with_reducible rfl); (try assumption))
        try simp only [Act.put, List.setIfInBounds_toArray, List.set_cons_zero, List.set_cons_succ]
        refine wpAnyH_take (i := 5) (v := ?vm1_5) (by conv => lhs; simp only [List.getElem?_toArray, List.getElem?_cons_succ, List.getElem?_cons_zero]) (by kernel_rfl) (by kernel_rfl) (by kernel_rfl) (by exact fun _ _ _ h => h) (Or.inl ⟨by rfl, ?hym1_5⟩) (by assumption) ?_
        case hym1_5 => (intro w0 hSw; (try dsimp only at hSw); go_simp; (try with_reducible rfl); (try assumption))
        try simp only [Act.put, List.setIfInBounds_toArray, List.set_cons_zero, List.set_cons_succ]
        refine wpAnyH_ready (rs := [4]) (by kernel_rfl) (by simp) ?_
        refine AllReadyH.cons (by conv => lhs; simp only [List.getElem?_toArray, List.getElem?_cons_succ, List.getElem?_cons_zero]) (fun K hK => ?_) AllReadyH.nil
        go_simp
        refine (tcloneS l a ac _ _ (RepS.mono (w' := WA.drew) HXA.out.steps (fun _ h _ => h) (fun _ _ _ _ => rfl)) hln).mono ?_
        rintro e w1 ⟨A5, c5, rfl, ho1, hb1⟩
        have HB1 := Lib.hid (Below.next ((Below.refl WA.heap.size WA).drew) hb1); have HO1 := Lib.hid (show OwnE eltS w1 WA.heap.size (fun _ => True) A5 c5 l from ho1)
        clear ho1 hb1
        go_wp2_with fail
        refine hK.out _ _ (by exact ⟨(HIA.out.blk.keep HB1.out).cell, (HXB.out.blk.keep HB1.out).cell⟩) (fun hHeld => ?_)
        clear hK K
        try simp only [Act.put, List.setIfInBounds_toArray, List.set_cons_zero, List.set_cons_succ]
        refine wpAnyH_ready (rs := [6]) (by kernel_rfl) (by simp) ?_
        refine AllReadyH.cons (by conv => lhs; simp only [List.getElem?_toArray, List.getElem?_cons_succ, List.getElem?_cons_zero]) (fun K hK => ?_) AllReadyH.nil
        go_simp
        refine (titoa q hq6 _ (HXA.out.tabs.keep HB1.out)).mono ?_
        rintro e w2 ⟨rfl, hb2⟩
        have HB2 := Lib.hid (Below.next HB1.out hb2); have HO2 := Lib.hid (HO1.out.keep hb2)
        clear hb2
        go_wp2_with fail
        refine hK.out _ _ (by exact ⟨(HIA.out.blk.keep HB2.out).cell, (HXB.out.blk.keep HB2.out).cell⟩) (fun hHeld => ?_)
        clear hK K
        try simp only [Act.put, List.setIfInBounds_toArray, List.set_cons_zero, List.set_cons_succ]
        refine wpAnyH_ready (rs := [7]) (by kernel_rfl) (by simp) ?_
        refine AllReadyH.cons (by conv => lhs; simp only [List.getElem?_toArray, List.getElem?_cons_succ, List.getElem?_cons_zero]) (fun K hK => ?_) AllReadyH.nil
        go_simp
        have HB3 := Lib.hid (HB2.out.alloc HB2.out.size (.cells #[.string (itoaB q)] 9))
        refine hK.out _ _ (by exact ⟨(HIA.out.blk.keep HB3.out).cell, (HXB.out.blk.keep HB3.out).cell⟩) (fun hHeld => ?_)
        clear hK K
        try simp only [Act.put, List.setIfInBounds_toArray, List.set_cons_zero, List.set_cons_succ]
        refine wpAnyH_ready (rs := [8]) (by kernel_rfl) (by simp) ?_
        refine AllReadyH.cons (by conv => lhs; simp only [List.getElem?_toArray, List.getElem?_cons_succ, List.getElem?_cons_zero]) (fun K hK => ?_) AllReadyH.nil
        obtain ⟨A6, c6, w6, hrun, ho6, hb6⟩ := own_snocS HO2.out HB2.out.size (itoaB_size q hq6) hln
        rw [← HL2.out] at hrun ho6
        have HRUN := Lib.hid hrun; have HO6 := Lib.hid ho6; have HB6 := Lib.hid (HB2.out.trans hb6)
        clear hrun ho6 hb6
        refine step_append_run rfl (.tmp 51) (.tmp 54) 43 rfl HRUN.out rfl rfl ?_
        refine hK.out _ _ (by exact ⟨(HIA.out.blk.keep HB6.out).cell, (HXB.out.blk.keep HB6.out).cell⟩) (fun hHeld => ?_)
        clear hK K
        try simp only [Act.put, List.setIfInBounds_toArray, List.set_cons_zero, List.set_cons_succ]
        refine wpAnyH_done (by kernel_rfl) ?_ _
        refine LastQ.step (by conv => lhs; simp only [List.getElem?_toArray, List.getElem?_cons_succ, List.getElem?_cons_zero]) (fun K hK => ?_)
        go_simp
        refine (HCX.out it l2 A6 c6 ila ilc ima imc xla xlc xma xmc _ B gc A2 c2 F2 (HXA.out.keep HB6.out).chk (HIA.out.keep HB6.out).rep (HXB.out.keep HB6.out).rep (made_steps HXA.out HO6.out (Nat.le_refl _)) (HXA.out.keep HB6.out).tabs HAB.out HFI.out HFX.out (by have := congrArg List.length HL2.out; have := HWX.out; have := HLN.out; simp at *; omega) HBD.out).mono ?_
        rintro e w7 hp
        obtain ⟨A7, c7, F7, rfl, hx, hg⟩ := (HXA.out.keep HB6.out).post HAB.out hp
        have HX7 := Lib.hid hx; have HG7 := Lib.hid (((HGr.out.trans (Grow.of HBA2.out)).trans (Grow.of HB6.out)).trans hg)
        clear hx hg hp
        go_wp2_with fail
        refine hK.out _ _ ?_
        clear hK K
        try simp only [Act.put, List.setIfInBounds_toArray, List.set_cons_zero, List.set_cons_succ]
        go_wp2_with fail
        go_roundw
        case rel => exact ⟨q + 1, by omega, by go_num, A7, c7, F7, Lib.hid (by rw [HZ.out, ← List.append_assoc]; exact HX7.out), HG7⟩
        case measure => simp [Lib.intOf]; omega
    · have hq' : q = t.list.length := by omega
      subst hq'
      rw [List.take_length, ← HLLE.out] at HXr
      go_wp2_with fail
      refine hK3.out _ _ ?_
      clear hK3
      obtain ⟨r2, hr2⟩ : ∃ z, z = Value.ownBlock (.slice A2 F2.length c2) := ⟨_, rfl⟩
      have HR2 := Lib.hid hr2
      rw [← hr2] at HGr
      have HX3 := HXr
      have HS3 := Lib.hid (HS2.out.grow HGr.out); have HT3 := Lib.hid (HT2.out.grow HGr.out)
      clear hr2 HGr HXr HX2 HS2 HT2
      -- a map's
      obtain ⟨N2, hN2⟩ : ∃ z, z = N1 ++ LL := ⟨_, rfl⟩
      rw [← hN2] at HX3 HALL
      have hn2 : F.length + N2.length + MM.length ≤ 999999000 := by have h1 := HTOT.out; rw [hN2, List.length_append]; omega
      have HTOT2 := Lib.hid hn2
      clear hN2 hn2 HTOT HLLE HLI2 HLI HVi2
      refine wp_seq_cut (fun K9 hK9 => ?_)
      have k2 := HT3.out.blk.cell; have l2 := HT3.out.blk.lt
      by_cases h5 : ¬ t.kind = 5
      · have g5 : (t.kind != 5) = true := by simpa using h5
        have HMN := Lib.hid (show MM = [] from by rw [HMME.out, if_neg h5])
        clear h5
        go_wp2_with fail
        go_end0
        exact (HRR.out ▸ HX3.out).fin (by rw [HALL.out, HMN.out, List.append_nil])
      have h5 := Decidable.not_not.1 h5
      have g5 : (t.kind != 5) = false := by rw [h5]; rfl
      have HM5 := Lib.hid (show MM = needF s t l ++ T.chkM t.map ((getT s keysW).getD T.zero) ((getT s closedW).getD T.zero).bool l from by rw [HMME.out, if_pos h5])
      clear h5
      go_wp2_with fail
      refine hK9.out _ _ ?_
      clear hK9 K9 k2 l2 g5 HMME
      -- part reqW
      refine wp_seq_cut (fun K10 hK10 => ?_)
      have k1 := HS3.out.blk.cell; have l1 := HS3.out.blk.lt
      go_wp2_with fail
      refine (tpart s reqW _ _ _ HS3.out.rep hks).mono ?_
      rintro e wb ⟨v1, rfl, hr1, hb1⟩
      obtain ⟨nla, nlc, nma, nmc, rfl, -⟩ := hr1.inv
      obtain ⟨nt, hnt⟩ : ∃ x, x = (getT s reqW).getD T.zero := ⟨_, rfl⟩
      obtain ⟨nok, hnok⟩ : ∃ x, x = (getT s reqW).isSome := ⟨_, rfl⟩
      rw [← hnt] at hr1
      rw [← hnt, ← hnok]
      have HWb := Lib.hid hb1
      have HVn4 := Lib.hid (VBox.made HX3.out hr1 hb1)
      rw [← HR2.out] at HVn4
      have hbw := hb1.alloc hb1.size (.cells #[.int .i64 nt.kind, .bool nt.bool, .int .i64 nt.int, .string nt.str, .slice nla nt.list.length nlc, .slice nma nt.map.length nmc] 25)
      have HnT := Lib.hid hnt; have HnOK := Lib.hid hnok
      clear hr1 hb1 hnt hnok k1 l1
      go_wp2_with fail
      refine hK10.out _ _ ?_
      clear hK10 K10
      obtain ⟨WY4, e9⟩ : ∃ z, z = wb.alloc (.cells #[.int .i64 nt.kind, .bool nt.bool, .int .i64 nt.int, .string nt.str, .slice nla nt.list.length nlc, .slice nma nt.map.length nmc] 25) := ⟨_, rfl⟩
      obtain ⟨n12, e8⟩ : ∃ z, z = wb.heap.size := ⟨_, rfl⟩
      rw [← e9] at HVn4 hbw
      rw [← e8] at HVn4
      rw [← e9, ← e8]
      have HX4 := Lib.hid (HX3.out.keep hbw); have HS4 := Lib.hid (HS3.out.keep hbw); have HT4 := Lib.hid (HT3.out.keep hbw)
      clear e8 e9 hbw HWb wb HX3 HS3 HT3
      -- what is needed
      refine wp_seq_cut (fun K11 hK11 => ?_)
      have k2 := HVn4.out.blk.cell; have l2 := HVn4.out.blk.lt
      have HNL := Lib.hid HVn4.out.list
      have hn6 : nt.list.length ≤ 1000000 := by have h1 := wt_list nt; have h2 := (HFS.out.getD reqW).2; rw [← HnT.out] at h2; omega
      have hkt := HFT.out.KS
      have HNF := Lib.hid (show needF s t l = nt.list.flatMap (needP t l) from by unfold needF; rw [← HnT.out])
      go_wp2_with fail
      go_loopw [69] (fun i wr => ∃ q : Nat, q ≤ nt.list.length ∧ i = .int .i64 q ∧ ∃ A' c' F', Hid (Ctx w wr B gc r A' c' F' F (N2 ++ (nt.list.take q).flatMap (needP t l)) a l) ∧ Hid (Grow WY4 wr gc r2 (Value.ownBlock (.slice A' F'.length c')))) (fun i _ => nt.list.length - (Lib.intOf i).toNat)
      case atStart => exact ⟨0, Nat.zero_le _, rfl, A2, c2, F2, Lib.hid (by have := HX4.out; rw [List.take_zero, List.flatMap_nil, List.append_nil]; exact this), Lib.hid (HR2.out ▸ Grow.refl _ _ _)⟩
      case round =>
        clear k2 l2
        obtain ⟨q, hq, rfl, A3, c3, F3, HXr, HGr⟩ := hrel
        by_cases hlt : q < nt.list.length
        · obtain ⟨bl, ol, xla, xlc, xma, xmc, rfl, haw, hbl, ⟨d0, d1, d2, d3, d4, d5⟩, hr⟩ := (HNL.out.grow HGr.out).at_ hlt
          have hz := flat_takeF nt.list (needP t l) hlt
          have hbd : F3.length ≤ 1000000000 := by
            have h1 := congrArg List.length HXr.out.eq; have h2 := flat_lenF nt.list (needP t l) q; have h3 := HTOT2.out; rw [HM5.out, HNF.out] at h3; simp only [List.length_append] at *; omega
          have hq6 : q ≤ 1000000 := by omega
          generalize nt.list[q] = x at d0 d1 d2 d3 d4 d5 hr hz
          have hsz : x.str.size ≤ 140737488351232 := by obtain ⟨_, _, _, _, -, hp⟩ := hr.inv; exact hp.2.2.1
          have HZ := Lib.hid hz
          have HXB := Lib.hid (VBox.new HXr.out hr)
          have HBA := Lib.hid (Below.new wr (.cells #[.int .i64 x.kind, .bool x.bool, .int .i64 x.int, .string x.str, .slice xla x.list.length xlc, .slice xma x.map.length xmc] 25))
          have HTA := Lib.hid ((HT4.out.grow HGr.out).keep HBA.out)
          have HXA := Lib.hid (HXr.out.keep HBA.out)
          clear hz hr
          go_upto_region 14 with fail
          obtain ⟨WZ, eA⟩ : ∃ z, z = wr.alloc (.cells #[.int .i64 x.kind, .bool x.bool, .int .i64 x.int, .string x.str, .slice xla x.list.length xlc, .slice xma x.map.length xmc] 25) := ⟨_, rfl⟩
          obtain ⟨n15, e11⟩ : ∃ z, z = wr.heap.size := ⟨_, rfl⟩
          rw [← eA] at HXB HBA HTA HXA
          rw [← e11] at HXB
          rw [← eA, ← e11]
          have HBA2 := Lib.hid (show Below wr.heap.size wr WZ from HBA.out)
          clear HBA eA e11 d0 d1 d2 d3 d4 d5
          have k1 := HTA.out.blk.cell; have l1 := HTA.out.blk.lt; have k2 := HXB.out.blk.cell; have l2 := HXB.out.blk.lt
          go_wp2_with fail
          refine (tget t x.str _ _ _ HTA.out.rep hkt).mono ?_
          rintro e wb ⟨v1, rfl, hr1, hb1⟩
          obtain ⟨o, ho⟩ : ∃ o, o = getT t x.str := ⟨_, rfl⟩
          rw [← ho] at hr1
          rw [← ho]
          obtain ⟨y, hy⟩ : ∃ y, y = o.getD T.zero := ⟨_, rfl⟩
          rw [← hy] at hr1
          obtain ⟨yla, ylc, yma, ymc, rfl, -⟩ := hr1.inv
          have HBb := Lib.hid (hb1.alloc hb1.size (.cells #[.int .i64 y.kind, .bool y.bool, .int .i64 y.int, .string y.str, .slice yla y.list.length ylc, .slice yma y.map.length ymc] 25))
          have HO := Lib.hid ho
          clear hr1 hb1 ho hy k1 l1 k2 l2
          cases o with
          | some y0 =>
            have HZ2 := Lib.hid (show needP t l x = [] from by unfold needP; rw [← HO.out]; rfl)
            clear HO
            go_wp2_with fail
            go_roundw
            case rel => exact ⟨q + 1, by omega, by go_num, A3, c3, F3, Lib.hid (by rw [HZ.out, HZ2.out, List.append_nil]; exact HXA.out.keep HBb.out), Lib.hid (HGr.out.trans ((Grow.of HBA2.out).trans (Grow.of HBb.out)))⟩
            case measure => simp [Lib.intOf]; omega
          | none =>
            have HZ2 := Lib.hid (show needP t l x = [(2, l ++ [x.str])] from by unfold needP; rw [← HO.out]; rfl)
            clear HO
            obtain ⟨l2, hl2⟩ : ∃ z, z = l ++ [x.str] := ⟨_, rfl⟩
            rw [← hl2] at HZ2
            have HL2 := Lib.hid hl2
            have hl2n : l2.length ≤ 1000000 := by have h1 := HLN.out; rw [hl2, List.length_append, List.length_singleton]; have : 1 ≤ t.wt := (by rw [T.wt_eq]; omega); omega
            clear hl2
            have HXB2 := Lib.hid (HXB.out.keep HBb.out); have HXA2 := Lib.hid (HXA.out.keep HBb.out)
            go_upto_region 16 with fail
            obtain ⟨WA, eA⟩ : ∃ z, z = wb.alloc (.cells #[.int .i64 y.kind, .bool y.bool, .int .i64 y.int, .string y.str, .slice yla y.list.length ylc, .slice yma y.map.length ymc] 25) := ⟨_, rfl⟩
            rw [← eA] at HXB2 HXA2 HBb
            rw [← eA]
            have HBW := Lib.hid (Below.next HBA2.out HBb.out)
            clear eA HBb HXB HXA
            have HXB := HXB2; have HXA := HXA2
            clear HXB2 HXA2
            refine wp_region_tail (S := (fun w' => (∀ i, w'.cell? ⟨n15, i, none⟩ = (#[.int .i64 x.kind, .bool x.bool, .int .i64 x.int, .string x.str, .slice xla x.list.length xlc, .slice xma x.map.length xmc] : Array Value)[i]?))) 7 (by kernel_rfl) (by kernel_rfl) (by exact (HXB.out.blk.keep (Below.refl _ _).drew).cell) (fun hHeld => ?_)
            simp only [List.dropLast]
            refine wpAnyH_take (i := 0) (v := ?vm6_0) (by conv => lhs; simp only [List.getElem?_toArray, List.getElem?_cons_succ, List.getElem?_cons_zero]) (by kernel_rfl) (by kernel_rfl) (by kernel_rfl) (by exact fun _ _ _ h => h) (Or.inl ⟨by rfl, ?hym6_0⟩) (by assumption) ?_
            case hym6_0 => (intro w0 hSw; (try dsimp only at hSw); go_simp; (try with_reducible rfl); (try assumption))
            try simp only [Act.put, List.setIfInBounds_toArray, List.set_cons_zero, List.set_cons_succ]
            refine wpAnyH_take (i := 1) (v := ?vm6_1) (by conv => lhs; simp only [List.getElem?_toArray, List.getElem?_cons_succ, List.getElem?_cons_zero]) (by kernel_rfl) (by kernel_rfl) (by kernel_rfl) (by exact fun _ _ _ h => h) (Or.inl ⟨by rfl, ?hym6_1⟩) (by assumption) ?_
            case hym6_1 => (intro w0 hSw; (try dsimp only at hSw); go_simp; (try with_reducible rfl); (try assumption))
            try simp only [Act.put, List.setIfInBounds_toArray, List.set_cons_zero, List.set_cons_succ]
            refine wpAnyH_take (i := 3) (v := ?vm6_3) (by conv => lhs; simp only [List.getElem?_toArray, List.getElem?_cons_succ, List.getElem?_cons_zero]) (by kernel_rfl) (by kernel_rfl) (by kernel_rfl) (by exact fun _ _ _ h => h) (Or.inl ⟨by rfl, ?hym6_3⟩) (by assumption) ?_
            case hym6_3 => (intro w0 hSw; (try dsimp only at hSw); go_simp; (try with_reducible rfl); (try assumption))
            try simp only [Act.put, List.setIfInBounds_toArray, List.set_cons_zero, List.set_cons_succ]
            refine wpAnyH_take (i := 4) (v := ?vm6_4) (by conv => lhs; simp only [List.getElem?_toArray, List.getElem?_cons_succ, List.getElem?_cons_zero]) (by kernel_rfl) (by kernel_rfl) (by kernel_rfl) (by exact fun _ _ _ h => h) (Or.inl ⟨by rfl, ?hym6_4⟩) (by assumption) ?_
            case hym6_4 => (intro w0 hSw; (try dsimp only at hSw); go_simp; (try with_reducible rfl); (try assumption))
            try simp only [Act.put, List.setIfInBounds_toArray, List.set_cons_zero, List.set_cons_succ]
            refine wpAnyH_ready (rs := [2, 5]) (by kernel_rfl) (by simp) ?_
            refine AllReadyH.cons (by conv => lhs; simp only [List.getElem?_toArray, List.getElem?_cons_succ, List.getElem?_cons_zero]) (fun K hK => ?_) ?_
            · go_simp
              refine (tcloneS l a ac _ _ (RepS.mono (w' := WA.drew) HXA.out.steps (fun _ h _ => h) (fun _ _ _ _ => rfl)) hln).mono ?_
              rintro e w1 ⟨A5, c5, rfl, ho1, hb1⟩
              have HB1 := Lib.hid (Below.next ((Below.refl WA.heap.size WA).drew) hb1); have HO1 := Lib.hid (show OwnE eltS w1 WA.heap.size (fun _ => True) A5 c5 l from ho1); have HBL := Lib.hid (Nat.le_refl WA.heap.size)
              clear ho1 hb1
              go_wp2_with fail
              refine hK.out _ _ (by exact (HXB.out.blk.keep HB1.out).cell) (fun hHeld => ?_)
              clear hK K
              try simp only [Act.put, List.setIfInBounds_toArray, List.set_cons_zero, List.set_cons_succ]
              refine wpAnyH_ready (rs := [5]) (by kernel_rfl) (by simp) ?_
              refine AllReadyH.cons (by conv => lhs; simp only [List.getElem?_toArray, List.getElem?_cons_succ, List.getElem?_cons_zero]) (fun K hK => ?_) AllReadyH.nil
              go_simp
              have HB3 := Lib.hid (HB1.out.alloc HB1.out.size (.cells #[.string x.str] 9)); have HK1 := Lib.hid (Blk.new w1 9 #[.string x.str]); have HO3 := Lib.hid (HO1.out.keep (Below.new w1 (.cells #[.string x.str] 9))); have HSZ := HB3.out.size
              refine hK.out _ _ (by exact (HXB.out.blk.keep HB3.out).cell) (fun hHeld => ?_)
              clear hK K
              try simp only [Act.put, List.setIfInBounds_toArray, List.set_cons_zero, List.set_cons_succ]
              refine wpAnyH_ready (rs := [6]) (by kernel_rfl) (by simp) ?_
              refine AllReadyH.cons (by conv => lhs; simp only [List.getElem?_toArray, List.getElem?_cons_succ, List.getElem?_cons_zero]) (fun K hK => ?_) AllReadyH.nil
              obtain ⟨A6, c6, w6, hrun, ho6, hb6⟩ := own_snocS2 HO3.out HK1.out HSZ hsz hln
              rw [← HL2.out] at hrun ho6
              have HRUN := Lib.hid hrun; have HO6 := Lib.hid ho6; have HB6 := Lib.hid (HB3.out.trans (hb6.mono HBL.out))
              clear hrun ho6 hb6
              refine step_append_run rfl (.tmp 84) (.tmp 87) 43 rfl HRUN.out rfl rfl ?_
              refine hK.out _ _ (by exact (HXB.out.blk.keep HB6.out).cell) (fun hHeld => ?_)
              clear hK K
              try simp only [Act.put, List.setIfInBounds_toArray, List.set_cons_zero, List.set_cons_succ]
              refine wpAnyH_done (by kernel_rfl) ?_ _
              refine LastQ.step (by conv => lhs; simp only [List.getElem?_toArray, List.getElem?_cons_succ, List.getElem?_cons_zero]) (fun K hK => ?_)
              go_simp
              refine (tadd 2 l2 A6 c6 _ B gc A3 c3 F3 (HXA.out.keep HB6.out).chk (made_steps HXA.out HO6.out HBL.out) hl2n hbd).mono ?_
              rintro e w7 hp
              obtain ⟨A7, c7, F7, rfl, hx, hg⟩ := (HXA.out.keep HB6.out).post HAB.out hp
              have HX7 := Lib.hid hx; have HG7 := Lib.hid (((HGr.out.trans (Grow.of HBW.out)).trans (Grow.of HB6.out)).trans hg)
              clear hx hg hp
              go_wp2_with fail
              refine hK.out _ _ ?_
              clear hK K
              try simp only [Act.put, List.setIfInBounds_toArray, List.set_cons_zero, List.set_cons_succ]
              go_wp2_with fail
              go_roundw
              case rel => exact ⟨q + 1, by omega, by go_num, A7, c7, F7, Lib.hid (by rw [HZ.out, HZ2.out, ← List.append_assoc]; exact HX7.out), HG7⟩
              case measure => simp [Lib.intOf]; omega
            refine AllReadyH.cons (by conv => lhs; simp only [List.getElem?_toArray, List.getElem?_cons_succ, List.getElem?_cons_zero]) (fun K hK => ?_) AllReadyH.nil
            go_simp
            have HB3 := Lib.hid (((Below.refl WA.heap.size WA).drew).alloc (Nat.le_refl _) (.cells #[.string x.str] 9)); have HK3 := Lib.hid (Blk.new WA.drew 9 #[.string x.str])
            refine hK.out _ _ (by exact (HXB.out.blk.keep HB3.out).cell) (fun hHeld => ?_)
            clear hK K
            try simp only [Act.put, List.setIfInBounds_toArray, List.set_cons_zero, List.set_cons_succ]
            refine wpAnyH_ready (rs := [2]) (by kernel_rfl) (by simp) ?_
            refine AllReadyH.cons (by conv => lhs; simp only [List.getElem?_toArray, List.getElem?_cons_succ, List.getElem?_cons_zero]) (fun K hK => ?_) AllReadyH.nil
            go_simp
            have HB3s := HB3
            refine (tcloneS l a ac _ _ (HXA.out.steps.grow (Grow.of HB3.out)) hln).mono ?_
            rintro e w1 ⟨A5, c5, rfl, ho1, hb1⟩
            have HB1 := Lib.hid (Below.next HB3.out hb1); have HO1 := Lib.hid ho1; have HK1 := Lib.hid (HK3.out.keep hb1); have HBL := Lib.hid HB3.out.size; have HSZ := Lib.hid hb1.size
            clear ho1 hb1 HB3s
            go_wp2_with fail
            refine hK.out _ _ (by exact (HXB.out.blk.keep HB1.out).cell) (fun hHeld => ?_)
            clear hK K
            try simp only [Act.put, List.setIfInBounds_toArray, List.set_cons_zero, List.set_cons_succ]
            refine wpAnyH_ready (rs := [6]) (by kernel_rfl) (by simp) ?_
            refine AllReadyH.cons (by conv => lhs; simp only [List.getElem?_toArray, List.getElem?_cons_succ, List.getElem?_cons_zero]) (fun K hK => ?_) AllReadyH.nil
            obtain ⟨A6, c6, w6, hrun, ho6, hb6⟩ := own_snocS2 HO1.out HK1.out HSZ.out hsz hln
            rw [← HL2.out] at hrun ho6
            have HRUN := Lib.hid hrun; have HO6 := Lib.hid ho6; have HB6 := Lib.hid (HB1.out.trans (hb6.mono HBL.out))
            clear hrun ho6 hb6
            refine step_append_run rfl (.tmp 84) (.tmp 87) 43 rfl HRUN.out rfl rfl ?_
            refine hK.out _ _ (by exact (HXB.out.blk.keep HB6.out).cell) (fun hHeld => ?_)
            clear hK K
            try simp only [Act.put, List.setIfInBounds_toArray, List.set_cons_zero, List.set_cons_succ]
            refine wpAnyH_done (by kernel_rfl) ?_ _
            refine LastQ.step (by conv => lhs; simp only [List.getElem?_toArray, List.getElem?_cons_succ, List.getElem?_cons_zero]) (fun K hK => ?_)
            go_simp
            refine (tadd 2 l2 A6 c6 _ B gc A3 c3 F3 (HXA.out.keep HB6.out).chk (made_steps HXA.out HO6.out HBL.out) hl2n hbd).mono ?_
            rintro e w7 hp
            obtain ⟨A7, c7, F7, rfl, hx, hg⟩ := (HXA.out.keep HB6.out).post HAB.out hp
            have HX7 := Lib.hid hx; have HG7 := Lib.hid (((HGr.out.trans (Grow.of HBW.out)).trans (Grow.of HB6.out)).trans hg)
            clear hx hg hp
            go_wp2_with fail
            refine hK.out _ _ ?_
            clear hK K
            try simp only [Act.put, List.setIfInBounds_toArray, List.set_cons_zero, List.set_cons_succ]
            go_wp2_with fail
            go_roundw
            case rel => exact ⟨q + 1, by omega, by go_num, A7, c7, F7, Lib.hid (by rw [HZ.out, HZ2.out, ← List.append_assoc]; exact HX7.out), HG7⟩
            case measure => simp [Lib.intOf]; omega
        · have hq' : q = nt.list.length := by omega
          subst hq'
          rw [List.take_length, ← HNF.out] at HXr
          go_wp2_with fail
          refine hK11.out _ _ ?_
          clear hK11
          obtain ⟨r3, hr3⟩ : ∃ z, z = Value.ownBlock (.slice A3 F3.length c3) := ⟨_, rfl⟩
          have HR3 := Lib.hid hr3
          rw [← hr3] at HGr
          have HX5 := HXr
          have HS5 := Lib.hid (HS4.out.grow HGr.out); have HT5 := Lib.hid (HT4.out.grow HGr.out)
          clear hr3 HGr HXr HX4 HS4 HT4
          obtain ⟨N3, hN3⟩ : ∃ z, z = N2 ++ needF s t l := ⟨_, rfl⟩
          rw [← hN3] at HX5
          have HN3 := Lib.hid hN3
          clear hN3 HNL hn6 HnT HnOK
          -- part keysW
          refine wp_seq_cut (fun K18 hK18 => ?_)
          have k1 := HS5.out.blk.cell; have l1 := HS5.out.blk.lt
          go_wp2_with fail
          refine (tpart s keysW _ _ _ HS5.out.rep hks).mono ?_
          rintro e wb ⟨v1, rfl, hr1, hb1⟩
          obtain ⟨kla, klc, kma, kmc, rfl, -⟩ := hr1.inv
          obtain ⟨kt, hkt⟩ : ∃ x, x = (getT s keysW).getD T.zero := ⟨_, rfl⟩
          obtain ⟨kok, hkok⟩ : ∃ x, x = (getT s keysW).isSome := ⟨_, rfl⟩
          rw [← hkt] at hr1
          rw [← hkt, ← hkok]
          have HWb := Lib.hid hb1
          have HVk6 := Lib.hid (VBox.made HX5.out hr1 hb1)
          rw [← HR3.out] at HVk6
          have hbw := hb1.alloc hb1.size (.cells #[.int .i64 kt.kind, .bool kt.bool, .int .i64 kt.int, .string kt.str, .slice kla kt.list.length klc, .slice kma kt.map.length kmc] 25)
          have HkT := Lib.hid hkt; have HkOK := Lib.hid hkok
          clear hr1 hb1 hkt hkok k1 l1
          go_wp2_with fail
          refine hK18.out _ _ ?_
          clear hK18 K18
          obtain ⟨WY6, e9⟩ : ∃ z, z = wb.alloc (.cells #[.int .i64 kt.kind, .bool kt.bool, .int .i64 kt.int, .string kt.str, .slice kla kt.list.length klc, .slice kma kt.map.length kmc] 25) := ⟨_, rfl⟩
          obtain ⟨n18, e8⟩ : ∃ z, z = wb.heap.size := ⟨_, rfl⟩
          rw [← e9] at HVk6 hbw
          rw [← e8] at HVk6
          rw [← e9, ← e8]
          have HX6 := Lib.hid (HX5.out.keep hbw); have HS6 := Lib.hid (HS5.out.keep hbw); have HT6 := Lib.hid (HT5.out.keep hbw)
          clear e8 e9 hbw HWb wb HX5 HS5 HT5
          -- part closedW
          refine wp_seq_cut (fun K19 hK19 => ?_)
          have k1 := HS6.out.blk.cell; have l1 := HS6.out.blk.lt
          go_wp2_with fail
          refine (tpart s closedW _ _ _ HS6.out.rep hks).mono ?_
          rintro e wb ⟨v1, rfl, hr1, hb1⟩
          obtain ⟨cla, clc, cma, cmc, rfl, -⟩ := hr1.inv
          obtain ⟨ct, hct⟩ : ∃ x, x = (getT s closedW).getD T.zero := ⟨_, rfl⟩
          obtain ⟨cok, hcok⟩ : ∃ x, x = (getT s closedW).isSome := ⟨_, rfl⟩
          rw [← hct] at hr1
          rw [← hct, ← hcok]
          have HWb := Lib.hid hb1
          have HVc7 := Lib.hid (VBox.made HX6.out hr1 hb1)
          rw [← HR3.out] at HVc7
          have hbw := hb1.alloc hb1.size (.cells #[.int .i64 ct.kind, .bool ct.bool, .int .i64 ct.int, .string ct.str, .slice cla ct.list.length clc, .slice cma ct.map.length cmc] 25)
          have HcT := Lib.hid hct; have HcOK := Lib.hid hcok
          clear hr1 hb1 hct hcok k1 l1
          go_wp2_with fail
          refine hK19.out _ _ ?_
          clear hK19 K19
          obtain ⟨WY7, e9⟩ : ∃ z, z = wb.alloc (.cells #[.int .i64 ct.kind, .bool ct.bool, .int .i64 ct.int, .string ct.str, .slice cla ct.list.length clc, .slice cma ct.map.length cmc] 25) := ⟨_, rfl⟩
          obtain ⟨n20, e8⟩ : ∃ z, z = wb.heap.size := ⟨_, rfl⟩
          rw [← e9] at HVc7 hbw
          rw [← e8] at HVc7
          rw [← e9, ← e8]
          have HX7 := Lib.hid (HX6.out.keep hbw); have HS7 := Lib.hid (HS6.out.keep hbw); have HT7 := Lib.hid (HT6.out.keep hbw)
          have HVk7 := Lib.hid (HVk6.out.keep hbw)
          clear e8 e9 hbw HWb wb HX6 HS6 HT6 HVk6
          -- a map's pairs
          obtain ⟨cb, hcb⟩ : ∃ b, b = ct.bool := ⟨_, rfl⟩
          rw [← hcb]
          have HCB := Lib.hid hcb
          clear hcb
          have k2 := HT7.out.blk.cell; have l2 := HT7.out.blk.lt
          have HMI2 := Lib.hid HT7.out.map
          have hm6 : t.map.length ≤ 1000000 := by have h1 := wt_map t; have h2 := HFT.out.2; omega
          have HFK := Lib.hid (show FineT kt from by rw [HkT.out]; exact HFS.out.getD keysW)
          have HME := Lib.hid (show MM = needF s t l ++ T.chkM t.map kt cb l from by rw [HM5.out, HCB.out, HcT.out, HkT.out])
          clear HM5 HkT HcT HkOK HcOK
          go_wp2_with fail
          go_loopw [104] (fun i wr => ∃ q : Nat, q ≤ t.map.length ∧ i = .int .i64 q ∧ ∃ A' c' F', Hid (Ctx w wr B gc r A' c' F' F (N3 ++ T.chkM (t.map.take q) kt cb l) a l) ∧ Hid (Grow WY7 wr gc r3 (Value.ownBlock (.slice A' F'.length c')))) (fun i _ => t.map.length - (Lib.intOf i).toNat)
          case atStart => exact ⟨0, Nat.zero_le _, rfl, A3, c3, F3, Lib.hid (by have := HX7.out; rw [List.take_zero, T.chkM, List.append_nil]; exact this), Lib.hid (HR3.out ▸ Grow.refl _ _ _)⟩
          case round =>
            clear k2 l2
            obtain ⟨q, hq, rfl, A4, c4, F4, HXr, HGr⟩ := hrel
            by_cases hlt : q < t.map.length
            · obtain ⟨bl, ol, xla, xlc, xma, xmc, rfl, haw, hbl, hsz, ⟨d0, d1, d2, d3, d4, d5, d6⟩, hr⟩ := (HMI2.out.grow HGr.out).at_ hlt
              have hz := chkM_take t.map kt cb l q hlt
              have hbd : F4.length + (T.chkP t.map[q] kt cb l).length ≤ 999999000 := by
                have h1 := congrArg List.length HXr.out.eq; have h2 := chkM_len t.map kt cb l (q + 1); rw [hz] at h2; have h3 := HTOT2.out; rw [HME.out] at h3; rw [HN3.out] at h1; simp only [List.length_append] at *; omega
              have hfx := HFT.out.map (List.getElem_mem hlt)
              have hwx : t.map[q].2.wt < t.wt := by have h1 := wtM_mem t.map _ (List.getElem_mem hlt); have h2 := T.wt_eq t; omega
              have hcx := HMI.out _ (List.getElem_mem hlt)
              have hq6 : q ≤ 1000000 := by omega
              generalize t.map[q] = pr at d0 d1 d2 d3 d4 d5 d6 hr hz hbd hfx hwx hcx hsz
              obtain ⟨key, x⟩ := pr
              simp only at d0 d1 d2 d3 d4 d5 d6 hr hfx hwx hcx hsz
              rw [chkP_eq] at hz hbd
              have HZ := Lib.hid hz; have HBD := Lib.hid hbd; have HFX := Lib.hid hfx; have HWX := Lib.hid hwx; have HCX := Lib.hid hcx
              have HXB := Lib.hid (PBox.new (key := key) HXr.out hr)
              have HBA := Lib.hid (Below.new wr (.cells #[.string key, .int .i64 x.kind, .bool x.bool, .int .i64 x.int, .string x.str, .slice xla x.list.length xlc, .slice xma x.map.length xmc] 41))
              have HKA := Lib.hid ((HVk7.out.grow HGr.out).keep HBA.out)
              have HCA := Lib.hid ((HVc7.out.grow HGr.out).keep HBA.out)
              have HXA := Lib.hid (HXr.out.keep HBA.out)
              clear hz hbd hfx hwx hcx hr
              go_upto_region 23 with fail
              obtain ⟨WZ, eA⟩ : ∃ z, z = wr.alloc (.cells #[.string key, .int .i64 x.kind, .bool x.bool, .int .i64 x.int, .string x.str, .slice xla x.list.length xlc, .slice xma x.map.length xmc] 41) := ⟨_, rfl⟩
              obtain ⟨n23, e11⟩ : ∃ z, z = wr.heap.size := ⟨_, rfl⟩
              rw [← eA] at HXB HBA HKA HCA HXA
              rw [← e11] at HXB
              rw [← eA, ← e11]
              have HBA2 := Lib.hid (show Below wr.heap.size wr WZ from HBA.out)
              clear HBA eA e11 d0 d1 d2 d3 d4 d5 d6
              have k1 := HKA.out.blk.cell; have l1 := HKA.out.blk.lt; have k2 := HXB.out.blk.cell; have l2 := HXB.out.blk.lt
              go_wp2_with fail
              refine (tget kt key _ _ _ HKA.out.rep HFK.out.KS).mono ?_
              rintro e wb ⟨v1, rfl, hr1, hb1⟩
              obtain ⟨o, ho⟩ : ∃ o, o = getT kt key := ⟨_, rfl⟩
              rw [← ho] at hr1 HZ HBD
              rw [← ho]
              obtain ⟨y, hy⟩ : ∃ y, y = o.getD T.zero := ⟨_, rfl⟩
              obtain ⟨ok, hok⟩ : ∃ b, b = o.isSome := ⟨_, rfl⟩
              rw [← hy] at hr1
              rw [← hok]
              obtain ⟨yla, ylc, yma, ymc, rfl, -⟩ := hr1.inv
              have HYB := Lib.hid (VBox.made HXA.out hr1 hb1)
              have HBb := Lib.hid (hb1.alloc hb1.size (.cells #[.int .i64 y.kind, .bool y.bool, .int .i64 y.int, .string y.str, .slice yla y.list.length ylc, .slice yma y.map.length ymc] 25))
              have HO := Lib.hid ho; have HY := Lib.hid hy; have HOK := Lib.hid hok
              clear hr1 hb1 ho hy hok k1 l1 k2 l2
              have HXB2 := Lib.hid (HXB.out.keep HBb.out); have HXA2 := Lib.hid (HXA.out.keep HBb.out); have HCA2 := Lib.hid (HCA.out.keep HBb.out)
              obtain ⟨l2, hl2⟩ : ∃ z, z = l ++ [key] := ⟨_, rfl⟩
              rw [← hl2] at HZ HBD
              have HL2 := Lib.hid hl2
              have hl2w : l2.length + x.wt ≤ 1000000 := by have h1 := HLN.out; have h3 := HWX.out; rw [hl2, List.length_append, List.length_singleton]; omega
              clear hl2
              go_upto_region 24 with fail
              obtain ⟨WA, eA⟩ : ∃ z, z = wb.alloc (.cells #[.int .i64 y.kind, .bool y.bool, .int .i64 y.int, .string y.str, .slice yla y.list.length ylc, .slice yma y.map.length ymc] 25) := ⟨_, rfl⟩
              obtain ⟨n24, e11⟩ : ∃ z, z = wb.heap.size := ⟨_, rfl⟩
              rw [← eA] at HXB2 HXA2 HBb HCA2 HYB
              rw [← e11] at HYB
              rw [← eA, ← e11]
              have HBW := Lib.hid (Below.next HBA2.out HBb.out)
              clear eA e11 HBb HXB HXA HCA
              have HXB := HXB2; have HXA := HXA2; have HCA := HCA2
              clear HXB2 HXA2 HCA2
              refine wp_region_tail (S := (fun w' => (∀ i, w'.cell? ⟨n23, i, none⟩ = (#[.string key, .int .i64 x.kind, .bool x.bool, .int .i64 x.int, .string x.str, .slice xla x.list.length xlc, .slice xma x.map.length xmc] : Array Value)[i]?))) 6 (by kernel_rfl) (by kernel_rfl) (by exact (HXB.out.blk.keep (Below.refl _ _).drew).cell) (fun hHeld => ?_)
              simp only [List.dropLast]
              refine wpAnyH_take (i := 0) (v := ?vm13_0) (by conv => lhs; simp only [List.getElem?_toArray, List.getElem?_cons_succ, List.getElem?_cons_zero]) (by kernel_rfl) (by kernel_rfl) (by kernel_rfl) (by exact fun _ _ _ h => h) (Or.inl ⟨by rfl, ?hym13_0⟩) (by assumption) ?_
              case hym13_0 => (intro w0 hSw; (try dsimp only at hSw); go_simp; (try with_reducible rfl); (try assumption))
              try simp only [Act.put, List.setIfInBounds_toArray, List.set_cons_zero, List.set_cons_succ]
              refine wpAnyH_take (i := 2) (v := ?vm13_2) (by conv => lhs; simp only [List.getElem?_toArray, List.getElem?_cons_succ, List.getElem?_cons_zero]) (by kernel_rfl) (by kernel_rfl) (by kernel_rfl) (by exact fun _ _ _ h => h) (Or.inl ⟨by rfl, ?hym13_2⟩) (by assumption) ?_
              case hym13_2 => (intro w0 hSw; (try dsimp only at hSw); go_simp; (try with_reducible rfl); (try assumption))
              try simp only [Act.put, List.setIfInBounds_toArray, List.set_cons_zero, List.set_cons_succ]
              refine wpAnyH_take (i := 3) (v := ?vm13_3) (by conv => lhs; simp only [List.getElem?_toArray, List.getElem?_cons_succ, List.getElem?_cons_zero]) (by kernel_rfl) (by kernel_rfl) (by kernel_rfl) (by exact fun _ _ _ h => h) (Or.inl ⟨by rfl, ?hym13_3⟩) (by assumption) ?_
              case hym13_3 => (intro w0 hSw; (try dsimp only at hSw); go_simp; (try with_reducible rfl); (try assumption))
              try simp only [Act.put, List.setIfInBounds_toArray, List.set_cons_zero, List.set_cons_succ]
              refine wpAnyH_ready (rs := [1, 4]) (by kernel_rfl) (by simp) ?_
              refine AllReadyH.cons (by conv => lhs; simp only [List.getElem?_toArray, List.getElem?_cons_succ, List.getElem?_cons_zero]) (fun K hK => ?_) ?_
              · go_simp
                refine (tcloneS l a ac _ _ (RepS.mono (w' := WA.drew) HXA.out.steps (fun _ h _ => h) (fun _ _ _ _ => rfl)) hln).mono ?_
                rintro e w1 ⟨A5, c5, rfl, ho1, hb1⟩
                have HB1 := Lib.hid (Below.next ((Below.refl WA.heap.size WA).drew) hb1); have HO1 := Lib.hid (show OwnE eltS w1 WA.heap.size (fun _ => True) A5 c5 l from ho1); have HBL := Lib.hid (Nat.le_refl WA.heap.size)
                clear ho1 hb1
                go_wp2_with fail
                refine hK.out _ _ (by exact (HXB.out.blk.keep HB1.out).cell) (fun hHeld => ?_)
                clear hK K
                try simp only [Act.put, List.setIfInBounds_toArray, List.set_cons_zero, List.set_cons_succ]
                refine wpAnyH_ready (rs := [4]) (by kernel_rfl) (by simp) ?_
                refine AllReadyH.cons (by conv => lhs; simp only [List.getElem?_toArray, List.getElem?_cons_succ, List.getElem?_cons_zero]) (fun K hK => ?_) AllReadyH.nil
                go_simp
                have HB3 := Lib.hid (HB1.out.alloc HB1.out.size (.cells #[.string key] 9)); have HK1 := Lib.hid (Blk.new w1 9 #[.string key]); have HO3 := Lib.hid (HO1.out.keep (Below.new w1 (.cells #[.string key] 9))); have HSZ := HB3.out.size
                refine hK.out _ _ (by exact (HXB.out.blk.keep HB3.out).cell) (fun hHeld => ?_)
                clear hK K
                try simp only [Act.put, List.setIfInBounds_toArray, List.set_cons_zero, List.set_cons_succ]
                refine wpAnyH_ready (rs := [5]) (by kernel_rfl) (by simp) ?_
                refine AllReadyH.cons (by conv => lhs; simp only [List.getElem?_toArray, List.getElem?_cons_succ, List.getElem?_cons_zero]) (fun K hK => ?_) AllReadyH.nil
                obtain ⟨A6, c6, w6, hrun, ho6, hb6⟩ := own_snocS2 HO3.out HK1.out HSZ hsz hln
                rw [← HL2.out] at hrun ho6
                have HRUN := Lib.hid hrun; have HO6 := Lib.hid ho6; have HB6 := Lib.hid (HB3.out.trans (hb6.mono HBL.out))
                clear hrun ho6 hb6
                refine step_append_run rfl (.tmp 116) (.tmp 119) 43 rfl HRUN.out rfl rfl ?_
                refine hK.out _ _ (by exact (HXB.out.blk.keep HB6.out).cell) (fun hHeld => ?_)
                clear hK K
                try simp only [Act.put, List.setIfInBounds_toArray, List.set_cons_zero, List.set_cons_succ]
                refine wpAnyH_done (by kernel_rfl) ?_ _
                refine LastQ.step (by conv => lhs; simp only [List.getElem?_toArray, List.getElem?_cons_succ, List.getElem?_cons_zero]) (fun K hK => ?_)
                go_simp
                refine hK.out _ _ ?_
                clear hK K
                try simp only [Act.put, List.setIfInBounds_toArray, List.set_cons_zero, List.set_cons_succ]
                have HXC := Lib.hid (HXA.out.keep HB6.out); have HYC := Lib.hid (HYB.out.keep HB6.out); have HPC := Lib.hid (HXB.out.keep HB6.out); have HCC := Lib.hid (HCA.out.keep HB6.out); have HLC := Lib.hid (made_steps HXA.out HO6.out HBL.out)
                have HGC := Lib.hid ((HGr.out.trans (Grow.of HBW.out)).trans (Grow.of HB6.out))
                cases o with
                | some y0 =>
                  obtain rfl : y = y0 := HY.out
                  obtain rfl : ok = true := HOK.out
                  have HFY := Lib.hid (HFK.out.getT HO.out.symm)
                  have hbd2 := HBD.out; have hz2 := HZ.out
                  simp only at hbd2 hz2
                  have HBD2 := Lib.hid hbd2; have HZ2 := Lib.hid hz2
                  clear hbd2 hz2 HBD HZ
                  have k1 := HYC.out.blk.cell; have m1 := HYC.out.blk.lt; have k2 := HPC.out.blk.cell; have m2 := HPC.out.blk.lt
                  go_wp2_with fail
                  refine (HCX.out y l2 A6 c6 yla ylc yma ymc xla xlc xma xmc _ B gc A4 c4 F4 HXC.out.chk HYC.out.rep HPC.out.rep HLC.out HXC.out.tabs HAB.out HFY.out HFX.out hl2w HBD2.out).mono ?_
                  rintro e w7 hp
                  obtain ⟨A7, c7, F7, rfl, hx, hg⟩ := HXC.out.post HAB.out hp
                  have HX7 := Lib.hid hx; have HG7 := Lib.hid (((HGr.out.trans (Grow.of HBW.out)).trans (Grow.of HB6.out)).trans hg)
                  clear hx hg hp
                  go_wp2_with fail
                  go_roundw
                  case rel => exact ⟨q + 1, by omega, by go_num, A7, c7, F7, Lib.hid (by rw [HZ2.out, ← List.append_assoc]; exact HX7.out), HG7⟩
                  case measure => simp [Lib.intOf]; omega
                | none =>
                  obtain rfl : ok = false := HOK.out
                  have kc : w6.cell? ⟨n20, 1, none⟩ = some (.bool cb) := by rw [HCB.out]; exact HCC.out.blk.cell 1
                  have lc2 := HCC.out.blk.lt
                  have hz2 := HZ.out
                  simp only at hz2
                  have HZ1 := Lib.hid hz2
                  clear hz2 HZ
                  cases cb with
                  | true =>
                    have HZ2 := Lib.hid (HZ1.out.trans (by rw [if_pos rfl]))
                    go_wp2_with fail
                    refine (tadd 3 l2 A6 c6 _ B gc A4 c4 F4 HXC.out.chk HLC.out (by omega) (by have := HBD.out; omega)).mono ?_
                    rintro e w7 hp
                    obtain ⟨A7, c7, F7, rfl, hx, hg⟩ := HXC.out.post HAB.out hp
                    have HX7 := Lib.hid hx; have HG7 := Lib.hid (((HGr.out.trans (Grow.of HBW.out)).trans (Grow.of HB6.out)).trans hg)
                    clear hx hg hp
                    go_wp2_with fail
                    go_roundw
                    case rel => exact ⟨q + 1, by omega, by go_num, A7, c7, F7, Lib.hid (by rw [HZ2.out, ← List.append_assoc]; exact HX7.out), HG7⟩
                    case measure => simp [Lib.intOf]; omega
                  | false =>
                    go_wp2_with fail
                    go_roundw
                    case rel => exact ⟨q + 1, by omega, by go_num, A4, c4, F4, Lib.hid (by rw [HZ1.out]; simp only [Bool.false_eq_true, if_false, List.append_nil]; exact HXC.out), HGC⟩
                    case measure => simp [Lib.intOf]; omega
              refine AllReadyH.cons (by conv => lhs; simp only [List.getElem?_toArray, List.getElem?_cons_succ, List.getElem?_cons_zero]) (fun K hK => ?_) AllReadyH.nil
              go_simp
              have HB3 := Lib.hid (((Below.refl WA.heap.size WA).drew).alloc (Nat.le_refl _) (.cells #[.string key] 9)); have HK3 := Lib.hid (Blk.new WA.drew 9 #[.string key])
              refine hK.out _ _ (by exact (HXB.out.blk.keep HB3.out).cell) (fun hHeld => ?_)
              clear hK K
              try simp only [Act.put, List.setIfInBounds_toArray, List.set_cons_zero, List.set_cons_succ]
              refine wpAnyH_ready (rs := [1]) (by kernel_rfl) (by simp) ?_
              refine AllReadyH.cons (by conv => lhs; simp only [List.getElem?_toArray, List.getElem?_cons_succ, List.getElem?_cons_zero]) (fun K hK => ?_) AllReadyH.nil
              go_simp
              have HB3s := HB3
              refine (tcloneS l a ac _ _ (HXA.out.steps.grow (Grow.of HB3.out)) hln).mono ?_
              rintro e w1 ⟨A5, c5, rfl, ho1, hb1⟩
              have HB1 := Lib.hid (Below.next HB3.out hb1); have HO1 := Lib.hid ho1; have HK1 := Lib.hid (HK3.out.keep hb1); have HBL := Lib.hid HB3.out.size; have HSZ := Lib.hid hb1.size
              clear ho1 hb1 HB3s
              go_wp2_with fail
              refine hK.out _ _ (by exact (HXB.out.blk.keep HB1.out).cell) (fun hHeld => ?_)
              clear hK K
              try simp only [Act.put, List.setIfInBounds_toArray, List.set_cons_zero, List.set_cons_succ]
              refine wpAnyH_ready (rs := [5]) (by kernel_rfl) (by simp) ?_
              refine AllReadyH.cons (by conv => lhs; simp only [List.getElem?_toArray, List.getElem?_cons_succ, List.getElem?_cons_zero]) (fun K hK => ?_) AllReadyH.nil
              obtain ⟨A6, c6, w6, hrun, ho6, hb6⟩ := own_snocS2 HO1.out HK1.out HSZ.out hsz hln
              rw [← HL2.out] at hrun ho6
              have HRUN := Lib.hid hrun; have HO6 := Lib.hid ho6; have HB6 := Lib.hid (HB1.out.trans (hb6.mono HBL.out))
              clear hrun ho6 hb6
              refine step_append_run rfl (.tmp 116) (.tmp 119) 43 rfl HRUN.out rfl rfl ?_
              refine hK.out _ _ (by exact (HXB.out.blk.keep HB6.out).cell) (fun hHeld => ?_)
              clear hK K
              try simp only [Act.put, List.setIfInBounds_toArray, List.set_cons_zero, List.set_cons_succ]
              refine wpAnyH_done (by kernel_rfl) ?_ _
              refine LastQ.step (by conv => lhs; simp only [List.getElem?_toArray, List.getElem?_cons_succ, List.getElem?_cons_zero]) (fun K hK => ?_)
              go_simp
              refine hK.out _ _ ?_
              clear hK K
              try simp only [Act.put, List.setIfInBounds_toArray, List.set_cons_zero, List.set_cons_succ]
              have HXC := Lib.hid (HXA.out.keep HB6.out); have HYC := Lib.hid (HYB.out.keep HB6.out); have HPC := Lib.hid (HXB.out.keep HB6.out); have HCC := Lib.hid (HCA.out.keep HB6.out); have HLC := Lib.hid (made_steps HXA.out HO6.out HBL.out)
              have HGC := Lib.hid ((HGr.out.trans (Grow.of HBW.out)).trans (Grow.of HB6.out))
              cases o with
              | some y0 =>
                obtain rfl : y = y0 := HY.out
                obtain rfl : ok = true := HOK.out
                have HFY := Lib.hid (HFK.out.getT HO.out.symm)
                have hbd2 := HBD.out; have hz2 := HZ.out
                simp only at hbd2 hz2
                have HBD2 := Lib.hid hbd2; have HZ2 := Lib.hid hz2
                clear hbd2 hz2 HBD HZ
                have k1 := HYC.out.blk.cell; have m1 := HYC.out.blk.lt; have k2 := HPC.out.blk.cell; have m2 := HPC.out.blk.lt
                go_wp2_with fail
                refine (HCX.out y l2 A6 c6 yla ylc yma ymc xla xlc xma xmc _ B gc A4 c4 F4 HXC.out.chk HYC.out.rep HPC.out.rep HLC.out HXC.out.tabs HAB.out HFY.out HFX.out hl2w HBD2.out).mono ?_
                rintro e w7 hp
                obtain ⟨A7, c7, F7, rfl, hx, hg⟩ := HXC.out.post HAB.out hp
                have HX7 := Lib.hid hx; have HG7 := Lib.hid (((HGr.out.trans (Grow.of HBW.out)).trans (Grow.of HB6.out)).trans hg)
                clear hx hg hp
                go_wp2_with fail
                go_roundw
                case rel => exact ⟨q + 1, by omega, by go_num, A7, c7, F7, Lib.hid (by rw [HZ2.out, ← List.append_assoc]; exact HX7.out), HG7⟩
                case measure => simp [Lib.intOf]; omega
              | none =>
                obtain rfl : ok = false := HOK.out
                have kc : w6.cell? ⟨n20, 1, none⟩ = some (.bool cb) := by rw [HCB.out]; exact HCC.out.blk.cell 1
                have lc2 := HCC.out.blk.lt
                have hz2 := HZ.out
                simp only at hz2
                have HZ1 := Lib.hid hz2
                clear hz2 HZ
                cases cb with
                | true =>
                  have HZ2 := Lib.hid (HZ1.out.trans (by rw [if_pos rfl]))
                  go_wp2_with fail
                  refine (tadd 3 l2 A6 c6 _ B gc A4 c4 F4 HXC.out.chk HLC.out (by omega) (by have := HBD.out; omega)).mono ?_
                  rintro e w7 hp
                  obtain ⟨A7, c7, F7, rfl, hx, hg⟩ := HXC.out.post HAB.out hp
                  have HX7 := Lib.hid hx; have HG7 := Lib.hid (((HGr.out.trans (Grow.of HBW.out)).trans (Grow.of HB6.out)).trans hg)
                  clear hx hg hp
                  go_wp2_with fail
                  go_roundw
                  case rel => exact ⟨q + 1, by omega, by go_num, A7, c7, F7, Lib.hid (by rw [HZ2.out, ← List.append_assoc]; exact HX7.out), HG7⟩
                  case measure => simp [Lib.intOf]; omega
                | false =>
                  go_wp2_with fail
                  go_roundw
                  case rel => exact ⟨q + 1, by omega, by go_num, A4, c4, F4, Lib.hid (by rw [HZ1.out]; simp only [Bool.false_eq_true, if_false, List.append_nil]; exact HXC.out), HGC⟩
                  case measure => simp [Lib.intOf]; omega
            · have hq' : q = t.map.length := by omega
              subst hq'
              rw [List.take_length] at HXr
              go_wp2_with fail
              go_end0
              exact (HRR.out ▸ HXr.out).fin (by rw [HALL.out, HME.out, HN3.out]; simp only [List.append_assoc])
end Go.Proofs.YtgbbojnigicnoaaDoor

/- checker.check for all values; schema.Check. -/
namespace Go.Proofs.YtgbbojnigicnoaaDoor
open Go.RowKit Go.Lib
attribute [local go_sem ↓] Go.wp_at_zero Go.wp_at_succ

theorem tcheck (t : T) : CheckOk t := by
  induction t using T.ind' with
  | h t ihl ihm => exact check_step t ihl ihm
theorem var_lt {P : Program} {w : World} {n : String} {cs : Array Value} {g : Nat} (hg : P.globalNamed n = some g) (h : w.var? P n = some cs) : g < w.heap.size := by
  unfold World.var? at h
  simp only [hg, Option.bind_some] at h
  rcases Nat.lt_or_ge g w.heap.size with h' | h'
  · exact h'
  · simp [Array.getElem?_eq_none h'] at h
theorem Tabs.above {w : World} (h : Tabs w) {gc : Nat} (hg : w.heap.size ≤ gc) : Above gc :=
  ⟨Nat.lt_of_lt_of_le (var_lt (g := 0) (by kernel_rfl) h.1) hg, Nat.lt_of_lt_of_le (var_lt (g := 2) (by kernel_rfl) h.2) hg⟩
/-- All flaws, as Check hands them over. -/
def flaws (s t : T) : List FlawT := if s.sch then t.chk s [] else []
def CheckPost (s t : T) (w : World) (e : Ending) (w' : World) : Prop :=
  ∃ A c B, e = .returned (.tuple #[.slice A (flaws s t).length c, .int .i64 (if s.sch then 0 else 10)]) ∧ OwnE eltFP w' B (fun b => B ≤ b) A c (flaws s t) ∧ w.heap.size ≤ B ∧ Below w.heap.size w w'
theorem chk_fits {s t : T} (hs : FineT s) (ht : FineT t) (l : List ByteArray) : (t.chk s l).length ≤ 36060000 := by
  have h1 := chk_len t.wt t s l (Nat.le_refl _) hs.2
  have h2 := Nat.mul_le_mul_right 6010 ht.2
  omega
set_option maxRecDepth 100000 in
set_option maxHeartbeats 4000000 in
theorem tCheckS (s t : T) (sla : Option Addr) (slc : Nat) (sma : Option Addr) (smc : Nat) (la : Option Addr) (lc : Nat) (ma : Option Addr) (mc : Nat) (w : World) (S : Nat → Prop) (hs : RepT w S (.agg #[.int .i64 s.kind, .bool s.bool, .int .i64 s.int, .string s.str, .slice sla s.list.length slc, .slice sma s.map.length smc]) s) (ht : RepT w S (.agg #[.int .i64 t.kind, .bool t.bool, .int .i64 t.int, .string t.str, .slice la t.list.length lc, .slice ma t.map.length mc]) t) (hv : Tabs w) (hfs : FineT s) (hft : FineT t) :
    Calls Tryd.prog 6 #[.agg #[.int .i64 s.kind, .bool s.bool, .int .i64 s.int, .string s.str, .slice sla s.list.length slc, .slice sma s.map.length smc], .agg #[.int .i64 t.kind, .bool t.bool, .int .i64 t.int, .string t.str, .slice la t.list.length lc, .slice ma t.map.length mc]] w (CheckPost s t w) := by
  have hb0 : Below w.heap.size w ((w.alloc (.cells #[.int .i64 s.kind, .bool s.bool, .int .i64 s.int, .string s.str, .slice sla s.list.length slc, .slice sma s.map.length smc] 25)).alloc (.cells #[.int .i64 t.kind, .bool t.bool, .int .i64 t.int, .string t.str, .slice la t.list.length lc, .slice ma t.map.length mc] 25)) := (Below.new _ _).alloc (by simp) _
  have hl1 : Blk ((w.alloc (.cells #[.int .i64 s.kind, .bool s.bool, .int .i64 s.int, .string s.str, .slice sla s.list.length slc, .slice sma s.map.length smc] 25)).alloc (.cells #[.int .i64 t.kind, .bool t.bool, .int .i64 t.int, .string t.str, .slice la t.list.length lc, .slice ma t.map.length mc] 25)) w.heap.size 25 #[.int .i64 s.kind, .bool s.bool, .int .i64 s.int, .string s.str, .slice sla s.list.length slc, .slice sma s.map.length smc] := (Blk.new _ _ _).alloc _
  have hl2 : Blk ((w.alloc (.cells #[.int .i64 s.kind, .bool s.bool, .int .i64 s.int, .string s.str, .slice sla s.list.length slc, .slice sma s.map.length smc] 25)).alloc (.cells #[.int .i64 t.kind, .bool t.bool, .int .i64 t.int, .string t.str, .slice la t.list.length lc, .slice ma t.map.length mc] 25)) (w.heap.size + 1) 25 #[.int .i64 t.kind, .bool t.bool, .int .i64 t.int, .string t.str, .slice la t.list.length lc, .slice ma t.map.length mc] := Blk.new_at _ _ _ (by simp)
  have HS := Lib.hid hs; have HT := Lib.hid ht; have HV := Lib.hid hv; have HFS := Lib.hid hfs; have HFT := Lib.hid hft
  have HB0 := Lib.hid hb0
  obtain ⟨W0, e0⟩ : ∃ z, z = ((w.alloc (.cells #[.int .i64 s.kind, .bool s.bool, .int .i64 s.int, .string s.str, .slice sla s.list.length slc, .slice sma s.map.length smc] 25)).alloc (.cells #[.int .i64 t.kind, .bool t.bool, .int .i64 t.int, .string t.str, .slice la t.list.length lc, .slice ma t.map.length mc] 25)) := ⟨_, rfl⟩
  rw [← e0] at hb0 hl1 hl2 HB0
  have E0 := Lib.hid e0
  have L1 := Lib.hid hl1; have L2 := Lib.hid hl2
  clear e0 hb0 hl1 hl2 hs ht hv hfs hft
  obtain ⟨z, hz⟩ : ∃ z, z = s.sch := ⟨_, rfl⟩
  have HZ := Lib.hid hz
  have CR := Lib.hid (fun w2 h1 h2 => tright s w2 S (.agg #[.int .i64 s.kind, .bool s.bool, .int .i64 s.int, .string s.str, .slice sla s.list.length slc, .slice sma s.map.length smc]) h1 h2 (by have := HFS.out.2; omega))
  rw [← hz] at CR
  clear hz
  go_enter Tryd.func6, Tryd.ntmps6
  refine wp_seq_cut (fun K0 hK0 => ?_)
  go_wp2_with fail
  refine hK0.out _ _ ?_
  rw [← E0.out]
  clear E0 hK0 K0
  have k1 := L1.out.cell; have m1 := L1.out.lt; have k2 := L2.out.cell; have m2 := L2.out.lt
  go_wp2_with fail
  refine (CR.out _ (HS.out.keep HB0.out) (HV.out.keep HB0.out).1).mono ?_
  rintro e w1 ⟨rfl, hb1⟩
  have HB1 := Lib.hid (HB0.out.trans (hb1.mono HB0.out.size))
  have M1 := Lib.hid (L1.out.keep hb1); have M2 := Lib.hid (L2.out.keep hb1)
  clear hb1 k1 k2 m1 m2
  have k1 := M1.out.cell; have m1 := M1.out.lt; have k2 := M2.out.cell; have m2 := M2.out.lt
  cases z with
  | false =>
    go_wp2_with fail
    go_ret2
    refine ⟨none, 0, w1.heap.size, by unfold flaws; rw [← HZ.out]; rfl, by unfold flaws; rw [← HZ.out]; exact OwnE.nil, HB1.out.size, HB1.out⟩
  | true =>
    have hba := HB1.out.alloc HB1.out.size (.cells #[.slice none 0 0] 48)
    have HBA := Lib.hid hba
    have HN := Lib.hid (show Blk (w1.alloc (.cells #[.slice none 0 0] 48)) w1.heap.size 48 #[.slice none 0 0] from Blk.new _ _ _)
    have hsz : (w1.alloc (.cells #[.slice none 0 0] 48)).heap.size = w1.heap.size + 1 := by simp
    have HSZ := Lib.hid hsz
    have hlt := HB1.out.size
    have HLT := Lib.hid hlt
    have hlow : ∀ (v : Value) (x : T), RepT w S v x → RepT (w1.alloc (.cells #[.slice none 0 0] 48)) (Aw w1.heap.size none) v x := fun v x hr =>
      ((hr.mono (w' := w) (S' := fun b => b < w.heap.size) (fun _ _ h => h) (fun _ _ _ _ => rfl)).keep hba).mono (fun b h _ => ⟨Nat.ne_of_lt (Nat.lt_of_lt_of_le h hlt), fun e => by cases e⟩) (fun _ _ _ _ => rfl)
    have HSA := Lib.hid (hlow _ _ HS.out); have HTA := Lib.hid (hlow _ _ HT.out)
    clear hba hsz hlt hlow
    go_wp2_with fail
    refine (tcheck t s [] none 0 sla slc sma smc la lc ma mc _ (w1.heap.size + 1) w1.heap.size none 0 [] ⟨HN.out, OwnE.nil, Nat.lt_succ_self _, Nat.le_of_eq HSZ.out.symm⟩
      (HSA.out) (HTA.out) (fun i hi => absurd hi (Nat.not_lt_zero _)) (HV.out.keep HBA.out) (HV.out.above HLT.out) HFS.out HFT.out (by have := HFT.out.2; simp; omega) (by have := chk_fits HFS.out HFT.out []; simp; omega)).mono ?_
    rintro e w3 ⟨A2, c2, F2, rfl, hF, hc, hg⟩
    rw [List.nil_append] at hF
    have HF := Lib.hid hF.out; have HC := Lib.hid hc
    have HG := Lib.hid (hg.below HBA.out HLT.out (fun b e => by cases e) (Nat.le_refl _))
    clear hF hc hg k1 k2 m1 m2
    have k1 := HC.out.box.cell; have m1 := HC.out.box.lt
    go_wp2_with fail
    go_ret2
    refine ⟨A2, c2, w1.heap.size + 1, ?_, ?_, Nat.le_succ_of_le HLT.out, HG.out⟩
    · unfold flaws; rw [← HZ.out, if_pos rfl, HF.out]; rfl
    · unfold flaws; rw [← HZ.out, if_pos rfl, ← HF.out]; exact HC.out.own
end Go.Proofs.YtgbbojnigicnoaaDoor

/- The reference: kinds' words, one step more. -/
namespace Go.Proofs.YtgbbojnigicnoaaDoor
open Go.RowKit Go.Lib
attribute [local go_sem ↓] Go.wp_at_zero Go.wp_at_succ

set_option maxRecDepth 100000 in
theorem rkind25 (n : Int) (h0 : 0 ≤ n) (h5 : n ≤ 5) (w : World) : Calls Tryd.prog 20 #[.int .i64 n] w fun e w' => e = .returned (.string (kindW n)) ∧ Below w.heap.size w w' := by
  have h6 : n = 0 ∨ n = 1 ∨ n = 2 ∨ n = 3 ∨ n = 4 ∨ n = 5 := by omega
  clear h0 h5
  rcases h6 with rfl | rfl | rfl | rfl | rfl | rfl
  all_goals
    go_enter Tryd.func20, Tryd.ntmps20
    go_wp2_with fail
    go_ret
    exact ⟨rfl, Below.new _ _⟩
theorem run_append_nil (w : World) (B : Nat) (t ty e : TypeId) (i : TypeInfo) (size : Nat) (ht : Tryd.prog.underlying t = some (.slice e)) (hi : Tryd.prog.info? e = some i)
    (v : Value) (n : Nat) (xs : List Value) (hown : w.ownsRow B e size v n xs) (c : Nat) : (Builtin.append_ #[t, t] ty #[v, .slice none 0 c]).run Tryd.prog w = .ok v w := by
  rcases hown.2 with ⟨rfl, rfl⟩ | ⟨g, cap, cur, rfl, _, _, hnc, _⟩
  · simp [Builtin.append_, run_underlying ht, sizeOf, typeInfo, hi, Builtin.lenOf, Builtin.firstCells]
  · simp [Builtin.append_, run_underlying ht, sizeOf, typeInfo, hi, Builtin.lenOf, Builtin.firstCells, hnc, storeCells]
/-- Steps behind a row of one's own. -/
theorem own_spreadS {w : World} {B : Nat} {S S2 : Nat → Prop} {A : Option Addr} {c : Nat} {l0 : List ByteArray} {a : Option Addr} {c2 : Nat} {l : List ByteArray} (h : OwnE eltS w B S A c l0) (hl : RepS w S2 a l) (hn : l0.length + l.length ≤ 2000000) (hB : B ≤ w.heap.size) :
    ∃ A' c' w', (Builtin.append_ #[43, 43] 43 #[.slice A l0.length c, .slice a l.length c2]).run Tryd.prog w = .ok (.slice A' (l0 ++ l).length c') w' ∧ OwnE eltS w' B S A' c' (l0 ++ l) ∧ Below B w w' := by
  cases l with
  | nil =>
    cases a with
    | none =>
      rw [List.append_nil]
      obtain ⟨xs, h1, h2, h3⟩ := h
      obtain ⟨i0, hi0, hz0, hz1, hz2⟩ := info_parts eltS.hinfo
      exact ⟨_, _, _, run_append_nil _ _ _ _ _ i0 _ eltS.hund hi0 _ _ _ h1 c2, ⟨xs, h1, h2, h3⟩, Below.refl _ _⟩
    | some ad =>
      obtain ⟨A', c', w', hr, ho, hgr⟩ := own_append (E := eltS) (l2 := []) (es := []) (ad := ad) (cc := c2) (ty := 43) (t := 43) rfl h (by show (l0.length + 0) * 16 ≤ _; omega) (by simp at *; unfold maxLen; omega) hB (by simp) (by simp) (by intro i hi; simp at hi)
      exact ⟨A', c', w', hr, ho, below_grownS hgr (fun g e => (h.own g e).1) hB⟩
  | cons s r =>
    obtain ⟨b, o, rfl, -⟩ := hl 0 (by simp)
    obtain ⟨A', c', w', hr, ho, hgr⟩ := own_append (E := eltS) (l2 := s :: r) (es := (s :: r).map Value.string) (ad := ⟨b, o, none⟩) (cc := c2) (ty := 43) (t := 43) rfl h (by show (l0.length + (s :: r).length) * 16 ≤ _; omega) (by show l0.length + (s :: r).length ≤ _; unfold maxLen; omega) hB (by simp [eltS]) (fun j u hu => by
        have hj : j < (s :: r).length := by have := (List.getElem?_eq_some_iff.1 hu).1; simpa using this
        obtain ⟨b', o', e, _, _, hc, _⟩ := hl j hj
        obtain ⟨rfl, rfl⟩ : b = b' ∧ o = o' := by simpa using e
        rw [show (⟨b, o, none⟩ : Addr).add j = ⟨b, o + j, none⟩ from by unfold Addr.add; split <;> simp_all, hc]
        rw [List.getElem?_map, List.getElem?_eq_getElem hj] at hu
        exact hu) (fun i hi => ⟨by
          rw [show eltS.sz = 1 from rfl, Nat.mul_one, ← List.map_drop, List.drop_eq_getElem_cons hi]; rfl, by obtain ⟨_, _, _, _, _, _, hz⟩ := hl i hi; exact hz⟩)
    exact ⟨A', c', w', hr, ho, below_grownS hgr (fun g e => (h.own g e).1) hB⟩
set_option maxRecDepth 100000 in
/-- One step more. -/
theorem rmore (l : List ByteArray) (s : ByteArray) (a : Option Addr) (c : Nat) (w : World) (S : Nat → Prop) (h : RepS w S a l) (hn : l.length ≤ 1000000) (hs : s.size ≤ 140737488351232) :
    Calls Tryd.prog 23 #[.slice a l.length c, .string s] w fun e w' => ∃ A' c', e = .returned (.slice A' (l ++ [s]).length c') ∧ OwnE eltS w' w.heap.size (fun _ => True) A' c' (l ++ [s]) ∧ Below w.heap.size w w' := by
  obtain ⟨A1, c1, w1, hr1, ho1, hb1⟩ := own_spreadS (l0 := []) (A := none) (c := 0) (B := w.heap.size) (S := fun _ => True) (c2 := c) OwnE.nil h (by simp; omega) (Nat.le_refl _)
  rw [List.nil_append] at hr1 ho1
  obtain ⟨A2, c2, w2, hr2, ho2, hb2⟩ := own_snocS ho1 hb1.size hs hn
  obtain ⟨l2, hl2⟩ : ∃ z, z = l ++ [s] := ⟨_, rfl⟩
  rw [← hl2] at hr2 ho2
  rw [← hl2]
  have R1 := Lib.hid hr1; have R2 := Lib.hid hr2; have HO := Lib.hid ho2; have HB := Lib.hid (hb1.trans hb2)
  clear hr1 ho1 hb1 hr2 ho2 hb2 hl2
  go_enter Tryd.func23, Tryd.ntmps23
  go_wp2_with (at_builtin; first | (refine wpList_append_run rfl (.tmp 6) (.tmp 7) 43 rfl R1.out rfl rfl ?_) | (refine wpList_append_run rfl (.tmp 9) (.tmp 11) 43 rfl R2.out rfl rfl ?_))
  go_ret
  exact ⟨A2, c2, rfl, HO.out, HB.out⟩
end Go.Proofs.YtgbbojnigicnoaaDoor

