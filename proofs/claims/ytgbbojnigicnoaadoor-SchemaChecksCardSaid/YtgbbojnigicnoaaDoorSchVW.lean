/- Several texts as one. -/
import Derived.Test.YtgbbojnigicnoaaDoorSchU
import Derived.Test.YtgbbojnigicnoaaDoorMake
import Derived.Test.YtgbbojnigicnoaaDoorTList
/- The document's example of layer 25; the same flaws. -/
namespace Go.Proofs.YtgbbojnigicnoaaDoor
open Go.RowKit Go.Lib
attribute [local go_sem ↓] Go.wp_at_zero Go.wp_at_succ

def aw25a : T := .mk 3 false 0 ⟨#[97]⟩ [] []
def aw25m : T := .mk 3 false 0 ⟨#[109, 97, 112]⟩ [] []
def aw25 : T := mkMap [(reqW, mkList [aw25a]), (typeW, aw25m)]
theorem aw25_lt : klt reqW typeW = true := by simp [klt, reqW, typeW, ByteArray.toList_eq, Op.bytesLess]
theorem aw25_gt : klt typeW reqW = false := by simp [klt, reqW, typeW, ByteArray.toList_eq, Op.bytesLess]
theorem aw25_map : mkMap (mapT [(typeW, aw25m), (reqW, mkList [aw25a])]) = aw25 := by
  have h : mapT [(typeW, aw25m), (reqW, mkList [aw25a])] = [(reqW, mkList [aw25a]), (typeW, aw25m)] := by
    simp only [mapT, List.foldl_cons, List.foldl_nil, ins]
    rw [if_neg (by rw [aw25_gt]; decide), if_neg (by decide)]
  rw [h]; rfl
theorem aw25_KS : KS aw25.map := KS.cons (by intro q hq; obtain rfl : q = (typeW, aw25m) := (by simpa using hq); exact aw25_lt) (KS.cons (by simp) KS.nil)
theorem fine_leaf25 (s : ByteArray) (h1 : textB s = true) (h2 : s.size ≤ 100) : FineT (.mk 3 false 0 s [] []) := by
  refine ⟨parts_iff.2 ⟨by simp [T.bareB, T.kind, T.bool, T.int, T.str, T.list, T.map], h1, by simp [T.list], by simp [T.map], KS.nil⟩, ?_⟩
  rw [T.wt_eq]; simp [T.str, T.list, T.map, T.wtL, T.wtM]; omega
theorem aw25_fine : FineT aw25 := by
  have ha := fine_leaf25 ⟨#[97]⟩ (by decide +kernel) (by decide)
  have hm := fine_leaf25 ⟨#[109, 97, 112]⟩ (by decide +kernel) (by decide)
  have hl : FineT (mkList [aw25a]) := by
    refine ⟨parts_iff.2 ⟨by simp [T.bareB, mkList, T.kind, T.bool, T.int, T.str, T.list, T.map], by decide +kernel, fun x hx => ?_, by simp [mkList, T.map], KS.nil⟩, by decide +kernel⟩
    obtain rfl : x = aw25a := by simpa [mkList, T.list] using hx
    exact ha.1
  refine ⟨parts_iff.2 ⟨by simp [T.bareB, aw25, mkMap, T.kind, T.bool, T.int, T.str, T.list, T.map], by decide +kernel, by simp [aw25, mkMap, T.list], fun p hp => ?_, aw25_KS⟩, by decide +kernel⟩
  have h2 : p = (reqW, mkList [aw25a]) ∨ p = (typeW, aw25m) := by simpa [aw25, mkMap, T.map] using hp
  rcases h2 with rfl | rfl
  · exact ⟨by decide +kernel, hl.1⟩
  · exact ⟨by decide +kernel, hm.1⟩
theorem m0_fine : FineT (mkMap []) := ⟨parts_iff.2 ⟨by simp [T.bareB, mkMap, T.kind, T.bool, T.int, T.str, T.list, T.map], by decide +kernel, by simp [mkMap, T.list], by simp [mkMap, T.map], KS.nil⟩, by decide +kernel⟩
theorem aw25_sch : aw25.sch = true := by decide +kernel
theorem aw25_chk : aw25.sch = true → (mkMap []).chk aw25 [] = [(2, [⟨#[97]⟩])] := fun _ => by decide +kernel
theorem aw25_flaws : flaws aw25 (mkMap []) = [(2, [⟨#[97]⟩])] := by unfold flaws; rw [if_pos aw25_sch, aw25_chk aw25_sch]
/-- What one flaw with one step reads as. -/
theorem flaw_cells {w : World} {B : Nat} {A : Option Addr} {c : Nat} {F : List FlawT} {k : Int} {s : ByteArray} (h : OwnE eltFP w B (fun b => B ≤ b) A c F) (hF : F = [(k, [s])]) :
    ∃ b o b2 o2 c2, A = some ⟨b, o, none⟩ ∧ w.cell? ⟨b, o, none⟩ = some (.int .i64 k) ∧ w.cell? ⟨b, o + 1, none⟩ = some (.slice (some ⟨b2, o2, none⟩) 1 c2) ∧ w.cell? ⟨b2, o2, none⟩ = some (.string s) ∧ b < w.heap.size ∧ b2 < w.heap.size := by
  subst hF
  obtain ⟨b, o, cs, e, -, hc, a, c3, rfl, hr⟩ := h.rep 0 (by simp)
  obtain ⟨b2, o2, rfl, -, hlt, hs, -⟩ := hr 0 (by simp)
  refine ⟨b, o, b2, o2, c3, e, ?_, ?_, ?_, hc.lt, hlt⟩
  · have := hc 0 _ rfl; simpa using this
  · have := hc 1 _ rfl; simpa using this
  · simpa using hs

theorem aw25_check (sla : Option Addr) (slc : Nat) (sma : Option Addr) (smc : Nat) (la : Option Addr) (lc : Nat) (ma : Option Addr) (mc : Nat) (w : World) (hs : RepT w (fun _ => True) (.agg #[.int .i64 aw25.kind, .bool aw25.bool, .int .i64 aw25.int, .string aw25.str, .slice sla aw25.list.length slc, .slice sma aw25.map.length smc]) aw25) (ht : RepT w (fun _ => True) (.agg #[.int .i64 (mkMap []).kind, .bool (mkMap []).bool, .int .i64 (mkMap []).int, .string (mkMap []).str, .slice la (mkMap []).list.length lc, .slice ma (mkMap []).map.length mc]) (mkMap [])) (hv : Tabs w) :
    Calls Tryd.prog 6 #[.agg #[.int .i64 aw25.kind, .bool aw25.bool, .int .i64 aw25.int, .string aw25.str, .slice sla aw25.list.length slc, .slice sma aw25.map.length smc], .agg #[.int .i64 (mkMap []).kind, .bool (mkMap []).bool, .int .i64 (mkMap []).int, .string (mkMap []).str, .slice la (mkMap []).list.length lc, .slice ma (mkMap []).map.length mc]] w fun e w' => ∃ b o c b2 o2 c2, e = .returned (.tuple #[.slice (some ⟨b, o, none⟩) 1 c, .int .i64 0]) ∧ w'.cell? ⟨b, o, none⟩ = some (.int .i64 2) ∧ w'.cell? ⟨b, o + 1, none⟩ = some (.slice (some ⟨b2, o2, none⟩) 1 c2) ∧ w'.cell? ⟨b2, o2, none⟩ = some (.string ⟨#[97]⟩) ∧ b < w'.heap.size ∧ b2 < w'.heap.size ∧ Below w.heap.size w w' := by
  refine (tCheckS aw25 (mkMap []) sla slc sma smc la lc ma mc w _ hs ht hv aw25_fine m0_fine).mono ?_
  rintro e w' ⟨A, c, B, rfl, ho, -, hb⟩
  obtain ⟨b, o, b2, o2, c2, rfl, h1, h2, h3, h4, h5⟩ := flaw_cells ho aw25_flaws
  refine ⟨b, o, c, b2, o2, c2, ?_, h1, h2, h3, h4, h5, hb⟩
  rw [aw25_flaws, aw25_sch]; rfl

set_option maxRecDepth 100000 in
set_option maxHeartbeats 8000000 in
theorem awake25 (w : World) (hv : Tabs w) : Calls Tryd.prog 5 #[] w fun e w' => e = .returned (.bool true) ∧ Below w.heap.size w w' := by
  have HV := Lib.hid hv
  clear hv
  go_enter Tryd.func5, Tryd.ntmps5
  refine wp_seq_cut (fun K0 hK0 => ?_)
  go_wp2_with fail
  refine hK0.out _ _ ?_
  clear hK0 K0
  refine wp_seq_cut (fun K0 hK0 => ?_)
  go_wp2_with fail
  refine (tstr ⟨#[109, 97, 112]⟩ (by decide) _).mono ?_
  rintro e w1 ⟨v1, rfl, hr1, hb1⟩
  obtain ⟨qa1, qc1, qm1, qn1, rfl, -⟩ := hr1.inv
  have N1 := Lib.hid (show RepT w1 (fun _ => True) (.agg #[.int .i64 aw25m.kind, .bool aw25m.bool, .int .i64 aw25m.int, .string aw25m.str, .slice qa1 aw25m.list.length qc1, .slice qm1 aw25m.map.length qn1]) aw25m from hr1.any); have HW1 := Lib.hid hb1
  clear hr1 hb1
  go_wp2_with fail
  refine (tstr ⟨#[97]⟩ (by decide) _).mono ?_
  rintro e w2 ⟨v2, rfl, hr2, hb2⟩
  obtain ⟨qa2, qc2, qm2, qn2, rfl, -⟩ := hr2.inv
  have N2 := Lib.hid (show RepT w2 (fun _ => True) (.agg #[.int .i64 aw25a.kind, .bool aw25a.bool, .int .i64 aw25a.int, .string aw25a.str, .slice qa2 aw25a.list.length qc2, .slice qm2 aw25a.map.length qn2]) aw25a from hr2.any); have HW2 := Lib.hid (Below.next HW1.out hb2); have N1b := Lib.hid (N1.out.keep hb2)
  clear hr2 hb2
  go_wp2_with fail
  refine (tlist [aw25a] (some ⟨w2.heap.size, 0, none⟩) 1 _ (fun _ => True) (repE_L.1 (rep_block (E := eltV) (S := fun _ => True) (l := [aw25a]) [[.int .i64 aw25a.kind, .bool aw25a.bool, .int .i64 aw25a.int, .string aw25a.str, .slice qa2 aw25a.list.length qc2, .slice qm2 aw25a.map.length qn2]] (Blk.new_at w2 25 #[.int .i64 aw25a.kind, .bool aw25a.bool, .int .i64 aw25a.int, .string aw25a.str, .slice qa2 aw25a.list.length qc2, .slice qm2 aw25a.map.length qn2] rfl) rfl trivial ⟨N2.out.keep (Below.new _ _), trivial⟩)) (by simp)).mono ?_
  rintro e w3 ⟨v3, rfl, hr3, hb3⟩
  obtain ⟨qa3, qc3, qm3, qn3, rfl, -⟩ := hr3.inv
  have HB3 := Lib.hid (show Below w2.heap.size w2 w3 from Below.next (Below.new _ _) hb3)
  have N3 := Lib.hid (show RepT w3 (fun _ => True) (.agg #[.int .i64 (mkList [aw25a]).kind, .bool (mkList [aw25a]).bool, .int .i64 (mkList [aw25a]).int, .string (mkList [aw25a]).str, .slice qa3 (mkList [aw25a]).list.length qc3, .slice qm3 (mkList [aw25a]).map.length qn3]) (mkList [aw25a]) from hr3.any); have HW3 := Lib.hid (Below.next HW2.out HB3.out); have N1c := Lib.hid (N1b.out.keep HB3.out)
  clear hr3 hb3
  go_wp2_with fail
  refine (tmap [(typeW, aw25m), (reqW, mkList [aw25a])] (some ⟨w3.heap.size, 0, none⟩) 2 _ (fun _ => True) (repE_M.1 (rep_block (E := eltP) (S := fun _ => True) (l := [(typeW, aw25m), (reqW, mkList [aw25a])]) [[.string typeW, .int .i64 aw25m.kind, .bool aw25m.bool, .int .i64 aw25m.int, .string aw25m.str, .slice qa1 aw25m.list.length qc1, .slice qm1 aw25m.map.length qn1], [.string reqW, .int .i64 (mkList [aw25a]).kind, .bool (mkList [aw25a]).bool, .int .i64 (mkList [aw25a]).int, .string (mkList [aw25a]).str, .slice qa3 (mkList [aw25a]).list.length qc3, .slice qm3 (mkList [aw25a]).map.length qn3]] (Blk.new_at w3 41 #[.string typeW, .int .i64 aw25m.kind, .bool aw25m.bool, .int .i64 aw25m.int, .string aw25m.str, .slice qa1 aw25m.list.length qc1, .slice qm1 aw25m.map.length qn1, .string reqW, .int .i64 (mkList [aw25a]).kind, .bool (mkList [aw25a]).bool, .int .i64 (mkList [aw25a]).int, .string (mkList [aw25a]).str, .slice qa3 (mkList [aw25a]).list.length qc3, .slice qm3 (mkList [aw25a]).map.length qn3] rfl) rfl trivial ⟨⟨_, rfl, by decide, N1c.out.keep (Below.new _ _)⟩, ⟨_, rfl, by decide, N3.out.keep (Below.new _ _)⟩, trivial⟩)) (by simp)).mono ?_
  rw [aw25_map]
  rintro e w4 ⟨v4, rfl, hr4, hb4⟩
  obtain ⟨sla, slc, sma, smc, rfl, -⟩ := hr4.inv
  have HW4 := Lib.hid (Below.next HW3.out (Below.next (Below.new _ _) hb4))
  have NS := Lib.hid (show RepT w4 (fun _ => True) (.agg #[.int .i64 aw25.kind, .bool aw25.bool, .int .i64 aw25.int, .string aw25.str, .slice sla aw25.list.length slc, .slice sma aw25.map.length smc]) aw25 from hr4.any)
  clear hr4 hb4 N1 N2 N3 N1b N1c HW1 HW2 HW3 HB3
  go_wp2_with fail
  refine hK0.out _ _ ?_
  clear hK0 K0
  have hblk : Blk (w4.alloc (.cells #[.int .i64 aw25.kind, .bool aw25.bool, .int .i64 aw25.int, .string aw25.str, .slice sla aw25.list.length slc, .slice sma aw25.map.length smc] 25)) w4.heap.size 25 #[.int .i64 aw25.kind, .bool aw25.bool, .int .i64 aw25.int, .string aw25.str, .slice sla aw25.list.length slc, .slice sma aw25.map.length smc] := Blk.new _ _ _
  have NSB := Lib.hid (NS.out.keep (Below.new w4 (.cells #[.int .i64 aw25.kind, .bool aw25.bool, .int .i64 aw25.int, .string aw25.str, .slice sla aw25.list.length slc, .slice sma aw25.map.length smc] 25)))
  have HWB := Lib.hid (Below.next HW4.out (Below.new w4 (.cells #[.int .i64 aw25.kind, .bool aw25.bool, .int .i64 aw25.int, .string aw25.str, .slice sla aw25.list.length slc, .slice sma aw25.map.length smc] 25)))
  obtain ⟨WA, eA⟩ : ∃ z, z = w4.alloc (.cells #[.int .i64 aw25.kind, .bool aw25.bool, .int .i64 aw25.int, .string aw25.str, .slice sla aw25.list.length slc, .slice sma aw25.map.length smc] 25) := ⟨_, rfl⟩
  obtain ⟨n1, en⟩ : ∃ z, z = w4.heap.size := ⟨_, rfl⟩
  rw [← eA] at hblk NSB HWB
  rw [← en] at hblk
  rw [← eA, ← en]
  have HVA := Lib.hid (HV.out.keep HWB.out)
  have LB := Lib.hid hblk
  clear eA en hblk NS HW4 HV
  go_upto_region 2 with fail
  refine wp_region_held_drew (S := (fun w' => ∀ i, w'.cell? ⟨n1, i, none⟩ = (#[.int .i64 aw25.kind, .bool aw25.bool, .int .i64 aw25.int, .string aw25.str, .slice sla aw25.list.length slc, .slice sma aw25.map.length smc] : Array Value)[i]?)) (by kernel_rfl) (by exact (LB.out.keep (Below.refl WA.heap.size WA).drew).cell) (fun hHeld => ?_)
  refine wpAnyH_take (i := 0) (v := ?vm1_0) (by conv => lhs; simp only [List.getElem?_toArray, List.getElem?_cons_succ, List.getElem?_cons_zero]) (by kernel_rfl) (by kernel_rfl) (by kernel_rfl) (by exact fun _ _ _ h => h) (Or.inl ⟨by rfl, ?hym1_0⟩) (by assumption) ?_
  case hym1_0 => (intro w0 hSw; (try dsimp only at hSw); go_simp; (try with_reducible rfl); (try assumption))
  try simp only [Act.put, List.setIfInBounds_toArray, List.set_cons_zero, List.set_cons_succ]
  refine wpAnyH_ready (rs := [1]) (by kernel_rfl) (by simp) ?_
  refine AllReadyH.cons (by conv => lhs; simp only [List.getElem?_toArray, List.getElem?_cons_succ, List.getElem?_cons_zero]) (fun K hK => ?_) AllReadyH.nil
  go_simp
  refine (tmap [] none 0 _ (fun _ => True) (fun i hi => by simp at hi) (by simp)).mono ?_
  rw [show mapT [] = [] from rfl]
  rintro e w5 ⟨v5, rfl, hr5, hb5⟩
  obtain ⟨qa5, qc5, qm5, qn5, rfl, -⟩ := hr5.inv
  have N5 := Lib.hid (show RepT w5 (fun _ => True) (.agg #[.int .i64 (mkMap []).kind, .bool (mkMap []).bool, .int .i64 (mkMap []).int, .string (mkMap []).str, .slice qa5 (mkMap []).list.length qc5, .slice qm5 (mkMap []).map.length qn5]) (mkMap []) from hr5.any); have HB5 := Lib.hid (Below.next (Below.refl WA.heap.size WA).drew hb5)
  clear hr5 hb5
  go_wp2_with fail
  refine hK.out _ _ (by exact (LB.out.keep HB5.out).cell) (fun hHeld => ?_)
  clear hK K
  try simp only [Act.put, List.setIfInBounds_toArray, List.set_cons_zero, List.set_cons_succ]
  refine wpAnyH_ready (rs := [2]) (by kernel_rfl) (by simp) ?_
  refine AllReadyH.cons (by conv => lhs; simp only [List.getElem?_toArray, List.getElem?_cons_succ, List.getElem?_cons_zero]) (fun K hK => ?_) AllReadyH.nil
  go_simp
  refine (aw25_check sla slc sma smc qa5 qc5 qm5 qn5 w5 (NSB.out.keep HB5.out) N5.out (HVA.out.keep HB5.out)).mono ?_
  rintro e w6 ⟨b, o, c, b2, o2, c2, rfl, k1, k2, k3, k4, k5, hb6⟩
  have HB6 := Lib.hid (HB5.out.trans (hb6.mono HB5.out.size))
  have K1 := Lib.hid k1; have K2 := Lib.hid k2; have K3 := Lib.hid k3
  clear hb6 k1 k2 k3
  go_wp2_with fail
  refine hK.out _ _ (by exact (LB.out.keep HB6.out).cell) (fun hHeld => ?_)
  clear hK K
  try simp only [Act.put, List.setIfInBounds_toArray, List.set_cons_zero, List.set_cons_succ]
  refine wpAnyH_take (i := 3) (v := ?vm3_3) (by conv => lhs; simp only [List.getElem?_toArray, List.getElem?_cons_succ, List.getElem?_cons_zero]) (by kernel_rfl) (by kernel_rfl) (by kernel_rfl) (by exact fun _ _ _ h => h) (Or.inl ⟨by rfl, ?hym3_3⟩) (by assumption) ?_
  case hym3_3 => (intro w0 hSw; (try dsimp only at hSw); go_simp; (try with_reducible rfl); (try assumption))
  try simp only [Act.put, List.setIfInBounds_toArray, List.set_cons_zero, List.set_cons_succ]
  refine wpAnyH_take (i := 4) (v := ?vm3_4) (by conv => lhs; simp only [List.getElem?_toArray, List.getElem?_cons_succ, List.getElem?_cons_zero]) (by kernel_rfl) (by kernel_rfl) (by kernel_rfl) (by exact fun _ _ _ h => h) (Or.inl ⟨by rfl, ?hym3_4⟩) (by assumption) ?_
  case hym3_4 => (intro w0 hSw; (try dsimp only at hSw); go_simp; (try with_reducible rfl); (try assumption))
  try simp only [Act.put, List.setIfInBounds_toArray, List.set_cons_zero, List.set_cons_succ]
  refine wpAnyH_take (i := 5) (v := ?vm3_5) (by conv => lhs; simp only [List.getElem?_toArray, List.getElem?_cons_succ, List.getElem?_cons_zero]) (by kernel_rfl) (by kernel_rfl) (by kernel_rfl) (by exact fun _ _ _ h => h) (Or.inl ⟨by rfl, ?hym3_5⟩) (by assumption) ?_
  case hym3_5 => (intro w0 hSw; (try dsimp only at hSw); go_simp; (try with_reducible rfl); (try assumption))
  try simp only [Act.put, List.setIfInBounds_toArray, List.set_cons_zero, List.set_cons_succ]
  refine wpAnyH_take (i := 6) (v := ?vm3_6) (by conv => lhs; simp only [List.getElem?_toArray, List.getElem?_cons_succ, List.getElem?_cons_zero]) (by kernel_rfl) (by kernel_rfl) (by kernel_rfl) (by exact fun _ _ _ h => h) (Or.inl ⟨by rfl, ?hym3_6⟩) (by assumption) ?_
  case hym3_6 => (intro w0 hSw; (try dsimp only at hSw); go_simp; (try with_reducible rfl); (try assumption))
  try simp only [Act.put, List.setIfInBounds_toArray, List.set_cons_zero, List.set_cons_succ]
  refine wpAnyH_take (i := 7) (v := ?vm3_7) (by conv => lhs; simp only [List.getElem?_toArray, List.getElem?_cons_succ, List.getElem?_cons_zero]) (by kernel_rfl) (by kernel_rfl) (by kernel_rfl) (by exact fun _ _ _ h => h) (Or.inl ⟨by rfl, ?hym3_7⟩) (by assumption) ?_
  case hym3_7 => (intro w0 hSw; (try dsimp only at hSw); go_simp; (try with_reducible rfl); (try assumption))
  try simp only [Act.put, List.setIfInBounds_toArray, List.set_cons_zero, List.set_cons_succ]
  refine wpAnyH_done (by kernel_rfl) ?_ _
  have k1 := K1.out; have k2 := K2.out; have k3 := K3.out
  go_wp2_with fail
  go_ret
  exact ⟨rfl, Below.next HWB.out HB6.out⟩

/-- The cells of a flaw in a row. -/
theorem flaw_at {E : Elt FlawT} {w : World} {S : Nat → Prop} {a : Option Addr} {l : List FlawT} (hE : E.R = FlawR) (hz : E.sz = 2) (h : RepE E w S a l) {i : Nat} (hi : i < l.length) : ∃ b o a2 c2, a = some ⟨b, o, none⟩ ∧ b < w.heap.size ∧ w.cell? ⟨b, o + i * 2, none⟩ = some (.int .i64 l[i].1) ∧ w.cell? ⟨b, o + i * 2 + 1, none⟩ = some (.slice a2 l[i].2.length c2) ∧ RepS w S a2 l[i].2 := by
  obtain ⟨b, o, cs, e, -, hc, hr⟩ := h i hi
  rw [hE] at hr
  obtain ⟨a2, c2, rfl, hs⟩ := hr
  rw [hz] at hc
  exact ⟨b, o, a2, c2, e, hc.lt, by simpa using hc 0 _ rfl, hc 1 _ rfl, hs⟩
set_option maxRecDepth 100000 in
set_option maxHeartbeats 8000000 in
theorem same25 (l : List FlawT) (a a' : Option Addr) (c c' : Nat) (w : World) (S S' : Nat → Prop) (h1 : RepE eltFP w S a l) (h2 : RepE eltFR w S' a' l) (hl : l.length ≤ 1000000000) (hs : ∀ f ∈ l, f.2.length ≤ 1000000000) :
    Calls Tryd.prog 9 #[.slice a l.length c, .slice a' l.length c'] w fun e w' => e = .returned (.bool true) ∧ Below w.heap.size w w' := by
  have H1 := Lib.hid h1; have H2 := Lib.hid h2; have HS := Lib.hid hs
  clear h1 h2 hs
  go_enter Tryd.func9, Tryd.ntmps9
  go_wp2_with fail
  go_loopw [14] (fun x14 wr => ∃ q : Nat, q ≤ l.length ∧ x14 = .int .i64 q ∧ Hid (Below w.heap.size w wr)) (fun x14 _ => l.length - (Lib.intOf x14).toNat)
  case atStart => exact ⟨0, Nat.zero_le _, rfl, Lib.hid (Below.refl _ _)⟩
  case round =>
    obtain ⟨q, hq, rfl, HB⟩ := hrel
    by_cases hlt : q < l.length
    · obtain ⟨b1, o1, a1, c1, rfl, hb1, d1, d2, hs1⟩ := flaw_at rfl rfl (H1.out.keep HB.out) hlt
      obtain ⟨b2, o2, a2, c2, rfl, hb2, e1, e2, hs2⟩ := flaw_at rfl rfl (H2.out.keep HB.out) hlt
      have hn := HS.out _ (List.getElem_mem hlt)
      generalize l[q] = x at d1 d2 e1 e2 hs1 hs2 hn
      obtain ⟨k, st⟩ := x
      simp only at d1 d2 e1 e2 hs1 hs2 hn
      have R1 := Lib.hid hs1; have R2 := Lib.hid hs2
      clear hs1 hs2
      go_upto_region 6 with fail
      refine wp_region_held_drew (S := (fun w' => w'.cell? ⟨b1, o1 + q * 2, none⟩ = some (.int .i64 k) ∧ w'.cell? ⟨b1, o1 + q * 2 + 1, none⟩ = some (.slice a1 st.length c1) ∧ w'.cell? ⟨b2, o2 + q * 2, none⟩ = some (.int .i64 k) ∧ w'.cell? ⟨b2, o2 + q * 2 + 1, none⟩ = some (.slice a2 st.length c2))) (by kernel_rfl) (by exact ⟨((Below.refl wr.heap.size wr).drew.cell hb1).trans d1, ((Below.refl wr.heap.size wr).drew.cell hb1).trans d2, ((Below.refl wr.heap.size wr).drew.cell hb2).trans e1, ((Below.refl wr.heap.size wr).drew.cell hb2).trans e2⟩) (fun hHeld => ?_)
      refine wpAnyH_take (i := 0) (v := ?vm5_0) (by conv => lhs; simp only [List.getElem?_toArray, List.getElem?_cons_succ, List.getElem?_cons_zero]) (by kernel_rfl) (by kernel_rfl) (by kernel_rfl) (by exact fun _ _ _ h => h) (Or.inl ⟨by rfl, ?hym5_0⟩) (by assumption) ?_
      case hym5_0 => (intro w0 hSw; (try dsimp only at hSw); go_simp; (try with_reducible rfl); (try assumption))
      try simp only [Act.put, List.setIfInBounds_toArray, List.set_cons_zero, List.set_cons_succ]
      refine wpAnyH_take (i := 1) (v := ?vm5_1) (by conv => lhs; simp only [List.getElem?_toArray, List.getElem?_cons_succ, List.getElem?_cons_zero]) (by kernel_rfl) (by kernel_rfl) (by kernel_rfl) (by exact fun _ _ _ h => h) (Or.inl ⟨by rfl, ?hym5_1⟩) (by assumption) ?_
      case hym5_1 => (intro w0 hSw; (try dsimp only at hSw); go_simp; (try with_reducible rfl); (try assumption))
      try simp only [Act.put, List.setIfInBounds_toArray, List.set_cons_zero, List.set_cons_succ]
      refine wpAnyH_take (i := 2) (v := ?vm5_2) (by conv => lhs; simp only [List.getElem?_toArray, List.getElem?_cons_succ, List.getElem?_cons_zero]) (by kernel_rfl) (by kernel_rfl) (by kernel_rfl) (by exact fun _ _ _ h => h) (Or.inl ⟨by rfl, ?hym5_2⟩) (by assumption) ?_
      case hym5_2 => (intro w0 hSw; (try dsimp only at hSw); go_simp; (try with_reducible rfl); (try assumption))
      try simp only [Act.put, List.setIfInBounds_toArray, List.set_cons_zero, List.set_cons_succ]
      refine wpAnyH_take (i := 3) (v := ?vm5_3) (by conv => lhs; simp only [List.getElem?_toArray, List.getElem?_cons_succ, List.getElem?_cons_zero]) (by kernel_rfl) (by kernel_rfl) (by kernel_rfl) (by exact fun _ _ _ h => h) (Or.inl ⟨by rfl, ?hym5_3⟩) (by assumption) ?_
      case hym5_3 => (intro w0 hSw; (try dsimp only at hSw); go_simp; (try with_reducible rfl); (try assumption))
      try simp only [Act.put, List.setIfInBounds_toArray, List.set_cons_zero, List.set_cons_succ]
      refine wpAnyH_take (i := 4) (v := ?vm5_4) (by conv => lhs; simp only [List.getElem?_toArray, List.getElem?_cons_succ, List.getElem?_cons_zero]) (by kernel_rfl) (by kernel_rfl) (by kernel_rfl) (by exact fun _ _ _ h => h) (Or.inl ⟨by rfl, ?hym5_4⟩) (by assumption) ?_
      case hym5_4 => (intro w0 hSw; (try dsimp only at hSw); go_simp; (try with_reducible rfl); (try assumption))
      try simp only [Act.put, List.setIfInBounds_toArray, List.set_cons_zero, List.set_cons_succ]
      refine wpAnyH_take (i := 5) (v := ?vm5_5) (by conv => lhs; simp only [List.getElem?_toArray, List.getElem?_cons_succ, List.getElem?_cons_zero]) (by kernel_rfl) (by kernel_rfl) (by kernel_rfl) (by exact fun _ _ _ h => h) (Or.inl ⟨by rfl, ?hym5_5⟩) (by assumption) ?_
      case hym5_5 => (intro w0 hSw; (try dsimp only at hSw); go_simp; (try with_reducible rfl); (try assumption))
      try simp only [Act.put, List.setIfInBounds_toArray, List.set_cons_zero, List.set_cons_succ]
      refine wpAnyH_take (i := 6) (v := ?vm5_6) (by conv => lhs; simp only [List.getElem?_toArray, List.getElem?_cons_succ, List.getElem?_cons_zero]) (by kernel_rfl) (by kernel_rfl) (by kernel_rfl) (by exact fun _ _ _ h => h) (Or.inl ⟨by rfl, ?hym5_6⟩) (by assumption) ?_
      case hym5_6 => (intro w0 hSw; (try dsimp only at hSw); go_simp; (try with_reducible rfl); (try assumption))
      try simp only [Act.put, List.setIfInBounds_toArray, List.set_cons_zero, List.set_cons_succ]
      refine wpAnyH_take (i := 7) (v := ?vm5_7) (by conv => lhs; simp only [List.getElem?_toArray, List.getElem?_cons_succ, List.getElem?_cons_zero]) (by kernel_rfl) (by kernel_rfl) (by kernel_rfl) (by exact fun _ _ _ h => h) (Or.inl ⟨by rfl, ?hym5_7⟩) (by assumption) ?_
      case hym5_7 => (intro w0 hSw; (try dsimp only at hSw); go_simp; (try with_reducible rfl); (try assumption))
      try simp only [Act.put, List.setIfInBounds_toArray, List.set_cons_zero, List.set_cons_succ]
      refine wpAnyH_take (i := 8) (v := ?vm5_8) (by conv => lhs; simp only [List.getElem?_toArray, List.getElem?_cons_succ, List.getElem?_cons_zero]) (by kernel_rfl) (by kernel_rfl) (by kernel_rfl) (by exact fun _ _ _ h => h) (Or.inl ⟨by rfl, ?hym5_8⟩) (by assumption) ?_
      case hym5_8 => (intro w0 hSw; (try dsimp only at hSw); go_simp; (try with_reducible rfl); (try assumption))
      try simp only [Act.put, List.setIfInBounds_toArray, List.set_cons_zero, List.set_cons_succ]
      refine wpAnyH_take (i := 9) (v := ?vm5_9) (by conv => lhs; simp only [List.getElem?_toArray, List.getElem?_cons_succ, List.getElem?_cons_zero]) (by kernel_rfl) (by kernel_rfl) (by kernel_rfl) (by exact fun _ _ _ h => h) (Or.inl ⟨by rfl, ?hym5_9⟩) (by assumption) ?_
      case hym5_9 => (intro w0 hSw; (try dsimp only at hSw); go_simp; (try with_reducible rfl); (try assumption))
      try simp only [Act.put, List.setIfInBounds_toArray, List.set_cons_zero, List.set_cons_succ]
      refine wpAnyH_take (i := 10) (v := .bool false) (by conv => lhs; simp only [List.getElem?_toArray, List.getElem?_cons_succ, List.getElem?_cons_zero]) (by kernel_rfl) (by kernel_rfl) (by kernel_rfl) (by exact fun _ _ _ h => h) (Or.inl ⟨by rfl, ?hym5_10⟩) (by assumption) ?_
      case hym5_10 => (intro w0 hSw; (try dsimp only at hSw); go_simp; (try with_reducible rfl); (try assumption))
      try simp only [Act.put, List.setIfInBounds_toArray, List.set_cons_zero, List.set_cons_succ]
      refine wpAnyH_take (i := 11) (v := .bool false) (by conv => lhs; simp only [List.getElem?_toArray, List.getElem?_cons_succ, List.getElem?_cons_zero]) (by kernel_rfl) (by kernel_rfl) (by kernel_rfl) (by exact fun _ _ _ h => h) (Or.inl ⟨by rfl, ?hym5_11⟩) (by assumption) ?_
      case hym5_11 => (intro w0 hSw; (try dsimp only at hSw); go_simp; (try with_reducible rfl); (try assumption))
      try simp only [Act.put, List.setIfInBounds_toArray, List.set_cons_zero, List.set_cons_succ]
      refine wpAnyH_take (i := 12) (v := ?vm5_12) (by conv => lhs; simp only [List.getElem?_toArray, List.getElem?_cons_succ, List.getElem?_cons_zero]) (by kernel_rfl) (by kernel_rfl) (by kernel_rfl) (by exact fun _ _ _ h => h) (Or.inl ⟨by rfl, ?hym5_12⟩) (by assumption) ?_
      case hym5_12 => (intro w0 hSw; (try dsimp only at hSw); go_simp; (try with_reducible rfl); (try assumption))
      try simp only [Act.put, List.setIfInBounds_toArray, List.set_cons_zero, List.set_cons_succ]
      refine wpAnyH_take (i := 13) (v := ?vm5_13) (by conv => lhs; simp only [List.getElem?_toArray, List.getElem?_cons_succ, List.getElem?_cons_zero]) (by kernel_rfl) (by kernel_rfl) (by kernel_rfl) (by exact fun _ _ _ h => h) (Or.inl ⟨by rfl, ?hym5_13⟩) (by assumption) ?_
      case hym5_13 => (intro w0 hSw; (try dsimp only at hSw); go_simp; (try with_reducible rfl); (try assumption))
      try simp only [Act.put, List.setIfInBounds_toArray, List.set_cons_zero, List.set_cons_succ]
      refine wpAnyH_take (i := 14) (v := ?vm5_14) (by conv => lhs; simp only [List.getElem?_toArray, List.getElem?_cons_succ, List.getElem?_cons_zero]) (by kernel_rfl) (by kernel_rfl) (by kernel_rfl) (by exact fun _ _ _ h => h) (Or.inl ⟨by rfl, ?hym5_14⟩) (by assumption) ?_
      case hym5_14 => (intro w0 hSw; (try dsimp only at hSw); go_simp; (try with_reducible rfl); (try assumption))
      try simp only [Act.put, List.setIfInBounds_toArray, List.set_cons_zero, List.set_cons_succ]
      refine wpAnyH_take (i := 15) (v := ?vm5_15) (by conv => lhs; simp only [List.getElem?_toArray, List.getElem?_cons_succ, List.getElem?_cons_zero]) (by kernel_rfl) (by kernel_rfl) (by kernel_rfl) (by exact fun _ _ _ h => h) (Or.inl ⟨by rfl, ?hym5_15⟩) (by assumption) ?_
      case hym5_15 => (intro w0 hSw; (try dsimp only at hSw); go_simp; (try with_reducible rfl); (try assumption))
      try simp only [Act.put, List.setIfInBounds_toArray, List.set_cons_zero, List.set_cons_succ]
      refine wpAnyH_take (i := 16) (v := ?vm5_16) (by conv => lhs; simp only [List.getElem?_toArray, List.getElem?_cons_succ, List.getElem?_cons_zero]) (by kernel_rfl) (by kernel_rfl) (by kernel_rfl) (by exact fun _ _ _ h => h) (Or.inl ⟨by rfl, ?hym5_16⟩) (by assumption) ?_
      case hym5_16 => (intro w0 hSw; (try dsimp only at hSw); go_simp; (try with_reducible rfl); (try assumption))
      try simp only [Act.put, List.setIfInBounds_toArray, List.set_cons_zero, List.set_cons_succ]
      refine wpAnyH_take (i := 17) (v := ?vm5_17) (by conv => lhs; simp only [List.getElem?_toArray, List.getElem?_cons_succ, List.getElem?_cons_zero]) (by kernel_rfl) (by kernel_rfl) (by kernel_rfl) (by exact fun _ _ _ h => h) (Or.inl ⟨by rfl, ?hym5_17⟩) (by assumption) ?_
      case hym5_17 => (intro w0 hSw; (try dsimp only at hSw); go_simp; (try with_reducible rfl); (try assumption))
      try simp only [Act.put, List.setIfInBounds_toArray, List.set_cons_zero, List.set_cons_succ]
      refine wpAnyH_take (i := 18) (v := ?vm5_18) (by conv => lhs; simp only [List.getElem?_toArray, List.getElem?_cons_succ, List.getElem?_cons_zero]) (by kernel_rfl) (by kernel_rfl) (by kernel_rfl) (by exact fun _ _ _ h => h) (Or.inl ⟨by rfl, ?hym5_18⟩) (by assumption) ?_
      case hym5_18 => (intro w0 hSw; (try dsimp only at hSw); go_simp; (try with_reducible rfl); (try assumption))
      try simp only [Act.put, List.setIfInBounds_toArray, List.set_cons_zero, List.set_cons_succ]
      refine wpAnyH_take (i := 19) (v := ?vm5_19) (by conv => lhs; simp only [List.getElem?_toArray, List.getElem?_cons_succ, List.getElem?_cons_zero]) (by kernel_rfl) (by kernel_rfl) (by kernel_rfl) (by exact fun _ _ _ h => h) (Or.inl ⟨by rfl, ?hym5_19⟩) (by assumption) ?_
      case hym5_19 => (intro w0 hSw; (try dsimp only at hSw); go_simp; (try with_reducible rfl); (try assumption))
      try simp only [Act.put, List.setIfInBounds_toArray, List.set_cons_zero, List.set_cons_succ]
      refine wpAnyH_take (i := 20) (v := ?vm5_20) (by conv => lhs; simp only [List.getElem?_toArray, List.getElem?_cons_succ, List.getElem?_cons_zero]) (by kernel_rfl) (by kernel_rfl) (by kernel_rfl) (by exact fun _ _ _ h => h) (Or.inl ⟨by rfl, ?hym5_20⟩) (by assumption) ?_
      case hym5_20 => (intro w0 hSw; (try dsimp only at hSw); go_simp; (try with_reducible rfl); (try assumption))
      try simp only [Act.put, List.setIfInBounds_toArray, List.set_cons_zero, List.set_cons_succ]
      refine wpAnyH_take (i := 21) (v := ?vm5_21) (by conv => lhs; simp only [List.getElem?_toArray, List.getElem?_cons_succ, List.getElem?_cons_zero]) (by kernel_rfl) (by kernel_rfl) (by kernel_rfl) (by exact fun _ _ _ h => h) (Or.inl ⟨by rfl, ?hym5_21⟩) (by assumption) ?_
      case hym5_21 => (intro w0 hSw; (try dsimp only at hSw); go_simp; (try with_reducible rfl); (try assumption))
      try simp only [Act.put, List.setIfInBounds_toArray, List.set_cons_zero, List.set_cons_succ]
      refine wpAnyH_take (i := 22) (v := ?vm5_22) (by conv => lhs; simp only [List.getElem?_toArray, List.getElem?_cons_succ, List.getElem?_cons_zero]) (by kernel_rfl) (by kernel_rfl) (by kernel_rfl) (by exact fun _ _ _ h => h) (Or.inl ⟨by rfl, ?hym5_22⟩) (by assumption) ?_
      case hym5_22 => (intro w0 hSw; (try dsimp only at hSw); go_simp; (try with_reducible rfl); (try assumption))
      try simp only [Act.put, List.setIfInBounds_toArray, List.set_cons_zero, List.set_cons_succ]
      refine wpAnyH_take (i := 23) (v := ?vm5_23) (by conv => lhs; simp only [List.getElem?_toArray, List.getElem?_cons_succ, List.getElem?_cons_zero]) (by kernel_rfl) (by kernel_rfl) (by kernel_rfl) (by exact fun _ _ _ h => h) (Or.inl ⟨by rfl, ?hym5_23⟩) (by assumption) ?_
      case hym5_23 => (intro w0 hSw; (try dsimp only at hSw); go_simp; (try with_reducible rfl); (try assumption))
      try simp only [Act.put, List.setIfInBounds_toArray, List.set_cons_zero, List.set_cons_succ]
      refine wpAnyH_take (i := 24) (v := .bool false) (by conv => lhs; simp only [List.getElem?_toArray, List.getElem?_cons_succ, List.getElem?_cons_zero]) (by kernel_rfl) (by kernel_rfl) (by kernel_rfl) (by exact fun _ _ _ h => h) (Or.inl ⟨by rfl, ?hym5_24⟩) (by assumption) ?_
      case hym5_24 => (intro w0 hSw; (try dsimp only at hSw); go_simp; (try with_reducible rfl); (try assumption))
      try simp only [Act.put, List.setIfInBounds_toArray, List.set_cons_zero, List.set_cons_succ]
      refine wpAnyH_take (i := 25) (v := .bool false) (by conv => lhs; simp only [List.getElem?_toArray, List.getElem?_cons_succ, List.getElem?_cons_zero]) (by kernel_rfl) (by kernel_rfl) (by kernel_rfl) (by exact fun _ _ _ h => h) (Or.inl ⟨by rfl, ?hym5_25⟩) (by assumption) ?_
      case hym5_25 => (intro w0 hSw; (try dsimp only at hSw); go_simp; (try with_reducible rfl); (try assumption))
      try simp only [Act.put, List.setIfInBounds_toArray, List.set_cons_zero, List.set_cons_succ]
      refine wpAnyH_done (by kernel_rfl) ?_ _
      · have d1 := ((Below.refl wr.heap.size wr).drew.cell hb1).trans d1; have d2 := ((Below.refl wr.heap.size wr).drew.cell hb1).trans d2; have e2 := ((Below.refl wr.heap.size wr).drew.cell hb2).trans e2
        rename World => wr0
        obtain ⟨wd, ed⟩ : ∃ z, z = wr0.drew := ⟨_, rfl⟩
        have HD := Lib.hid (show Below wr0.heap.size wr0 wd from ed ▸ (Below.refl wr0.heap.size wr0).drew)
        have hb1d : b1 < wd.heap.size := Nat.lt_of_lt_of_le hb1 HD.out.size; have hb2d : b2 < wd.heap.size := Nat.lt_of_lt_of_le hb2 HD.out.size
        rw [← ed] at d1 d2 e2 ⊢
        have R3 := Lib.hid (RepS.mono (w' := wd) R1.out (fun _ h _ => h) (fun b o _ hlt => HD.out.cell hlt)); have R4 := Lib.hid (RepS.mono (w' := wd) R2.out (fun _ h _ => h) (fun b o _ hlt => HD.out.cell hlt))
        clear hHeld ed d1 e1 R1 R2
        go_wp2_with fail
        go_loopw [49] (fun x49 wx => ∃ j : Nat, j ≤ st.length ∧ x49 = .int .i64 j ∧ Hid (Below wd.heap.size wd wx)) (fun x49 _ => st.length - (Lib.intOf x49).toNat)
        case atStart => exact ⟨0, Nat.zero_le _, rfl, Lib.hid (Below.refl _ _)⟩
        case round =>
          obtain ⟨j, hj, rfl, HJ⟩ := hrel
          have d2 := (HJ.out.cell hb1d).trans d2; have e2 := (HJ.out.cell hb2d).trans e2
          have hb1x : b1 < wr.heap.size := Nat.lt_of_lt_of_le hb1d HJ.out.size; have hb2x : b2 < wr.heap.size := Nat.lt_of_lt_of_le hb2d HJ.out.size
          by_cases hlj : j < st.length
          · obtain ⟨b3, o3, rfl, -, hb3, f1, -⟩ := (RepS.mono (w' := wr) R3.out (fun _ h _ => h) (fun b o _ hlt => HJ.out.cell hlt)) j hlj
            obtain ⟨b4, o4, rfl, -, hb4, f2, -⟩ := (RepS.mono (w' := wr) R4.out (fun _ h _ => h) (fun b o _ hlt => HJ.out.cell hlt)) j hlj
            generalize st[j] = sj at f1 f2
            go_upto_region 11 with fail
            refine wp_region_held_drew (S := (fun w' => w'.cell? ⟨b1, o1 + q * 2 + 1, none⟩ = some (.slice (some ⟨b3, o3, none⟩) st.length c1) ∧ w'.cell? ⟨b2, o2 + q * 2 + 1, none⟩ = some (.slice (some ⟨b4, o4, none⟩) st.length c2) ∧ w'.cell? ⟨b3, o3 + j, none⟩ = some (.string sj) ∧ w'.cell? ⟨b4, o4 + j, none⟩ = some (.string sj))) (by kernel_rfl) (by exact ⟨((Below.refl wr.heap.size wr).drew.cell hb1x).trans d2, ((Below.refl wr.heap.size wr).drew.cell hb2x).trans e2, ((Below.refl wr.heap.size wr).drew.cell hb3).trans f1, ((Below.refl wr.heap.size wr).drew.cell hb4).trans f2⟩) (fun hHeld => ?_)
            refine wpAnyH_take (i := 0) (v := ?vm4_0) (by conv => lhs; simp only [List.getElem?_toArray, List.getElem?_cons_succ, List.getElem?_cons_zero]) (by kernel_rfl) (by kernel_rfl) (by kernel_rfl) (by exact fun _ _ _ h => h) (Or.inl ⟨by rfl, ?hym4_0⟩) (by assumption) ?_
            case hym4_0 => (intro w0 hSw; (try dsimp only at hSw); go_simp; (try with_reducible rfl); (try assumption))
            try simp only [Act.put, List.setIfInBounds_toArray, List.set_cons_zero, List.set_cons_succ]
            refine wpAnyH_take (i := 1) (v := ?vm4_1) (by conv => lhs; simp only [List.getElem?_toArray, List.getElem?_cons_succ, List.getElem?_cons_zero]) (by kernel_rfl) (by kernel_rfl) (by kernel_rfl) (by exact fun _ _ _ h => h) (Or.inl ⟨by rfl, ?hym4_1⟩) (by assumption) ?_
            case hym4_1 => (intro w0 hSw; (try dsimp only at hSw); go_simp; (try with_reducible rfl); (try assumption))
            try simp only [Act.put, List.setIfInBounds_toArray, List.set_cons_zero, List.set_cons_succ]
            refine wpAnyH_take (i := 2) (v := ?vm4_2) (by conv => lhs; simp only [List.getElem?_toArray, List.getElem?_cons_succ, List.getElem?_cons_zero]) (by kernel_rfl) (by kernel_rfl) (by kernel_rfl) (by exact fun _ _ _ h => h) (Or.inl ⟨by rfl, ?hym4_2⟩) (by assumption) ?_
            case hym4_2 => (intro w0 hSw; (try dsimp only at hSw); go_simp; (try with_reducible rfl); (try assumption))
            try simp only [Act.put, List.setIfInBounds_toArray, List.set_cons_zero, List.set_cons_succ]
            refine wpAnyH_take (i := 3) (v := ?vm4_3) (by conv => lhs; simp only [List.getElem?_toArray, List.getElem?_cons_succ, List.getElem?_cons_zero]) (by kernel_rfl) (by kernel_rfl) (by kernel_rfl) (by exact fun _ _ _ h => h) (Or.inl ⟨by rfl, ?hym4_3⟩) (by assumption) ?_
            case hym4_3 => (intro w0 hSw; (try dsimp only at hSw); go_simp; (try with_reducible rfl); (try assumption))
            try simp only [Act.put, List.setIfInBounds_toArray, List.set_cons_zero, List.set_cons_succ]
            refine wpAnyH_take (i := 4) (v := ?vm4_4) (by conv => lhs; simp only [List.getElem?_toArray, List.getElem?_cons_succ, List.getElem?_cons_zero]) (by kernel_rfl) (by kernel_rfl) (by kernel_rfl) (by exact fun _ _ _ h => h) (Or.inl ⟨by rfl, ?hym4_4⟩) (by assumption) ?_
            case hym4_4 => (intro w0 hSw; (try dsimp only at hSw); go_simp; (try with_reducible rfl); (try assumption))
            try simp only [Act.put, List.setIfInBounds_toArray, List.set_cons_zero, List.set_cons_succ]
            refine wpAnyH_take (i := 5) (v := ?vm4_5) (by conv => lhs; simp only [List.getElem?_toArray, List.getElem?_cons_succ, List.getElem?_cons_zero]) (by kernel_rfl) (by kernel_rfl) (by kernel_rfl) (by exact fun _ _ _ h => h) (Or.inl ⟨by rfl, ?hym4_5⟩) (by assumption) ?_
            case hym4_5 => (intro w0 hSw; (try dsimp only at hSw); go_simp; (try with_reducible rfl); (try assumption))
            try simp only [Act.put, List.setIfInBounds_toArray, List.set_cons_zero, List.set_cons_succ]
            refine wpAnyH_take (i := 6) (v := ?vm4_6) (by conv => lhs; simp only [List.getElem?_toArray, List.getElem?_cons_succ, List.getElem?_cons_zero]) (by kernel_rfl) (by kernel_rfl) (by kernel_rfl) (by exact fun _ _ _ h => h) (Or.inl ⟨by rfl, ?hym4_6⟩) (by assumption) ?_
            case hym4_6 => (intro w0 hSw; (try dsimp only at hSw); go_simp; (try with_reducible rfl); (try assumption))
            try simp only [Act.put, List.setIfInBounds_toArray, List.set_cons_zero, List.set_cons_succ]
            refine wpAnyH_take (i := 7) (v := ?vm4_7) (by conv => lhs; simp only [List.getElem?_toArray, List.getElem?_cons_succ, List.getElem?_cons_zero]) (by kernel_rfl) (by kernel_rfl) (by kernel_rfl) (by exact fun _ _ _ h => h) (Or.inl ⟨by rfl, ?hym4_7⟩) (by assumption) ?_
            case hym4_7 => (intro w0 hSw; (try dsimp only at hSw); go_simp; (try with_reducible rfl); (try assumption))
            try simp only [Act.put, List.setIfInBounds_toArray, List.set_cons_zero, List.set_cons_succ]
            refine wpAnyH_take (i := 8) (v := ?vm4_8) (by conv => lhs; simp only [List.getElem?_toArray, List.getElem?_cons_succ, List.getElem?_cons_zero]) (by kernel_rfl) (by kernel_rfl) (by kernel_rfl) (by exact fun _ _ _ h => h) (Or.inl ⟨by rfl, ?hym4_8⟩) (by assumption) ?_
            case hym4_8 => (intro w0 hSw; (try dsimp only at hSw); go_simp; (try with_reducible rfl); (try assumption))
            try simp only [Act.put, List.setIfInBounds_toArray, List.set_cons_zero, List.set_cons_succ]
            refine wpAnyH_take (i := 9) (v := ?vm4_9) (by conv => lhs; simp only [List.getElem?_toArray, List.getElem?_cons_succ, List.getElem?_cons_zero]) (by kernel_rfl) (by kernel_rfl) (by kernel_rfl) (by exact fun _ _ _ h => h) (Or.inl ⟨by rfl, ?hym4_9⟩) (by assumption) ?_
            case hym4_9 => (intro w0 hSw; (try dsimp only at hSw); go_simp; (try with_reducible rfl); (try assumption))
            try simp only [Act.put, List.setIfInBounds_toArray, List.set_cons_zero, List.set_cons_succ]
            refine wpAnyH_take (i := 10) (v := ?vm4_10) (by conv => lhs; simp only [List.getElem?_toArray, List.getElem?_cons_succ, List.getElem?_cons_zero]) (by kernel_rfl) (by kernel_rfl) (by kernel_rfl) (by exact fun _ _ _ h => h) (Or.inl ⟨by rfl, ?hym4_10⟩) (by assumption) ?_
            case hym4_10 => (intro w0 hSw; (try dsimp only at hSw); go_simp; (try with_reducible rfl); (try assumption))
            try simp only [Act.put, List.setIfInBounds_toArray, List.set_cons_zero, List.set_cons_succ]
            refine wpAnyH_take (i := 11) (v := ?vm4_11) (by conv => lhs; simp only [List.getElem?_toArray, List.getElem?_cons_succ, List.getElem?_cons_zero]) (by kernel_rfl) (by kernel_rfl) (by kernel_rfl) (by exact fun _ _ _ h => h) (Or.inl ⟨by rfl, ?hym4_11⟩) (by assumption) ?_
            case hym4_11 => (intro w0 hSw; (try dsimp only at hSw); go_simp; (try with_reducible rfl); (try assumption))
            try simp only [Act.put, List.setIfInBounds_toArray, List.set_cons_zero, List.set_cons_succ]
            refine wpAnyH_take (i := 12) (v := ?vm4_12) (by conv => lhs; simp only [List.getElem?_toArray, List.getElem?_cons_succ, List.getElem?_cons_zero]) (by kernel_rfl) (by kernel_rfl) (by kernel_rfl) (by exact fun _ _ _ h => h) (Or.inl ⟨by rfl, ?hym4_12⟩) (by assumption) ?_
            case hym4_12 => (intro w0 hSw; (try dsimp only at hSw); go_simp; (try with_reducible rfl); (try assumption))
            try simp only [Act.put, List.setIfInBounds_toArray, List.set_cons_zero, List.set_cons_succ]
            refine wpAnyH_take (i := 13) (v := ?vm4_13) (by conv => lhs; simp only [List.getElem?_toArray, List.getElem?_cons_succ, List.getElem?_cons_zero]) (by kernel_rfl) (by kernel_rfl) (by kernel_rfl) (by exact fun _ _ _ h => h) (Or.inl ⟨by rfl, ?hym4_13⟩) (by assumption) ?_
            case hym4_13 => (intro w0 hSw; (try dsimp only at hSw); go_simp; (try with_reducible rfl); (try assumption))
            try simp only [Act.put, List.setIfInBounds_toArray, List.set_cons_zero, List.set_cons_succ]
            refine wpAnyH_take (i := 14) (v := ?vm4_14) (by conv => lhs; simp only [List.getElem?_toArray, List.getElem?_cons_succ, List.getElem?_cons_zero]) (by kernel_rfl) (by kernel_rfl) (by kernel_rfl) (by exact fun _ _ _ h => h) (Or.inl ⟨by rfl, ?hym4_14⟩) (by assumption) ?_
            case hym4_14 => (intro w0 hSw; (try dsimp only at hSw); go_simp; (try with_reducible rfl); (try assumption))
            try simp only [Act.put, List.setIfInBounds_toArray, List.set_cons_zero, List.set_cons_succ]
            refine wpAnyH_take (i := 15) (v := ?vm4_15) (by conv => lhs; simp only [List.getElem?_toArray, List.getElem?_cons_succ, List.getElem?_cons_zero]) (by kernel_rfl) (by kernel_rfl) (by kernel_rfl) (by exact fun _ _ _ h => h) (Or.inl ⟨by rfl, ?hym4_15⟩) (by assumption) ?_
            case hym4_15 => (intro w0 hSw; (try dsimp only at hSw); go_simp; (try with_reducible rfl); (try assumption))
            try simp only [Act.put, List.setIfInBounds_toArray, List.set_cons_zero, List.set_cons_succ]
            refine wpAnyH_take (i := 16) (v := .bool false) (by conv => lhs; simp only [List.getElem?_toArray, List.getElem?_cons_succ, List.getElem?_cons_zero]) (by kernel_rfl) (by kernel_rfl) (by kernel_rfl) (by exact fun _ _ _ h => h) (Or.inl ⟨by rfl, ?hym4_16⟩) (by assumption) ?_
            case hym4_16 => (intro w0 hSw; (try dsimp only at hSw); go_simp; (try with_reducible rfl); (try assumption))
            try simp only [Act.put, List.setIfInBounds_toArray, List.set_cons_zero, List.set_cons_succ]
            refine wpAnyH_done (by kernel_rfl) ?_ _
            go_wp2_with fail
            go_roundw
            case rel => exact ⟨j + 1, by omega, by go_num, Lib.hid (HJ.out.trans ((Below.refl wr.heap.size wr).drew.mono HJ.out.size))⟩
            case measure => simp [Lib.intOf]; omega
          · obtain rfl : j = st.length := by omega
            go_wp2_with fail
            go_roundw
            case rel => exact ⟨q + 1, by omega, by go_num, Lib.hid (HB.out.trans ((HD.out.trans (HJ.out.mono HD.out.size)).mono HB.out.size))⟩
            case measure => simp [Lib.intOf]; omega
    · obtain rfl : q = l.length := by omega
      go_wp2_with fail
      go_ret
      exact ⟨rfl, HB.out⟩
end Go.Proofs.YtgbbojnigicnoaaDoor

/- SchemaChecks answers true for every input: the law. -/
namespace Go.Proofs.YtgbbojnigicnoaaDoor
open Go.RowKit Go.Lib
attribute [local go_sem ↓] Go.wp_at_zero Go.wp_at_succ

theorem chkL_mem : ∀ (xs : List T) (o : Option T) (i : Nat) (l : List ByteArray) (f : FlawT), f ∈ T.chkL xs o i l → ∃ x ∈ xs, ∃ s j, f ∈ x.chk s (l ++ [itoaB j])
  | [], o, i, l, f, h => by rw [T.chkL] at h; cases h
  | x :: r, o, i, l, f, h => by
    rw [chkL_cons] at h
    rcases List.mem_append.1 h with h | h
    · unfold chkI at h
      cases o with
      | none => cases h
      | some s => exact ⟨x, List.mem_cons_self, s, i, h⟩
    · obtain ⟨y, hy, s, j, hf⟩ := chkL_mem r o (i + 1) l f h
      exact ⟨y, List.mem_cons_of_mem _ hy, s, j, hf⟩
theorem chkM_mem : ∀ (m : List (ByteArray × T)) (ks : T) (cl : Bool) (l : List ByteArray) (f : FlawT), f ∈ T.chkM m ks cl l → ∃ p ∈ m, f ∈ T.chkP p ks cl l
  | [], ks, cl, l, f, h => by rw [T.chkM] at h; cases h
  | p :: r, ks, cl, l, f, h => by
    rw [T.chkM] at h
    rcases List.mem_append.1 h with h | h
    · exact ⟨p, List.mem_cons_self, h⟩
    · obtain ⟨y, hy, hf⟩ := chkM_mem r ks cl l f h
      exact ⟨y, List.mem_cons_of_mem _ hy, hf⟩
theorem chk_steps (t : T) : ∀ (s : T) (l : List ByteArray) (f : FlawT), f ∈ t.chk s l → f.2.length ≤ l.length + t.wt := by
  induction t using T.ind' with
  | h t ihl ihm =>
  intro s l f hf
  have h1 : 1 ≤ t.wt := by rw [T.wt_eq]; omega
  have one : ∀ k : Int, ∀ g : FlawT, g ∈ ([(k, l)] : List FlawT) → g.2.length ≤ l.length + t.wt := fun k g hg => by
    obtain rfl := List.mem_singleton.1 hg
    simp
  rw [chk_eq] at hf
  split at hf
  · exact one _ _ hf
  · simp only [List.mem_append] at hf
    rcases hf with (((h | h) | h) | h) | h
    · unfold leastF at h
      split at h
      · split at h
        · exact one _ _ h
        · cases h
      · cases h
    · unfold mostF at h
      split at h
      · split at h
        · exact one _ _ h
        · cases h
      · cases h
    · unfold oneF at h
      split at h
      · split at h
        · cases h
        · exact one _ _ h
      · cases h
    · obtain ⟨x, hx, s2, j, hf2⟩ := chkL_mem _ _ _ _ _ h
      have h2 := ihl x hx s2 _ f hf2
      have h3 := list_wtF hx
      rw [List.length_append, List.length_singleton] at h2
      omega
    · split at h
      · rcases List.mem_append.1 h with h | h
        · unfold needF at h
          obtain ⟨y, -, hy⟩ := List.mem_flatMap.1 h
          unfold needP at hy
          split at hy
          · cases hy
          · obtain rfl := List.mem_singleton.1 hy
            simp; omega
        · obtain ⟨p, hp, hf2⟩ := chkM_mem _ _ _ _ _ h
          have h3 : p.2.wt < t.wt := by have h4 := wtM_mem t.map p hp; rw [T.wt_eq t]; omega
          rw [chkP_eq] at hf2
          split at hf2
          · have h2 := ihm p hp _ _ f hf2
            rw [List.length_append, List.length_singleton] at h2
            omega
          · split at hf2
            · obtain rfl := List.mem_singleton.1 hf2
              simp; omega
            · cases hf2
      · cases h
theorem Good.fine {t : T} (h : Good t) : FineT t := ⟨h.parts, h.1⟩

set_option maxRecDepth 100000 in
set_option maxHeartbeats 16000000 in
theorem schemaL (s t : T) (vs vt : Value) (w : World) (hs : RepT w (fun _ => True) vs s) (ht : RepT w (fun _ => True) vt t) (hv : Tabs w) :
    Calls Tryd.prog 3 #[vs, vt] w fun e w' => e = .returned (.bool true) ∧ Below w.heap.size w w' := by
  obtain ⟨sla, slc, sma, smc, rfl, -⟩ := hs.inv
  obtain ⟨la, lc, ma, mc, rfl, -⟩ := ht.inv
  have hb0 : Below w.heap.size w ((w.alloc (.cells #[.int .i64 s.kind, .bool s.bool, .int .i64 s.int, .string s.str, .slice sla s.list.length slc, .slice sma s.map.length smc] 25)).alloc (.cells #[.int .i64 t.kind, .bool t.bool, .int .i64 t.int, .string t.str, .slice la t.list.length lc, .slice ma t.map.length mc] 25)) := (Below.new _ _).alloc (by simp) _
  have L1 := Lib.hid (show Blk ((w.alloc (.cells #[.int .i64 s.kind, .bool s.bool, .int .i64 s.int, .string s.str, .slice sla s.list.length slc, .slice sma s.map.length smc] 25)).alloc (.cells #[.int .i64 t.kind, .bool t.bool, .int .i64 t.int, .string t.str, .slice la t.list.length lc, .slice ma t.map.length mc] 25)) w.heap.size 25 #[.int .i64 s.kind, .bool s.bool, .int .i64 s.int, .string s.str, .slice sla s.list.length slc, .slice sma s.map.length smc] from (Blk.new _ _ _).alloc _)
  have L2 := Lib.hid (show Blk ((w.alloc (.cells #[.int .i64 s.kind, .bool s.bool, .int .i64 s.int, .string s.str, .slice sla s.list.length slc, .slice sma s.map.length smc] 25)).alloc (.cells #[.int .i64 t.kind, .bool t.bool, .int .i64 t.int, .string t.str, .slice la t.list.length lc, .slice ma t.map.length mc] 25)) (w.heap.size + 1) 25 #[.int .i64 t.kind, .bool t.bool, .int .i64 t.int, .string t.str, .slice la t.list.length lc, .slice ma t.map.length mc] from Blk.new_at _ _ _ (by simp))
  have HS := Lib.hid (hs.keep hb0); have HT := Lib.hid (ht.keep hb0); have HV := Lib.hid (hv.keep hb0); have HB0 := Lib.hid hb0
  obtain ⟨W0, e0⟩ : ∃ z, z = ((w.alloc (.cells #[.int .i64 s.kind, .bool s.bool, .int .i64 s.int, .string s.str, .slice sla s.list.length slc, .slice sma s.map.length smc] 25)).alloc (.cells #[.int .i64 t.kind, .bool t.bool, .int .i64 t.int, .string t.str, .slice la t.list.length lc, .slice ma t.map.length mc] 25)) := ⟨_, rfl⟩
  obtain ⟨n1, e1⟩ : ∃ n, n = w.heap.size := ⟨_, rfl⟩
  obtain ⟨n2, e2⟩ : ∃ n, n = w.heap.size + 1 := ⟨_, rfl⟩
  rw [← e0] at HS HT HV HB0 L1 L2
  rw [← e1] at L1
  rw [← e2] at L2
  have E0 := Lib.hid e0; have E1 := Lib.hid e1; have E2 := Lib.hid e2
  clear e0 e1 e2 hb0 hs ht hv
  go_enter Tryd.func3, Tryd.ntmps3
  refine wp_seq_cut (fun K0 hK0 => ?_)
  go_wp2_with fail
  refine hK0.out _ _ ?_
  rw [← E0.out, ← E2.out, ← E1.out]
  clear E0 E2 hK0 K0
  have k1 := L1.out.cell; have l1 := L1.out.lt; have k2 := L2.out.cell; have l2 := L2.out.lt
  go_wp2_with fail
  refine (right [s, t] _ (fun _ => True) _ 2 (repE_L.1 (rep_block (E := eltV) (S := fun _ => True) (l := [s, t]) [[.int .i64 s.kind, .bool s.bool, .int .i64 s.int, .string s.str, .slice sla s.list.length slc, .slice sma s.map.length smc], [.int .i64 t.kind, .bool t.bool, .int .i64 t.int, .string t.str, .slice la t.list.length lc, .slice ma t.map.length mc]] (Blk.new_at W0 25 #[.int .i64 s.kind, .bool s.bool, .int .i64 s.int, .string s.str, .slice sla s.list.length slc, .slice sma s.map.length smc, .int .i64 t.kind, .bool t.bool, .int .i64 t.int, .string t.str, .slice la t.list.length lc, .slice ma t.map.length mc] rfl) rfl trivial ⟨HS.out.keep (Below.new _ _), HT.out.keep (Below.new _ _), trivial⟩)) (by simp)).mono ?_
  rintro e w1 ⟨r, rfl, hr, hb1⟩
  have HD1 := Lib.hid (show Below W0.heap.size W0 w1 from Below.next (Below.new _ _) hb1)
  have HW1 := Lib.hid (HB0.out.trans (HD1.out.mono HB0.out.size))
  have HS1 := Lib.hid (HS.out.keep HD1.out); have HT1 := Lib.hid (HT.out.keep HD1.out); have HV1 := Lib.hid (HV.out.keep HD1.out); have M1 := Lib.hid (L1.out.keep HD1.out); have M2 := Lib.hid (L2.out.keep HD1.out)
  have HR := Lib.hid hr
  clear hb1 hr k1 l1 k2 l2 HS HT HV L1 L2
  have k1 := M1.out.cell; have l1 := M1.out.lt; have k2 := M2.out.cell; have l2 := M2.out.lt
  cases r
  · go_wp2_with (go_at_call 5; refine (awake25 _ HV1.out).mono ?_; rintro e w9 ⟨rfl, hb9⟩)
    go_ret
    exact ⟨rfl, by rw [E1.out]; exact HW1.out.trans (hb9.mono HW1.out.size)⟩
  have hfs : FineT s := (HR.out rfl s (by simp)).fine
  have hft : FineT t := (HR.out rfl t (by simp)).fine
  have HFS := Lib.hid hfs; have HFT := Lib.hid hft
  clear HR hfs hft
  go_wp2_with fail
  refine (tCheckS s t sla slc sma smc la lc ma mc w1 _ HS1.out HT1.out HV1.out HFS.out HFT.out).mono ?_
  rintro e w2 ⟨A, c, B, rfl, ho, hB, hb2⟩
  have HO := Lib.hid ho; have HD2 := Lib.hid hb2; have HW2 := Lib.hid (HW1.out.trans (hb2.mono HW1.out.size))
  have HS2 := Lib.hid (HS1.out.keep HD2.out); have HT2 := Lib.hid (HT1.out.keep HD2.out); have HV2 := Lib.hid (HV1.out.keep HD2.out); have Q1 := Lib.hid (M1.out.keep HD2.out); have Q2 := Lib.hid (M2.out.keep HD2.out)
  clear ho hB hb2 k1 l1 k2 l2 HS1 HT1 HV1 M1 M2
  have k1 := Q1.out.cell; have l1 := Q1.out.lt; have k2 := Q2.out.cell; have l2 := Q2.out.lt
  obtain ⟨z, hz⟩ : ∃ z, z = s.sch := ⟨_, rfl⟩
  have CR := Lib.hid (fun w2 h1 h2 => tright s w2 (fun _ => True) (.agg #[.int .i64 s.kind, .bool s.bool, .int .i64 s.int, .string s.str, .slice sla s.list.length slc, .slice sma s.map.length smc]) h1 h2 (by have := HFS.out.2; omega))
  have CQ := Lib.hid (fun w2 h1 => rright25 s w2 (fun _ => True) (.agg #[.int .i64 s.kind, .bool s.bool, .int .i64 s.int, .string s.str, .slice sla s.list.length slc, .slice sma s.map.length smc]) h1 (by have := HFS.out.2; omega))
  rw [← hz] at CR CQ ⊢
  obtain ⟨F, hF⟩ : ∃ z, z = flaws s t := ⟨_, rfl⟩
  rw [← hF] at HO ⊢
  have HFL := Lib.hid (show F = if z then t.chk s [] else [] from by rw [hF, hz]; rfl)
  clear hF hz
  cases z with
  | false =>
    obtain rfl : F = [] := HFL.out
    go_upto_region 4 with fail
    refine wp_region_held_drew (S := (fun w' => ∀ i, w'.cell? ⟨n1, i, none⟩ = (#[.int .i64 s.kind, .bool s.bool, .int .i64 s.int, .string s.str, .slice sla s.list.length slc, .slice sma s.map.length smc] : Array Value)[i]?)) (by kernel_rfl) (by exact (Q1.out.keep (Below.refl w2.heap.size w2).drew).cell) (fun hHeld => ?_)
    refine wpAnyH_take (i := 0) (v := ?vm1_0) (by conv => lhs; simp only [List.getElem?_toArray, List.getElem?_cons_succ, List.getElem?_cons_zero]) (by kernel_rfl) (by kernel_rfl) (by kernel_rfl) (by exact fun _ _ _ h => h) (Or.inl ⟨by rfl, ?hym1_0⟩) (by assumption) ?_
    case hym1_0 => (intro w0 hSw; (try dsimp only at hSw); go_simp; (try with_reducible rfl); (try assumption))
    try simp only [Act.put, List.setIfInBounds_toArray, List.set_cons_zero, List.set_cons_succ]
    refine wpAnyH_take (i := 2) (v := ?vm1_2) (by conv => lhs; simp only [List.getElem?_toArray, List.getElem?_cons_succ, List.getElem?_cons_zero]) (by kernel_rfl) (by kernel_rfl) (by kernel_rfl) (by exact fun _ _ _ h => h) (Or.inl ⟨by rfl, ?hym1_2⟩) (by assumption) ?_
    case hym1_2 => (intro w0 hSw; (try dsimp only at hSw); go_simp; (try with_reducible rfl); (try assumption))
    try simp only [Act.put, List.setIfInBounds_toArray, List.set_cons_zero, List.set_cons_succ]
    refine wpAnyH_ready (rs := [1]) (by kernel_rfl) (by simp) ?_
    refine AllReadyH.cons (by conv => lhs; simp only [List.getElem?_toArray, List.getElem?_cons_succ, List.getElem?_cons_zero]) (fun K hK => ?_) AllReadyH.nil
    go_simp
    refine (CR.out _ (HS2.out.keep (Below.refl w2.heap.size w2).drew) (HV2.out.keep (Below.refl w2.heap.size w2).drew).1).mono ?_
    rintro e w3 ⟨rfl, hb3⟩
    have HB11 := Lib.hid (Below.next (Below.refl w2.heap.size w2).drew hb3)
    clear hb3
    go_wp2_with fail
    refine hK.out _ _ (by exact (Q1.out.keep HB11.out).cell) (fun hHeld => ?_)
    clear hK K
    try simp only [Act.put, List.setIfInBounds_toArray, List.set_cons_zero, List.set_cons_succ]
    refine wpAnyH_ready (rs := [3]) (by kernel_rfl) (by simp) ?_
    refine AllReadyH.cons (by conv => lhs; simp only [List.getElem?_toArray, List.getElem?_cons_succ, List.getElem?_cons_zero]) (fun K hK => ?_) AllReadyH.nil
    go_simp
    refine (CQ.out _ (HS2.out.keep HB11.out)).mono ?_
    rintro e w3 ⟨rfl, hb3⟩
    have HB23 := Lib.hid (Below.next HB11.out hb3)
    clear hb3
    go_wp2_with fail
    refine hK.out _ _ (by exact (Q1.out.keep HB23.out).cell) (fun hHeld => ?_)
    clear hK K
    try simp only [Act.put, List.setIfInBounds_toArray, List.set_cons_zero, List.set_cons_succ]
    refine wpAnyH_take (i := 4) (v := .bool false) (by conv => lhs; simp only [List.getElem?_toArray, List.getElem?_cons_succ, List.getElem?_cons_zero]) (by kernel_rfl) (by kernel_rfl) (by kernel_rfl) (by exact fun _ _ _ h => h) (Or.inl ⟨by rfl, ?hym3_4⟩) (by assumption) ?_
    case hym3_4 => (intro w0 hSw; (try dsimp only at hSw); go_simp; (try with_reducible rfl); (try assumption))
    try simp only [Act.put, List.setIfInBounds_toArray, List.set_cons_zero, List.set_cons_succ]
    refine wpAnyH_done (by kernel_rfl) ?_ _
    have HB5 := Lib.hid (HB23.out)
    have HS3 := Lib.hid (HS2.out.keep HB5.out); have HT3 := Lib.hid (HT2.out.keep HB5.out); have HV3 := Lib.hid (HV2.out.keep HB5.out); have T1 := Lib.hid (Q1.out.keep HB5.out); have T2 := Lib.hid (Q2.out.keep HB5.out); have HO3 := Lib.hid (HO.out.keep HB5.out); have HW3 := Lib.hid (HW2.out.trans (HB5.out.mono HW2.out.size))
    clear hHeld k1 l1 k2 l2
    have k1 := T1.out.cell; have l1 := T1.out.lt; have k2 := T2.out.cell; have l2 := T2.out.lt
    go_wp2_with fail
    refine (CQ.out _ HS3.out).mono ?_
    rintro e w4 ⟨rfl, hb4⟩
    have HW4 := Lib.hid (HW3.out.trans (hb4.mono HW3.out.size)); have HS4 := Lib.hid (HS3.out.keep hb4); have HT4 := Lib.hid (HT3.out.keep hb4); have HV4 := Lib.hid (HV3.out.keep hb4); have U1 := Lib.hid (T1.out.keep hb4); have U2 := Lib.hid (T2.out.keep hb4); have HO4 := Lib.hid (HO3.out.keep hb4)
    clear hb4 k1 l1 k2 l2
    have k1 := U1.out.cell; have l1 := U1.out.lt; have k2 := U2.out.cell; have l2 := U2.out.lt
    go_wp2_with fail
    refine (awake25 _ HV4.out).mono ?_
    rintro e w5 ⟨rfl, hb5⟩
    have HW5 := Lib.hid (HW4.out.trans (hb5.mono HW4.out.size)); have HS5 := Lib.hid (HS4.out.keep hb5); have HT5 := Lib.hid (HT4.out.keep hb5); have X1 := Lib.hid (U1.out.keep hb5); have X2 := Lib.hid (U2.out.keep hb5); have HO5 := Lib.hid (HO4.out.keep hb5)
    clear hb5 k1 l1 k2 l2
    have k1 := X1.out.cell; have l1 := X1.out.lt; have k2 := X2.out.cell; have l2 := X2.out.lt
    go_wp2_with fail
    go_ret
    exact ⟨rfl, by rw [E1.out]; exact HW5.out⟩
  | true =>
    obtain rfl : F = t.chk s [] := HFL.out
    have hcl := chk_fits HFS.out HFT.out []
    go_upto_region 4 with fail
    refine wp_region_held_drew (S := (fun w' => ∀ i, w'.cell? ⟨n1, i, none⟩ = (#[.int .i64 s.kind, .bool s.bool, .int .i64 s.int, .string s.str, .slice sla s.list.length slc, .slice sma s.map.length smc] : Array Value)[i]?)) (by kernel_rfl) (by exact (Q1.out.keep (Below.refl w2.heap.size w2).drew).cell) (fun hHeld => ?_)
    refine wpAnyH_take (i := 0) (v := ?vm4_0) (by conv => lhs; simp only [List.getElem?_toArray, List.getElem?_cons_succ, List.getElem?_cons_zero]) (by kernel_rfl) (by kernel_rfl) (by kernel_rfl) (by exact fun _ _ _ h => h) (Or.inl ⟨by rfl, ?hym4_0⟩) (by assumption) ?_
    case hym4_0 => (intro w0 hSw; (try dsimp only at hSw); go_simp; (try with_reducible rfl); (try assumption))
    try simp only [Act.put, List.setIfInBounds_toArray, List.set_cons_zero, List.set_cons_succ]
    refine wpAnyH_take (i := 2) (v := ?vm4_2) (by conv => lhs; simp only [List.getElem?_toArray, List.getElem?_cons_succ, List.getElem?_cons_zero]) (by kernel_rfl) (by kernel_rfl) (by kernel_rfl) (by exact fun _ _ _ h => h) (Or.inl ⟨by rfl, ?hym4_2⟩) (by assumption) ?_
    case hym4_2 => (intro w0 hSw; (try dsimp only at hSw); go_simp; (try with_reducible rfl); (try assumption))
    try simp only [Act.put, List.setIfInBounds_toArray, List.set_cons_zero, List.set_cons_succ]
    refine wpAnyH_ready (rs := [1]) (by kernel_rfl) (by simp) ?_
    refine AllReadyH.cons (by conv => lhs; simp only [List.getElem?_toArray, List.getElem?_cons_succ, List.getElem?_cons_zero]) (fun K hK => ?_) AllReadyH.nil
    go_simp
    refine (CR.out _ (HS2.out.keep (Below.refl w2.heap.size w2).drew) (HV2.out.keep (Below.refl w2.heap.size w2).drew).1).mono ?_
    rintro e w3 ⟨rfl, hb3⟩
    have HB11 := Lib.hid (Below.next (Below.refl w2.heap.size w2).drew hb3)
    clear hb3
    go_wp2_with fail
    refine hK.out _ _ (by exact (Q1.out.keep HB11.out).cell) (fun hHeld => ?_)
    clear hK K
    try simp only [Act.put, List.setIfInBounds_toArray, List.set_cons_zero, List.set_cons_succ]
    refine wpAnyH_ready (rs := [3]) (by kernel_rfl) (by simp) ?_
    refine AllReadyH.cons (by conv => lhs; simp only [List.getElem?_toArray, List.getElem?_cons_succ, List.getElem?_cons_zero]) (fun K hK => ?_) AllReadyH.nil
    go_simp
    refine (CQ.out _ (HS2.out.keep HB11.out)).mono ?_
    rintro e w3 ⟨rfl, hb3⟩
    have HB23 := Lib.hid (Below.next HB11.out hb3)
    clear hb3
    go_wp2_with fail
    refine hK.out _ _ (by exact (Q1.out.keep HB23.out).cell) (fun hHeld => ?_)
    clear hK K
    try simp only [Act.put, List.setIfInBounds_toArray, List.set_cons_zero, List.set_cons_succ]
    refine wpAnyH_take (i := 4) (v := .bool false) (by conv => lhs; simp only [List.getElem?_toArray, List.getElem?_cons_succ, List.getElem?_cons_zero]) (by kernel_rfl) (by kernel_rfl) (by kernel_rfl) (by exact fun _ _ _ h => h) (Or.inl ⟨by rfl, ?hym6_4⟩) (by assumption) ?_
    case hym6_4 => (intro w0 hSw; (try dsimp only at hSw); go_simp; (try with_reducible rfl); (try assumption))
    try simp only [Act.put, List.setIfInBounds_toArray, List.set_cons_zero, List.set_cons_succ]
    refine wpAnyH_done (by kernel_rfl) ?_ _
    have HB5 := Lib.hid (HB23.out)
    have HS3 := Lib.hid (HS2.out.keep HB5.out); have HT3 := Lib.hid (HT2.out.keep HB5.out); have HV3 := Lib.hid (HV2.out.keep HB5.out); have T1 := Lib.hid (Q1.out.keep HB5.out); have T2 := Lib.hid (Q2.out.keep HB5.out); have HO3 := Lib.hid (HO.out.keep HB5.out); have HW3 := Lib.hid (HW2.out.trans (HB5.out.mono HW2.out.size))
    clear hHeld k1 l1 k2 l2
    have k1 := T1.out.cell; have l1 := T1.out.lt; have k2 := T2.out.cell; have l2 := T2.out.lt
    go_wp2_with fail
    refine (CQ.out _ HS3.out).mono ?_
    rintro e w4 ⟨rfl, hb4⟩
    have HW4 := Lib.hid (HW3.out.trans (hb4.mono HW3.out.size)); have HS4 := Lib.hid (HS3.out.keep hb4); have HT4 := Lib.hid (HT3.out.keep hb4); have HV4 := Lib.hid (HV3.out.keep hb4); have U1 := Lib.hid (T1.out.keep hb4); have U2 := Lib.hid (T2.out.keep hb4); have HO4 := Lib.hid (HO3.out.keep hb4)
    clear hb4 k1 l1 k2 l2
    have k1 := U1.out.cell; have l1 := U1.out.lt; have k2 := U2.out.cell; have l2 := U2.out.lt
    go_wp2_with fail
    refine (awake25 _ HV4.out).mono ?_
    rintro e w5 ⟨rfl, hb5⟩
    have HW5 := Lib.hid (HW4.out.trans (hb5.mono HW4.out.size)); have HS5 := Lib.hid (HS4.out.keep hb5); have HT5 := Lib.hid (HT4.out.keep hb5); have X1 := Lib.hid (U1.out.keep hb5); have X2 := Lib.hid (U2.out.keep hb5); have HO5 := Lib.hid (HO4.out.keep hb5)
    clear hb5 k1 l1 k2 l2
    have k1 := X1.out.cell; have l1 := X1.out.lt; have k2 := X2.out.cell; have l2 := X2.out.lt
    go_wp2_with fail
    refine (rcheckR t s [] none 0 sla slc sma smc la lc ma mc w5 (fun _ => False) HS5.out HT5.out (fun i hi => absurd hi (Nat.not_lt_zero _)) HFS.out HFT.out (by have := HFT.out.2; simp; omega) (by omega)).mono ?_
    rintro e w6 ⟨A6, c6, rfl, hf6, hb6⟩
    have HW6 := Lib.hid (HW5.out.trans (hb6.mono HW5.out.size)); have HO6 := Lib.hid (HO5.out.keep hb6); have HF6 := Lib.hid hf6
    clear hb6 hf6 k1 l1 k2 l2
    go_wp2_with fail
    refine (same25 (t.chk s []) A A6 c c6 w6 _ _ HO6.out.rep HF6.out.rep (by omega) (fun f hf => by have h1 := chk_steps t s [] f hf; have h2 := HFT.out.2; simp at h1; omega)).mono ?_
    rintro e w7 ⟨rfl, hb7⟩
    have HW7 := Lib.hid (HW6.out.trans (hb7.mono HW6.out.size))
    clear hb7
    go_wp2_with fail
    go_ret
    exact ⟨rfl, by rw [E1.out]; exact HW7.out⟩
end Go.Proofs.YtgbbojnigicnoaaDoor

