/- Several texts as one. -/
import Derived.Test.YtnblmhfgmehnnaaGreatDoorPdAT
import Derived.Test.YtnblmhfgmehnnaaGreatDoorPdAS
import Derived.Test.YtnblmhfgmehnnaaGreatDoorPdAG
import Derived.Test.YtnblmhfgmehnnaaGreatDoorPdAC
import Derived.Test.YtnblmhfgmehnnaaGreatDoorPdAB
import Derived.Test.YtnblmhfgmehnnaaGreatDoorCards
import Derived.Test.YtnblmhfgmehnnaaGreatDoorTie
import Derived.HandedShaped
import Derived.Lay
import Derived.LaidOnce
import Derived.SevenTiedAt
import Derived.Shelf.Vars
import Derived.Test.YtnblmhfgmehnnaaGreatDoorPdAM
import Derived.ProofKit
import Derived.LaidMore
import Derived.OpenShut
import Derived.Stop.Joined
/- parse's laws: how much an expression has: some number, whatever it is. -/
namespace Go.Proofs.YtnblmhfgmehnnaaGreatDoor
open Go.RowKit Go.Lib
attribute [local go_sem ↓] Go.wp_at_zero Go.wp_at_succ

theorem wrap_ok (z : Int) : i64ok (wrap64 z) := by
  unfold i64ok wrap64
  constructor <;> omega

/-- How much an expression has by itself, after q of its steps. -/
def HvA (x : Ex) (q : Nat) (h : Int) : Prop := i64ok h ∧ ∀ d, RightX d x → h = (1 + x.val.str.size + x.name.size + (stepsW (x.steps.take q)).length : Nat)

/-- And after q of its arguments. -/
def HvB (x : Ex) (q : Nat) (h : Int) : Prop := i64ok h ∧ ∀ d, d ≤ 16 → RightX d x → 0 ≤ h ∧ h ≤ 9007199254740992 ∧ (h ≤ 4000 → ((wtO x + ((x.args.take q).map (wtX (d - 1))).sum : Nat) : Int) ≤ h)
/-- No less than its weight, if it may be and the number is no more than 4000; no more than so much, so deep. -/
def HvC (x : Ex) (h : Int) : Prop := ∀ (d : Nat), d ≤ 16 → RightX d x → 0 ≤ h ∧ h ≤ ((d : Int) + 1) * 9007199254740992 ∧ (h ≤ 4000 → (wtX d x : Int) ≤ h)

/-- What heavy answers: some number, whatever the expression is. -/
def HeavyI (x : Ex) (W : World) (e : Ending) (w' : World) : Prop := ∃ h : Int, i64ok h ∧ e = .returned (.int .i64 h) ∧ Below W.heap.size W w' ∧ HvC x h

theorem fit64 {z : Int} (h1 : -9223372036854775808 ≤ z) (h2 : z < 9223372036854775808) : wrap64 z = z := by unfold wrap64; omega
theorem stepsW_takeH {l : List ByteArray} {q : Nat} (h : q < l.length) : (stepsW (l.take (q + 1))).length = (stepsW (l.take q)).length + (1 + l[q].size) := by
  have e : l.take (q + 1) = l.take q ++ [l[q]] := by rw [List.take_succ_eq_append_getElem h]
  rw [e]
  unfold stepsW
  rw [List.flatMap_append, List.length_append]
  rw [show List.flatMap (fun s => 46 :: s.data.toList) [l[q]] = 46 :: l[q].data.toList from by simp, List.length_cons, ← size_list]
  omega
theorem stepsW_small {l : List ByteArray} (h : ∀ s ∈ l, nameL s.data.toList = true) : (stepsW l).length ≤ 257 * l.length := by
  induction l with
  | nil => simp [stepsW]
  | cons s l ih =>
    rw [stepsW_cons]
    have h1 := ih (fun s hs => h s (List.mem_cons_of_mem _ hs))
    obtain ⟨_, _, _, _, _, h2⟩ := name_parts (h s List.mem_cons_self)
    simp only [List.length_cons, List.length_append]
    omega
/-- How much there can be. -/
structure Few (x : Ex) : Prop where
  str : x.val.str.size ≤ 140737488351232
  name : x.name.size ≤ 140737488351232
  steps : x.steps.length * 16 ≤ 140737488355328
theorem right_flat {d : Nat} {x : Ex} (h : RightX d x) : x.val.list = [] ∧ x.val.map = [] := by
  by_cases hk : x.kind = 0
  · obtain ⟨hv, -⟩ := h.own.lit hk
    rcases hv with hv | ⟨b, hv⟩ | ⟨n, hv, -⟩ | ⟨s, hv⟩ <;> rw [hv] <;> exact ⟨rfl, rfl⟩
  · rw [h.own.bare hk]; exact ⟨rfl, rfl⟩
theorem right_few {d : Nat} {x : Ex} (h : RightX d x) (hf : Few x) : (stepsW x.steps).length ≤ 4503599627370496 := by
  have h1 := stepsW_small h.own.steps
  have h2 := hf.steps
  omega
theorem steps_mono {l : List ByteArray} (q : Nat) : (stepsW (l.take q)).length ≤ (stepsW l).length := by
  have e : stepsW l = stepsW (l.take q) ++ stepsW (l.drop q) := by
    unfold stepsW
    rw [← List.flatMap_append, List.take_append_drop]
  rw [e, List.length_append]; omega
theorem hva_zero {x : Ex} (hf : Few x) : HvA x 0 (wrap64 (wrap64 (wrap64 (wrap64 (1 + (x.val.str.size : Int)) + (x.name.size : Int)) + (x.val.list.length : Int)) + (x.val.map.length : Int))) := by
  refine ⟨wrap_ok _, fun d h => ?_⟩
  obtain ⟨e1, e2⟩ := right_flat h
  have h1 := hf.str; have h2 := hf.name
  rw [e1, e2]
  have e3 : wrap64 (1 + (x.val.str.size : Int)) = 1 + (x.val.str.size : Int) := fit64 (by omega) (by omega)
  have e4 : wrap64 (1 + (x.val.str.size : Int) + (x.name.size : Int)) = 1 + (x.val.str.size : Int) + (x.name.size : Int) := fit64 (by omega) (by omega)
  rw [e3, e4]
  simp only [List.length_nil, Int.ofNat_zero, List.take_zero, Int.add_zero]
  rw [e4, e4]
  simp [stepsW]
theorem hva_next {x : Ex} {q : Nat} {h : Int} (hf : Few x) (hA : HvA x q h) (hq : q < x.steps.length) : HvA x (q + 1) (wrap64 (h + wrap64 (1 + (x.steps[q].size : Int)))) := by
  refine ⟨wrap_ok _, fun d hr => ?_⟩
  have e := hA.2 d hr
  have h1 := hf.str; have h2 := hf.name; have h3 := right_few hr hf
  have h4 := steps_mono (l := x.steps) (q + 1)
  have h5 := stepsW_takeH hq
  have e3 : wrap64 (1 + (x.steps[q].size : Int)) = 1 + (x.steps[q].size : Int) := fit64 (by omega) (by omega)
  rw [e3, fit64 (by omega) (by omega), e]
  omega
theorem hvb_zero {x : Ex} {h : Int} (hf : Few x) (hA : HvA x x.steps.length h) : HvB x 0 h := by
  refine ⟨hA.1, fun d _ hr => ?_⟩
  have e := hA.2 d hr
  rw [List.take_of_length_le (Nat.le_refl _)] at e
  have h1 := hf.str; have h2 := hf.name; have h3 := right_few hr hf
  refine ⟨by omega, by omega, fun _ => ?_⟩
  simp only [List.take_zero, List.map_nil, List.sum_nil, Nat.add_zero]
  unfold wtO
  omega
theorem hvb_sum {x : Ex} {q : Nat} {h ha : Int} (hB : HvB x q h) (hq : q < x.args.length) (ha1 : HvC x.args[q] ha) {d : Nat} (hd : d ≤ 16) (hr : RightX d x) : wrap64 (h + ha) = h + ha ∧ 0 ≤ h ∧ 0 ≤ ha ∧ h ≤ 9007199254740992 ∧ ha ≤ (d : Int) * 9007199254740992 ∧ (h + ha ≤ 4000 → ((wtO x + ((x.args.take (q + 1)).map (wtX (d - 1))).sum : Nat) : Int) ≤ h + ha) := by
  have hdp : 0 < d := hr.deep.resolve_left (fun e => by rw [e] at hq; cases hq)
  obtain ⟨b1, b2, b3⟩ := hB.2 d hd hr
  obtain ⟨c1, c2, c3⟩ := ha1 (d - 1) (by omega) (hr.args _ (List.getElem_mem hq))
  have e1 : (((d - 1 : Nat) : Int) + 1) = (d : Int) := by omega
  rw [e1] at c2
  refine ⟨fit64 (by omega) (by omega), b1, c1, b2, c2, fun hs => ?_⟩
  have b4 := b3 (by omega)
  have c4 := c3 (by omega)
  have e : x.args.take (q + 1) = x.args.take q ++ [x.args[q]] := by rw [List.take_succ_eq_append_getElem hq]
  rw [e, List.map_append, List.sum_append, List.map_cons, List.map_nil, List.sum_cons, List.sum_nil]
  omega
theorem hvb_big {x : Ex} {q : Nat} {h ha : Int} (hB : HvB x q h) (hq : q < x.args.length) (ha1 : HvC x.args[q] ha) (hb : 4000 < wrap64 (h + ha)) : HvC x (wrap64 (h + ha)) := by
  intro d hd hr
  obtain ⟨e, b1, c1, b2, c2, -⟩ := hvb_sum hB hq ha1 hd hr
  rw [e] at hb ⊢
  exact ⟨by omega, by omega, fun hc => by omega⟩
theorem hvb_next {x : Ex} {q : Nat} {h ha : Int} (hB : HvB x q h) (hq : q < x.args.length) (ha1 : HvC x.args[q] ha) (hb : ¬ 4000 < wrap64 (h + ha)) : HvB x (q + 1) (wrap64 (h + ha)) := by
  refine ⟨wrap_ok _, fun d hd hr => ?_⟩
  obtain ⟨e, b1, c1, b2, c2, s⟩ := hvb_sum hB hq ha1 hd hr
  rw [e] at hb ⊢
  exact ⟨by omega, by omega, s⟩
theorem hvb_end {x : Ex} {h : Int} (hB : HvB x x.args.length h) : HvC x h := by
  intro d hd hr
  obtain ⟨b1, b2, b3⟩ := hB.2 d hd hr
  refine ⟨b1, by omega, fun hc => ?_⟩
  have := b3 hc
  rw [List.take_of_length_le (Nat.le_refl _)] at this
  rw [wtX_step hr]
  exact this

set_option maxRecDepth 100000 in
set_option maxHeartbeats 16000000 in
theorem theavy {w : World} {S : Nat → Prop} {cs : List Value} {x : Ex} (h : RepX w S cs x) : ∀ (W : World) (deep : Int), Below w.heap.size w W → 0 ≤ deep → deep ≤ 21 → Calls Tryz.prog 15 #[.agg (List.toArray cs), .int .i64 deep] W (HeavyI x W) := by
  induction h with
  | mk k v nm st ar la lc ma mc sa sc aa ac C hk hv hn hs hsr har ha hr ih =>
  intro W deep hW hd0 hd1
  show Calls Tryz.prog 15 #[.agg #[.int .i64 k, .int .i64 v.kind, .bool v.bool, .int .i64 v.int, .string v.str, .slice la v.list.length lc, .slice ma v.map.length mc, .string nm, .slice sa st.length sc, .slice aa ar.length ac], .int .i64 deep] W _
  have hwW := hW.size
  have HS := Lib.hid (show RepS W S sa st from hs.mono (fun b hb _ => hb) (fun b o hb hlt => hW.cell hlt))
  have HA := Lib.hid (fun i (hi : i < ar.length) => show ∃ b o, aa = some ⟨b, o, none⟩ ∧ b < W.heap.size ∧ cellsAt W b (o + i * 10) (C i) from by
    obtain ⟨b, o, e, hb, hc⟩ := ha i hi
    have hlt : b < w.heap.size := by have hl := (hr i hi).len; generalize C i = cs at hc hl; cases cs with | nil => simp at hl | cons c cs => exact hc.lt
    exact ⟨b, o, e, by omega, hc.keep fun i => hW.cell hlt⟩)
  have HR := Lib.hid (fun i (hi : i < ar.length) => (hr i hi).inv)
  have HIH := Lib.hid ih
  have hn1 := har.2.2; have hn2 := hsr.2.2
  have HW := Lib.hid hW; have HV := Lib.hid hv
  have HF := Lib.hid (show Few (Ex.mk k v nm st ar) from ⟨by obtain ⟨_, _, _, _, _, _, _, h3, _⟩ := hv.inv; exact h3, hn, hsr.2.2⟩)
  clear hk hv hn hs hsr har ha hr ih hW
  have hb1 := Below.new W (.cells #[.int .i64 k, .int .i64 v.kind, .bool v.bool, .int .i64 v.int, .string v.str, .slice la v.list.length lc, .slice ma v.map.length mc, .string nm, .slice sa st.length sc, .slice aa ar.length ac] 45)
  have h1 := Blk.new W 45 #[.int .i64 k, .int .i64 v.kind, .bool v.bool, .int .i64 v.int, .string v.str, .slice la v.list.length lc, .slice ma v.map.length mc, .string nm, .slice sa st.length sc, .slice aa ar.length ac]
  obtain ⟨W1, e1⟩ : ∃ z, z = W.alloc (.cells #[.int .i64 k, .int .i64 v.kind, .bool v.bool, .int .i64 v.int, .string v.str, .slice la v.list.length lc, .slice ma v.map.length mc, .string nm, .slice sa st.length sc, .slice aa ar.length ac] 45) := ⟨_, rfl⟩
  have z1 : W1.heap.size = W.heap.size + 1 := by rw [e1]; simp
  rw [← e1] at hb1 h1
  obtain ⟨n1, en1⟩ : ∃ z, z = W.heap.size := ⟨_, rfl⟩
  rw [← en1] at h1
  have HB1 := Lib.hid hb1; have H1 := Lib.hid h1
  have E1 := Lib.hid e1; have N1 := Lib.hid en1
  clear h1 hb1 e1 z1 en1
  by_cases hdeep : 20 < deep
  · go_enter Tryz.func15, Tryz.ntmps15
    go_wp2_with fail
    go_ret
    rw [← E1.out]
    exact ⟨1048576, by unfold i64ok; omega, rfl, HB1.out, fun d _ _ => ⟨by omega, by omega, fun h => by omega⟩⟩
  · have hdp : deep ≤ 20 := by omega
    go_enter Tryz.func15, Tryz.ntmps15
    go_wp2_with fail
    rw [← E1.out, ← N1.out]
    have k1 := H1.out.cell; have f1 := H1.out.frozen; have l1 := H1.out.lt
    go_loopw [5, 34] (fun x5 x wr => ∃ (q : Nat) (h : Int), q ≤ st.length ∧ x = .int .i64 q ∧ x5 = .int .i64 h ∧ Hid (HvA (Ex.mk k v nm st ar) q h) ∧ Hid (Below W.heap.size W wr) ∧ Hid (Blk wr n1 45 #[.int .i64 k, .int .i64 v.kind, .bool v.bool, .int .i64 v.int, .string v.str, .slice la v.list.length lc, .slice ma v.map.length mc, .string nm, .slice sa st.length sc, .slice aa ar.length ac])) (fun _ x _ => st.length - (Lib.intOf x).toNat)
    case atStart => exact ⟨0, _, Nat.zero_le _, rfl, rfl, Lib.hid (hva_zero HF.out), HB1, H1⟩
    case round =>
      obtain ⟨q, h, hq, rfl, rfl, HH, HBQ, HQ1⟩ := hrel
      clear k1 f1 l1
      by_cases hlt : q < st.length
      · obtain ⟨b, bo, rfl, -, hbl, hc, -⟩ := HS.out q hlt
        have hcw : wr.cell? ⟨b, bo + q, none⟩ = some (.string st[q]) := (HBQ.out.cell (p := ⟨b, bo + q, none⟩) hbl).trans hc
        have hg0 : (0 : Int) ≤ (q : Int) := by omega
        have hg1 : (q : Int) < (st.length : Int) := by omega
        have hwk : IntKind.i64.wrap ((q : Int) + 1) = (q : Int) + 1 := wrap_fit (by omega) (by omega)
        have HN := Lib.hid (show HvA (Ex.mk k v nm st ar) (q + 1) (wrap64 (h + wrap64 (1 + (st[q].size : Int)))) from hva_next HF.out HH.out hlt)
        generalize st[q] = sq at hcw HN
        have k1 := HQ1.out.cell; have f1 := HQ1.out.frozen; have l1 := HQ1.out.lt
        have hs1 := HBQ.out.size
        have hlb : b < wr.heap.size := by omega
        clear hc
        go_wp2_with fail
        go_roundw
        case rel => exact ⟨q + 1, _, by omega, by go_num, rfl, by exact HN, HBQ, HQ1⟩
        case measure => simp [Lib.intOf]; omega
      · have hge : ¬ (q : Int) < (st.length : Int) := by omega
        have k1 := HQ1.out.cell; have f1 := HQ1.out.frozen; have l1 := HQ1.out.lt
        clear hlt
        go_wp2_with fail
        go_loopw [5, 47] (fun x5 x wr => ∃ (q : Nat) (h : Int), q ≤ ar.length ∧ x = .int .i64 q ∧ x5 = .int .i64 h ∧ Hid (HvB (Ex.mk k v nm st ar) q h) ∧ Hid (Below W.heap.size W wr) ∧ Hid (Blk wr n1 45 #[.int .i64 k, .int .i64 v.kind, .bool v.bool, .int .i64 v.int, .string v.str, .slice la v.list.length lc, .slice ma v.map.length mc, .string nm, .slice sa st.length sc, .slice aa ar.length ac])) (fun _ x _ => ar.length - (Lib.intOf x).toNat)
        case atStart => exact ⟨0, _, Nat.zero_le _, rfl, rfl, Lib.hid (hvb_zero HF.out (by have := HH.out; rw [show q = (Ex.mk k v nm st ar).steps.length from by show q = st.length; omega] at this; exact this)), HBQ, HQ1⟩
        case round =>
          obtain ⟨q, h, hq, rfl, rfl, HH, HBP, HP1⟩ := hrel
          clear k1 f1 l1
          by_cases hlt : q < ar.length
          · obtain ⟨b, bo, rfl, hbl, hcell⟩ := HA.out q hlt
            obtain ⟨lay, lcy, may, mcy, say, scy, aay, acy, hC, -⟩ := HR.out q hlt
            have hih := HIH.out q hlt
            rw [hC] at hcell hih
            obtain ⟨y, hy⟩ : ∃ z, z = ar[q] := ⟨_, rfl⟩
            rw [← hy] at hcell hih
            have hcw : cellsAt wr b (bo + q * 10) [.int .i64 y.kind, .int .i64 y.val.kind, .bool y.val.bool, .int .i64 y.val.int, .string y.val.str, .slice lay y.val.list.length lcy, .slice may y.val.map.length mcy, .string y.name, .slice say y.steps.length scy, .slice aay y.args.length acy] := hcell.keep fun i => HBP.out.cell (p := ⟨b, i, none⟩) hbl
            have hsz := HBP.out.size
            have hlb : b < wr.heap.size := by omega
            have c0 : wr.cell? ⟨b, bo + q * 10, none⟩ = some (.int .i64 y.kind) := hcw 0 _ rfl; have c1 : wr.cell? ⟨b, bo + q * 10 + 1, none⟩ = some (.int .i64 y.val.kind) := hcw 1 _ rfl; have c2 : wr.cell? ⟨b, bo + q * 10 + 2, none⟩ = some (.bool y.val.bool) := hcw 2 _ rfl; have c3 : wr.cell? ⟨b, bo + q * 10 + 3, none⟩ = some (.int .i64 y.val.int) := hcw 3 _ rfl; have c4 : wr.cell? ⟨b, bo + q * 10 + 4, none⟩ = some (.string y.val.str) := hcw 4 _ rfl; have c5 : wr.cell? ⟨b, bo + q * 10 + 5, none⟩ = some (.slice lay y.val.list.length lcy) := hcw 5 _ rfl; have c6 : wr.cell? ⟨b, bo + q * 10 + 6, none⟩ = some (.slice may y.val.map.length mcy) := hcw 6 _ rfl; have c7 : wr.cell? ⟨b, bo + q * 10 + 7, none⟩ = some (.string y.name) := hcw 7 _ rfl; have c8 : wr.cell? ⟨b, bo + q * 10 + 8, none⟩ = some (.slice say y.steps.length scy) := hcw 8 _ rfl; have c9 : wr.cell? ⟨b, bo + q * 10 + 9, none⟩ = some (.slice aay y.args.length acy) := hcw 9 _ rfl
            have hg0 : (0 : Int) ≤ (q : Int) := by omega
            have hg1 : (q : Int) < (ar.length : Int) := by omega
            have hwk : IntKind.i64.wrap ((q : Int) + 1) = (q : Int) + 1 := wrap_fit (by omega) (by omega)
            have HIHY := Lib.hid hih; have HY := Lib.hid hy
            have HAY := Lib.hid (fun ha (hx : HvC y ha) => show HvC (Ex.mk k v nm st ar).args[q] ha from by show HvC ar[q] ha; rw [← HY.out]; exact hx)
            have k1 := HP1.out.cell; have f1 := HP1.out.frozen; have l1 := HP1.out.lt
            clear hcell hcw hC hih hy
            go_upto_region 12 with fail
            have hba := Below.new wr (.cells #[.int .i64 y.kind, .int .i64 y.val.kind, .bool y.val.bool, .int .i64 y.val.int, .string y.val.str, .slice lay y.val.list.length lcy, .slice may y.val.map.length mcy, .string y.name, .slice say y.steps.length scy, .slice aay y.args.length acy] 45)
            have h5 := Blk.new wr 45 #[.int .i64 y.kind, .int .i64 y.val.kind, .bool y.val.bool, .int .i64 y.val.int, .string y.val.str, .slice lay y.val.list.length lcy, .slice may y.val.map.length mcy, .string y.name, .slice say y.steps.length scy, .slice aay y.args.length acy]
            have HBA := Lib.hid (HBP.out.alloc HBP.out.size (.cells #[.int .i64 y.kind, .int .i64 y.val.kind, .bool y.val.bool, .int .i64 y.val.int, .string y.val.str, .slice lay y.val.list.length lcy, .slice may y.val.map.length mcy, .string y.name, .slice say y.steps.length scy, .slice aay y.args.length acy] 45))
            have HPA := Lib.hid (HP1.out.keep hba)
            obtain ⟨WA, eA⟩ : ∃ z, z = wr.alloc (.cells #[.int .i64 y.kind, .int .i64 y.val.kind, .bool y.val.bool, .int .i64 y.val.int, .string y.val.str, .slice lay y.val.list.length lcy, .slice may y.val.map.length mcy, .string y.name, .slice say y.steps.length scy, .slice aay y.args.length acy] 45) := ⟨_, rfl⟩
            obtain ⟨n5, e5⟩ : ∃ z, z = wr.heap.size := ⟨_, rfl⟩
            rw [← eA] at HBA HPA h5
            rw [← e5] at h5
            rw [← eA, ← e5]
            have H5 := Lib.hid h5
            clear hba eA e5 h5 k1 f1 l1 c0 c1 c2 c3 c4 c5 c6 c7 c8 c9
            have HWA := Lib.hid (show Below w.heap.size w WA from ⟨HBA.out.os.trans HW.out.os, HBA.out.tape.trans HW.out.tape, HBA.out.output.trans HW.out.output, Nat.le_trans HW.out.size HBA.out.size, fun b hb => (HBA.out.block b (by omega)).trans (HW.out.block b hb)⟩)
            have HSS := Lib.hid (show ∀ wx, Below WA.heap.size WA wx → (fun w' => ∀ i, w'.cell? ⟨n5, i, none⟩ = (#[.int .i64 y.kind, .int .i64 y.val.kind, .bool y.val.bool, .int .i64 y.val.int, .string y.val.str, .slice lay y.val.list.length lcy, .slice may y.val.map.length mcy, .string y.name, .slice say y.steps.length scy, .slice aay y.args.length acy] : Array Value)[i]?) wx from fun wx hx => (H5.out.keep hx).cell)
            have k5 := H5.out.cell; have f5 := H5.out.frozen; have l5 := H5.out.lt
            have hwd : IntKind.i64.wrap (deep + 1) = deep + 1 := wrap_fit (by omega) (by omega)
            go_wp2_with fail
            refine (HIHY.out _ (deep + 1) HWA.out (by omega) (by omega)).mono ?_
            rintro e w8 ⟨ha, hai, rfl, hb8, hax⟩
            have HB8 := Lib.hid (Below.next HBA.out hb8); have HP8 := Lib.hid (HPA.out.keep hb8)
            have HAI := Lib.hid hai; have HAX := Lib.hid hax
            clear hb8 k5 f5 l5 hai hax
            have HBG := Lib.hid (fun hb => hvb_big HH.out hlt (HAY.out _ HAX.out) hb)
            have HNX := Lib.hid (fun hb => hvb_next HH.out hlt (HAY.out _ HAX.out) hb)
            by_cases hbig : 4000 < wrap64 (h + ha)
            · go_wp2_with fail
              go_ret
              exact ⟨_, wrap_ok _, rfl, HB8.out, HBG.out hbig⟩
            · have HNN := Lib.hid (show HvB (Ex.mk k v nm st ar) (q + 1) (wrap64 (h + ha)) from HNX.out hbig)
              go_wp2_with fail
              go_roundw
              case rel => exact ⟨q + 1, _, by omega, by go_num, rfl, HNN, HB8, HP8⟩
              case measure => simp [Lib.intOf]; omega
          · have hge : ¬ (q : Int) < (ar.length : Int) := by omega
            have k1 := HP1.out.cell; have f1 := HP1.out.frozen; have l1 := HP1.out.lt
            clear hlt
            go_wp2_with fail
            go_ret
            exact ⟨h, HH.out.1, rfl, HBP.out, hvb_end (by have := HH.out; rw [show q = (Ex.mk k v nm st ar).args.length from by show q = ar.length; omega] at this; exact this)⟩
end Go.Proofs.YtnblmhfgmehnnaaGreatDoor

/- parse's laws: the document's Name. -/
namespace Go.Proofs.YtnblmhfgmehnnaaGreatDoor
open Go.RowKit Go.Lib
attribute [local go_sem ↓] Go.wp_at_zero Go.wp_at_succ

/-- What a byte is, by its number. -/
theorem byte_class (c : UInt8) : (((c.toNat : Int) < 48 ∨ (57 < (c.toNat : Int) ∧ (c.toNat : Int) < 65) ∨ (90 < (c.toNat : Int) ∧ (c.toNat : Int) < 95) ∨ (95 < (c.toNat : Int) ∧ (c.toNat : Int) < 97) ∨ 122 < (c.toNat : Int)) ∧ npartB c = false ∧ nletB c = false) ∨ ((48 ≤ (c.toNat : Int) ∧ (c.toNat : Int) ≤ 57) ∧ npartB c = true ∧ nletB c = false) ∨ (((65 ≤ (c.toNat : Int) ∧ (c.toNat : Int) ≤ 90) ∨ (c.toNat : Int) = 95 ∨ (97 ≤ (c.toNat : Int) ∧ (c.toNat : Int) ≤ 122)) ∧ npartB c = true ∧ nletB c = true) := by
  have key : (List.range 256).all (fun n => (decide (n < 48 ∨ (57 < n ∧ n < 65) ∨ (90 < n ∧ n < 95) ∨ (95 < n ∧ n < 97) ∨ 122 < n) && (npartB (UInt8.ofNat n) == false) && (nletB (UInt8.ofNat n) == false)) || (decide (48 ≤ n ∧ n ≤ 57) && (npartB (UInt8.ofNat n) == true) && (nletB (UInt8.ofNat n) == false)) || (decide ((65 ≤ n ∧ n ≤ 90) ∨ n = 95 ∨ (97 ≤ n ∧ n ≤ 122)) && (npartB (UInt8.ofNat n) == true) && (nletB (UInt8.ofNat n) == true))) = true := by decide +kernel
  have := List.all_eq_true.1 key c.toNat (List.mem_range.2 (UInt8.toNat_lt c))
  simp only [UInt8.ofNat_toNat, Bool.or_eq_true, Bool.and_eq_true, decide_eq_true_eq, beq_iff_eq] at this
  rcases this with (⟨⟨h1, h2⟩, h3⟩ | ⟨⟨h1, h2⟩, h3⟩) | ⟨⟨h1, h2⟩, h3⟩
  · exact .inl ⟨by omega, h2, h3⟩
  · exact .inr (.inl ⟨by omega, h2, h3⟩)
  · exact .inr (.inr ⟨by omega, h2, h3⟩)
set_option maxRecDepth 100000 in
set_option maxHeartbeats 8000000 in
theorem trname (s : ByteArray) (w : World) (hs : s.size ≤ 140737488351232) : Calls Tryz.prog 21 #[.string s] w fun e w' => e = .returned (.bool (nameL s.data.toList)) ∧ w = w' := by
  obtain ⟨bb, hbb⟩ : ∃ z, z = nameL s.data.toList := ⟨_, rfl⟩
  rw [← hbb]
  have HBB := Lib.hid hbb
  clear hbb
  go_enter Tryz.func21, Tryz.ntmps21
  go_wp2_with fail
  go_loop [3] (fun x6 => ∃ q : Nat, q ≤ s.size ∧ x6 = .int .i64 q ∧ Hid ((s.data.toList.take q).all npartB = true) ∧ Hid (0 < q → ∀ h : 0 < s.size, nletB s[0] = true)) (fun x6 => s.size - (Lib.intOf x6).toNat)
  case atStart => exact ⟨0, Nat.zero_le _, rfl, Lib.hid (by simp), Lib.hid (fun h => absurd h (Nat.lt_irrefl _))⟩
  case round =>
    obtain ⟨q, hq, rfl, HA, HL⟩ := hrel
    by_cases hlt : q < s.size
    · have hlt2 : (q : Int) < s.size := by omega
      have h256 := UInt8.toNat_lt s[q]
      have hbc := byte_class s[q]
      have HA2 := Lib.hid (fun hp : npartB s[q] = true => show (s.data.toList.take (q + 1)).all npartB = true from by rw [all_take_succ (by rw [← size_list]; exact hlt), HA.out, ← byte_at hlt, hp]; rfl)
      have HB0 := Lib.hid (fun hp : npartB s[q] = false => name_bad1 hlt hp)
      have HB1 := Lib.hid (fun (h0 : q = 0) (hp : nletB s[q] = false) => show nameL s.data.toList = false from by subst h0; exact name_bad0 hlt hp)
      have HL2 := Lib.hid (fun (hp : nletB s[q] = true ∨ 0 < q) => show ∀ h : 0 < s.size, nletB s[0] = true from fun h => by
        by_cases h0 : q = 0
        · subst h0; exact hp.elim id (fun h => absurd h (Nat.lt_irrefl _))
        · exact HL.out (by omega) h)
      obtain ⟨cn, hcn⟩ : ∃ z, z = s[q].toNat := ⟨_, rfl⟩
      rcases hbc with ⟨hr, hp, hl⟩ | ⟨⟨hr, hr2⟩, hp, hl⟩ | ⟨hr, hp, hl⟩
      · have HE := Lib.hid (HB0.out hp)
        clear hp hl HA2 HB0 HB1 HL2 hcn
        have g95 : ((s[q].toNat : Int) == 95) = false := beq_eq_false_iff_ne.2 (by omega)
        by_cases h0 : q = 0
        · subst h0
          rcases hr with hr | ⟨hr, hr2⟩ | ⟨hr, hr2⟩ | ⟨hr, hr2⟩ | hr
          all_goals
            go_wp2_with fail
            all_goals first | (go_ret; exact ⟨by rw [HBB.out, HE.out]; rfl, rfl⟩) | (rename_i hx; simp at hx; omega)
        · have g0 : ((q : Int) == 0) = false := beq_eq_false_iff_ne.2 (by omega)
          clear h0
          rcases hr with hr | ⟨hr, hr2⟩ | ⟨hr, hr2⟩ | ⟨hr, hr2⟩ | hr
          all_goals
            go_wp2_with fail
            all_goals first | (go_ret; exact ⟨by rw [HBB.out, HE.out]; rfl, rfl⟩) | (rename_i hx; simp at hx; omega)
      · have g95 : ((s[q].toNat : Int) == 95) = false := beq_eq_false_iff_ne.2 (by omega)
        by_cases h0 : q = 0
        · have HE := Lib.hid (HB1.out h0 hl)
          clear hp hl HA2 HB0 HB1 HL2 hcn
          subst h0
          go_wp2_with fail
          go_ret
          exact ⟨by rw [HBB.out, HE.out]; rfl, rfl⟩
        · have HA3 := Lib.hid (HA2.out hp); have HL3 := Lib.hid (HL2.out (.inr (by omega)))
          have g0 : ((q : Int) == 0) = false := beq_eq_false_iff_ne.2 (by omega)
          clear hp hl HA2 HB0 HB1 HL2 hcn h0
          go_wp2_with fail
          go_round
          case rel => exact ⟨q + 1, by omega, by go_num, HA3, Lib.hid (fun _ => HL3.out)⟩
          case measure => simp [Lib.intOf]; omega
      · have HA3 := Lib.hid (HA2.out hp); have HL3 := Lib.hid (HL2.out (.inl hl))
        clear hp hl HA2 HB0 HB1 HL2 hcn
        rcases hr with ⟨hr, hr2⟩ | hr | ⟨hr, hr2⟩
        · go_wp2_with fail
          go_round
          case rel => exact ⟨q + 1, by omega, by go_num, HA3, Lib.hid (fun _ => HL3.out)⟩
          case measure => simp [Lib.intOf]; omega
        · have g95 : ((s[q].toNat : Int) == 95) = true := by rw [hr]; rfl
          have hr1 : 90 < (s[q].toNat : Int) := by omega
          have hr2 : (s[q].toNat : Int) < 97 := by omega
          clear hr
          go_wp2_with fail
          go_round
          case rel => exact ⟨q + 1, by omega, by go_num, HA3, Lib.hid (fun _ => HL3.out)⟩
          case measure => simp [Lib.intOf]; omega
        · go_wp2_with fail
          go_round
          case rel => exact ⟨q + 1, by omega, by go_num, HA3, Lib.hid (fun _ => HL3.out)⟩
          case measure => simp [Lib.intOf]; omega
    · obtain rfl : q = s.size := by omega
      have HE := Lib.hid (name_good (by have h9 := HA.out; rw [List.take_of_length_le (by rw [← size_list]; exact Nat.le_refl _)] at h9; exact h9) (fun h => HL.out h h))
      by_cases h0 : s.size = 0
      · have g0 : ¬ (1 : Int) ≤ s.size := by omega
        go_wp2_with fail
        go_ret
        exact ⟨by rw [HBB.out, HE.out, decide_eq_false (fun h => h h0)]; rfl, rfl⟩
      · have g0 : (1 : Int) ≤ s.size := by omega
        have HZ := Lib.hid h0
        have HD := Lib.hid (show decide ((s.size : Int) ≤ 256) = decide (s.size ≤ 256) from by rw [decide_eq_decide]; omega)
        clear h0
        go_wp2_with fail
        go_ret
        exact ⟨by rw [HBB.out, HE.out, decide_eq_true HZ.out, Bool.true_and, ← HD.out]; rfl, rfl⟩
end Go.Proofs.YtnblmhfgmehnnaaGreatDoor

/- parse's laws: the document's words. -/
namespace Go.Proofs.YtnblmhfgmehnnaaGreatDoor
open Go.RowKit Go.Lib
attribute [local go_sem ↓] Go.wp_at_zero Go.wp_at_succ

/-- None of an action's own words. -/
def freeB (s : List UInt8) : Bool := s != ifW && s != withW && s != rangeW && s != defineW && s != elseW && s != endW
set_option maxRecDepth 100000 in
theorem trword (s : ByteArray) (w : World) : Calls Tryz.prog 30 #[.string s] w fun e w' => e = .returned (.bool (wordsB s.data.toList)) ∧ w = w' := by
  by_cases c0 : s.data.toList = [116, 114, 117, 101]
  · have g0 : (s.toList == [116, 114, 117, 101]) = true := by rw [word_eq]; exact decide_eq_true c0
    have HE := Lib.hid (show wordsB s.data.toList = false from by rw [c0]; decide)
    clear c0
    go_enter Tryz.func30, Tryz.ntmps30
    go_wp2_with fail
    go_ret
    exact ⟨by rw [HE.out]; rfl, rfl⟩
  · have g0 : (s.toList == [116, 114, 117, 101]) = false := by rw [word_eq]; exact decide_eq_false c0
    by_cases c1 : s.data.toList = [102, 97, 108, 115, 101]
    · have g1 : (s.toList == [102, 97, 108, 115, 101]) = true := by rw [word_eq]; exact decide_eq_true c1
      have HE := Lib.hid (show wordsB s.data.toList = false from by rw [c1]; decide)
      clear c0 c1
      go_enter Tryz.func30, Tryz.ntmps30
      go_wp2_with fail
      go_ret
      exact ⟨by rw [HE.out]; rfl, rfl⟩
    · have g1 : (s.toList == [102, 97, 108, 115, 101]) = false := by rw [word_eq]; exact decide_eq_false c1
      by_cases c2 : s.data.toList = [110, 105, 108]
      · have g2 : (s.toList == [110, 105, 108]) = true := by rw [word_eq]; exact decide_eq_true c2
        have HE := Lib.hid (show wordsB s.data.toList = false from by rw [c2]; decide)
        clear c0 c1 c2
        go_enter Tryz.func30, Tryz.ntmps30
        go_wp2_with fail
        go_ret
        exact ⟨by rw [HE.out]; rfl, rfl⟩
      · have g2 : (s.toList == [110, 105, 108]) = false := by rw [word_eq]; exact decide_eq_false c2
        have HE := Lib.hid (show wordsB s.data.toList = true from by unfold wordsB; simp only [Bool.and_eq_true, bne_iff_ne, ne_eq]; exact ⟨⟨c0, c1⟩, c2⟩)
        clear c0 c1 c2
        go_enter Tryz.func30, Tryz.ntmps30
        go_wp2_with fail
        go_ret
        exact ⟨by rw [HE.out]; rfl, rfl⟩
set_option maxRecDepth 100000 in
theorem trfree (s : ByteArray) (w : World) : Calls Tryz.prog 31 #[.string s] w fun e w' => e = .returned (.bool (freeB s.data.toList)) ∧ w = w' := by
  by_cases c0 : s.data.toList = [105, 102]
  · have g0 : (s.toList == [105, 102]) = true := by rw [word_eq]; exact decide_eq_true c0
    have HE := Lib.hid (show freeB s.data.toList = false from by rw [c0]; decide)
    clear c0
    go_enter Tryz.func31, Tryz.ntmps31
    go_wp2_with fail
    go_ret
    exact ⟨by rw [HE.out]; rfl, rfl⟩
  · have g0 : (s.toList == [105, 102]) = false := by rw [word_eq]; exact decide_eq_false c0
    by_cases c1 : s.data.toList = [119, 105, 116, 104]
    · have g1 : (s.toList == [119, 105, 116, 104]) = true := by rw [word_eq]; exact decide_eq_true c1
      have HE := Lib.hid (show freeB s.data.toList = false from by rw [c1]; decide)
      clear c0 c1
      go_enter Tryz.func31, Tryz.ntmps31
      go_wp2_with fail
      go_ret
      exact ⟨by rw [HE.out]; rfl, rfl⟩
    · have g1 : (s.toList == [119, 105, 116, 104]) = false := by rw [word_eq]; exact decide_eq_false c1
      by_cases c2 : s.data.toList = [114, 97, 110, 103, 101]
      · have g2 : (s.toList == [114, 97, 110, 103, 101]) = true := by rw [word_eq]; exact decide_eq_true c2
        have HE := Lib.hid (show freeB s.data.toList = false from by rw [c2]; decide)
        clear c0 c1 c2
        go_enter Tryz.func31, Tryz.ntmps31
        go_wp2_with fail
        go_ret
        exact ⟨by rw [HE.out]; rfl, rfl⟩
      · have g2 : (s.toList == [114, 97, 110, 103, 101]) = false := by rw [word_eq]; exact decide_eq_false c2
        by_cases c3 : s.data.toList = [100, 101, 102, 105, 110, 101]
        · have g3 : (s.toList == [100, 101, 102, 105, 110, 101]) = true := by rw [word_eq]; exact decide_eq_true c3
          have HE := Lib.hid (show freeB s.data.toList = false from by rw [c3]; decide)
          clear c0 c1 c2 c3
          go_enter Tryz.func31, Tryz.ntmps31
          go_wp2_with fail
          go_ret
          exact ⟨by rw [HE.out]; rfl, rfl⟩
        · have g3 : (s.toList == [100, 101, 102, 105, 110, 101]) = false := by rw [word_eq]; exact decide_eq_false c3
          by_cases c4 : s.data.toList = [101, 108, 115, 101]
          · have g4 : (s.toList == [101, 108, 115, 101]) = true := by rw [word_eq]; exact decide_eq_true c4
            have HE := Lib.hid (show freeB s.data.toList = false from by rw [c4]; decide)
            clear c0 c1 c2 c3 c4
            go_enter Tryz.func31, Tryz.ntmps31
            go_wp2_with fail
            go_ret
            exact ⟨by rw [HE.out]; rfl, rfl⟩
          · have g4 : (s.toList == [101, 108, 115, 101]) = false := by rw [word_eq]; exact decide_eq_false c4
            by_cases c5 : s.data.toList = [101, 110, 100]
            · have g5 : (s.toList == [101, 110, 100]) = true := by rw [word_eq]; exact decide_eq_true c5
              have HE := Lib.hid (show freeB s.data.toList = false from by rw [c5]; decide)
              clear c0 c1 c2 c3 c4 c5
              go_enter Tryz.func31, Tryz.ntmps31
              go_wp2_with fail
              go_ret
              exact ⟨by rw [HE.out]; rfl, rfl⟩
            · have g5 : (s.toList == [101, 110, 100]) = false := by rw [word_eq]; exact decide_eq_false c5
              have HE := Lib.hid (show freeB s.data.toList = true from by unfold freeB; simp only [Bool.and_eq_true, bne_iff_ne, ne_eq]; exact ⟨⟨⟨⟨⟨c0, c1⟩, c2⟩, c3⟩, c4⟩, c5⟩)
              clear c0 c1 c2 c3 c4 c5
              go_enter Tryz.func31, Tryz.ntmps31
              go_wp2_with fail
              go_ret
              exact ⟨by rw [HE.out]; rfl, rfl⟩
end Go.Proofs.YtnblmhfgmehnnaaGreatDoor

/- The writer of nodes, plainly: the pieces of a template, in any style; what may be written. -/
namespace Go.Proofs.YtnblmhfgmehnnaaGreatDoor

/-! ### The writer -/

/-! ### What may be written -/
/-- Its calls' names are none of an action's own words. -/
inductive FreeX : Ex → Prop
  | mk (x : Ex) (ho : x.kind = 3 → freeB x.name.data.toList = true) (ha : ∀ y ∈ x.args, FreeX y) : FreeX x
section
variable {d : Nat} {top : Prop} {x : Nd}
end

/-! ### What is written may stand between braces -/
end Go.Proofs.YtnblmhfgmehnnaaGreatDoor

/- parse's laws: the document's Right. -/
namespace Go.Proofs.YtnblmhfgmehnnaaGreatDoor
open Go.RowKit Go.Lib
attribute [local go_sem ↓] Go.wp_at_zero Go.wp_at_succ

theorem emptyB {s : ByteArray} (h : s.toList = []) : s = ⟨#[]⟩ := by
  rw [ByteArray.toList_eq] at h
  exact ByteArray.ext (by simpa using h)
theorem T.zero_of {v : T} (h0 : v.kind = 0) (h1 : ¬ v.bool = true) (h2 : v.int = 0) (h3 : v.str.toList = []) (h4 : ((v.list.length : Int) + (v.map.length : Int) == 0) = true) : v = T.zero := by
  have h5 : (v.list.length : Int) + (v.map.length : Int) = 0 := by simpa using h4
  have h6 : v.list = [] := List.length_eq_zero_iff.1 (by omega)
  have h7 : v.map = [] := List.length_eq_zero_iff.1 (by omega)
  have h8 := emptyB h3
  obtain ⟨k, b, n, s, l, m⟩ := v
  simp only [T.kind, T.bool, T.int, T.str, T.list, T.map] at h0 h1 h2 h6 h7 h8
  subst h0 h2 h6 h7 h8
  cases b with
  | false => rfl
  | true => exact absurd rfl h1
/-- A literal's value. -/
def LitV (v : T) : Prop := v = T.zero ∨ (∃ b, v = tB b) ∨ (∃ n, v = tN n ∧ -9223372036854775808 ≤ n ∧ n < 9223372036854775808) ∨ (∃ s, v = tS s)
theorem lit_of {v : T} (hi : i64ok v.int) (h0 : 0 ≤ v.kind) (h3 : v.kind ≤ 3) (hb : v.kind = 1 ∨ ¬ v.bool = true) (hn : v.kind = 2 ∨ v.int = 0) (hs : v.kind = 3 ∨ v.str.toList = []) (h4 : ((v.list.length : Int) + (v.map.length : Int) == 0) = true) : LitV v := by
  have h5 : (v.list.length : Int) + (v.map.length : Int) = 0 := by simpa using h4
  have h6 : v.list = [] := List.length_eq_zero_iff.1 (by omega)
  have h7 : v.map = [] := List.length_eq_zero_iff.1 (by omega)
  unfold LitV tB tN tS T.zero
  unfold i64ok at hi
  obtain ⟨k, b, n, s, l, m⟩ := v
  simp only [T.kind, T.bool, T.int, T.str, T.list, T.map] at hi h0 h3 hb hn hs h6 h7
  subst h6 h7
  have hk : k = 0 ∨ k = 1 ∨ k = 2 ∨ k = 3 := by omega
  have eb : k ≠ 1 → b = false := fun h => by simpa using hb.resolve_left h
  have en : k ≠ 2 → n = 0 := fun h => hn.resolve_left h
  have es : k ≠ 3 → s = ⟨#[]⟩ := fun h => emptyB (hs.resolve_left h)
  rcases hk with rfl | rfl | rfl | rfl
  · exact .inl (by rw [eb (by decide), en (by decide), es (by decide)])
  · exact .inr (.inl ⟨b, by rw [en (by decide), es (by decide)]⟩)
  · exact .inr (.inr (.inl ⟨n, by rw [eb (by decide), es (by decide)], by omega, by omega⟩))
  · exact .inr (.inr (.inr ⟨s, by rw [eb (by decide), en (by decide)]⟩))
/-- A region of a function's code, by its number. -/
def rgnOf (n : Nat) : Code → Option Code
  | .region id ops dr => if id = n then some (.region id ops dr) else none
  | .seq a b => match rgnOf n a with | some c => some c | none => rgnOf n b
  | .cond _ a b => match rgnOf n a with | some c => some c | none => rgnOf n b
  | .block _ b => rgnOf n b
  | .loop b => rgnOf n b
  | .rangeFunc _ _ a b => match rgnOf n a with | some c => some c | none => rgnOf n b
  | .scope b => rgnOf n b
  | _ => none
/-- A region of Right. -/
noncomputable def rgn07 (n : Nat) : Code := (Tryz.f16.body.bind (rgnOf n)).getD .skip
set_option maxRecDepth 100000 in
set_option maxHeartbeats 16000000 in
theorem rr_bare {wr : World} {n1 : Nat} {d : Int} {k : Int} {v : T} {nm : ByteArray} {st : List ByteArray} {ar : List Ex} {la : Option Addr} {lc : Nat} {ma : Option Addr} {mc : Nat} {sa : Option Addr} {sc : Nat} {aa : Option Addr} {ac : Nat} {K9 : Act → World → Prop} {Q : Exit → Act → World → Prop} {V0 : Value}  {u3 u4 u5 u6 u7 u8 u9 u10 u11 u12 u13 u14 u15 u16 u17 u18 u19 u20 u21 u22 u23 u24 u25 u26 u27 u28 u29 u30 u31 u32 u33 u34 u35 u36 u37 u38 u39 u40 u41 u42 u43 u44 u45 u46 u47 u48 u49 u50 u51 u52 u53 u54 u55 u56 u57 u58 u59 u60 u61 u62 u63 u64 u65 u66 u67 u68 u69 u70 u71 u72 u73 u74 u75 u76 u77 u78 u79 u80 u81 u82 u83 u84 u85 u86 u87 u88 u89 u90 u91 u92 u93 u94 u95 u96 u97 u98 u99 u100 u101 u102 u103 u104 u105 u106 u107 u108 u109 u110 u111 u112 u113 u114 u115 u116 u117 u118 u119 u120 u121 u122 u123 u124 u125 u126 u127 u128 u129 u130 u131 u132 u133 u134 u135 u136 u137 u138 u139 u140 u141 u142 u143 u144 u145 u146 u147 u148 u149 u150 u151 u152 u153 u154 u155 u156 u157 u158 u159 u160 u161 u162 u163 u164 u165 u166 u167 u168 u169 u170 u171 u172 u173 u174 u175 u176 u177 u178 u179 u180 u181 u182 u183 u184 u185 u186 u187 u188 u189 u190 u191 u192 u193 u194 u195 u196 u197 u198 u199 : Value} (HB : Hid (Blk wr n1 45 #[.int .i64 k, .int .i64 v.kind, .bool v.bool, .int .i64 v.int, .string v.str, .slice la v.list.length lc, .slice ma v.map.length mc, .string nm, .slice sa st.length sc, .slice aa ar.length ac])) (hvl1 : v.list.length * 88 ≤ 140737488355328) (hvl2 : v.map.length * 104 ≤ 140737488355328)
    (hQ : ∀ (r : Bool) (v44 v45 v46 v47 v48 v49 v50 v51 v52 v53 v54 v55 v56 v57 v58 v59 v60 v61 v62 v63 v64 v65 v66 v67 v68 v69 v70 v71 v72 v73 v74 v75 v76 v77 : Value), (r = true → v = T.zero) → K9 ⟨#[V0, .int .i64 d, .pointer (some ⟨n1, 0, none⟩), u3, u4, u5, u6, .bool r, u8, u9, u10, u11, u12, u13, u14, u15, u16, u17, u18, u19, u20, u21, u22, u23, u24, u25, u26, u27, u28, u29, u30, u31, u32, u33, u34, u35, u36, u37, u38, u39, u40, u41, u42, u43, v44, v45, v46, v47, v48, v49, v50, v51, v52, v53, v54, v55, v56, v57, v58, v59, v60, v61, v62, v63, v64, v65, v66, v67, v68, v69, v70, v71, v72, v73, v74, v75, v76, v77, u78, u79, u80, u81, u82, u83, u84, u85, u86, u87, u88, u89, u90, u91, u92, u93, u94, u95, u96, u97, u98, u99, u100, u101, u102, u103, u104, u105, u106, u107, u108, u109, u110, u111, u112, u113, u114, u115, u116, u117, u118, u119, u120, u121, u122, u123, u124, u125, u126, u127, u128, u129, u130, u131, u132, u133, u134, u135, u136, u137, u138, u139, u140, u141, u142, u143, u144, u145, u146, u147, u148, u149, u150, u151, u152, u153, u154, u155, u156, u157, u158, u159, u160, u161, u162, u163, u164, u165, u166, u167, u168, u169, u170, u171, u172, u173, u174, u175, u176, u177, u178, u179, u180, u181, u182, u183, u184, u185, u186, u187, u188, u189, u190, u191, u192, u193, u194, u195, u196, u197, u198, u199], []⟩ wr) :
    Code.wp Tryz.prog (rgn07 11) (Exit.then K9 Q) ⟨#[V0, .int .i64 d, .pointer (some ⟨n1, 0, none⟩), u3, u4, u5, u6, u7, u8, u9, u10, u11, u12, u13, u14, u15, u16, u17, u18, u19, u20, u21, u22, u23, u24, u25, u26, u27, u28, u29, u30, u31, u32, u33, u34, u35, u36, u37, u38, u39, u40, u41, u42, u43, u44, u45, u46, u47, u48, u49, u50, u51, u52, u53, u54, u55, u56, u57, u58, u59, u60, u61, u62, u63, u64, u65, u66, u67, u68, u69, u70, u71, u72, u73, u74, u75, u76, u77, u78, u79, u80, u81, u82, u83, u84, u85, u86, u87, u88, u89, u90, u91, u92, u93, u94, u95, u96, u97, u98, u99, u100, u101, u102, u103, u104, u105, u106, u107, u108, u109, u110, u111, u112, u113, u114, u115, u116, u117, u118, u119, u120, u121, u122, u123, u124, u125, u126, u127, u128, u129, u130, u131, u132, u133, u134, u135, u136, u137, u138, u139, u140, u141, u142, u143, u144, u145, u146, u147, u148, u149, u150, u151, u152, u153, u154, u155, u156, u157, u158, u159, u160, u161, u162, u163, u164, u165, u166, u167, u168, u169, u170, u171, u172, u173, u174, u175, u176, u177, u178, u179, u180, u181, u182, u183, u184, u185, u186, u187, u188, u189, u190, u191, u192, u193, u194, u195, u196, u197, u198, u199], []⟩ wr := by
  have HQ := Lib.hid hQ
  clear hQ
  conv => arg 2; whnf
  have k1 := HB.out.cell; have l1 := HB.out.lt
  go_wp2_with fail
  all_goals first | (exact HQ.out false _ _ _ _ _ _ _ _ _ _ _ _ _ _ _ _ _ _ _ _ _ _ _ _ _ _ _ _ _ _ _ _ _ _ (fun h => by cases h)) | skip
  rename_i g0 g1 g2 g3
  exact HQ.out _ _ _ _ _ _ _ _ _ _ _ _ _ _ _ _ _ _ _ _ _ _ _ _ _ _ _ _ _ _ _ _ _ _ _ (fun h => T.zero_of g0 g1 g2 g3 h)
set_option maxRecDepth 100000 in
set_option maxHeartbeats 16000000 in
theorem rr_lit {wr : World} {n1 : Nat} {d : Int} {v : T} {la : Option Addr} {lc : Nat} {ma : Option Addr} {mc : Nat} {K9 : Act → World → Prop} {Q : Exit → Act → World → Prop} {V0 : Value} {n5 : Nat} {u3 u4 u5 u6 u7 u9 u10 u11 u12 u13 u14 u15 u16 u17 u18 u19 u20 u21 u22 u23 u24 u25 u26 u27 u28 u29 u30 u31 u32 u33 u34 u35 u36 u37 u38 u39 u40 u41 u42 u43 u44 u45 u46 u47 u48 u49 u50 u51 u52 u53 u54 u55 u56 u57 u58 u59 u60 u61 u62 u63 u64 u65 u66 u67 u68 u69 u70 u71 u72 u73 u74 u75 u76 u77 u78 u79 u80 u81 u82 u83 u84 u85 u86 u87 u88 u89 u90 u91 u92 u93 u94 u95 u96 u97 u98 u99 u100 u101 u102 u103 u104 u105 u106 u107 u108 u109 u110 u111 u112 u113 u114 u115 u116 u117 u118 u119 u120 u121 u122 u123 u124 u125 u126 u127 u128 u129 u130 u131 u132 u133 u134 u135 u136 u137 u138 u139 u140 u141 u142 u143 u144 u145 u146 u147 u148 u149 u150 u151 u152 u153 u154 u155 u156 u157 u158 u159 u160 u161 u162 u163 u164 u165 u166 u167 u168 u169 u170 u171 u172 u173 u174 u175 u176 u177 u178 u179 u180 u181 u182 u183 u184 u185 u186 u187 u188 u189 u190 u191 u192 u193 u194 u195 u196 u197 u198 u199 : Value} (HB : Hid (Blk wr n5 41 #[.int .i64 v.kind, .bool v.bool, .int .i64 v.int, .string v.str, .slice la v.list.length lc, .slice ma v.map.length mc])) (HVI : Hid (i64ok v.int)) (hvl1 : v.list.length * 88 ≤ 140737488355328) (hvl2 : v.map.length * 104 ≤ 140737488355328)
    (hQ : ∀ (r : Bool) (v84 v85 v86 v87 v88 v89 v90 v91 v92 v93 v94 v95 v96 v97 v98 v99 v100 v101 v102 v103 v104 v105 v106 v107 v108 v109 v110 v111 v112 v113 v114 v115 v116 v117 v118 v119 v120 v121 v122 v123 v124 v125 v126 v127 v128 v129 v130 v131 : Value), (r = true → LitV v) → K9 ⟨#[V0, .int .i64 d, .pointer (some ⟨n1, 0, none⟩), u3, u4, u5, u6, u7, .pointer (some ⟨n5, 0, none⟩), .bool r, u10, u11, u12, u13, u14, u15, u16, u17, u18, u19, u20, u21, u22, u23, u24, u25, u26, u27, u28, u29, u30, u31, u32, u33, u34, u35, u36, u37, u38, u39, u40, u41, u42, u43, u44, u45, u46, u47, u48, u49, u50, u51, u52, u53, u54, u55, u56, u57, u58, u59, u60, u61, u62, u63, u64, u65, u66, u67, u68, u69, u70, u71, u72, u73, u74, u75, u76, u77, u78, u79, u80, u81, u82, u83, v84, v85, v86, v87, v88, v89, v90, v91, v92, v93, v94, v95, v96, v97, v98, v99, v100, v101, v102, v103, v104, v105, v106, v107, v108, v109, v110, v111, v112, v113, v114, v115, v116, v117, v118, v119, v120, v121, v122, v123, v124, v125, v126, v127, v128, v129, v130, v131, u132, u133, u134, u135, u136, u137, u138, u139, u140, u141, u142, u143, u144, u145, u146, u147, u148, u149, u150, u151, u152, u153, u154, u155, u156, u157, u158, u159, u160, u161, u162, u163, u164, u165, u166, u167, u168, u169, u170, u171, u172, u173, u174, u175, u176, u177, u178, u179, u180, u181, u182, u183, u184, u185, u186, u187, u188, u189, u190, u191, u192, u193, u194, u195, u196, u197, u198, u199], []⟩ wr) :
    Code.wp Tryz.prog (rgn07 15) (Exit.then K9 Q) ⟨#[V0, .int .i64 d, .pointer (some ⟨n1, 0, none⟩), u3, u4, u5, u6, u7, .pointer (some ⟨n5, 0, none⟩), u9, u10, u11, u12, u13, u14, u15, u16, u17, u18, u19, u20, u21, u22, u23, u24, u25, u26, u27, u28, u29, u30, u31, u32, u33, u34, u35, u36, u37, u38, u39, u40, u41, u42, u43, u44, u45, u46, u47, u48, u49, u50, u51, u52, u53, u54, u55, u56, u57, u58, u59, u60, u61, u62, u63, u64, u65, u66, u67, u68, u69, u70, u71, u72, u73, u74, u75, u76, u77, u78, u79, u80, u81, u82, u83, u84, u85, u86, u87, u88, u89, u90, u91, u92, u93, u94, u95, u96, u97, u98, u99, u100, u101, u102, u103, u104, u105, u106, u107, u108, u109, u110, u111, u112, u113, u114, u115, u116, u117, u118, u119, u120, u121, u122, u123, u124, u125, u126, u127, u128, u129, u130, u131, u132, u133, u134, u135, u136, u137, u138, u139, u140, u141, u142, u143, u144, u145, u146, u147, u148, u149, u150, u151, u152, u153, u154, u155, u156, u157, u158, u159, u160, u161, u162, u163, u164, u165, u166, u167, u168, u169, u170, u171, u172, u173, u174, u175, u176, u177, u178, u179, u180, u181, u182, u183, u184, u185, u186, u187, u188, u189, u190, u191, u192, u193, u194, u195, u196, u197, u198, u199], []⟩ wr := by
  have HQ := Lib.hid hQ
  clear hQ
  conv => arg 2; whnf
  have k1 := HB.out.cell; have l1 := HB.out.lt
  go_wp2_with fail
  all_goals first | (exact HQ.out false _ _ _ _ _ _ _ _ _ _ _ _ _ _ _ _ _ _ _ _ _ _ _ _ _ _ _ _ _ _ _ _ _ _ _ _ _ _ _ _ _ _ _ _ _ _ _ _ (fun h => by cases h)) | skip
  all_goals exact HQ.out _ _ _ _ _ _ _ _ _ _ _ _ _ _ _ _ _ _ _ _ _ _ _ _ _ _ _ _ _ _ _ _ _ _ _ _ _ _ _ _ _ _ _ _ _ _ _ _ _ (fun h => lit_of HVI.out (by omega) (by omega) (by first | exact .inl (by assumption) | exact .inr (by assumption)) (by first | exact .inl (by assumption) | exact .inr (by assumption)) (by first | exact .inl (by assumption) | exact .inr (by assumption)) h)
set_option maxRecDepth 100000 in
set_option maxHeartbeats 16000000 in
theorem rr_k0 {wr : World} {n1 : Nat} {d : Int} {k : Int} {v : T} {nm : ByteArray} {st : List ByteArray} {ar : List Ex} {la : Option Addr} {lc : Nat} {ma : Option Addr} {mc : Nat} {sa : Option Addr} {sc : Nat} {aa : Option Addr} {ac : Nat} {K9 : Act → World → Prop} {Q : Exit → Act → World → Prop} {V0 : Value} {ok : Bool} {u3 u4 u5 u6 u7 u8 u10 u11 u12 u13 u14 u15 u16 u17 u18 u19 u20 u21 u22 u23 u24 u25 u26 u27 u28 u29 u30 u31 u32 u33 u34 u35 u36 u37 u38 u39 u40 u41 u42 u43 u44 u45 u46 u47 u48 u49 u50 u51 u52 u53 u54 u55 u56 u57 u58 u59 u60 u61 u62 u63 u64 u65 u66 u67 u68 u69 u70 u71 u72 u73 u74 u75 u76 u77 u78 u79 u80 u81 u82 u83 u84 u85 u86 u87 u88 u89 u90 u91 u92 u93 u94 u95 u96 u97 u98 u99 u100 u101 u102 u103 u104 u105 u106 u107 u108 u109 u110 u111 u112 u113 u114 u115 u116 u117 u118 u119 u120 u121 u122 u123 u124 u125 u126 u127 u128 u129 u130 u131 u132 u133 u134 u135 u136 u137 u138 u139 u140 u141 u142 u143 u144 u145 u146 u147 u148 u149 u150 u151 u152 u153 u154 u155 u156 u157 u158 u159 u160 u161 u162 u163 u164 u165 u166 u167 u168 u169 u170 u171 u172 u173 u174 u175 u176 u177 u178 u179 u180 u181 u182 u183 u184 u185 u186 u187 u188 u189 u190 u191 u192 u193 u194 u195 u196 u197 u198 u199 : Value} (HB : Hid (Blk wr n1 45 #[.int .i64 k, .int .i64 v.kind, .bool v.bool, .int .i64 v.int, .string v.str, .slice la v.list.length lc, .slice ma v.map.length mc, .string nm, .slice sa st.length sc, .slice aa ar.length ac])) (hn1 : ar.length * 160 ≤ 140737488355328) (hn2 : st.length * 16 ≤ 140737488355328)
    (hQ : ∀ (r : Bool) (v132 v133 v134 v135 v136 v137 v138 v139 v140 v141 v142 v143 v144 v145 v146 v147 : Value), (r = true → (ok = true ∧ nm = ⟨#[]⟩ ∧ st = [] ∧ ar = [])) → K9 ⟨#[V0, .int .i64 d, .pointer (some ⟨n1, 0, none⟩), u3, .bool r, u5, u6, u7, u8, .bool ok, u10, u11, u12, u13, u14, u15, u16, u17, u18, u19, u20, u21, u22, u23, u24, u25, u26, u27, u28, u29, u30, u31, u32, u33, u34, u35, u36, u37, u38, u39, u40, u41, u42, u43, u44, u45, u46, u47, u48, u49, u50, u51, u52, u53, u54, u55, u56, u57, u58, u59, u60, u61, u62, u63, u64, u65, u66, u67, u68, u69, u70, u71, u72, u73, u74, u75, u76, u77, u78, u79, u80, u81, u82, u83, u84, u85, u86, u87, u88, u89, u90, u91, u92, u93, u94, u95, u96, u97, u98, u99, u100, u101, u102, u103, u104, u105, u106, u107, u108, u109, u110, u111, u112, u113, u114, u115, u116, u117, u118, u119, u120, u121, u122, u123, u124, u125, u126, u127, u128, u129, u130, u131, v132, v133, v134, v135, v136, v137, v138, v139, v140, v141, v142, v143, v144, v145, v146, v147, u148, u149, u150, u151, u152, u153, u154, u155, u156, u157, u158, u159, u160, u161, u162, u163, u164, u165, u166, u167, u168, u169, u170, u171, u172, u173, u174, u175, u176, u177, u178, u179, u180, u181, u182, u183, u184, u185, u186, u187, u188, u189, u190, u191, u192, u193, u194, u195, u196, u197, u198, u199], []⟩ wr) :
    Code.wp Tryz.prog (rgn07 16) (Exit.then K9 Q) ⟨#[V0, .int .i64 d, .pointer (some ⟨n1, 0, none⟩), u3, u4, u5, u6, u7, u8, .bool ok, u10, u11, u12, u13, u14, u15, u16, u17, u18, u19, u20, u21, u22, u23, u24, u25, u26, u27, u28, u29, u30, u31, u32, u33, u34, u35, u36, u37, u38, u39, u40, u41, u42, u43, u44, u45, u46, u47, u48, u49, u50, u51, u52, u53, u54, u55, u56, u57, u58, u59, u60, u61, u62, u63, u64, u65, u66, u67, u68, u69, u70, u71, u72, u73, u74, u75, u76, u77, u78, u79, u80, u81, u82, u83, u84, u85, u86, u87, u88, u89, u90, u91, u92, u93, u94, u95, u96, u97, u98, u99, u100, u101, u102, u103, u104, u105, u106, u107, u108, u109, u110, u111, u112, u113, u114, u115, u116, u117, u118, u119, u120, u121, u122, u123, u124, u125, u126, u127, u128, u129, u130, u131, u132, u133, u134, u135, u136, u137, u138, u139, u140, u141, u142, u143, u144, u145, u146, u147, u148, u149, u150, u151, u152, u153, u154, u155, u156, u157, u158, u159, u160, u161, u162, u163, u164, u165, u166, u167, u168, u169, u170, u171, u172, u173, u174, u175, u176, u177, u178, u179, u180, u181, u182, u183, u184, u185, u186, u187, u188, u189, u190, u191, u192, u193, u194, u195, u196, u197, u198, u199], []⟩ wr := by
  have HQ := Lib.hid hQ
  clear hQ
  conv => arg 2; whnf
  have k1 := HB.out.cell; have l1 := HB.out.lt
  cases ok with
  | false =>
    go_wp2_with fail
    (exact HQ.out false _ _ _ _ _ _ _ _ _ _ _ _ _ _ _ _ (fun h => by cases h))
  | true =>
    go_wp2_with fail
    all_goals first | (exact HQ.out false _ _ _ _ _ _ _ _ _ _ _ _ _ _ _ _ (fun h => by cases h)) | skip
    rename_i g0
    exact HQ.out _ _ _ _ _ _ _ _ _ _ _ _ _ _ _ _ _ (fun h => ⟨by first | rfl | trivial, emptyB g0, by have h5 : (st.length : Int) + (ar.length : Int) = 0 := (by simpa using h); exact List.length_eq_zero_iff.1 (by omega), by have h5 : (st.length : Int) + (ar.length : Int) = 0 := (by simpa using h); exact List.length_eq_zero_iff.1 (by omega)⟩)
set_option maxRecDepth 100000 in
set_option maxHeartbeats 16000000 in
theorem rr_k1 {wr : World} {n1 : Nat} {d : Int} {k : Int} {v : T} {nm : ByteArray} {st : List ByteArray} {ar : List Ex} {la : Option Addr} {lc : Nat} {ma : Option Addr} {mc : Nat} {sa : Option Addr} {sc : Nat} {aa : Option Addr} {ac : Nat} {K9 : Act → World → Prop} {Q : Exit → Act → World → Prop} {V0 : Value} {bb : Bool} {u3 u4 u5 u6 u8 u9 u10 u11 u12 u13 u14 u15 u16 u17 u18 u19 u20 u21 u22 u23 u24 u25 u26 u27 u28 u29 u30 u31 u32 u33 u34 u35 u36 u37 u38 u39 u40 u41 u42 u43 u44 u45 u46 u47 u48 u49 u50 u51 u52 u53 u54 u55 u56 u57 u58 u59 u60 u61 u62 u63 u64 u65 u66 u67 u68 u69 u70 u71 u72 u73 u74 u75 u76 u77 u78 u79 u80 u81 u82 u83 u84 u85 u86 u87 u88 u89 u90 u91 u92 u93 u94 u95 u96 u97 u98 u99 u100 u101 u102 u103 u104 u105 u106 u107 u108 u109 u110 u111 u112 u113 u114 u115 u116 u117 u118 u119 u120 u121 u122 u123 u124 u125 u126 u127 u128 u129 u130 u131 u132 u133 u134 u135 u136 u137 u138 u139 u140 u141 u142 u143 u144 u145 u146 u147 u148 u149 u150 u151 u152 u153 u154 u155 u156 u157 u158 u159 u160 u161 u162 u163 u164 u165 u166 u167 u168 u169 u170 u171 u172 u173 u174 u175 u176 u177 u178 u179 u180 u181 u182 u183 u184 u185 u186 u187 u188 u189 u190 u191 u192 u193 u194 u195 u196 u197 u198 u199 : Value} (HB : Hid (Blk wr n1 45 #[.int .i64 k, .int .i64 v.kind, .bool v.bool, .int .i64 v.int, .string v.str, .slice la v.list.length lc, .slice ma v.map.length mc, .string nm, .slice sa st.length sc, .slice aa ar.length ac])) 
    (hQ : ∀ (r : Bool) (v150 v151 v152 v153 v154 v155 v156 v157 v158 v159 v160 v161 : Value), (r = true → (bb = true ∧ nm = ⟨#[]⟩ ∧ ar = [])) → K9 ⟨#[V0, .int .i64 d, .pointer (some ⟨n1, 0, none⟩), u3, .bool r, u5, u6, .bool bb, u8, u9, u10, u11, u12, u13, u14, u15, u16, u17, u18, u19, u20, u21, u22, u23, u24, u25, u26, u27, u28, u29, u30, u31, u32, u33, u34, u35, u36, u37, u38, u39, u40, u41, u42, u43, u44, u45, u46, u47, u48, u49, u50, u51, u52, u53, u54, u55, u56, u57, u58, u59, u60, u61, u62, u63, u64, u65, u66, u67, u68, u69, u70, u71, u72, u73, u74, u75, u76, u77, u78, u79, u80, u81, u82, u83, u84, u85, u86, u87, u88, u89, u90, u91, u92, u93, u94, u95, u96, u97, u98, u99, u100, u101, u102, u103, u104, u105, u106, u107, u108, u109, u110, u111, u112, u113, u114, u115, u116, u117, u118, u119, u120, u121, u122, u123, u124, u125, u126, u127, u128, u129, u130, u131, u132, u133, u134, u135, u136, u137, u138, u139, u140, u141, u142, u143, u144, u145, u146, u147, u148, u149, v150, v151, v152, v153, v154, v155, v156, v157, v158, v159, v160, v161, u162, u163, u164, u165, u166, u167, u168, u169, u170, u171, u172, u173, u174, u175, u176, u177, u178, u179, u180, u181, u182, u183, u184, u185, u186, u187, u188, u189, u190, u191, u192, u193, u194, u195, u196, u197, u198, u199], []⟩ wr) :
    Code.wp Tryz.prog (rgn07 18) (Exit.then K9 Q) ⟨#[V0, .int .i64 d, .pointer (some ⟨n1, 0, none⟩), u3, u4, u5, u6, .bool bb, u8, u9, u10, u11, u12, u13, u14, u15, u16, u17, u18, u19, u20, u21, u22, u23, u24, u25, u26, u27, u28, u29, u30, u31, u32, u33, u34, u35, u36, u37, u38, u39, u40, u41, u42, u43, u44, u45, u46, u47, u48, u49, u50, u51, u52, u53, u54, u55, u56, u57, u58, u59, u60, u61, u62, u63, u64, u65, u66, u67, u68, u69, u70, u71, u72, u73, u74, u75, u76, u77, u78, u79, u80, u81, u82, u83, u84, u85, u86, u87, u88, u89, u90, u91, u92, u93, u94, u95, u96, u97, u98, u99, u100, u101, u102, u103, u104, u105, u106, u107, u108, u109, u110, u111, u112, u113, u114, u115, u116, u117, u118, u119, u120, u121, u122, u123, u124, u125, u126, u127, u128, u129, u130, u131, u132, u133, u134, u135, u136, u137, u138, u139, u140, u141, u142, u143, u144, u145, u146, u147, u148, u149, u150, u151, u152, u153, u154, u155, u156, u157, u158, u159, u160, u161, u162, u163, u164, u165, u166, u167, u168, u169, u170, u171, u172, u173, u174, u175, u176, u177, u178, u179, u180, u181, u182, u183, u184, u185, u186, u187, u188, u189, u190, u191, u192, u193, u194, u195, u196, u197, u198, u199], []⟩ wr := by
  have HQ := Lib.hid hQ
  clear hQ
  conv => arg 2; whnf
  have k1 := HB.out.cell; have l1 := HB.out.lt
  cases bb with
  | false =>
    go_wp2_with fail
    (exact HQ.out false _ _ _ _ _ _ _ _ _ _ _ _ (fun h => by cases h))
  | true =>
    go_wp2_with fail
    all_goals first | (exact HQ.out false _ _ _ _ _ _ _ _ _ _ _ _ (fun h => by cases h)) | skip
    rename_i g0
    exact HQ.out _ _ _ _ _ _ _ _ _ _ _ _ _ (fun h => ⟨by first | rfl | trivial, emptyB g0, by have h5 : (ar.length : Int) = 0 := (by simpa using h); exact List.length_eq_zero_iff.1 (by omega)⟩)
set_option maxRecDepth 100000 in
set_option maxHeartbeats 16000000 in
theorem rr_k2 {wr : World} {n1 : Nat} {d : Int} {k : Int} {v : T} {nm : ByteArray} {st : List ByteArray} {ar : List Ex} {la : Option Addr} {lc : Nat} {ma : Option Addr} {mc : Nat} {sa : Option Addr} {sc : Nat} {aa : Option Addr} {ac : Nat} {K9 : Act → World → Prop} {Q : Exit → Act → World → Prop} {V0 : Value} {bb : Bool} {u3 u4 u5 u6 u8 u9 u10 u11 u12 u13 u14 u15 u16 u17 u18 u19 u20 u21 u22 u23 u24 u25 u26 u27 u28 u29 u30 u31 u32 u33 u34 u35 u36 u37 u38 u39 u40 u41 u42 u43 u44 u45 u46 u47 u48 u49 u50 u51 u52 u53 u54 u55 u56 u57 u58 u59 u60 u61 u62 u63 u64 u65 u66 u67 u68 u69 u70 u71 u72 u73 u74 u75 u76 u77 u78 u79 u80 u81 u82 u83 u84 u85 u86 u87 u88 u89 u90 u91 u92 u93 u94 u95 u96 u97 u98 u99 u100 u101 u102 u103 u104 u105 u106 u107 u108 u109 u110 u111 u112 u113 u114 u115 u116 u117 u118 u119 u120 u121 u122 u123 u124 u125 u126 u127 u128 u129 u130 u131 u132 u133 u134 u135 u136 u137 u138 u139 u140 u141 u142 u143 u144 u145 u146 u147 u148 u149 u150 u151 u152 u153 u154 u155 u156 u157 u158 u159 u160 u161 u162 u163 u164 u165 u166 u167 u168 u169 u170 u171 u172 u173 u174 u175 u176 u177 u178 u179 u180 u181 u182 u183 u184 u185 u186 u187 u188 u189 u190 u191 u192 u193 u194 u195 u196 u197 u198 u199 : Value} (HB : Hid (Blk wr n1 45 #[.int .i64 k, .int .i64 v.kind, .bool v.bool, .int .i64 v.int, .string v.str, .slice la v.list.length lc, .slice ma v.map.length mc, .string nm, .slice sa st.length sc, .slice aa ar.length ac])) (HNM : Hid (nm.size ≤ 140737488351232))
    (hQ : ∀ (r : Bool) (v164 v165 v166 v167 v168 v169 v170 v171 v172 v173 v174 v175 : Value), (r = true → (bb = true ∧ nameL nm.data.toList = true ∧ ar = [])) → K9 ⟨#[V0, .int .i64 d, .pointer (some ⟨n1, 0, none⟩), u3, .bool r, u5, u6, .bool bb, u8, u9, u10, u11, u12, u13, u14, u15, u16, u17, u18, u19, u20, u21, u22, u23, u24, u25, u26, u27, u28, u29, u30, u31, u32, u33, u34, u35, u36, u37, u38, u39, u40, u41, u42, u43, u44, u45, u46, u47, u48, u49, u50, u51, u52, u53, u54, u55, u56, u57, u58, u59, u60, u61, u62, u63, u64, u65, u66, u67, u68, u69, u70, u71, u72, u73, u74, u75, u76, u77, u78, u79, u80, u81, u82, u83, u84, u85, u86, u87, u88, u89, u90, u91, u92, u93, u94, u95, u96, u97, u98, u99, u100, u101, u102, u103, u104, u105, u106, u107, u108, u109, u110, u111, u112, u113, u114, u115, u116, u117, u118, u119, u120, u121, u122, u123, u124, u125, u126, u127, u128, u129, u130, u131, u132, u133, u134, u135, u136, u137, u138, u139, u140, u141, u142, u143, u144, u145, u146, u147, u148, u149, u150, u151, u152, u153, u154, u155, u156, u157, u158, u159, u160, u161, u162, u163, v164, v165, v166, v167, v168, v169, v170, v171, v172, v173, v174, v175, u176, u177, u178, u179, u180, u181, u182, u183, u184, u185, u186, u187, u188, u189, u190, u191, u192, u193, u194, u195, u196, u197, u198, u199], []⟩ wr) :
    Code.wp Tryz.prog (rgn07 20) (Exit.then K9 Q) ⟨#[V0, .int .i64 d, .pointer (some ⟨n1, 0, none⟩), u3, u4, u5, u6, .bool bb, u8, u9, u10, u11, u12, u13, u14, u15, u16, u17, u18, u19, u20, u21, u22, u23, u24, u25, u26, u27, u28, u29, u30, u31, u32, u33, u34, u35, u36, u37, u38, u39, u40, u41, u42, u43, u44, u45, u46, u47, u48, u49, u50, u51, u52, u53, u54, u55, u56, u57, u58, u59, u60, u61, u62, u63, u64, u65, u66, u67, u68, u69, u70, u71, u72, u73, u74, u75, u76, u77, u78, u79, u80, u81, u82, u83, u84, u85, u86, u87, u88, u89, u90, u91, u92, u93, u94, u95, u96, u97, u98, u99, u100, u101, u102, u103, u104, u105, u106, u107, u108, u109, u110, u111, u112, u113, u114, u115, u116, u117, u118, u119, u120, u121, u122, u123, u124, u125, u126, u127, u128, u129, u130, u131, u132, u133, u134, u135, u136, u137, u138, u139, u140, u141, u142, u143, u144, u145, u146, u147, u148, u149, u150, u151, u152, u153, u154, u155, u156, u157, u158, u159, u160, u161, u162, u163, u164, u165, u166, u167, u168, u169, u170, u171, u172, u173, u174, u175, u176, u177, u178, u179, u180, u181, u182, u183, u184, u185, u186, u187, u188, u189, u190, u191, u192, u193, u194, u195, u196, u197, u198, u199], []⟩ wr := by
  have HQ := Lib.hid hQ
  clear hQ
  conv => arg 2; whnf
  have k1 := HB.out.cell; have l1 := HB.out.lt
  cases bb with
  | false =>
    go_wp2_with fail
    (exact HQ.out false _ _ _ _ _ _ _ _ _ _ _ _ (fun h => by cases h))
  | true =>
    go_wp2_with fail
    refine (trname nm _ HNM.out).mono ?_
    rintro e w' ⟨rfl, rfl⟩
    by_cases hb : nameL nm.data.toList = true
    · rw [hb]
      have HN := Lib.hid hb
      clear hb
      go_wp2_with fail
      exact HQ.out _ _ _ _ _ _ _ _ _ _ _ _ _ (fun h => ⟨by first | rfl | trivial, HN.out, by have h5 : (ar.length : Int) = 0 := (by simpa using h); exact List.length_eq_zero_iff.1 (by omega)⟩)
    · have hb : nameL nm.data.toList = false := by simpa using hb
      rw [hb]
      clear hb
      go_wp2_with fail
      (exact HQ.out false _ _ _ _ _ _ _ _ _ _ _ _ (fun h => by cases h))
set_option maxRecDepth 100000 in
set_option maxHeartbeats 16000000 in
theorem rr_k3 {wr : World} {n1 : Nat} {d : Int} {k : Int} {v : T} {nm : ByteArray} {st : List ByteArray} {ar : List Ex} {la : Option Addr} {lc : Nat} {ma : Option Addr} {mc : Nat} {sa : Option Addr} {sc : Nat} {aa : Option Addr} {ac : Nat} {K9 : Act → World → Prop} {Q : Exit → Act → World → Prop} {V0 : Value} {bb : Bool} {u3 u4 u5 u6 u8 u9 u10 u11 u12 u13 u14 u15 u16 u17 u18 u19 u20 u21 u22 u23 u24 u25 u26 u27 u28 u29 u30 u31 u32 u33 u34 u35 u36 u37 u38 u39 u40 u41 u42 u43 u44 u45 u46 u47 u48 u49 u50 u51 u52 u53 u54 u55 u56 u57 u58 u59 u60 u61 u62 u63 u64 u65 u66 u67 u68 u69 u70 u71 u72 u73 u74 u75 u76 u77 u78 u79 u80 u81 u82 u83 u84 u85 u86 u87 u88 u89 u90 u91 u92 u93 u94 u95 u96 u97 u98 u99 u100 u101 u102 u103 u104 u105 u106 u107 u108 u109 u110 u111 u112 u113 u114 u115 u116 u117 u118 u119 u120 u121 u122 u123 u124 u125 u126 u127 u128 u129 u130 u131 u132 u133 u134 u135 u136 u137 u138 u139 u140 u141 u142 u143 u144 u145 u146 u147 u148 u149 u150 u151 u152 u153 u154 u155 u156 u157 u158 u159 u160 u161 u162 u163 u164 u165 u166 u167 u168 u169 u170 u171 u172 u173 u174 u175 u176 u177 u178 u179 u180 u181 u182 u183 u184 u185 u186 u187 u188 u189 u190 u191 u192 u193 u194 u195 u196 u197 u198 u199 : Value} (HB : Hid (Blk wr n1 45 #[.int .i64 k, .int .i64 v.kind, .bool v.bool, .int .i64 v.int, .string v.str, .slice la v.list.length lc, .slice ma v.map.length mc, .string nm, .slice sa st.length sc, .slice aa ar.length ac])) (HNM : Hid (nm.size ≤ 140737488351232))
    (hQ : ∀ (r : Bool) (v178 v179 v180 v181 v182 v183 v184 v185 v186 v187 v188 v189 v190 v191 v192 v193 v194 v195 v196 v197 v198 v199 : Value), (r = true → (bb = true ∧ nameL nm.data.toList = true ∧ wordsB nm.data.toList = true ∧ freeB nm.data.toList = true ∧ st = [])) → K9 ⟨#[V0, .int .i64 d, .pointer (some ⟨n1, 0, none⟩), u3, .bool r, u5, u6, .bool bb, u8, u9, u10, u11, u12, u13, u14, u15, u16, u17, u18, u19, u20, u21, u22, u23, u24, u25, u26, u27, u28, u29, u30, u31, u32, u33, u34, u35, u36, u37, u38, u39, u40, u41, u42, u43, u44, u45, u46, u47, u48, u49, u50, u51, u52, u53, u54, u55, u56, u57, u58, u59, u60, u61, u62, u63, u64, u65, u66, u67, u68, u69, u70, u71, u72, u73, u74, u75, u76, u77, u78, u79, u80, u81, u82, u83, u84, u85, u86, u87, u88, u89, u90, u91, u92, u93, u94, u95, u96, u97, u98, u99, u100, u101, u102, u103, u104, u105, u106, u107, u108, u109, u110, u111, u112, u113, u114, u115, u116, u117, u118, u119, u120, u121, u122, u123, u124, u125, u126, u127, u128, u129, u130, u131, u132, u133, u134, u135, u136, u137, u138, u139, u140, u141, u142, u143, u144, u145, u146, u147, u148, u149, u150, u151, u152, u153, u154, u155, u156, u157, u158, u159, u160, u161, u162, u163, u164, u165, u166, u167, u168, u169, u170, u171, u172, u173, u174, u175, u176, u177, v178, v179, v180, v181, v182, v183, v184, v185, v186, v187, v188, v189, v190, v191, v192, v193, v194, v195, v196, v197, v198, v199], []⟩ wr) :
    Code.wp Tryz.prog (rgn07 22) (Exit.then K9 Q) ⟨#[V0, .int .i64 d, .pointer (some ⟨n1, 0, none⟩), u3, u4, u5, u6, .bool bb, u8, u9, u10, u11, u12, u13, u14, u15, u16, u17, u18, u19, u20, u21, u22, u23, u24, u25, u26, u27, u28, u29, u30, u31, u32, u33, u34, u35, u36, u37, u38, u39, u40, u41, u42, u43, u44, u45, u46, u47, u48, u49, u50, u51, u52, u53, u54, u55, u56, u57, u58, u59, u60, u61, u62, u63, u64, u65, u66, u67, u68, u69, u70, u71, u72, u73, u74, u75, u76, u77, u78, u79, u80, u81, u82, u83, u84, u85, u86, u87, u88, u89, u90, u91, u92, u93, u94, u95, u96, u97, u98, u99, u100, u101, u102, u103, u104, u105, u106, u107, u108, u109, u110, u111, u112, u113, u114, u115, u116, u117, u118, u119, u120, u121, u122, u123, u124, u125, u126, u127, u128, u129, u130, u131, u132, u133, u134, u135, u136, u137, u138, u139, u140, u141, u142, u143, u144, u145, u146, u147, u148, u149, u150, u151, u152, u153, u154, u155, u156, u157, u158, u159, u160, u161, u162, u163, u164, u165, u166, u167, u168, u169, u170, u171, u172, u173, u174, u175, u176, u177, u178, u179, u180, u181, u182, u183, u184, u185, u186, u187, u188, u189, u190, u191, u192, u193, u194, u195, u196, u197, u198, u199], []⟩ wr := by
  have HQ := Lib.hid hQ
  clear hQ
  conv => arg 2; whnf
  have k1 := HB.out.cell; have l1 := HB.out.lt
  cases bb with
  | false =>
    go_wp2_with fail
    (exact HQ.out false _ _ _ _ _ _ _ _ _ _ _ _ _ _ _ _ _ _ _ _ _ _ (fun h => by cases h))
  | true =>
    go_wp2_with fail
    refine (trname nm _ HNM.out).mono ?_
    rintro e w' ⟨rfl, rfl⟩
    by_cases hb : nameL nm.data.toList = true
    · rw [hb]
      have HN := Lib.hid hb
      clear hb
      go_wp2_with fail
      refine (trword nm _).mono ?_
      rintro e w' ⟨rfl, rfl⟩
      by_cases hb : wordsB nm.data.toList = true
      · rw [hb]
        have HN2 := Lib.hid hb
        clear hb
        go_wp2_with fail
        refine (trfree nm _).mono ?_
        rintro e w' ⟨rfl, rfl⟩
        by_cases hb : freeB nm.data.toList = true
        · rw [hb]
          have HN3 := Lib.hid hb
          clear hb
          go_wp2_with fail
          exact HQ.out _ _ _ _ _ _ _ _ _ _ _ _ _ _ _ _ _ _ _ _ _ _ _ (fun h => ⟨by first | rfl | trivial, HN.out, HN2.out, HN3.out, by have h5 : (st.length : Int) = 0 := (by simpa using h); exact List.length_eq_zero_iff.1 (by omega)⟩)
        · have hb : freeB nm.data.toList = false := by simpa using hb
          rw [hb]
          clear hb
          go_wp2_with fail
          (exact HQ.out false _ _ _ _ _ _ _ _ _ _ _ _ _ _ _ _ _ _ _ _ _ _ (fun h => by cases h))
      · have hb : wordsB nm.data.toList = false := by simpa using hb
        rw [hb]
        clear hb
        go_wp2_with fail
        (exact HQ.out false _ _ _ _ _ _ _ _ _ _ _ _ _ _ _ _ _ _ _ _ _ _ (fun h => by cases h))
    · have hb : nameL nm.data.toList = false := by simpa using hb
      rw [hb]
      clear hb
      go_wp2_with fail
      (exact HQ.out false _ _ _ _ _ _ _ _ _ _ _ _ _ _ _ _ _ _ _ _ _ _ (fun h => by cases h))
/-- What Right answers: if yes, the expression may be. -/
def RightI (x : Ex) (d : Nat) (W : World) (e : Ending) (w' : World) : Prop := ∃ r : Bool, e = .returned (.bool r) ∧ Below W.heap.size W w' ∧ (r = true → RightX d x ∧ FreeX x)

section
variable {d : Nat} {k : Int} {v : T} {nm : ByteArray} {st : List ByteArray} {ar : List Ex}
theorem right_mk0 (hk : k = 0) (hv : LitV v) (hn : nm = ⟨#[]⟩) (hs : st = []) (ha : ar = []) : RightX d (.mk k v nm st ar) ∧ FreeX (.mk k v nm st ar) := by
  subst hk hn hs ha
  exact ⟨.mk _ _ ⟨.inl rfl, fun s hs => absurd hs (by simp [Ex.steps]), fun _ => ⟨hv, rfl, rfl, rfl⟩, fun h => absurd rfl h, fun h => absurd (show (0 : Int) = 1 from h) (by decide), fun h => absurd (show (0 : Int) = 2 from h) (by decide), fun h => absurd (show (0 : Int) = 3 from h) (by decide)⟩ (.inl rfl) (fun y hy => absurd hy (by simp [Ex.args])), .mk _ (fun h => absurd (show (0 : Int) = 3 from h) (by decide)) (fun y hy => absurd hy (by simp [Ex.args]))⟩
theorem right_mk1 (hk : k = 1) (hv : v = T.zero) (hn : nm = ⟨#[]⟩) (hs : ∀ s ∈ st, nameL s.data.toList = true) (ha : ar = []) : RightX d (.mk k v nm st ar) ∧ FreeX (.mk k v nm st ar) := by
  subst hk hv hn ha
  exact ⟨.mk _ _ ⟨.inr (.inl rfl), hs, fun h => absurd (show (1 : Int) = 0 from h) (by decide), fun _ => rfl, fun _ => ⟨rfl, rfl⟩, fun h => absurd (show (1 : Int) = 2 from h) (by decide), fun h => absurd (show (1 : Int) = 3 from h) (by decide)⟩ (.inl rfl) (fun y hy => absurd hy (by simp [Ex.args])), .mk _ (fun h => absurd (show (1 : Int) = 3 from h) (by decide)) (fun y hy => absurd hy (by simp [Ex.args]))⟩
theorem right_mk2 (hk : k = 2) (hv : v = T.zero) (hn : nameL nm.data.toList = true) (hs : ∀ s ∈ st, nameL s.data.toList = true) (ha : ar = []) : RightX d (.mk k v nm st ar) ∧ FreeX (.mk k v nm st ar) := by
  subst hk hv ha
  exact ⟨.mk _ _ ⟨.inr (.inr (.inl rfl)), hs, fun h => absurd (show (2 : Int) = 0 from h) (by decide), fun _ => rfl, fun h => absurd (show (2 : Int) = 1 from h) (by decide), fun _ => ⟨hn, rfl⟩, fun h => absurd (show (2 : Int) = 3 from h) (by decide)⟩ (.inl rfl) (fun y hy => absurd hy (by simp [Ex.args])), .mk _ (fun h => absurd (show (2 : Int) = 3 from h) (by decide)) (fun y hy => absurd hy (by simp [Ex.args]))⟩
theorem right_mk3 (hk : k = 3) (hv : v = T.zero) (hn : nameL nm.data.toList = true) (hw : wordsB nm.data.toList = true) (hf : freeB nm.data.toList = true) (hs : st = []) (ha : (∀ y ∈ ar, RightX (d - 1) y ∧ FreeX y) ∧ (ar = [] ∨ 0 < d)) : RightX d (.mk k v nm st ar) ∧ FreeX (.mk k v nm st ar) := by
  subst hk hv hs
  exact ⟨.mk _ _ ⟨.inr (.inr (.inr rfl)), fun s hs => absurd hs (by simp [Ex.steps]), fun h => absurd (show (3 : Int) = 0 from h) (by decide), fun _ => rfl, fun h => absurd (show (3 : Int) = 1 from h) (by decide), fun h => absurd (show (3 : Int) = 2 from h) (by decide), fun _ => ⟨hn, hw, rfl⟩⟩ ha.2 (fun y hy => (ha.1 y hy).1), .mk _ (fun _ => hf) (fun y hy => (ha.1 y hy).2)⟩
end
set_option maxRecDepth 100000 in
set_option maxHeartbeats 16000000 in
theorem rright7 {w : World} {S : Nat → Prop} {cs : List Value} {x : Ex} (h : RepX w S cs x) : ∀ (W : World) (d : Nat), Below w.heap.size w W → d ≤ 16 → Calls Tryz.prog 16 #[.agg (List.toArray cs), .int .i64 d] W (RightI x d W) := by
  induction h with
  | mk k v nm st ar la lc ma mc sa sc aa ac C hk hv hn hs hsr har ha hr ih =>
  intro W d hW hd16
  show Calls Tryz.prog 16 #[.agg #[.int .i64 k, .int .i64 v.kind, .bool v.bool, .int .i64 v.int, .string v.str, .slice la v.list.length lc, .slice ma v.map.length mc, .string nm, .slice sa st.length sc, .slice aa ar.length ac], .int .i64 d] W _
  have hwW := hW.size
  have HS := Lib.hid (show RepS W S sa st from hs.mono (fun b hb _ => hb) (fun b o hb hlt => hW.cell hlt))
  have HA := Lib.hid (fun i (hi : i < ar.length) => show ∃ b o, aa = some ⟨b, o, none⟩ ∧ b < W.heap.size ∧ cellsAt W b (o + i * 10) (C i) from by
    obtain ⟨b, o, e, hb, hc⟩ := ha i hi
    have hlt : b < w.heap.size := by have hl := (hr i hi).len; generalize C i = cs at hc hl; cases cs with | nil => simp at hl | cons c cs => exact hc.lt
    exact ⟨b, o, e, by omega, hc.keep fun i => hW.cell hlt⟩)
  have HR := Lib.hid (fun i (hi : i < ar.length) => (hr i hi).inv)
  have HIH := Lib.hid ih
  have hn1 := har.2.2; have hn2 := hsr.2.2
  have hvl : v.list.length * 88 ≤ 140737488355328 ∧ v.map.length * 104 ≤ 140737488355328 ∧ i64ok v.int := by obtain ⟨_, _, _, _, _, _, h2, h3, h4, h5, _⟩ := hv.inv; exact ⟨h4, h5, h2⟩
  have HVI := Lib.hid hvl.2.2
  have hvl1 := hvl.1; have hvl2 := hvl.2.1
  have HW := Lib.hid hW; have HV := Lib.hid hv
  have HNM := Lib.hid hn
  clear hk hv hn hs hsr har ha hr ih hW hvl
  have hb1 := Below.new W (.cells #[.int .i64 k, .int .i64 v.kind, .bool v.bool, .int .i64 v.int, .string v.str, .slice la v.list.length lc, .slice ma v.map.length mc, .string nm, .slice sa st.length sc, .slice aa ar.length ac] 45)
  have h1 := Blk.new W 45 #[.int .i64 k, .int .i64 v.kind, .bool v.bool, .int .i64 v.int, .string v.str, .slice la v.list.length lc, .slice ma v.map.length mc, .string nm, .slice sa st.length sc, .slice aa ar.length ac]
  obtain ⟨W1, e1⟩ : ∃ z, z = W.alloc (.cells #[.int .i64 k, .int .i64 v.kind, .bool v.bool, .int .i64 v.int, .string v.str, .slice la v.list.length lc, .slice ma v.map.length mc, .string nm, .slice sa st.length sc, .slice aa ar.length ac] 45) := ⟨_, rfl⟩
  rw [← e1] at hb1 h1
  obtain ⟨n1, en1⟩ : ∃ z, z = W.heap.size := ⟨_, rfl⟩
  rw [← en1] at h1
  have HB1 := Lib.hid hb1; have H1 := Lib.hid h1
  have E1 := Lib.hid e1; have N1 := Lib.hid en1
  clear h1 hb1 e1 en1
  go_enter Tryz.func16, Tryz.ntmps16
  go_wp2_with fail
  rw [← E1.out, ← N1.out]
  generalize Value.agg #[.int .i64 k, .int .i64 v.kind, .bool v.bool, .int .i64 v.int, .string v.str, .slice la v.list.length lc, .slice ma v.map.length mc, .string nm, .slice sa st.length sc, .slice aa ar.length ac] = V0
  have k1 := H1.out.cell; have f1 := H1.out.frozen; have l1 := H1.out.lt
  go_loopw [5] (fun x5 wr => ∃ q : Nat, q ≤ st.length ∧ x5 = .int .i64 q ∧ Hid (∀ j (h2 : j < st.length), j < q → nameL st[j].data.toList = true) ∧ wr = W1) (fun x5 _ => st.length - (Lib.intOf x5).toNat)
  case atStart => exact ⟨0, Nat.zero_le _, rfl, Lib.hid (fun j _ h => absurd h (Nat.not_lt_zero _)), rfl⟩
  case round =>
    obtain ⟨q, hq, rfl, HST, rfl⟩ := hrel
    by_cases hlt : q < st.length
    · obtain ⟨b, bo, rfl, -, hbl, hc, hz⟩ := HS.out q hlt
      have hcw : wr.cell? ⟨b, bo + q, none⟩ = some (.string st[q]) := (HB1.out.cell (p := ⟨b, bo + q, none⟩) hbl).trans hc
      have hg0 : (0 : Int) ≤ (q : Int) := by omega
      have hg1 : (q : Int) < (st.length : Int) := by omega
      have hwk : IntKind.i64.wrap ((q : Int) + 1) = (q : Int) + 1 := wrap_fit (by omega) (by omega)
      have HNX := Lib.hid (fun (hb : nameL st[q].data.toList = true) => show ∀ j (h2 : j < st.length), j < q + 1 → nameL st[j].data.toList = true from fun j h2 h3 => by
        rcases Nat.lt_or_ge j q with h | h
        · exact HST.out j h2 h
        · obtain rfl : j = q := by omega
          exact hb)
      obtain ⟨sq, hsq⟩ : ∃ z, z = st[q] := ⟨_, rfl⟩
      rw [← hsq] at hcw HNX hz
      have CN := Lib.hid (trname sq wr hz)
      have hs1 := HB1.out.size
      have hlb : b < wr.heap.size := by omega
      clear hc hsq hz
      go_wp2_with fail
      refine CN.out.mono ?_
      rintro e w' ⟨rfl, rfl⟩
      by_cases hb : nameL sq.data.toList = true
      · rw [hb]
        have HN := Lib.hid (HNX.out hb)
        clear hb
        go_wp2_with fail
        go_roundw
        case rel => exact ⟨q + 1, by omega, by go_num, HN, trivial⟩
        case measure => simp [Lib.intOf]; omega
      · have hb : nameL sq.data.toList = false := by simpa using hb
        rw [hb]
        clear hb
        go_wp2_with fail
        go_ret
        exact ⟨false, rfl, HB1.out, fun h => by cases h⟩
    · have hge : ¬ (q : Int) < (st.length : Int) := by omega
      have HSA := Lib.hid (show ∀ s ∈ st, nameL s.data.toList = true from fun s hs => by
        obtain ⟨j, hj, rfl⟩ := List.getElem_of_mem hs
        exact HST.out j hj (by omega))
      clear hlt
      go_wp2_with fail
      go_loopw [6] (fun x6 wr => ∃ q : Nat, q ≤ ar.length ∧ x6 = .int .i64 q ∧ Hid (∀ j (h2 : j < ar.length), j < q → 0 < d ∧ RightX (d - 1) ar[j] ∧ FreeX ar[j]) ∧ Hid (Below W.heap.size W wr) ∧ Hid (Blk wr n1 45 #[.int .i64 k, .int .i64 v.kind, .bool v.bool, .int .i64 v.int, .string v.str, .slice la v.list.length lc, .slice ma v.map.length mc, .string nm, .slice sa st.length sc, .slice aa ar.length ac])) (fun x6 _ => ar.length - (Lib.intOf x6).toNat)
      case atStart => exact ⟨0, Nat.zero_le _, rfl, Lib.hid (fun j _ h => absurd h (Nat.not_lt_zero _)), HB1, H1⟩
      case round =>
        obtain ⟨q, hq, rfl, HAR, HBP, HP1⟩ := hrel
        clear k1 f1 l1
        by_cases hlt : q < ar.length
        · by_cases hd0 : d = 0
          · subst hd0
            have k1 := HP1.out.cell; have l1 := HP1.out.lt
            go_wp2_with fail
            go_ret
            exact ⟨false, rfl, HBP.out, fun h => by cases h⟩
          · have hdp : ¬ (d : Int) ≤ 0 := by omega
            obtain ⟨b, bo, rfl, hbl, hcell⟩ := HA.out q hlt
            obtain ⟨lay, lcy, may, mcy, say, scy, aay, acy, hC, -⟩ := HR.out q hlt
            have hih := HIH.out q hlt
            rw [hC] at hcell hih
            have HNX := Lib.hid (fun (hb : RightX (d - 1) ar[q] ∧ FreeX ar[q]) => show ∀ j (h2 : j < ar.length), j < q + 1 → 0 < d ∧ RightX (d - 1) ar[j] ∧ FreeX ar[j] from fun j h2 h3 => by
              rcases Nat.lt_or_ge j q with h | h
              · exact HAR.out j h2 h
              · obtain rfl : j = q := by omega
                exact ⟨by omega, hb⟩)
            obtain ⟨y, hy⟩ : ∃ z, z = ar[q] := ⟨_, rfl⟩
            rw [← hy] at hcell hih HNX
            have hcw : cellsAt wr b (bo + q * 10) [.int .i64 y.kind, .int .i64 y.val.kind, .bool y.val.bool, .int .i64 y.val.int, .string y.val.str, .slice lay y.val.list.length lcy, .slice may y.val.map.length mcy, .string y.name, .slice say y.steps.length scy, .slice aay y.args.length acy] := hcell.keep fun i => HBP.out.cell (p := ⟨b, i, none⟩) hbl
            have hsz := HBP.out.size
            have hlb : b < wr.heap.size := by omega
            have c0 : wr.cell? ⟨b, bo + q * 10, none⟩ = some (.int .i64 y.kind) := hcw 0 _ rfl; have c1 : wr.cell? ⟨b, bo + q * 10 + 1, none⟩ = some (.int .i64 y.val.kind) := hcw 1 _ rfl; have c2 : wr.cell? ⟨b, bo + q * 10 + 2, none⟩ = some (.bool y.val.bool) := hcw 2 _ rfl; have c3 : wr.cell? ⟨b, bo + q * 10 + 3, none⟩ = some (.int .i64 y.val.int) := hcw 3 _ rfl; have c4 : wr.cell? ⟨b, bo + q * 10 + 4, none⟩ = some (.string y.val.str) := hcw 4 _ rfl; have c5 : wr.cell? ⟨b, bo + q * 10 + 5, none⟩ = some (.slice lay y.val.list.length lcy) := hcw 5 _ rfl; have c6 : wr.cell? ⟨b, bo + q * 10 + 6, none⟩ = some (.slice may y.val.map.length mcy) := hcw 6 _ rfl; have c7 : wr.cell? ⟨b, bo + q * 10 + 7, none⟩ = some (.string y.name) := hcw 7 _ rfl; have c8 : wr.cell? ⟨b, bo + q * 10 + 8, none⟩ = some (.slice say y.steps.length scy) := hcw 8 _ rfl; have c9 : wr.cell? ⟨b, bo + q * 10 + 9, none⟩ = some (.slice aay y.args.length acy) := hcw 9 _ rfl
            have hg0 : (0 : Int) ≤ (q : Int) := by omega
            have hg1 : (q : Int) < (ar.length : Int) := by omega
            have hwk : IntKind.i64.wrap ((q : Int) + 1) = (q : Int) + 1 := wrap_fit (by omega) (by omega)
            have hwd : IntKind.i64.wrap ((d : Int) - 1) = ((d - 1 : Nat) : Int) := by rw [wrap_fit (by omega) (by omega)]; omega
            have HIHY := Lib.hid hih
            have HWR := Lib.hid (show Below w.heap.size w wr from ⟨HBP.out.os.trans HW.out.os, HBP.out.tape.trans HW.out.tape, HBP.out.output.trans HW.out.output, Nat.le_trans HW.out.size HBP.out.size, fun b hb => (HBP.out.block b (by omega)).trans (HW.out.block b hb)⟩)
            have k1 := HP1.out.cell; have f1 := HP1.out.frozen; have l1 := HP1.out.lt
            clear hcell hcw hC hih hy
            go_wp2_with fail
            refine (HIHY.out _ (d - 1) HWR.out (by omega)).mono ?_
            rintro e w8 ⟨r, rfl, hb8, hr⟩
            have HB8 := Lib.hid (Below.next HBP.out hb8); have HP8 := Lib.hid (HP1.out.keep hb8)
            clear hb8 k1 f1 l1 c0 c1 c2 c3 c4 c5 c6 c7 c8 c9
            cases r with
            | false =>
              clear hr
              go_wp2_with fail
              go_ret
              exact ⟨false, rfl, HB8.out, fun h => by cases h⟩
            | true =>
              have HN := Lib.hid (HNX.out (hr rfl))
              clear hr
              go_wp2_with fail
              go_roundw
              case rel => exact ⟨q + 1, by omega, by go_num, HN, HB8, HP8⟩
              case measure => simp [Lib.intOf]; omega
        · have hge : ¬ (q : Int) < (ar.length : Int) := by omega
          have HAA := Lib.hid (show (∀ y ∈ ar, RightX (d - 1) y ∧ FreeX y) ∧ (ar = [] ∨ 0 < d) from ⟨fun y hy => by
            obtain ⟨j, hj, rfl⟩ := List.getElem_of_mem hy
            exact (HAR.out j hj (by omega)).2, by
            rcases Nat.eq_zero_or_pos ar.length with h | h
            · exact .inl (List.length_eq_zero_iff.1 h)
            · exact .inr (HAR.out 0 h (by omega)).1⟩)
          have k1 := HP1.out.cell; have f1 := HP1.out.frozen; have l1 := HP1.out.lt
          clear hlt
          go_upto_region 11 with fail
          refine rr_bare HP1 hvl1 hvl2 (fun bb _ _ _ _ _ _ _ _ _ _ _ _ _ _ _ _ _ _ _ _ _ _ _ _ _ _ _ _ _ _ _ _ _ _ hbb => ?_)
          have HBB := Lib.hid hbb
          clear hbb
          by_cases hk0 : k = 0
          · have g0 : (k == 0) = true := by rw [hk0]; rfl
            have HK := Lib.hid hk0
            clear hk0
            go_upto_region 15 with fail
            have HBA := Lib.hid (HBP.out.alloc HBP.out.size (.cells #[.int .i64 v.kind, .bool v.bool, .int .i64 v.int, .string v.str, .slice la v.list.length lc, .slice ma v.map.length mc] 41))
            have HPA := Lib.hid (HP1.out.keep (Below.new wr (.cells #[.int .i64 v.kind, .bool v.bool, .int .i64 v.int, .string v.str, .slice la v.list.length lc, .slice ma v.map.length mc] 41)))
            have H5 := Lib.hid (Blk.new wr 41 #[.int .i64 v.kind, .bool v.bool, .int .i64 v.int, .string v.str, .slice la v.list.length lc, .slice ma v.map.length mc])
            obtain ⟨WA, eA⟩ : ∃ z, z = wr.alloc (.cells #[.int .i64 v.kind, .bool v.bool, .int .i64 v.int, .string v.str, .slice la v.list.length lc, .slice ma v.map.length mc] 41) := ⟨_, rfl⟩
            obtain ⟨n5, e5⟩ : ∃ z, z = wr.heap.size := ⟨_, rfl⟩
            rw [← eA] at HBA HPA H5
            rw [← e5] at H5
            rw [← eA, ← e5]
            clear eA e5 k1 f1 l1
            refine rr_lit H5 HVI hvl1 hvl2 (fun ok _ _ _ _ _ _ _ _ _ _ _ _ _ _ _ _ _ _ _ _ _ _ _ _ _ _ _ _ _ _ _ _ _ _ _ _ _ _ _ _ _ _ _ _ _ _ _ _ hok => ?_)
            have HOK := Lib.hid hok
            clear hok H5
            go_upto_region 16 with fail
            refine rr_k0 HPA hn1 hn2 (fun r _ _ _ _ _ _ _ _ _ _ _ _ _ _ _ _ hr => ?_)
            have HRR := Lib.hid hr
            clear hr
            go_wp2_with fail
            go_ret
            refine ⟨r, rfl, HBA.out, fun h => ?_⟩
            obtain ⟨r1, r2, r3, r4⟩ := HRR.out h
            exact right_mk0 HK.out (HOK.out r1) r2 r3 r4
          have g0 : (k == 0) = false := beq_eq_false_iff_ne.2 hk0
          have HK0 := Lib.hid hk0
          clear hk0
          by_cases hk1 : k = 1
          · have g1 : (k == 1) = true := by rw [hk1]; rfl
            have HK := Lib.hid hk1
            clear hk1
            go_upto_region 18 with fail
            refine rr_k1 HP1 (fun r _ _ _ _ _ _ _ _ _ _ _ _ hr => ?_)
            have HRR := Lib.hid hr
            clear hr
            go_wp2_with fail
            go_ret
            refine ⟨r, rfl, HBP.out, fun h => ?_⟩
            obtain ⟨r1, r2, r3⟩ := HRR.out h
            exact right_mk1 HK.out (HBB.out r1) r2 HSA.out r3
          have g1 : (k == 1) = false := beq_eq_false_iff_ne.2 hk1
          clear hk1
          by_cases hk2 : k = 2
          · have g2 : (k == 2) = true := by rw [hk2]; rfl
            have HK := Lib.hid hk2
            clear hk2
            go_upto_region 20 with fail
            refine rr_k2 HP1 HNM (fun r _ _ _ _ _ _ _ _ _ _ _ _ hr => ?_)
            have HRR := Lib.hid hr
            clear hr
            go_wp2_with fail
            go_ret
            refine ⟨r, rfl, HBP.out, fun h => ?_⟩
            obtain ⟨r1, r2, r3⟩ := HRR.out h
            exact right_mk2 HK.out (HBB.out r1) r2 HSA.out r3
          have g2 : (k == 2) = false := beq_eq_false_iff_ne.2 hk2
          clear hk2
          by_cases hk3 : k = 3
          · have g3 : (k == 3) = true := by rw [hk3]; rfl
            have HK := Lib.hid hk3
            clear hk3
            go_upto_region 22 with fail
            refine rr_k3 HP1 HNM (fun r _ _ _ _ _ _ _ _ _ _ _ _ _ _ _ _ _ _ _ _ _ _ hr => ?_)
            have HRR := Lib.hid hr
            clear hr
            go_wp2_with fail
            go_ret
            refine ⟨r, rfl, HBP.out, fun h => ?_⟩
            obtain ⟨r1, r2, r3, r4, r5⟩ := HRR.out h
            exact right_mk3 HK.out (HBB.out r1) r2 r3 r4 r5 HAA.out
          have g3 : (k == 3) = false := beq_eq_false_iff_ne.2 hk3
          clear hk3
          go_wp2_with fail
          go_ret
          exact ⟨false, rfl, HBP.out, fun h => by cases h⟩
end Go.Proofs.YtnblmhfgmehnnaaGreatDoor

/- parse's laws: ParsePipes. -/
namespace Go.Proofs.YtnblmhfgmehnnaaGreatDoor
open Go.RowKit Go.Lib
attribute [local go_sem ↓] Go.wp_at_zero Go.wp_at_succ

/-- Choices that came in. -/
def RepU (w : World) (A : Option Addr) (L : List UInt8) : Prop := ∀ i (h : i < L.length), ∃ b o, A = some ⟨b, o, none⟩ ∧ b < w.heap.size ∧ w.cell? ⟨b, o + i, none⟩ = some (.int .u8 L[i].toNat)
theorem RepU.keep {w w' : World} {A : Option Addr} {L : List UInt8} (h : RepU w A L) (hb : Below w.heap.size w w') : RepU w' A L := fun i hi => by
  obtain ⟨b, o, e, h1, h2⟩ := h i hi
  exact ⟨b, o, e, Nat.lt_of_lt_of_le h1 hb.size, (hb.cell (p := ⟨b, o + i, none⟩) h1).trans h2⟩
theorem repU_of {w : World} {A : Option Addr} {l : List Int} (h : RepI w (fun _ => True) .u8 A l) (hz : ∀ t ∈ l, 0 ≤ t ∧ t ≤ 255) : ∃ L : List UInt8, L.length = l.length ∧ RepU w A L := by
  refine ⟨l.map (fun z => UInt8.ofNat z.toNat), by simp, fun i hi => ?_⟩
  have hi2 : i < l.length := by simpa using hi
  obtain ⟨b, o, e, -, h1, h2⟩ := h i hi2
  refine ⟨b, o, e, h1, ?_⟩
  obtain ⟨z1, z2⟩ := hz _ (List.getElem_mem hi2)
  rw [h2, List.getElem_map]
  have : ((UInt8.ofNat l[i].toNat).toNat : Int) = l[i] := by
    rw [UInt8.toNat_ofNat']
    omega
  rw [this]
/-- A writer's box, new. -/
theorem stAt_new {w : World} {A : Option Addr} {c : Nat} {L : List UInt8} (h : RepU w A L) (hl : L.length ≤ 200) : StAt (w.alloc (.cells #[.slice A L.length c, .int .i64 0] 28)) w.heap.size A c L 0 :=
  ⟨Blk.new _ _ _, fun i hi => by
    obtain ⟨b, o, e, h1, h2⟩ := h i hi
    have hb := Below.new w (.cells #[.slice A L.length c, .int .i64 0] 28)
    exact ⟨b, o, e, by omega, Nat.lt_of_lt_of_le h1 hb.size, (hb.cell (p := ⟨b, o + i, none⟩) h1).trans h2⟩, by omega⟩

set_option maxRecDepth 100000 in
set_option maxHeartbeats 16000000 in
theorem pipes07 {w : World} {cs : List Value} {x : Ex} (hx : RepX w (fun _ => True) cs x) (A : Option Addr) (L : List UInt8) (c : Nat) (hL : RepU w A L) (hl : L.length ≤ 9223372036854775807) (s : ByteArray) (hs : s.size ≤ 140737488351232) (hm : MaxL w) (hv : ScalV w) :
    Calls Tryz.prog 5 #[.agg (List.toArray cs), .slice A L.length c, .string s] w fun e w' => e = .returned (.bool true) ∧ Below w.heap.size w w' := by
  have HM := Lib.hid hm; have HV := Lib.hid hv; have HL := Lib.hid hL; have HSZ := Lib.hid hs
  have HX0 := Lib.hid (show RepX w (fun b => b < w.heap.size) cs x from hx.mono (fun b _ h => h) (fun _ _ _ _ => rfl))
  obtain ⟨la, lc, ma, mc, sa, sc, aa, ac, rfl, -⟩ := hx.inv
  clear hm hv hL hs hx
  have hb0 := Below.new w (.cells #[.int .i64 x.kind, .int .i64 x.val.kind, .bool x.val.bool, .int .i64 x.val.int, .string x.val.str, .slice la x.val.list.length lc, .slice ma x.val.map.length mc, .string x.name, .slice sa x.steps.length sc, .slice aa x.args.length ac] 45)
  have h0 := Blk.new w 45 #[.int .i64 x.kind, .int .i64 x.val.kind, .bool x.val.bool, .int .i64 x.val.int, .string x.val.str, .slice la x.val.list.length lc, .slice ma x.val.map.length mc, .string x.name, .slice sa x.steps.length sc, .slice aa x.args.length ac]
  obtain ⟨W0, e0⟩ : ∃ z, z = w.alloc (.cells #[.int .i64 x.kind, .int .i64 x.val.kind, .bool x.val.bool, .int .i64 x.val.int, .string x.val.str, .slice la x.val.list.length lc, .slice ma x.val.map.length mc, .string x.name, .slice sa x.steps.length sc, .slice aa x.args.length ac] 45) := ⟨_, rfl⟩
  obtain ⟨n0, en0⟩ : ∃ z, z = w.heap.size := ⟨_, rfl⟩
  rw [← e0] at hb0 h0
  rw [← en0] at h0
  have HB0 := Lib.hid hb0; have H0 := Lib.hid h0; have E0 := Lib.hid e0; have N0 := Lib.hid en0
  clear hb0 h0 e0 en0
  go_enter Tryz.func5, Tryz.ntmps5
  go_upto_region 1 with fail
  rw [← E0.out, ← N0.out]
  clear E0
  generalize Value.agg #[.int .i64 x.kind, .int .i64 x.val.kind, .bool x.val.bool, .int .i64 x.val.int, .string x.val.str, .slice la x.val.list.length lc, .slice ma x.val.map.length mc, .string x.name, .slice sa x.steps.length sc, .slice aa x.args.length ac] = V0
  have k0 := H0.out.cell; have l0 := H0.out.lt
  go_wp2_with fail
  refine (theavy HX0.out W0 0 HB0.out (by omega) (by omega)).mono ?_
  rintro e w1 ⟨h, hio, rfl, hb1, hhc⟩
  have HB1 := Lib.hid (Below.next HB0.out hb1); have H1 := Lib.hid (H0.out.keep hb1); have HHC := Lib.hid hhc
  clear hb1 hhc k0 l0 hio
  have CW := fun (W : World) (hb : Below w.heap.size w W) => tawake7 W (HM.out.keep hb) (HV.out.keep hb)
  have HCW := Lib.hid CW
  clear CW
  by_cases c1 : h ≤ 2000
  · have d1 : decide (h > 2000) = false := decide_eq_false (by omega)
    have k1 := H1.out.cell; have l1 := H1.out.lt
    go_wp2_with fail
    refine (rright7 HX0.out w1 6 HB1.out (by omega)).mono ?_
    rintro e w2 ⟨r, rfl, hb2, hr⟩
    have HB2 := Lib.hid (Below.next HB1.out hb2); have H2 := Lib.hid (H1.out.keep hb2)
    clear hb2 k1 l1
    cases r with
    | false =>
      clear hr
      go_wp2_with fail
      refine (HCW.out _ HB2.out).mono ?_
      rintro e w3 ⟨rfl, hb3⟩
      go_wp2_with fail
      go_ret
      exact ⟨rfl, Below.next HB2.out hb3⟩
    | true =>
      obtain ⟨hrx, -⟩ := hr rfl
      have HRX := Lib.hid hrx
      have HWT := Lib.hid (show wtX 6 x ≤ 2000 from by have := (HHC.out 6 (by omega) hrx).2.2 (by omega); omega)
      clear hr hrx
      by_cases c2 : L.length ≤ 200
      · have d2 : decide ((L.length : Int) > 200) = false := decide_eq_false (by omega)
        by_cases c3 : s.size ≤ 500
        · have d3 : decide ((s.size : Int) > 500) = false := decide_eq_false (by omega)
          have k2 := H2.out.cell; have l2 := H2.out.lt
          have HSG := Lib.hid (stAt_new (c := c) (HL.out.keep HB2.out) c2)
          have hba := Below.new w2 (.cells #[.slice A L.length c, .int .i64 0] 28)
          have HBA := Lib.hid (HB2.out.alloc HB2.out.size (.cells #[.slice A L.length c, .int .i64 0] 28))
          have HA := Lib.hid (H2.out.keep hba)
          have HXA := Lib.hid ((HX0.out.keep HB2.out).keep (by have := hba; exact this))
          have hsz2 := HB2.out.size
          have HNE := Lib.hid (show ∀ b, b < w.heap.size → b ≠ w2.heap.size from fun b hb => by omega)
          have HNG := Lib.hid (show n0 ≠ w2.heap.size from by have := H2.out.lt; omega)
          have HGE := Lib.hid (show w.heap.size ≤ w2.heap.size from hsz2)
          have k3 := HA.out.cell; have l3 := HA.out.lt
          clear hba hsz2 k2 l2
          go_wp2_with fail
          refine (wpipe_all 7 6 x 0 _ _ _ HRX.out (by omega) HSG.out HXA.out HNE.out (by have := HWT.out; omega) (by have := HWT.out; omega)).mono ?_
          rintro e w3 ⟨rfl, hst3, hbar⟩
          have HB3 := Lib.hid (hbar.below HBA.out HGE.out (Nat.le_refl _))
          have H3 := Lib.hid (hbar.blk HA.out HNG.out)
          clear k3 l3 hst3 hbar HA HXA HSG HNE HNG HGE
          obtain ⟨tx, htx⟩ : ∃ z, z = bs (pipW L 7 x 0).1 := ⟨_, rfl⟩
          have hts : tx.size ≤ 1000000 := by
            have h1 := (pip_len L 7 6 x 0 HRX.out (by omega)).1
            have h2 := HWT.out
            rw [htx, bs_size]; omega
          have har : allF tx.data.toList = (x, 0) := by rw [htx]; exact all_read HRX.out (by omega) (by omega)
          rw [← htx]
          have CP := tPipe tx w3 hts (HV.out.keep HB3.out)
          unfold AllPost at CP
          rw [har] at CP
          have HCP := Lib.hid CP
          clear htx hts har CP
          go_wp2_with fail
          refine HCP.out.mono ?_
          rintro e w4 ⟨cs4, rfl, hx4, hb4⟩
          have hx4 := hx4.1
          obtain ⟨la4, lc4, ma4, mc4, sa4, sc4, aa4, ac4, rfl, -⟩ := hx4.inv
          have hba := Below.new w4 (.cells #[.int .i64 x.kind, .int .i64 x.val.kind, .bool x.val.bool, .int .i64 x.val.int, .string x.val.str, .slice la4 x.val.list.length lc4, .slice ma4 x.val.map.length mc4, .string x.name, .slice sa4 x.steps.length sc4, .slice aa4 x.args.length ac4] 50)
          have hX4 := Blk.new w4 50 #[.int .i64 x.kind, .int .i64 x.val.kind, .bool x.val.bool, .int .i64 x.val.int, .string x.val.str, .slice la4 x.val.list.length lc4, .slice ma4 x.val.map.length mc4, .string x.name, .slice sa4 x.steps.length sc4, .slice aa4 x.args.length ac4]
          have hB4 := Below.next (Below.next HB3.out hb4) hba
          have hR4 := (hx4.keep hba).weak (S' := fun _ => True) (fun _ _ _ => trivial)
          have hH4 := (H3.out.keep hb4).keep hba
          go_upto_region 4 with fail
          obtain ⟨W4, eW⟩ : ∃ z, z = w4.alloc (.cells #[.int .i64 x.kind, .int .i64 x.val.kind, .bool x.val.bool, .int .i64 x.val.int, .string x.val.str, .slice la4 x.val.list.length lc4, .slice ma4 x.val.map.length mc4, .string x.name, .slice sa4 x.steps.length sc4, .slice aa4 x.args.length ac4] 50) := ⟨_, rfl⟩
          obtain ⟨m4, eM⟩ : ∃ z, z = w4.heap.size := ⟨_, rfl⟩
          rw [← eW] at hX4 hB4 hR4 hH4
          rw [← eM] at hX4
          rw [← eW, ← eM]
          have HB4 := Lib.hid hB4; have HX4 := Lib.hid hX4; have HR4 := Lib.hid hR4; have H4 := Lib.hid hH4
          clear eW eM hba hb4 hx4 hX4 hB4 hR4 hH4 HCP H3 HB3
          go_wp2_with fail
          refine (HCW.out _ HB4.out).mono ?_
          rintro e w5 ⟨rfl, hb5⟩
          have HB5 := Lib.hid (Below.next HB4.out hb5); have HX5 := Lib.hid (HX4.out.keep hb5); have HR5 := Lib.hid (HR4.out.keep hb5); have H5 := Lib.hid (H4.out.keep hb5)
          clear hb5 HB4 HX4 HR4 H4
          have k5 := HX5.out.cell; have l5 := HX5.out.lt; have k6 := H5.out.cell; have l6 := H5.out.lt
          go_wp2_with fail
          refine (texpr HR5.out w5 _ _ (Below.refl _ _) (HX0.out.keep HB5.out)).mono ?_
          rintro e w6 ⟨rfl, hb6⟩
          have HB6 := Lib.hid (Below.next HB5.out hb6)
          clear hb6 k5 l5 k6 l6
          have CN1 := Lib.hid (tnameL s w6 HSZ.out); have CN2 := Lib.hid (trname s w6 HSZ.out)
          go_wp2_with fail
          refine CN1.out.mono ?_
          rintro e w' ⟨rfl, rfl⟩
          go_wp2_with fail
          refine CN2.out.mono ?_
          rintro e w' ⟨rfl, rfl⟩
          go_wp2_with fail
          go_ret
          exact ⟨by simp, HB6.out⟩
        · have d3 : decide ((s.size : Int) > 500) = true := decide_eq_true (by omega)
          clear c3
          go_wp2_with fail
          refine (HCW.out _ HB2.out).mono ?_
          rintro e w3 ⟨rfl, hb3⟩
          go_wp2_with fail
          go_ret
          exact ⟨rfl, Below.next HB2.out hb3⟩
      · have d2 : decide ((L.length : Int) > 200) = true := decide_eq_true (by omega)
        clear c2
        go_wp2_with fail
        refine (HCW.out _ HB2.out).mono ?_
        rintro e w3 ⟨rfl, hb3⟩
        go_wp2_with fail
        go_ret
        exact ⟨rfl, Below.next HB2.out hb3⟩
  · have d1 : decide (h > 2000) = true := decide_eq_true (by omega)
    clear c1
    go_wp2_with fail
    refine (HCW.out _ HB1.out).mono ?_
    rintro e w3 ⟨rfl, hb3⟩
    go_wp2_with fail
    go_ret
    exact ⟨rfl, Below.next HB1.out hb3⟩
end Go.Proofs.YtnblmhfgmehnnaaGreatDoor

/- The frame of a law whose card is tied: as XFrame's, with the world's shape and the listed variables handed to the walk. -/
namespace Go.Proofs.YtnblmhfgmehnnaaGreatDoor
open Go.ChangeShapes Go.WideShapes Go.ChangeAt Go.RowKit

set_option maxRecDepth 100000 in
/-- A tied law's row step: the walk is asked of every world of the form's shape in which the listed variables read as listed and the arguments read as data within the form's reach. -/
theorem lifted_tied {f : FuncId} {fn : Func} {s : ChangeSpec} {tb : TypeId} {laid : List (String × DataW Unit)} (os : Os) (started : os.Started) (H : Type) (enc : TypeId × Value → H)
    (noInit : Tryz.checked.prog.inits.idxOf? f = none) (hfn : Tryz.checked.prog.funcs[f]? = some fn)
    (witness : ∃ (w : World) (tape : Tape) (i : Input), w.os = os ∧ (w.forCall tape i).Shaped Tryz.checked.prog ∧ i.vars = [] ∧ Input.okWide Tryz.checked.prog (w.forCall tape i) .any w.heap.size f i ∧
      ((s.pre enc Tryz.checked.prog fn [] false (w.forCall tape i).memory i.args ∧ laidMetH Tryz.prog laid (w.forCall tape i).memory) ∧ sizedMet enc Tryz.checked.prog fn (OpenSpec.ofChange s) false (w.forCall tape i).memory i.args) ∧ ({} : Assume).holds Tryz.checked.prog (lone (Frame.enter Tryz.checked.prog f i.args .normal) [] (w.forCall tape i)))
    (hr0 : fn.params.toList.all (fun t => Tryz.prog.readableRec t && decide (t < Tryz.prog.types.size)) = true) (hv : s.vars = []) (hb : fn.resultTypes = #[tb]) (ub : Tryz.prog.underlying tb = some .bool)
    (hsp : ∀ ds : List (DataW H), ds.length = fn.params.size → s.fn H ds = { results := [.lit (.bool true)], args := ds })
    (walk : ∀ (W : World) (base : Nat) (args : Array Value) (ds : List (DataW H)) (p : List MemPlace),
      (∀ (j : Nat) t v, fn.params[j]? = some t → args[j]? = some v → Value.okWide Tryz.prog W .any base t v) →
      DataW.TrodAll enc Tryz.prog W 0 (fun _ => true) true fn.params.toList args.toList ds p →
      (DataW.weightsEach Tryz.prog fn.params.toList ds).all (· ≤ reachBytes) = true → W.ShapedOpen Tryz.prog → laidMetH Tryz.prog laid W →
      Calls Tryz.prog f args W fun e w' => e = .returned (.bool true) ∧ Below W.heap.size W w') :
    ReturnsInHanded {} Tryz.checked os f .any (fun w args => (s.pre enc Tryz.prog fn [] false w args ∧ laidMetH Tryz.prog laid w) ∧ sizedMet enc Tryz.prog fn (OpenSpec.ofChange s) false w args) (s.post enc Tryz.prog fn false true false false) := by
  have hr : ∀ t ∈ fn.params.toList, Tryz.prog.readableRec t = true ∧ t < Tryz.prog.types.size := fun t ht => by
    have := List.all_eq_true.1 hr0 t ht
    simpa using this
  refine returnsInHanded_of_calls own started noInit witness ?_
  intro w tape i _ hsh _ hok hpre hholds
  obtain ⟨_, _, _, fn', hfn', _, _, _, _, hval⟩ := hok
  have e : fn' = fn := Option.some.inj (hfn'.symm.trans hfn)
  subst e
  obtain ⟨⟨⟨ds, gs, before, hw, hc⟩, hx⟩, hz⟩ := hpre
  have hW : DataW.Whole enc Tryz.prog fn'.params.toList s.vars false (w.forCall tape i) i.args.toList ds gs before := DataW.Whole.of_heap (w' := w.forCall tape i) (by rfl) hw
  have hsz : (DataW.weightsEach Tryz.prog (fn'.params.toList ++ s.plain.varTypes Tryz.prog) (ds ++ gs)).all (· ≤ reachBytes) = true := hz.weights hw
  have hL : laidMetH Tryz.prog laid (w.forCall tape i) := hx.of_heap (by rfl)
  have hW' := hW
  obtain ⟨p, q, hA, hV, rfl, hfz, hnd⟩ := hW
  rw [hv] at hV
  obtain ⟨rfl, rfl⟩ := trodVars_none hV
  have hlen : ds.length = fn'.params.size := by
    have : ∀ {W : World} {ts : List TypeId} {vs : List Value} {ds : List (DataW H)} {ps : List MemPlace}, DataW.TrodAll enc Tryz.prog W 0 (fun _ => true) true ts vs ds ps → ds.length = ts.length := by
      intro W ts
      induction ts with
      | nil =>
        intro vs ds ps h
        match vs, ds, h with
        | [], [], _ => rfl
      | cons t ts ih =>
        intro vs ds ps h
        match vs, ds, h with
        | v :: vs, d :: ds, h =>
          obtain ⟨p, q, _, h2, rfl⟩ := h
          simp [ih h2]
    simpa using this hA
  have hsz' : (DataW.weightsEach Tryz.prog fn'.params.toList ds).all (· ≤ reachBytes) = true := by
    have h := hsz
    simp only [ChangeSpec.plain, DataSpec.varTypes, hv, List.filterMap_nil, List.append_nil] at h
    exact h
  refine (walk (w.forCall tape i) w.heap.size i.args ds p hval hA hsz' hsh hL).mono fun e W' ⟨he, hbl⟩ => ?_
  subst he
  exact ChangeSpec.post_blind (post_law laidOut hr hv hb ub (by rw [List.append_nil]; exact hsp ds hlen) hW' hbl)

end Go.Proofs.YtnblmhfgmehnnaaGreatDoor

/- A tied law's witness: what the text imports; strings.Index's variable. -/
namespace Go.Proofs.YtnblmhfgmehnnaaGreatDoor
open Go.ChangeShapes Go.WideShapes Go.ChangeAt Go.WideMaps Go.WideElems Go.RowKit

theorem max_of {W : World} (h : W.ShapedOpen Tryz.prog) : MaxL W := Tryz.laysM143.s1_3 W h
end Go.Proofs.YtnblmhfgmehnnaaGreatDoor

/- A tied parse law's witness: what the rows list says of the library's variables. -/
namespace Go.Proofs.YtnblmhfgmehnnaaGreatDoor
open Go.ChangeShapes Go.WideShapes Go.ChangeAt Go.WideMaps Go.WideElems Go.RowKit

theorem star_err7 : "*" ++ "errors.errorString" = "*errors.errorString" := by decide
theorem row_err7 (u : TypeId) (h : Tryz.prog.typeName? 3 u = some "*errors.errorString") : u = 178 :=
  typeName_ptr_named (nm := "errors.errorString") (by rw [star_err7]; kernel_rfl) (by kernel_rfl) (by decide) u (by rw [star_err7]; exact h)
theorem scal_seven {W : World} (h : laidMetH Tryz.prog Rows.parseWrongRow.laid W) : ScalV W := by
  rw [MakeChecks.laidMetH_plain _ _ _ (by kernel_rfl)] at h
  have h1 : laidMet Tryz.prog (("internal/strconv.uint64pow10", Lib.tabData .u64 Lib.pow10Tab) :: ("unicode/utf8.acceptRanges", Rows.laid_unicode_utf8_acceptRanges) :: ("strconv.ErrRange", Rows.laid_strconv_ErrRange) :: ("strconv.ErrSyntax", Rows.laid_strconv_ErrSyntax) :: ("unicode/utf8.first", Rows.laid_unicode_utf8_first) :: []) W := laidMet.tail (laidMet.tail h)
  have h2 := h1.tail.tail
  have ht : Lib.TabIs Tryz.prog W "internal/strconv.uint64pow10" .u64 Lib.pow10Tab := Lib.tabIs_of_head (g := 5) (t := 188) (e := 122) (n := 20) (by kernel_rfl) (by kernel_rfl) (by kernel_rfl) (by kernel_rfl) (by kernel_rfl) (by kernel_rfl) h1
  obtain ⟨a, s, hv, -⟩ := laid_sentinel (g := 4) (ti := 92) (tp := 178) (te := 180) (ts := 9) h2 (by kernel_rfl) (by kernel_rfl) Tryz.underlying92 row_err7 Tryz.underlying178 Tryz.underlying180 rfl rfl Tryz.underlying9 (by kernel_rfl) (by kernel_rfl)
  exact ⟨ht, _, _, hv⟩
end Go.Proofs.YtnblmhfgmehnnaaGreatDoor

