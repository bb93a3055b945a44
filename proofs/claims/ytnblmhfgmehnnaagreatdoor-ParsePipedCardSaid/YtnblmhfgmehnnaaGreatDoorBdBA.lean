/- Several texts as one. -/
import Derived.Test.YtnblmhfgmehnnaaGreatDoorBdAH
import Derived.Test.YtnblmhfgmehnnaaGreatDoorBdAD
import Derived.Test.YtnblmhfgmehnnaaGreatDoorBdAC
import Derived.Test.YtnblmhfgmehnnaaGreatDoorBdAJ
/- parse's laws: an expression, as the document has it. -/
namespace Go.Proofs.YtnblmhfgmehnnaaGreatDoor
open Go.RowKit Go.Lib
attribute [local go_sem ↓] Go.wp_at_zero Go.wp_at_succ

theorem own_snocXR {w : World} {B : Nat} {S : Nat → Prop} {A : Option Addr} {c : Nat} {l : List Ex} {x : Ex} {cs : List Value} (h : OwnE eltXR w B S A c l) (hx : RepX w (fun b => S b ∧ Value.ownBlock (.slice A l.length c) ≠ some b) cs x) (hB : B ≤ w.heap.size) (hl : (l.length + 1) * 160 ≤ 140737488355328) :
    ∃ A' c' w', (Builtin.append_ #[43, 43] 43 #[.slice A l.length c, .slice (some ⟨w.heap.size, 0, none⟩) 1 1]).run Tryz.prog (w.alloc (.cells cs.toArray 45)) = .ok (.slice A' (l ++ [x]).length c') w' ∧ OwnE eltXR w' B S A' c' (l ++ [x]) ∧ (w.alloc (.cells cs.toArray 45)).grownBy w' (Value.ownBlock (.slice A l.length c)) := by
  have ha : Below w.heap.size w (w.alloc (.cells cs.toArray 45)) := Below.new _ _
  exact own_append (E := eltXR) (l2 := [x]) (es := cs) (ad := ⟨w.heap.size, 0, none⟩) (cc := 1) (ty := 43) (t := 43) rfl (h.keep ha) (by show (l.length + 1) * 160 ≤ _; omega) (by simp; unfold maxLen; omega) (by simp; omega) (by rw [hx.len]; rfl)
    (fun j u hu => by rw [show (⟨w.heap.size, 0, none⟩ : Addr).add j = ⟨w.heap.size, 0 + j, none⟩ from by unfold Addr.add; split <;> simp_all, Nat.zero_add, (Blk.new w 45 cs.toArray).cell]; simpa using hu)
    (fun i hi => by
      obtain rfl : i = 0 := by simpa using hi
      have h10 := hx.len
      rw [show (eltXR).sz = 10 from rfl, Nat.zero_mul, List.drop_zero, List.take_of_length_le (by omega)]
      exact hx.keep ha)
/-- An expression handed back as the document has it. -/
def FromPost (B : Nat) (S : Nat → Prop) (x : Ex) (W : World) (e : Ending) (w' : World) : Prop :=
  ∃ cs, e = .returned (.agg (List.toArray cs)) ∧ RepX w' (fun b => (S b ∧ b < B) ∨ W.heap.size ≤ b) cs x ∧ Below W.heap.size W w'
theorem take_snocX {l : List Ex} {q : Nat} (h : q < l.length) : l.take (q + 1) = l.take q ++ [l[q]] := by rw [List.take_succ_eq_append_getElem h]

set_option maxRecDepth 100000 in
set_option maxHeartbeats 16000000 in
theorem tfrom {w : World} {S : Nat → Prop} {cs : List Value} {x : Ex} (h : RepX w S cs x) : ∀ W, Below w.heap.size w W → Calls Tryz.prog 22 #[.agg (List.toArray cs)] W (FromPost w.heap.size S x W) := by
  induction h with
  | mk k v nm st ar la lc ma mc sa sc aa ac C hk hv hn hs hsr har ha hr ih =>
  intro W hW
  have hwW := hW.size
  have HV := Lib.hid (show RepT W (fun b => S b ∧ b < w.heap.size) (.agg #[.int .i64 v.kind, .bool v.bool, .int .i64 v.int, .string v.str, .slice la v.list.length lc, .slice ma v.map.length mc]) v from hv.mono (fun b hb hlt => ⟨hb, hlt⟩) (fun b o hb hlt => hW.cell hlt))
  have HS := Lib.hid (show RepS W (fun b => S b ∧ b < w.heap.size) sa st from hs.mono (fun b hb hlt => ⟨hb, hlt⟩) (fun b o hb hlt => hW.cell hlt))
  have HA := Lib.hid (fun i (hi : i < ar.length) => show ∃ b o, aa = some ⟨b, o, none⟩ ∧ (S b ∧ b < w.heap.size) ∧ cellsAt W b (o + i * 10) (C i) from by
    obtain ⟨b, o, e, hb, hc⟩ := ha i hi
    have hlt : b < w.heap.size := by have hl := (hr i hi).len; generalize C i = cs at hc hl; cases cs with | nil => simp at hl | cons c cs => exact hc.lt
    exact ⟨b, o, e, ⟨hb, hlt⟩, hc.keep fun i => hW.cell hlt⟩)
  have HR := Lib.hid (fun i (hi : i < ar.length) => (hr i hi).inv)
  have HIH := Lib.hid ih
  have hn1 := har.2.2
  have HK := Lib.hid hk; have HN := Lib.hid hn; have HSR := Lib.hid hsr; have HAR := Lib.hid har; have HW := Lib.hid hW
  clear hk hv hn hs hsr har ha hr ih hW
  have hb1 := Below.new W (.cells #[.int .i64 k, .int .i64 v.kind, .bool v.bool, .int .i64 v.int, .string v.str, .slice la v.list.length lc, .slice ma v.map.length mc, .string nm, .slice sa st.length sc, .slice aa ar.length ac] 50)
  have h1 := Blk.new W 50 #[.int .i64 k, .int .i64 v.kind, .bool v.bool, .int .i64 v.int, .string v.str, .slice la v.list.length lc, .slice ma v.map.length mc, .string nm, .slice sa st.length sc, .slice aa ar.length ac]
  obtain ⟨W1, e1⟩ : ∃ z, z = W.alloc (.cells #[.int .i64 k, .int .i64 v.kind, .bool v.bool, .int .i64 v.int, .string v.str, .slice la v.list.length lc, .slice ma v.map.length mc, .string nm, .slice sa st.length sc, .slice aa ar.length ac] 50) := ⟨_, rfl⟩
  have z1 : W1.heap.size = W.heap.size + 1 := by rw [e1]; simp
  rw [← e1] at hb1 h1
  have hb2 := Below.new W1 (.cells #[.int .i64 0, .int .i64 0, .bool false, .int .i64 0, .string ⟨#[]⟩, .slice none 0 0, .slice none 0 0, .string ⟨#[]⟩, .slice none 0 0, .slice none 0 0] 45)
  have h2 := Blk.new W1 45 #[.int .i64 0, .int .i64 0, .bool false, .int .i64 0, .string ⟨#[]⟩, .slice none 0 0, .slice none 0 0, .string ⟨#[]⟩, .slice none 0 0, .slice none 0 0]
  obtain ⟨W2, e2⟩ : ∃ z, z = W1.alloc (.cells #[.int .i64 0, .int .i64 0, .bool false, .int .i64 0, .string ⟨#[]⟩, .slice none 0 0, .slice none 0 0, .string ⟨#[]⟩, .slice none 0 0, .slice none 0 0] 45) := ⟨_, rfl⟩
  have z2 : W2.heap.size = W1.heap.size + 1 := by rw [e2]; simp
  rw [← e2] at hb2 h2
  have hb3 := Below.new W2 (.cells #[.int .i64 k, .int .i64 v.kind, .bool v.bool, .int .i64 v.int, .string v.str, .slice la v.list.length lc, .slice ma v.map.length mc, .string nm, .slice sa st.length sc, .slice none 0 0] 45)
  have h3 := Blk.new W2 45 #[.int .i64 k, .int .i64 v.kind, .bool v.bool, .int .i64 v.int, .string v.str, .slice la v.list.length lc, .slice ma v.map.length mc, .string nm, .slice sa st.length sc, .slice none 0 0]
  obtain ⟨W3, e3⟩ : ∃ z, z = W2.alloc (.cells #[.int .i64 k, .int .i64 v.kind, .bool v.bool, .int .i64 v.int, .string v.str, .slice la v.list.length lc, .slice ma v.map.length mc, .string nm, .slice sa st.length sc, .slice none 0 0] 45) := ⟨_, rfl⟩
  have z3 : W3.heap.size = W2.heap.size + 1 := by rw [e3]; simp
  rw [← e3] at hb3 h3
  obtain ⟨n1, en1⟩ : ∃ z, z = W.heap.size := ⟨_, rfl⟩
  obtain ⟨n2, en2⟩ : ∃ z, z = W1.heap.size := ⟨_, rfl⟩
  obtain ⟨n3, en3⟩ : ∃ z, z = W2.heap.size := ⟨_, rfl⟩
  have HB3 := Lib.hid (Below.next (Below.next hb1 hb2) hb3)
  have H12 := Lib.hid (h1.keep hb2); have H1 := Lib.hid ((h1.keep hb2).keep hb3); have H2 := Lib.hid (h2.keep hb3); have H3 := Lib.hid h3
  rw [← en1] at H1 H12
  rw [← en2] at H2
  rw [← en3] at H3
  have hn12 : n1 + 1 = n2 := by omega
  have hn23 : n2 + 1 = n3 := by omega
  have hn33 : W3.heap.size = n3 + 1 := by omega
  have E1 := Lib.hid e1; have E2 := Lib.hid e2; have E3 := Lib.hid e3; have N1 := Lib.hid en1; have N2 := Lib.hid en2; have N3 := Lib.hid en3
  have hwn : w.heap.size ≤ n1 := by omega
  have HN12 := Lib.hid hn12
  have hn13 : n1 < n2 := by omega
  have hn23' : n2 < n3 := by omega
  have hn13b : n2 ≠ n3 := by omega
  have hW3 : n1 < W3.heap.size ∧ n2 < W3.heap.size := by omega
  have HN23 := Lib.hid hn23; have HN33 := Lib.hid hn33
  clear hn12 hn23 hn33
  clear h1 h2 h3 hb1 hb2 hb3 e1 e2 e3 z1 z2 z3 en1 en2 en3
  go_enter Tryz.func22, Tryz.ntmps22
  go_upto_region 1 with fail
  rw [← E1.out, ← E2.out, ← N1.out, HN12.out]
  have k1 := H12.out.cell; have f1 := H12.out.frozen; have l1 := H12.out.lt
  go_upto_region 2 with fail
  rw [← E3.out, ← N3.out]
  clear k1 f1 l1 H12 E1 E2 E3 HN12 HN23
  have k1 := H1.out.cell; have f1 := H1.out.frozen; have l1 := H1.out.lt
  go_wp2_with fail
  go_loopw [18] (fun x18 wr => ∃ (q : Nat) (L : List Ex) (A : Option Addr) (c : Nat), q ≤ ar.length ∧ x18 = .int .i64 q ∧ Hid (L = ar.take q) ∧ Hid (Below W.heap.size W wr) ∧ Hid (Blk wr n2 45 #[.int .i64 0, .int .i64 0, .bool false, .int .i64 0, .string ⟨#[]⟩, .slice none 0 0, .slice none 0 0, .string ⟨#[]⟩, .slice none 0 0, .slice none 0 0]) ∧ Hid (Blk wr n3 45 #[.int .i64 k, .int .i64 v.kind, .bool v.bool, .int .i64 v.int, .string v.str, .slice la v.list.length lc, .slice ma v.map.length mc, .string nm, .slice sa st.length sc, .slice A L.length c]) ∧ Hid (OwnE eltXR wr (n3 + 1) (fun b => (S b ∧ b < w.heap.size) ∨ n3 + 1 ≤ b) A c L) ∧ Hid (n3 < wr.heap.size)) (fun x _ => ar.length - (Lib.intOf x).toNat)
  case atStart => exact ⟨0, [], none, 0, Nat.zero_le _, rfl, Lib.hid (by rw [List.take_zero]), HB3, H2, H3, Lib.hid OwnE.nil, Lib.hid H3.out.lt⟩
  case round =>
    obtain ⟨q, L, A, c, hq, rfl, HL, HB, HX2, HX3, HO, HZ⟩ := hrel
    clear k1 f1 l1
    by_cases hlt : q < ar.length
    · obtain ⟨b, bo, rfl, hSb, hcell⟩ := HA.out q hlt
      obtain ⟨lay, lcy, may, mcy, say, scy, aay, acy, hC, -⟩ := HR.out q hlt
      have hih := HIH.out q hlt
      have hst := take_snocX hlt
      have hLl : L.length = q := by rw [HL.out, List.length_take]; omega
      rw [← HL.out] at hst
      rw [hC] at hcell hih
      obtain ⟨y, hy⟩ : ∃ z, z = ar[q] := ⟨_, rfl⟩
      rw [← hy] at hcell hih hst
      have hb2 : b < W.heap.size := by omega
      have hcw : cellsAt wr b (bo + q * 10) [.int .i64 y.kind, .int .i64 y.val.kind, .bool y.val.bool, .int .i64 y.val.int, .string y.val.str, .slice lay y.val.list.length lcy, .slice may y.val.map.length mcy, .string y.name, .slice say y.steps.length scy, .slice aay y.args.length acy] := hcell.keep fun i => HB.out.cell (p := ⟨b, i, none⟩) hb2
      have hlw : b < wr.heap.size := by have := HB.out.size; omega
      have c0 : wr.cell? ⟨b, bo + q * 10, none⟩ = some (.int .i64 y.kind) := hcw 0 _ rfl; have c1 : wr.cell? ⟨b, bo + q * 10 + 1, none⟩ = some (.int .i64 y.val.kind) := hcw 1 _ rfl; have c2 : wr.cell? ⟨b, bo + q * 10 + 2, none⟩ = some (.bool y.val.bool) := hcw 2 _ rfl; have c3 : wr.cell? ⟨b, bo + q * 10 + 3, none⟩ = some (.int .i64 y.val.int) := hcw 3 _ rfl; have c4 : wr.cell? ⟨b, bo + q * 10 + 4, none⟩ = some (.string y.val.str) := hcw 4 _ rfl; have c5 : wr.cell? ⟨b, bo + q * 10 + 5, none⟩ = some (.slice lay y.val.list.length lcy) := hcw 5 _ rfl; have c6 : wr.cell? ⟨b, bo + q * 10 + 6, none⟩ = some (.slice may y.val.map.length mcy) := hcw 6 _ rfl; have c7 : wr.cell? ⟨b, bo + q * 10 + 7, none⟩ = some (.string y.name) := hcw 7 _ rfl; have c8 : wr.cell? ⟨b, bo + q * 10 + 8, none⟩ = some (.slice say y.steps.length scy) := hcw 8 _ rfl; have c9 : wr.cell? ⟨b, bo + q * 10 + 9, none⟩ = some (.slice aay y.args.length acy) := hcw 9 _ rfl
      have hg0 : (0 : Int) ≤ (q : Int) := by omega
      have hg1 : (q : Int) < (ar.length : Int) := by omega
      have hwk : IntKind.i64.wrap ((q : Int) + 1) = (q : Int) + 1 := wrap_fit (by omega) (by omega)
      have HIHY := Lib.hid hih; have HST := Lib.hid hst; have HLL := Lib.hid hLl; have HSB := Lib.hid hSb
      clear hcell hcw hC hih hst hLl hy hSb
      have k3 := HX3.out.cell; have f3 := HX3.out.frozen; have l3 := HX3.out.lt
      go_upto_region 5 with fail
      have hba := Below.new wr (.cells #[.int .i64 y.kind, .int .i64 y.val.kind, .bool y.val.bool, .int .i64 y.val.int, .string y.val.str, .slice lay y.val.list.length lcy, .slice may y.val.map.length mcy, .string y.name, .slice say y.steps.length scy, .slice aay y.args.length acy] 50)
      have HBA := Lib.hid (HB.out.alloc HB.out.size (.cells #[.int .i64 y.kind, .int .i64 y.val.kind, .bool y.val.bool, .int .i64 y.val.int, .string y.val.str, .slice lay y.val.list.length lcy, .slice may y.val.map.length mcy, .string y.name, .slice say y.steps.length scy, .slice aay y.args.length acy] 50)); have HX2A := Lib.hid (HX2.out.keep hba); have HX3A := Lib.hid (HX3.out.keep hba); have HOA := Lib.hid (HO.out.keep hba); have HX5 := Lib.hid (Blk.new wr 50 #[.int .i64 y.kind, .int .i64 y.val.kind, .bool y.val.bool, .int .i64 y.val.int, .string y.val.str, .slice lay y.val.list.length lcy, .slice may y.val.map.length mcy, .string y.name, .slice say y.steps.length scy, .slice aay y.args.length acy])
      have HROW := Lib.hid HO.out.own
      have hsa : wr.heap.size < (wr.alloc (.cells #[.int .i64 y.kind, .int .i64 y.val.kind, .bool y.val.bool, .int .i64 y.val.int, .string y.val.str, .slice lay y.val.list.length lcy, .slice may y.val.map.length mcy, .string y.name, .slice say y.steps.length scy, .slice aay y.args.length acy] 50)).heap.size := by simp
      obtain ⟨WA, eA⟩ : ∃ z, z = wr.alloc (.cells #[.int .i64 y.kind, .int .i64 y.val.kind, .bool y.val.bool, .int .i64 y.val.int, .string y.val.str, .slice lay y.val.list.length lcy, .slice may y.val.map.length mcy, .string y.name, .slice say y.steps.length scy, .slice aay y.args.length acy] 50) := ⟨_, rfl⟩
      obtain ⟨n5, e5⟩ : ∃ z, z = wr.heap.size := ⟨_, rfl⟩
      rw [← eA] at HBA HX2A HX3A HOA HX5 hsa
      rw [← e5] at HX5 HROW hsa
      rw [← eA, ← e5]
      have hn35 : n3 < n5 := by have := HZ.out; omega
      have hn15 : W.heap.size ≤ n5 := by have := HB.out.size; omega
      have hWn3 : W.heap.size ≤ n3 := by have h1 := N1.out; omega
      clear hba eA e5 k3 f3 l3 c0 c1 c2 c3 c4 c5 c6 c7 c8 c9
      have HWA := Lib.hid (show Below w.heap.size w WA from ⟨HBA.out.os.trans HW.out.os, HBA.out.tape.trans HW.out.tape, HBA.out.output.trans HW.out.output, Nat.le_trans HW.out.size HBA.out.size, fun b hb => (HBA.out.block b (by omega)).trans (HW.out.block b hb)⟩)
      have HSS := Lib.hid (show ∀ wx, Below WA.heap.size WA wx → (fun w' => (∀ i, w'.cell? ⟨n3, i, none⟩ = (#[.int .i64 k, .int .i64 v.kind, .bool v.bool, .int .i64 v.int, .string v.str, .slice la v.list.length lc, .slice ma v.map.length mc, .string nm, .slice sa st.length sc, .slice A L.length c] : Array Value)[i]?) ∧ (∀ i, w'.cell? ⟨n5, i, none⟩ = (#[.int .i64 y.kind, .int .i64 y.val.kind, .bool y.val.bool, .int .i64 y.val.int, .string y.val.str, .slice lay y.val.list.length lcy, .slice may y.val.map.length mcy, .string y.name, .slice say y.steps.length scy, .slice aay y.args.length acy] : Array Value)[i]?)) wx from fun wx hx => ⟨(HX3A.out.keep hx).cell, (HX5.out.keep hx).cell⟩)
      have k3 := HX3A.out.cell; have f3 := HX3A.out.frozen; have l3 := HX3A.out.lt; have k5 := HX5.out.cell; have f5 := HX5.out.frozen; have l5 := HX5.out.lt
      refine wp_region_tail (S := (fun w' => (∀ i, w'.cell? ⟨n3, i, none⟩ = (#[.int .i64 k, .int .i64 v.kind, .bool v.bool, .int .i64 v.int, .string v.str, .slice la v.list.length lc, .slice ma v.map.length mc, .string nm, .slice sa st.length sc, .slice A L.length c] : Array Value)[i]?) ∧ (∀ i, w'.cell? ⟨n5, i, none⟩ = (#[.int .i64 y.kind, .int .i64 y.val.kind, .bool y.val.bool, .int .i64 y.val.int, .string y.val.str, .slice lay y.val.list.length lcy, .slice may y.val.map.length mcy, .string y.name, .slice say y.steps.length scy, .slice aay y.args.length acy] : Array Value)[i]?))) 7 (by kernel_rfl) (by kernel_rfl) (by exact HSS.out _ (Below.refl _ _).drew) (fun hHeld => ?_)
      simp only [List.dropLast]
      refine wpAnyH_take (i := 0) (v := ?vm1_0) (by conv => lhs; simp only [List.getElem?_toArray, List.getElem?_cons_succ, List.getElem?_cons_zero]) (by kernel_rfl) (by kernel_rfl) (by kernel_rfl) (by exact fun _ _ _ h => h) (Or.inl ⟨by rfl, ?hym1_0⟩) (by assumption) ?_
      case hym1_0 => (intro w0 hSw; (try dsimp only at hSw); go_simp; (try with_reducible rfl); (try assumption))
      try simp only [Act.put, List.setIfInBounds_toArray, List.set_cons_zero, List.set_cons_succ]
      refine wpAnyH_take (i := 1) (v := ?vm1_1) (by conv => lhs; simp only [List.getElem?_toArray, List.getElem?_cons_succ, List.getElem?_cons_zero]) (by kernel_rfl) (by kernel_rfl) (by kernel_rfl) (by exact fun _ _ _ h => h) (Or.inl ⟨by rfl, ?hym1_1⟩) (by assumption) ?_
      case hym1_1 => (intro w0 hSw; (try dsimp only at hSw); go_simp; (try with_reducible rfl); (try assumption))
      try simp only [Act.put, List.setIfInBounds_toArray, List.set_cons_zero, List.set_cons_succ]
      refine wpAnyH_take (i := 2) (v := ?vm1_2) (by conv => lhs; simp only [List.getElem?_toArray, List.getElem?_cons_succ, List.getElem?_cons_zero]) (by kernel_rfl) (by kernel_rfl) (by kernel_rfl) (by exact fun _ _ _ h => h) (Or.inl ⟨by rfl, ?hym1_2⟩) (by assumption) ?_
      case hym1_2 => (intro w0 hSw; (try dsimp only at hSw); go_simp; (try with_reducible rfl); (try assumption))
      try simp only [Act.put, List.setIfInBounds_toArray, List.set_cons_zero, List.set_cons_succ]
      refine wpAnyH_ready (rs := [3]) (by kernel_rfl) (by simp) ?_
      refine AllReadyH.cons (by conv => lhs; simp only [List.getElem?_toArray, List.getElem?_cons_succ, List.getElem?_cons_zero]) (fun K hK => ?_) AllReadyH.nil
      go_simp
      refine (HIHY.out _ HWA.out.drew).mono ?_
      rintro e w8 ⟨cs8, rfl, hr8, hb8⟩
      obtain ⟨la8, lc8, ma8, mc8, sa8, sc8, aa8, ac8, rfl, -⟩ := hr8.inv
      have HW8 := Lib.hid (Below.next ((Below.refl WA.heap.size WA).drew) hb8)
      have HO8 := Lib.hid (HOA.out.keep HW8.out); have HX38 := Lib.hid (HX3A.out.keep HW8.out); have HX58 := Lib.hid (HX5.out.keep HW8.out); have HX28 := Lib.hid (HX2A.out.keep HW8.out)
      have hw8 := HW8.out.size
      obtain ⟨A9, c9, w9, hrun, ho9, hg9⟩ := own_snocXR HO8.out (x := y) (cs := [.int .i64 y.kind, .int .i64 y.val.kind, .bool y.val.bool, .int .i64 y.val.int, .string y.val.str, .slice la8 y.val.list.length lc8, .slice ma8 y.val.map.length mc8, .string y.name, .slice sa8 y.steps.length sc8, .slice aa8 y.args.length ac8]) (hr8.weak (fun b hb hlt => ⟨hb.elim .inl (fun h => .inr (by have h9 : WA.drew.heap.size = WA.heap.size := rfl; omega)), fun e => by have h1 := HROW.out b e; rcases hb with h | h; omega; have h9 : WA.drew.heap.size = WA.heap.size := rfl; omega⟩)) (by omega) (by have := HLL.out; omega)
      obtain ⟨L2, hL2⟩ : ∃ z, z = L ++ [y] := ⟨_, rfl⟩
      rw [← hL2] at hrun ho9
      have hrow3 : ∀ b, Value.ownBlock (.slice A L.length c) = some b → n3 + 1 ≤ b ∧ b < n5 := HROW.out
      have HX39 := Lib.hid (HX38.out.grow hg9 (fun e => by have := hrow3 _ e; omega)); have HX59 := Lib.hid (HX58.out.grow hg9 (fun e => by have := hrow3 _ e; omega)); have HX29 := Lib.hid (HX28.out.grow hg9 (fun e => by have := hrow3 _ e; omega))
      have HB9 := Lib.hid (Bar.grow (gc := n3) ((Bar.of HBA.out).trans (Bar.of HW8.out)) hg9 (fun b e => by have := hrow3 _ e; omega))
      have HRUN := Lib.hid hrun; have HO9 := Lib.hid ho9; have HL2 := Lib.hid (show L2 = ar.take (q + 1) from by rw [hL2, HST.out])
      clear hr8 hb8 hrun ho9 hg9 hrow3 hL2 k3 f3 l3 k5 f5 l5
      have k3 := HX39.out.cell; have f3 := HX39.out.frozen; have l3 := HX39.out.lt
      go_wp2_with fail
      refine hK.out _ _ (by exact HSS.out _ HW8.out) (fun hHeld => ?_)
      clear hK K
      try simp only [Act.put, List.setIfInBounds_toArray, List.set_cons_zero, List.set_cons_succ]
      refine wpAnyH_ready (rs := [4]) (by kernel_rfl) (by simp) ?_
      refine AllReadyH.cons (by conv => lhs; simp only [List.getElem?_toArray, List.getElem?_cons_succ, List.getElem?_cons_zero]) (fun K hK => ?_) AllReadyH.nil
      go_simp
      refine hK.out _ _ (by exact HSS.out _ (HW8.out.alloc HW8.out.size _)) (fun hHeld => ?_)
      clear hK K
      try simp only [Act.put, List.setIfInBounds_toArray, List.set_cons_zero, List.set_cons_succ]
      refine wpAnyH_ready (rs := [5]) (by kernel_rfl) (by simp) ?_
      refine AllReadyH.cons (by conv => lhs; simp only [List.getElem?_toArray, List.getElem?_cons_succ, List.getElem?_cons_zero]) (fun K hK => ?_) AllReadyH.nil
      refine step_append_run rfl (.tmp 23) (.tmp 26) 43 rfl HRUN.out rfl rfl ?_
      refine hK.out _ _ (by exact ⟨HX39.out.cell, HX59.out.cell⟩) (fun hHeld => ?_)
      clear hK K
      try simp only [Act.put, List.setIfInBounds_toArray, List.set_cons_zero, List.set_cons_succ]
      refine wpAnyH_take (i := 6) (v := ?vm4_6) (by conv => lhs; simp only [List.getElem?_toArray, List.getElem?_cons_succ, List.getElem?_cons_zero]) (by kernel_rfl) (by kernel_rfl) (by kernel_rfl) (by exact fun _ _ _ h => h) (Or.inl ⟨by rfl, ?hym4_6⟩) (by assumption) ?_
      case hym4_6 => (intro w0 hSw; (try dsimp only at hSw); go_simp; (try with_reducible rfl); (try assumption))
      try simp only [Act.put, List.setIfInBounds_toArray, List.set_cons_zero, List.set_cons_succ]
      refine wpAnyH_done (by kernel_rfl) ?_ _
      refine LastQ.step (by conv => lhs; simp only [List.getElem?_toArray, List.getElem?_cons_succ, List.getElem?_cons_zero]) (fun K hK => ?_)
      go_simp
      refine hK.out _ _ ?_
      clear hK K
      try simp only [Act.put, List.setIfInBounds_toArray, List.set_cons_zero, List.set_cons_succ]
      go_wp2_with fail
      go_roundw
      case rel => exact ⟨q + 1, L2, A9, c9, by omega, by go_num, HL2, Lib.hid ((HB9.out.trans (Bar.set n3 9 _)).under hWn3), Lib.hid (HX29.out.far (p := ⟨n3, 9, none⟩) hn13b _), Lib.hid (HX39.out.set_ 9 _), Lib.hid (HO9.out.far _ (fun g hg => by have := (HO9.out.own g hg).1; show g ≠ n3; omega) (by show ¬ ((S n3 ∧ n3 < w.heap.size) ∨ n3 + 1 ≤ n3); omega)), Lib.hid (by simp only [World.setCell]; first | exact HX39.out.lt | (simp; exact HX39.out.lt))⟩
      case measure => simp [Lib.intOf]; omega
    · have hge : ¬ (q : Int) < (ar.length : Int) := by omega
      obtain rfl : q = ar.length := by omega
      have HLE := Lib.hid (show L = ar from by rw [HL.out, List.take_length])
      have k3 := HX3.out.cell; have f3 := HX3.out.frozen; have l3 := HX3.out.lt; have k2 := HX2.out.cell; have f2 := HX2.out.frozen; have l2 := HX2.out.lt
      go_wp2_with fail
      refine ret_cell (p := 2) (g := n2) rfl rfl (blk_set10 (w := wr) HX2.out) Tryz.underlying45 (by kernel_rfl) rfl ?_
      have hbar := bar_set10 wr n2 (.int .i64 k) (.int .i64 v.kind) (.bool v.bool) (.int .i64 v.int) (.string v.str) (.slice la v.list.length lc) (.slice ma v.map.length mc) (.string nm) (.slice sa st.length sc) (.slice A L.length c)
      have hn1 := N1.out
      refine ⟨[.int .i64 k, .int .i64 v.kind, .bool v.bool, .int .i64 v.int, .string v.str, .slice la v.list.length lc, .slice ma v.map.length mc, .string nm, .slice sa st.length sc, .slice A L.length c], rfl, ?_, ((Bar.of (gc := n2) HB.out).trans hbar).under (by omega)⟩
      have hp : PartsX wr (fun b => ((S b ∧ b < w.heap.size) ∨ W.heap.size ≤ b) ∧ b ≠ n2) la lc ma mc sa sc A c (.mk k v nm st L) := ⟨HK.out, HV.out.mono (fun b hb hlt => ⟨.inl hb, by have := hb.2; omega⟩) (fun b o hb hlt => HB.out.cell hlt), HN.out, HS.out.mono (fun b hb hlt => ⟨.inl hb, by have := hb.2; omega⟩) (fun b o hb hlt => HB.out.cell hlt), HSR.out, ⟨HO.out.len.1, HO.out.len.2, by rw [HLE.out]; exact HAR.out.2.2⟩, RepE.weak (E := eltXR) HO.out.rep (fun b hb _ => ⟨hb.elim (fun h => h.elim .inl (fun h => .inr (by omega))) (fun h => .inr (by omega)), by rcases hb with (h | h) | h <;> omega⟩)⟩
      have hr := (RepX.of hp).mono (w' := set10 wr n2 (.int .i64 k) (.int .i64 v.kind) (.bool v.bool) (.int .i64 v.int) (.string v.str) (.slice la v.list.length lc) (.slice ma v.map.length mc) (.string nm) (.slice sa st.length sc) (.slice A L.length c)) (fun b hb _ => hb.1) (fun b o hb hlt => hbar.cell hlt hb.2)
      rw [HLE.out] at hr ⊢
      exact hr
  
end Go.Proofs.YtnblmhfgmehnnaaGreatDoor

/- The reference's Same: whether two values are one. -/
namespace Go.Proofs.YtnblmhfgmehnnaaGreatDoor
open Go.RowKit
attribute [local go_sem ↓] Go.wp_at_zero Go.wp_at_succ

def SamePost (w : World) (p : Prop) (e : Ending) (w' : World) : Prop := ∃ r : Bool, e = .returned (.bool r) ∧ (r = true ↔ p) ∧ Below w.heap.size w w'
def SameOk (a : T) : Prop := ∀ (b : T) (w : World) (S S' : Nat → Prop) (v v' : Value), RepT w S v a → RepT w S' v' b → Calls Tryz.prog 36 #[v, v'] w (SamePost w (a = b))
theorem T.eq_iff (a b : T) : a = b ↔ a.kind = b.kind ∧ a.bool = b.bool ∧ a.int = b.int ∧ a.str = b.str ∧ a.list = b.list ∧ a.map = b.map := by
  cases a; cases b; simp [T.kind, T.bool, T.int, T.str, T.list, T.map]
theorem SamePost.no {w w' : World} {p : Prop} (hp : ¬ p) (hb : Below w.heap.size w w') : SamePost w p (.returned (.bool false)) w' := ⟨false, rfl, by simp [hp], hb⟩
theorem SamePost.yes {w w' : World} {p : Prop} (hp : p) (hb : Below w.heap.size w w') : SamePost w p (.returned (.bool true)) w' := ⟨true, rfl, by simp [hp], hb⟩

set_option maxRecDepth 100000 in
set_option maxHeartbeats 4000000 in
theorem rsame (a : T) : SameOk a := by
  have hnot : ∀ (x : Bool) (w : World), (Op.unary .not (.bool x)).run Tryz.prog w = .ok (.bool (!x)) w := fun _ _ => rfl
  induction a using T.ind' with
  | h a ihl ihm =>
  intro b w S S' v v' h h'
  obtain ⟨la, lc, ma, mc, rfl, hp⟩ := h.inv
  obtain ⟨-, -, -, hl, hm, -, -, -, -, hL, hM⟩ := hp
  obtain ⟨lb, ld, mb, md, rfl, hp'⟩ := h'.inv
  obtain ⟨-, -, -, hl', hm', -, -, -, -, hL', hM'⟩ := hp'
  have HEQ := Lib.hid (T.eq_iff a b)
  clear h h'
  generalize a.kind = k1 at *
  generalize a.bool = b1 at *
  generalize a.int = n1 at *
  generalize a.str = s1 at *
  generalize a.list = l1 at *
  generalize a.map = m1 at *
  generalize b.kind = k2 at *
  generalize b.bool = b2 at *
  generalize b.int = n2 at *
  generalize b.str = s2 at *
  generalize b.list = l2 at *
  generalize b.map = m2 at *
  have hbx : Below w.heap.size w ((w.alloc (.cells #[.int .i64 k1, .bool b1, .int .i64 n1, .string s1, .slice la l1.length lc, .slice ma m1.length mc] 41)).alloc (.cells #[.int .i64 k2, .bool b2, .int .i64 n2, .string s2, .slice lb l2.length ld, .slice mb m2.length md] 41)) := (Below.new _ _).alloc (by simp) _
  by_cases hd : k1 ≠ k2
  · have HN : Hid (¬ (a = b)) := fun e => by have := HEQ.out.1 e; exact hd this.1
    clear HEQ
    have g : (k1 != k2) = true := bne_iff_ne.2 hd
    clear hd
    go_enter Tryz.func36, Tryz.ntmps36
    go_wp2_with fail
    go_ret
    exact SamePost.no HN.out hbx
  have hd := Classical.not_not.1 hd
  subst hd
  by_cases hd : b1 ≠ b2
  · have HN : Hid (¬ (a = b)) := fun e => by have := HEQ.out.1 e; exact hd this.2.1
    clear HEQ
    have g : (b1 != b2) = true := bne_iff_ne.2 hd
    have g2 : (b1 == b2) = false := beq_eq_false_iff_ne.2 hd
    clear hd
    go_enter Tryz.func36, Tryz.ntmps36
    go_wp2_with fail
    go_ret
    exact SamePost.no HN.out hbx
  have hd := Classical.not_not.1 hd
  subst hd
  by_cases hd : n1 ≠ n2
  · have HN : Hid (¬ (a = b)) := fun e => by have := HEQ.out.1 e; exact hd this.2.2.1
    clear HEQ
    have g : (n1 != n2) = true := bne_iff_ne.2 hd
    clear hd
    go_enter Tryz.func36, Tryz.ntmps36
    go_wp2_with fail
    go_ret
    exact SamePost.no HN.out hbx
  have hd := Classical.not_not.1 hd
  subst hd
  by_cases hd : s1 ≠ s2
  · have HN : Hid (¬ (a = b)) := fun e => by have := HEQ.out.1 e; exact hd this.2.2.2.1
    clear HEQ
    have g : (s1.toList == s2.toList) = false := by rw [keq_iff]; simpa using hd
    clear hd
    go_enter Tryz.func36, Tryz.ntmps36
    go_wp2_with fail
    go_ret
    exact SamePost.no HN.out hbx
  have hd := Classical.not_not.1 hd
  subst hd
  by_cases hd : l1.length ≠ l2.length
  · have HN : Hid (¬ (a = b)) := fun e => by have := HEQ.out.1 e; exact hd (by rw [this.2.2.2.2.1])
    clear HEQ
    have g : ((l1.length : Int) != (l2.length : Int)) = true := by rw [bne_iff_ne]; omega
    have g2 : (l1.length != l2.length) = true := bne_iff_ne.2 hd
    clear hd
    go_enter Tryz.func36, Tryz.ntmps36
    go_wp2_with fail
    go_ret
    exact SamePost.no HN.out hbx
  have hll := Classical.not_not.1 hd
  have HLL := Lib.hid hll
  have g1 : ((l1.length : Int) != (l2.length : Int)) = false := by simp [hll]
  have g1' : (l1.length != l2.length) = false := by simp [hll]
  clear hd hll
  by_cases hd : m1.length ≠ m2.length
  · have HN : Hid (¬ (a = b)) := fun e => by have := HEQ.out.1 e; exact hd (by rw [this.2.2.2.2.2])
    clear HEQ
    have g : ((m1.length : Int) != (m2.length : Int)) = true := by rw [bne_iff_ne]; omega
    have g2 : (m1.length != m2.length) = true := bne_iff_ne.2 hd
    clear hd
    go_enter Tryz.func36, Tryz.ntmps36
    go_wp2_with fail
    go_ret
    exact SamePost.no HN.out hbx
  have hmm := Classical.not_not.1 hd
  have HMM := Lib.hid hmm
  have g2 : ((m1.length : Int) != (m2.length : Int)) = false := by simp [hmm]
  have g2' : (m1.length != m2.length) = false := by simp [hmm]
  clear hd hmm
  go_enter Tryz.func36, Tryz.ntmps36
  go_wp2_with fail
  go_loopw [5] (fun i wr => ∃ q : Nat, q ≤ l1.length ∧ i = .int .i64 q ∧ Hid (∀ j (hj : j < l1.length) (hj' : j < l2.length), j < q → l1[j] = l2[j]) ∧ Below w.heap.size w wr ∧ Blk wr w.heap.size 41 #[.int .i64 k1, .bool b1, .int .i64 n1, .string s1, .slice la l1.length lc, .slice ma m1.length mc] ∧ Blk wr (w.heap.size + 1) 41 #[.int .i64 k1, .bool b1, .int .i64 n1, .string s1, .slice lb l2.length ld, .slice mb m2.length md]) (fun i _ => l1.length - (intOf i).toNat)
  case atStart => exact ⟨0, Nat.zero_le _, rfl, fun j _ _ h => by omega, hbx, (Blk.new _ _ _).alloc _, Blk.new_at _ _ _ (by simp)⟩
  case round =>
    clear g1 g1' g2 g2' hbx
    obtain ⟨j, hj, rfl, hall, hbw, hx1, hx2⟩ := hrel
    have b4 : wr.cell? ⟨w.heap.size, 4, none⟩ = some (.slice la l1.length lc) := hx1.cell 4
    have b5 : wr.cell? ⟨w.heap.size, 5, none⟩ = some (.slice ma m1.length mc) := hx1.cell 5
    have d4 : wr.cell? ⟨w.heap.size + 1, 4, none⟩ = some (.slice lb l2.length ld) := hx2.cell 4
    have d5 : wr.cell? ⟨w.heap.size + 1, 5, none⟩ = some (.slice mb m2.length md) := hx2.cell 5
    by_cases hlt : j < l1.length
    · have hlt2 : j < l2.length := by have := HLL.out; omega
      obtain ⟨bl, ol, la', lc', ma', mc', rfl, -, hbl0, ⟨c0, c1, c2, c3, c4, c5⟩, hr⟩ := (hL.keep hbw).at_ hlt
      obtain ⟨bk, ok, lb', ld', mb', md', rfl, -, hbk0, ⟨e0, e1, e2, e3, e4, e5⟩, hr'⟩ := (hL'.keep hbw).at_ hlt2
      have HIH := Lib.hid (fun w v v' h h' => ihl _ (List.getElem_mem hlt) (l2[j]'hlt2) w S S' v v' h h')
      have HSTEP : Hid (l1[j] = l2[j] → ∀ i (hi : i < l1.length) (hi' : i < l2.length), i < j + 1 → l1[i] = l2[i]) := fun he i hi hi' h => by
        rcases Nat.lt_or_ge i j with h2 | h2
        · exact hall.out i hi hi' h2
        · obtain rfl : i = j := by omega
          exact he
      have HNO : Hid (¬ l1[j] = l2[j] → ¬ a = b) := fun he e => he (by
        have e2 := (HEQ.out.1 e).2.2.2.2.1
        subst e2; rfl)
      generalize l1[j] = x at *
      generalize l2[j] = y at *
      have HR := Lib.hid hr
      have HR' := Lib.hid hr'
      have hi1 : (0 : Int) ≤ (j : Int) := by omega
      have hi2 : (j : Int) < (l1.length : Int) := by omega
      have hi3 : (j : Int) < (l2.length : Int) := by omega
      clear hr hr'
      go_wp2_with fail
      go_region_held3 (fun w' => w'.cell? ⟨w.heap.size, 4, none⟩ = some (.slice (some ⟨bl, ol, none⟩) l1.length lc) ∧ w'.cell? ⟨w.heap.size + 1, 4, none⟩ = some (.slice (some ⟨bk, ok, none⟩) l2.length ld) ∧ w'.cell? ⟨bl, ol + j * 6, none⟩ = some (.int .i64 x.kind) ∧ w'.cell? ⟨bl, ol + j * 6 + 1, none⟩ = some (.bool x.bool) ∧ w'.cell? ⟨bl, ol + j * 6 + 2, none⟩ = some (.int .i64 x.int) ∧ w'.cell? ⟨bl, ol + j * 6 + 3, none⟩ = some (.string x.str) ∧ w'.cell? ⟨bl, ol + j * 6 + 4, none⟩ = some (.slice la' x.list.length lc') ∧ w'.cell? ⟨bl, ol + j * 6 + 5, none⟩ = some (.slice ma' x.map.length mc') ∧ w'.cell? ⟨bk, ok + j * 6, none⟩ = some (.int .i64 y.kind) ∧ w'.cell? ⟨bk, ok + j * 6 + 1, none⟩ = some (.bool y.bool) ∧ w'.cell? ⟨bk, ok + j * 6 + 2, none⟩ = some (.int .i64 y.int) ∧ w'.cell? ⟨bk, ok + j * 6 + 3, none⟩ = some (.string y.str) ∧ w'.cell? ⟨bk, ok + j * 6 + 4, none⟩ = some (.slice lb' y.list.length ld') ∧ w'.cell? ⟨bk, ok + j * 6 + 5, none⟩ = some (.slice mb' y.map.length md')) (go_keep)
        (first | (go_at_call 36; refine (HIH.out _ _ _ (HR.out.keep (by exact Below.drew (Below.refl _ _))) (HR'.out.keep (by exact Below.drew (Below.refl _ _)))).mono ?_; rintro e w1 ⟨r, rfl, hr, hb1⟩; have hcb := (bcell (Below.next (Below.drew (Below.refl wr.heap.size wr)) hb1)).1;  have u0 := (hcb _ _ hbl0).trans c0; have v0 := (hcb _ _ hbk0).trans e0; have u1 := (hcb _ _ hbl0).trans c1; have v1 := (hcb _ _ hbk0).trans e1; have u2 := (hcb _ _ hbl0).trans c2; have v2 := (hcb _ _ hbk0).trans e2; have u3 := (hcb _ _ hbl0).trans c3; have v3 := (hcb _ _ hbk0).trans e3; have u4 := (hcb _ _ hbl0).trans c4; have v4 := (hcb _ _ hbk0).trans e4; have u5 := (hcb _ _ hbl0).trans c5; have v5 := (hcb _ _ hbk0).trans e5; have u7 := (hcb _ _ hx1.lt).trans b4; have u8 := (hcb _ _ hx2.lt).trans d4; have HB1 := Lib.hid hb1; have HRR := Lib.hid hr; clear hb1 hr hcb))
      have hb2 := Below.next (Below.drew (Below.refl wr.heap.size wr)) HB1.out
      clear u0 u1 u2 u3 u4 u5 v0 v1 v2 v3 v4 v5 u7 u8
      cases r with
      | true =>
        have HE := Lib.hid (HSTEP.out (HRR.out.1 rfl))
        go_wp2_with fail
        go_roundw
        case rel => exact ⟨j + 1, by omega, by go_num, HE, Below.next hbw hb2, hx1.keep hb2, hx2.keep hb2⟩
        case measure => simp [intOf]; omega
      | false =>
        have HN := Lib.hid (HNO.out (fun e => by have := HRR.out.2 e; cases this))
        go_wp2_with fail
        go_ret
        exact SamePost.no HN.out (Below.next hbw hb2)
    · have HLE : Hid (l1 = l2) := List.ext_getElem HLL.out fun i hi hi' => hall.out i hi hi' (by omega)
      clear hall
      go_wp2_with fail
      go_loopw [6] (fun i wr => ∃ q : Nat, q ≤ m1.length ∧ i = .int .i64 q ∧ Hid (∀ j (hj : j < m1.length) (hj' : j < m2.length), j < q → m1[j] = m2[j]) ∧ Below w.heap.size w wr ∧ Blk wr w.heap.size 41 #[.int .i64 k1, .bool b1, .int .i64 n1, .string s1, .slice la l1.length lc, .slice ma m1.length mc] ∧ Blk wr (w.heap.size + 1) 41 #[.int .i64 k1, .bool b1, .int .i64 n1, .string s1, .slice lb l2.length ld, .slice mb m2.length md]) (fun i _ => m1.length - (intOf i).toNat)
      case atStart => exact ⟨0, Nat.zero_le _, rfl, fun j _ _ h => by omega, hbw, hx1, hx2⟩
      case round =>
        clear hbw hx1 hx2 b4 d4 b5 d5 hlt hj
        obtain ⟨j, hj, rfl, hall, hbw, hx1, hx2⟩ := hrel
        have b5 : wr.cell? ⟨w.heap.size, 5, none⟩ = some (.slice ma m1.length mc) := hx1.cell 5
        have d5 : wr.cell? ⟨w.heap.size + 1, 5, none⟩ = some (.slice mb m2.length md) := hx2.cell 5
        by_cases hlt : j < m1.length
        · have hlt2 : j < m2.length := by have := HMM.out; omega
          obtain ⟨bl, ol, la', lc', ma', mc', rfl, -, hbl0, -, ⟨c0, c1, c2, c3, c4, c5, c6⟩, hr⟩ := (hM.keep hbw).at_ hlt
          obtain ⟨bk, ok, lb', ld', mb', md', rfl, -, hbk0, -, ⟨e0, e1, e2, e3, e4, e5, e6⟩, hr'⟩ := (hM'.keep hbw).at_ hlt2
          have HIH := Lib.hid (fun w v v' h h' => ihm _ (List.getElem_mem hlt) (m2[j]'hlt2).2 w S S' v v' h h')
          have HSTEP : Hid (m1[j] = m2[j] → ∀ i (hi : i < m1.length) (hi' : i < m2.length), i < j + 1 → m1[i] = m2[i]) := fun he i hi hi' h => by
            rcases Nat.lt_or_ge i j with h2 | h2
            · exact hall.out i hi hi' h2
            · obtain rfl : i = j := by omega
              exact he
          have HNO : Hid (¬ m1[j] = m2[j] → ¬ a = b) := fun he e => he (by
            have e2 := (HEQ.out.1 e).2.2.2.2.2
            subst e2; rfl)
          generalize m1[j] = px at *
          generalize m2[j] = py at *
          obtain ⟨p1, x⟩ := px
          obtain ⟨p2, y⟩ := py
          simp only at *
          have HR := Lib.hid hr
          have HR' := Lib.hid hr'
          have hi1 : (0 : Int) ≤ (j : Int) := by omega
          have hi2 : (j : Int) < (m1.length : Int) := by omega
          have hi3 : (j : Int) < (m2.length : Int) := by omega
          clear hr hr'
          by_cases hk : p1 = p2
          · subst hk
            go_wp2_with fail
            go_region_held3 (fun w' => w'.cell? ⟨w.heap.size, 5, none⟩ = some (.slice (some ⟨bl, ol, none⟩) m1.length mc) ∧ w'.cell? ⟨w.heap.size + 1, 5, none⟩ = some (.slice (some ⟨bk, ok, none⟩) m2.length md) ∧ w'.cell? ⟨bl, ol + j * 7, none⟩ = some (.string p1) ∧ w'.cell? ⟨bk, ok + j * 7, none⟩ = some (.string p1) ∧ w'.cell? ⟨bl, ol + j * 7 + 1, none⟩ = some (.int .i64 x.kind) ∧ w'.cell? ⟨bl, ol + j * 7 + 2, none⟩ = some (.bool x.bool) ∧ w'.cell? ⟨bl, ol + j * 7 + 3, none⟩ = some (.int .i64 x.int) ∧ w'.cell? ⟨bl, ol + j * 7 + 4, none⟩ = some (.string x.str) ∧ w'.cell? ⟨bl, ol + j * 7 + 5, none⟩ = some (.slice la' x.list.length lc') ∧ w'.cell? ⟨bl, ol + j * 7 + 6, none⟩ = some (.slice ma' x.map.length mc') ∧ w'.cell? ⟨bk, ok + j * 7 + 1, none⟩ = some (.int .i64 y.kind) ∧ w'.cell? ⟨bk, ok + j * 7 + 2, none⟩ = some (.bool y.bool) ∧ w'.cell? ⟨bk, ok + j * 7 + 3, none⟩ = some (.int .i64 y.int) ∧ w'.cell? ⟨bk, ok + j * 7 + 4, none⟩ = some (.string y.str) ∧ w'.cell? ⟨bk, ok + j * 7 + 5, none⟩ = some (.slice lb' y.list.length ld') ∧ w'.cell? ⟨bk, ok + j * 7 + 6, none⟩ = some (.slice mb' y.map.length md')) (go_keep)
              (first | (go_at_call 36; refine (HIH.out _ _ _ (HR.out.keep (by exact Below.drew (Below.refl _ _))) (HR'.out.keep (by exact Below.drew (Below.refl _ _)))).mono ?_; rintro e w1 ⟨r, rfl, hr, hb1⟩; have hcb := (bcell (Below.next (Below.drew (Below.refl wr.heap.size wr)) hb1)).1; have u0 := (hcb _ _ hbl0).trans c0; have v0 := (hcb _ _ hbk0).trans e0; have u1 := (hcb _ _ hbl0).trans c1; have v1 := (hcb _ _ hbk0).trans e1; have u2 := (hcb _ _ hbl0).trans c2; have v2 := (hcb _ _ hbk0).trans e2; have u3 := (hcb _ _ hbl0).trans c3; have v3 := (hcb _ _ hbk0).trans e3; have u4 := (hcb _ _ hbl0).trans c4; have v4 := (hcb _ _ hbk0).trans e4; have u5 := (hcb _ _ hbl0).trans c5; have v5 := (hcb _ _ hbk0).trans e5; have u6 := (hcb _ _ hbl0).trans c6; have v6 := (hcb _ _ hbk0).trans e6; have u7 := (hcb _ _ hx1.lt).trans b5; have u8 := (hcb _ _ hx2.lt).trans d5; have HB1 := Lib.hid hb1; have HRR := Lib.hid hr; clear hb1 hr hcb))
            have hb2 := Below.next (Below.drew (Below.refl wr.heap.size wr)) HB1.out
            clear u0 u1 u2 u3 u4 u5 u6 v0 v1 v2 v3 v4 v5 v6 u7 u8
            cases r with
            | true =>
              have HE := Lib.hid (HSTEP.out (by rw [HRR.out.1 rfl]))
              go_wp2_with fail
              go_roundw
              case rel => exact ⟨j + 1, by omega, by go_num, HE, Below.next hbw hb2, hx1.keep hb2, hx2.keep hb2⟩
              case measure => simp [intOf]; omega
            | false =>
              have HN := Lib.hid (HNO.out (fun e => by have := HRR.out.2 (by injection e); cases this))
              go_wp2_with fail
              go_ret
              exact SamePost.no HN.out (Below.next hbw hb2)
          · have HN := Lib.hid (HNO.out (fun e => hk (by injection e)))
            have gk : (p1.toList == p2.toList) = false := by rw [keq_iff]; simpa using hk
            clear hk
            go_wp2_with fail
            go_quiet (fail)
            go_wp2_with fail
            go_ret
            exact SamePost.no HN.out (Below.drewN hbw _)
        · have HME : Hid (a = b) := HEQ.out.2 ⟨by trivial, by trivial, by trivial, by trivial, HLE.out, List.ext_getElem HMM.out fun i hi hi' => hall.out i hi hi' (by omega)⟩
          clear hall
          go_wp2_with fail
          go_ret
          exact SamePost.yes HME.out hbw
end Go.Proofs.YtnblmhfgmehnnaaGreatDoor

/- parse's laws: expressions that read alike are the same. -/
namespace Go.Proofs.YtnblmhfgmehnnaaGreatDoor
open Go.RowKit Go.Lib
attribute [local go_sem ↓] Go.wp_at_zero Go.wp_at_succ

theorem same_self (t : T) (w : World) (S S' : Nat → Prop) (v v' : Value) (h : RepT w S v t) (h' : RepT w S' v' t) : Calls Tryz.prog 36 #[v, v'] w fun e w' => e = .returned (.bool true) ∧ Below w.heap.size w w' :=
  (rsame t t w S S' v v' h h').mono fun e w' ⟨r, h1, h2, h3⟩ => ⟨by rw [h1, h2.2 rfl], h3⟩

set_option maxRecDepth 100000 in
set_option maxHeartbeats 16000000 in
theorem texpr {w : World} {S : Nat → Prop} {cs : List Value} {x : Ex} (h : RepX w S cs x) : ∀ (W : World) (S2 : Nat → Prop) (cs2 : List Value), Below w.heap.size w W → RepX W S2 cs2 x → Calls Tryz.prog 19 #[.agg (List.toArray cs), .agg (List.toArray cs2)] W fun e w' => e = .returned (.bool true) ∧ Below W.heap.size W w' := by
  induction h with
  | mk k v nm st ar la lc ma mc sa sc aa ac C hk hv hn hs hsr har ha hr ih =>
  intro W S2 cs2 hW hx2
  obtain ⟨la2, lc2, ma2, mc2, sa2, sc2, aa2, ac2, rfl, hp2⟩ := hx2.inv
  show Calls Tryz.prog 19 #[.agg #[.int .i64 k, .int .i64 v.kind, .bool v.bool, .int .i64 v.int, .string v.str, .slice la v.list.length lc, .slice ma v.map.length mc, .string nm, .slice sa st.length sc, .slice aa ar.length ac], .agg #[.int .i64 k, .int .i64 v.kind, .bool v.bool, .int .i64 v.int, .string v.str, .slice la2 v.list.length lc2, .slice ma2 v.map.length mc2, .string nm, .slice sa2 st.length sc2, .slice aa2 ar.length ac2]] W _
  have hwW := hW.size
  have HV := Lib.hid (show RepT W S (.agg #[.int .i64 v.kind, .bool v.bool, .int .i64 v.int, .string v.str, .slice la v.list.length lc, .slice ma v.map.length mc]) v from hv.mono (fun b hb _ => hb) (fun b o hb hlt => hW.cell hlt))
  have HV2 := Lib.hid (show RepT W S2 (.agg #[.int .i64 v.kind, .bool v.bool, .int .i64 v.int, .string v.str, .slice la2 v.list.length lc2, .slice ma2 v.map.length mc2]) v from hp2.val)
  have HS := Lib.hid (show RepS W S sa st from hs.mono (fun b hb _ => hb) (fun b o hb hlt => hW.cell hlt))
  have HS2 := Lib.hid (show RepS W S2 sa2 st from hp2.steps)
  have HA := Lib.hid (fun i (hi : i < ar.length) => show ∃ b o, aa = some ⟨b, o, none⟩ ∧ b < W.heap.size ∧ cellsAt W b (o + i * 10) (C i) from by
    obtain ⟨b, o, e, hb, hc⟩ := ha i hi
    have hlt : b < w.heap.size := by have hl := (hr i hi).len; generalize C i = cs at hc hl; cases cs with | nil => simp at hl | cons c cs => exact hc.lt
    exact ⟨b, o, e, by omega, hc.keep fun i => hW.cell hlt⟩)
  have HA2 := Lib.hid (fun i (hi : i < ar.length) => show ∃ b o cs, aa2 = some ⟨b, o, none⟩ ∧ b < W.heap.size ∧ cellsAt W b (o + i * 10) cs ∧ RepX W S2 cs ar[i] from by
    obtain ⟨b, o, cs, e, hb, hc, hx⟩ := hp2.args i hi
    exact ⟨b, o, cs, e, by have hl := hx.len; cases cs with | nil => simp at hl | cons c cs => exact hc.lt, hc, hx⟩)
  have HR := Lib.hid (fun i (hi : i < ar.length) => (hr i hi).inv)
  have HIH := Lib.hid ih
  have hn1 := har.2.2; have hn2 := hsr.2.2
  have HW := Lib.hid hW
  clear hk hv hn hs hsr har ha hr ih hW hx2 hp2
  have hb1 := Below.new W (.cells #[.int .i64 k, .int .i64 v.kind, .bool v.bool, .int .i64 v.int, .string v.str, .slice la v.list.length lc, .slice ma v.map.length mc, .string nm, .slice sa st.length sc, .slice aa ar.length ac] 50)
  have h1 := Blk.new W 50 #[.int .i64 k, .int .i64 v.kind, .bool v.bool, .int .i64 v.int, .string v.str, .slice la v.list.length lc, .slice ma v.map.length mc, .string nm, .slice sa st.length sc, .slice aa ar.length ac]
  obtain ⟨W1, e1⟩ : ∃ z, z = W.alloc (.cells #[.int .i64 k, .int .i64 v.kind, .bool v.bool, .int .i64 v.int, .string v.str, .slice la v.list.length lc, .slice ma v.map.length mc, .string nm, .slice sa st.length sc, .slice aa ar.length ac] 50) := ⟨_, rfl⟩
  have z1 : W1.heap.size = W.heap.size + 1 := by rw [e1]; simp
  rw [← e1] at hb1 h1
  have hb2 := Below.new W1 (.cells #[.int .i64 k, .int .i64 v.kind, .bool v.bool, .int .i64 v.int, .string v.str, .slice la2 v.list.length lc2, .slice ma2 v.map.length mc2, .string nm, .slice sa2 st.length sc2, .slice aa2 ar.length ac2] 45)
  have h2 := Blk.new W1 45 #[.int .i64 k, .int .i64 v.kind, .bool v.bool, .int .i64 v.int, .string v.str, .slice la2 v.list.length lc2, .slice ma2 v.map.length mc2, .string nm, .slice sa2 st.length sc2, .slice aa2 ar.length ac2]
  obtain ⟨W2, e2⟩ : ∃ z, z = W1.alloc (.cells #[.int .i64 k, .int .i64 v.kind, .bool v.bool, .int .i64 v.int, .string v.str, .slice la2 v.list.length lc2, .slice ma2 v.map.length mc2, .string nm, .slice sa2 st.length sc2, .slice aa2 ar.length ac2] 45) := ⟨_, rfl⟩
  rw [← e2] at hb2 h2
  obtain ⟨n1, en1⟩ : ∃ z, z = W.heap.size := ⟨_, rfl⟩
  obtain ⟨n2, en2⟩ : ∃ z, z = W1.heap.size := ⟨_, rfl⟩
  have HB2 := Lib.hid (Below.next hb1 hb2)
  have H1 := Lib.hid (h1.keep hb2); have H2 := Lib.hid h2
  rw [← en1] at H1
  rw [← en2] at H2
  have hn12 : n1 + 1 = n2 := by omega
  have E1 := Lib.hid e1; have E2 := Lib.hid e2; have N1 := Lib.hid en1; have HN12 := Lib.hid hn12
  have hl12 : n1 < n2 := by omega
  clear h1 h2 hb1 hb2 e1 e2 z1 en1 en2 hn12
  have CS := Lib.hid (fun (W' : World) (hb : Below W.heap.size W W') => same_self v W' S S2 _ _ (HV.out.keep hb) (HV2.out.keep hb))
  go_enter Tryz.func19, Tryz.ntmps19
  go_upto_region 1 with fail
  rw [← E1.out, ← E2.out, ← N1.out, HN12.out]
  have k1 := H1.out.cell; have f1 := H1.out.frozen; have l1 := H1.out.lt; have k2 := H2.out.cell; have f2 := H2.out.frozen; have l2 := H2.out.lt
  go_wp2_with fail
  refine (CS.out _ HB2.out).mono ?_
  rintro e w3 ⟨rfl, hb3⟩
  have HB3 := Lib.hid (Below.next HB2.out hb3); have H13 := Lib.hid (H1.out.keep hb3); have H23 := Lib.hid (H2.out.keep hb3)
  clear hb3 k1 f1 l1 k2 f2 l2
  have k1 := H13.out.cell; have f1 := H13.out.frozen; have l1 := H13.out.lt; have k2 := H23.out.cell; have f2 := H23.out.frozen; have l2 := H23.out.lt
  go_wp2_with fail
  have hq0 : True := trivial
  go_loopw [48] (fun x48 wr => ∃ q : Nat, q ≤ st.length ∧ x48 = .int .i64 q ∧ Hid (Below W.heap.size W wr) ∧ Hid (Blk wr n1 50 #[.int .i64 k, .int .i64 v.kind, .bool v.bool, .int .i64 v.int, .string v.str, .slice la v.list.length lc, .slice ma v.map.length mc, .string nm, .slice sa st.length sc, .slice aa ar.length ac]) ∧ Hid (Blk wr n2 45 #[.int .i64 k, .int .i64 v.kind, .bool v.bool, .int .i64 v.int, .string v.str, .slice la2 v.list.length lc2, .slice ma2 v.map.length mc2, .string nm, .slice sa2 st.length sc2, .slice aa2 ar.length ac2])) (fun x _ => st.length - (Lib.intOf x).toNat)
  case atStart => exact ⟨0, Nat.zero_le _, rfl, HB3, H13, H23⟩
  case round =>
    obtain ⟨q, hq, rfl, HBQ, HQ1, HQ2⟩ := hrel
    clear k1 f1 l1 k2 f2 l2
    by_cases hlt : q < st.length
    · obtain ⟨b, bo, rfl, -, hbl, hc, -⟩ := HS.out q hlt
      obtain ⟨b2, bo2, rfl, -, hbl2, hc2, -⟩ := HS2.out q hlt
      have hcw : wr.cell? ⟨b, bo + q, none⟩ = some (.string st[q]) := (HBQ.out.cell (p := ⟨b, bo + q, none⟩) hbl).trans hc
      have hcw2 : wr.cell? ⟨b2, bo2 + q, none⟩ = some (.string st[q]) := (HBQ.out.cell (p := ⟨b2, bo2 + q, none⟩) hbl2).trans hc2
      have hg0 : (0 : Int) ≤ (q : Int) := by omega
      have hg1 : (q : Int) < (st.length : Int) := by omega
      have hwk : IntKind.i64.wrap ((q : Int) + 1) = (q : Int) + 1 := wrap_fit (by omega) (by omega)
      generalize st[q] = sq at hcw hcw2
      have k1 := HQ1.out.cell; have f1 := HQ1.out.frozen; have l1 := HQ1.out.lt; have k2 := HQ2.out.cell; have f2 := HQ2.out.frozen; have l2 := HQ2.out.lt
      have hs1 := HBQ.out.size
      have hlb : b < wr.heap.size := by omega
      have hlb2 : b2 < wr.heap.size := by omega
      clear hc hc2
      go_wp2_with fail
      go_region
      go_wp2_with fail
      go_roundw
      case rel => exact ⟨q + 1, by omega, by go_num, Lib.hid (Below.drew HBQ.out), Lib.hid (HQ1.out.drew), Lib.hid (HQ2.out.drew)⟩
      case measure => simp [Lib.intOf]; omega
    · have hge : ¬ (q : Int) < (st.length : Int) := by omega
      have k1 := HQ1.out.cell; have f1 := HQ1.out.frozen; have l1 := HQ1.out.lt; have k2 := HQ2.out.cell; have f2 := HQ2.out.frozen; have l2 := HQ2.out.lt
      clear hlt
      go_wp2_with fail
      go_loopw [66] (fun x66 wr => ∃ q : Nat, q ≤ ar.length ∧ x66 = .int .i64 q ∧ Hid (Below W.heap.size W wr) ∧ Hid (Blk wr n1 50 #[.int .i64 k, .int .i64 v.kind, .bool v.bool, .int .i64 v.int, .string v.str, .slice la v.list.length lc, .slice ma v.map.length mc, .string nm, .slice sa st.length sc, .slice aa ar.length ac]) ∧ Hid (Blk wr n2 45 #[.int .i64 k, .int .i64 v.kind, .bool v.bool, .int .i64 v.int, .string v.str, .slice la2 v.list.length lc2, .slice ma2 v.map.length mc2, .string nm, .slice sa2 st.length sc2, .slice aa2 ar.length ac2])) (fun x _ => ar.length - (Lib.intOf x).toNat)
      case atStart => exact ⟨0, Nat.zero_le _, rfl, HBQ, HQ1, HQ2⟩
      case round =>
        obtain ⟨q, hq, rfl, HBP, HP1, HP2⟩ := hrel
        clear k1 f1 l1 k2 f2 l2
        by_cases hlt : q < ar.length
        · obtain ⟨b, bo, rfl, hbl, hcell⟩ := HA.out q hlt
          obtain ⟨b2, bo2, csB, rfl, hbl2, hcell2, hxB⟩ := HA2.out q hlt
          obtain ⟨lay, lcy, may, mcy, say, scy, aay, acy, hC, -⟩ := HR.out q hlt
          have hih := HIH.out q hlt
          rw [hC] at hcell hih
          obtain ⟨y, hy⟩ : ∃ z, z = ar[q] := ⟨_, rfl⟩
          rw [← hy] at hcell hih hxB
          obtain ⟨laz, lcz, maz, mcz, saz, scz, aaz, acz, rfl, -⟩ := hxB.inv
          have hcw : cellsAt wr b (bo + q * 10) [.int .i64 y.kind, .int .i64 y.val.kind, .bool y.val.bool, .int .i64 y.val.int, .string y.val.str, .slice lay y.val.list.length lcy, .slice may y.val.map.length mcy, .string y.name, .slice say y.steps.length scy, .slice aay y.args.length acy] := hcell.keep fun i => HBP.out.cell (p := ⟨b, i, none⟩) hbl
          have hdw : cellsAt wr b2 (bo2 + q * 10) [.int .i64 y.kind, .int .i64 y.val.kind, .bool y.val.bool, .int .i64 y.val.int, .string y.val.str, .slice laz y.val.list.length lcz, .slice maz y.val.map.length mcz, .string y.name, .slice saz y.steps.length scz, .slice aaz y.args.length acz] := hcell2.keep fun i => HBP.out.cell (p := ⟨b2, i, none⟩) hbl2
          have hsz := HBP.out.size
          have hlb : b < wr.heap.size := by omega
          have hlb2 : b2 < wr.heap.size := by omega
          have HSS := Lib.hid (show ∀ wx, Below wr.heap.size wr wx → (fun w' => (∀ i, w'.cell? ⟨n1, i, none⟩ = (#[.int .i64 k, .int .i64 v.kind, .bool v.bool, .int .i64 v.int, .string v.str, .slice la v.list.length lc, .slice ma v.map.length mc, .string nm, .slice sa st.length sc, .slice (some ⟨b, bo, none⟩) ar.length ac] : Array Value)[i]?) ∧ (∀ i, w'.cell? ⟨n2, i, none⟩ = (#[.int .i64 k, .int .i64 v.kind, .bool v.bool, .int .i64 v.int, .string v.str, .slice la2 v.list.length lc2, .slice ma2 v.map.length mc2, .string nm, .slice sa2 st.length sc2, .slice (some ⟨b2, bo2, none⟩) ar.length ac2] : Array Value)[i]?) ∧ w'.cell? ⟨b, bo + q * 10, none⟩ = some (.int .i64 y.kind) ∧ w'.cell? ⟨b, bo + q * 10 + 1, none⟩ = some (.int .i64 y.val.kind) ∧ w'.cell? ⟨b, bo + q * 10 + 2, none⟩ = some (.bool y.val.bool) ∧ w'.cell? ⟨b, bo + q * 10 + 3, none⟩ = some (.int .i64 y.val.int) ∧ w'.cell? ⟨b, bo + q * 10 + 4, none⟩ = some (.string y.val.str) ∧ w'.cell? ⟨b, bo + q * 10 + 5, none⟩ = some (.slice lay y.val.list.length lcy) ∧ w'.cell? ⟨b, bo + q * 10 + 6, none⟩ = some (.slice may y.val.map.length mcy) ∧ w'.cell? ⟨b, bo + q * 10 + 7, none⟩ = some (.string y.name) ∧ w'.cell? ⟨b, bo + q * 10 + 8, none⟩ = some (.slice say y.steps.length scy) ∧ w'.cell? ⟨b, bo + q * 10 + 9, none⟩ = some (.slice aay y.args.length acy) ∧ w'.cell? ⟨b2, bo2 + q * 10, none⟩ = some (.int .i64 y.kind) ∧ w'.cell? ⟨b2, bo2 + q * 10 + 1, none⟩ = some (.int .i64 y.val.kind) ∧ w'.cell? ⟨b2, bo2 + q * 10 + 2, none⟩ = some (.bool y.val.bool) ∧ w'.cell? ⟨b2, bo2 + q * 10 + 3, none⟩ = some (.int .i64 y.val.int) ∧ w'.cell? ⟨b2, bo2 + q * 10 + 4, none⟩ = some (.string y.val.str) ∧ w'.cell? ⟨b2, bo2 + q * 10 + 5, none⟩ = some (.slice laz y.val.list.length lcz) ∧ w'.cell? ⟨b2, bo2 + q * 10 + 6, none⟩ = some (.slice maz y.val.map.length mcz) ∧ w'.cell? ⟨b2, bo2 + q * 10 + 7, none⟩ = some (.string y.name) ∧ w'.cell? ⟨b2, bo2 + q * 10 + 8, none⟩ = some (.slice saz y.steps.length scz) ∧ w'.cell? ⟨b2, bo2 + q * 10 + 9, none⟩ = some (.slice aaz y.args.length acz)) wx from fun wx hx => ⟨(HP1.out.keep hx).cell, (HP2.out.keep hx).cell, (hx.cell (p := ⟨b, bo + q * 10, none⟩) hlb).trans (hcw 0 _ rfl), (hx.cell (p := ⟨b, bo + q * 10 + 1, none⟩) hlb).trans (hcw 1 _ rfl), (hx.cell (p := ⟨b, bo + q * 10 + 2, none⟩) hlb).trans (hcw 2 _ rfl), (hx.cell (p := ⟨b, bo + q * 10 + 3, none⟩) hlb).trans (hcw 3 _ rfl), (hx.cell (p := ⟨b, bo + q * 10 + 4, none⟩) hlb).trans (hcw 4 _ rfl), (hx.cell (p := ⟨b, bo + q * 10 + 5, none⟩) hlb).trans (hcw 5 _ rfl), (hx.cell (p := ⟨b, bo + q * 10 + 6, none⟩) hlb).trans (hcw 6 _ rfl), (hx.cell (p := ⟨b, bo + q * 10 + 7, none⟩) hlb).trans (hcw 7 _ rfl), (hx.cell (p := ⟨b, bo + q * 10 + 8, none⟩) hlb).trans (hcw 8 _ rfl), (hx.cell (p := ⟨b, bo + q * 10 + 9, none⟩) hlb).trans (hcw 9 _ rfl), (hx.cell (p := ⟨b2, bo2 + q * 10, none⟩) hlb2).trans (hdw 0 _ rfl), (hx.cell (p := ⟨b2, bo2 + q * 10 + 1, none⟩) hlb2).trans (hdw 1 _ rfl), (hx.cell (p := ⟨b2, bo2 + q * 10 + 2, none⟩) hlb2).trans (hdw 2 _ rfl), (hx.cell (p := ⟨b2, bo2 + q * 10 + 3, none⟩) hlb2).trans (hdw 3 _ rfl), (hx.cell (p := ⟨b2, bo2 + q * 10 + 4, none⟩) hlb2).trans (hdw 4 _ rfl), (hx.cell (p := ⟨b2, bo2 + q * 10 + 5, none⟩) hlb2).trans (hdw 5 _ rfl), (hx.cell (p := ⟨b2, bo2 + q * 10 + 6, none⟩) hlb2).trans (hdw 6 _ rfl), (hx.cell (p := ⟨b2, bo2 + q * 10 + 7, none⟩) hlb2).trans (hdw 7 _ rfl), (hx.cell (p := ⟨b2, bo2 + q * 10 + 8, none⟩) hlb2).trans (hdw 8 _ rfl), (hx.cell (p := ⟨b2, bo2 + q * 10 + 9, none⟩) hlb2).trans (hdw 9 _ rfl)⟩)
          have HIHY := Lib.hid hih; have HXB := Lib.hid (hxB.keep HBP.out)
          have HWR := Lib.hid (show Below w.heap.size w wr from ⟨HBP.out.os.trans HW.out.os, HBP.out.tape.trans HW.out.tape, HBP.out.output.trans HW.out.output, Nat.le_trans HW.out.size HBP.out.size, fun b hb => (HBP.out.block b (by omega)).trans (HW.out.block b hb)⟩)
          have hg0 : (0 : Int) ≤ (q : Int) := by omega
          have hg1 : (q : Int) < (ar.length : Int) := by omega
          have hwk : IntKind.i64.wrap ((q : Int) + 1) = (q : Int) + 1 := wrap_fit (by omega) (by omega)
          clear hcell hcell2 hcw hdw hC hih hxB hy
          go_upto_region 12 with fail
          refine wp_region_tail (S := (fun w' => (∀ i, w'.cell? ⟨n1, i, none⟩ = (#[.int .i64 k, .int .i64 v.kind, .bool v.bool, .int .i64 v.int, .string v.str, .slice la v.list.length lc, .slice ma v.map.length mc, .string nm, .slice sa st.length sc, .slice (some ⟨b, bo, none⟩) ar.length ac] : Array Value)[i]?) ∧ (∀ i, w'.cell? ⟨n2, i, none⟩ = (#[.int .i64 k, .int .i64 v.kind, .bool v.bool, .int .i64 v.int, .string v.str, .slice la2 v.list.length lc2, .slice ma2 v.map.length mc2, .string nm, .slice sa2 st.length sc2, .slice (some ⟨b2, bo2, none⟩) ar.length ac2] : Array Value)[i]?) ∧ w'.cell? ⟨b, bo + q * 10, none⟩ = some (.int .i64 y.kind) ∧ w'.cell? ⟨b, bo + q * 10 + 1, none⟩ = some (.int .i64 y.val.kind) ∧ w'.cell? ⟨b, bo + q * 10 + 2, none⟩ = some (.bool y.val.bool) ∧ w'.cell? ⟨b, bo + q * 10 + 3, none⟩ = some (.int .i64 y.val.int) ∧ w'.cell? ⟨b, bo + q * 10 + 4, none⟩ = some (.string y.val.str) ∧ w'.cell? ⟨b, bo + q * 10 + 5, none⟩ = some (.slice lay y.val.list.length lcy) ∧ w'.cell? ⟨b, bo + q * 10 + 6, none⟩ = some (.slice may y.val.map.length mcy) ∧ w'.cell? ⟨b, bo + q * 10 + 7, none⟩ = some (.string y.name) ∧ w'.cell? ⟨b, bo + q * 10 + 8, none⟩ = some (.slice say y.steps.length scy) ∧ w'.cell? ⟨b, bo + q * 10 + 9, none⟩ = some (.slice aay y.args.length acy) ∧ w'.cell? ⟨b2, bo2 + q * 10, none⟩ = some (.int .i64 y.kind) ∧ w'.cell? ⟨b2, bo2 + q * 10 + 1, none⟩ = some (.int .i64 y.val.kind) ∧ w'.cell? ⟨b2, bo2 + q * 10 + 2, none⟩ = some (.bool y.val.bool) ∧ w'.cell? ⟨b2, bo2 + q * 10 + 3, none⟩ = some (.int .i64 y.val.int) ∧ w'.cell? ⟨b2, bo2 + q * 10 + 4, none⟩ = some (.string y.val.str) ∧ w'.cell? ⟨b2, bo2 + q * 10 + 5, none⟩ = some (.slice laz y.val.list.length lcz) ∧ w'.cell? ⟨b2, bo2 + q * 10 + 6, none⟩ = some (.slice maz y.val.map.length mcz) ∧ w'.cell? ⟨b2, bo2 + q * 10 + 7, none⟩ = some (.string y.name) ∧ w'.cell? ⟨b2, bo2 + q * 10 + 8, none⟩ = some (.slice saz y.steps.length scz) ∧ w'.cell? ⟨b2, bo2 + q * 10 + 9, none⟩ = some (.slice aaz y.args.length acz))) 11 (by kernel_rfl) (by kernel_rfl) (by exact HSS.out _ (Below.refl _ _).drew) (fun hHeld => ?_)
          simp only [List.dropLast]
          refine wpAnyH_take (i := 0) (v := ?vm1_0) (by conv => lhs; simp only [List.getElem?_toArray, List.getElem?_cons_succ, List.getElem?_cons_zero]) (by kernel_rfl) (by kernel_rfl) (by kernel_rfl) (by exact fun _ _ _ h => h) (Or.inl ⟨by rfl, ?hym1_0⟩) (by assumption) ?_
          case hym1_0 => (intro w0 hSw; (try dsimp only at hSw); go_simp; (try with_reducible rfl); (try assumption))
          try simp only [Act.put, List.setIfInBounds_toArray, List.set_cons_zero, List.set_cons_succ]
          refine wpAnyH_take (i := 1) (v := ?vm1_1) (by conv => lhs; simp only [List.getElem?_toArray, List.getElem?_cons_succ, List.getElem?_cons_zero]) (by kernel_rfl) (by kernel_rfl) (by kernel_rfl) (by exact fun _ _ _ h => h) (Or.inl ⟨by rfl, ?hym1_1⟩) (by assumption) ?_
          case hym1_1 => (intro w0 hSw; (try dsimp only at hSw); go_simp; (try with_reducible rfl); (try assumption))
          try simp only [Act.put, List.setIfInBounds_toArray, List.set_cons_zero, List.set_cons_succ]
          refine wpAnyH_take (i := 2) (v := ?vm1_2) (by conv => lhs; simp only [List.getElem?_toArray, List.getElem?_cons_succ, List.getElem?_cons_zero]) (by kernel_rfl) (by kernel_rfl) (by kernel_rfl) (by exact fun _ _ _ h => h) (Or.inl ⟨by rfl, ?hym1_2⟩) (by assumption) ?_
          case hym1_2 => (intro w0 hSw; (try dsimp only at hSw); go_simp; (try with_reducible rfl); (try assumption))
          try simp only [Act.put, List.setIfInBounds_toArray, List.set_cons_zero, List.set_cons_succ]
          refine wpAnyH_take (i := 3) (v := ?vm1_3) (by conv => lhs; simp only [List.getElem?_toArray, List.getElem?_cons_succ, List.getElem?_cons_zero]) (by kernel_rfl) (by kernel_rfl) (by kernel_rfl) (by exact fun _ _ _ h => h) (Or.inl ⟨by rfl, ?hym1_3⟩) (by assumption) ?_
          case hym1_3 => (intro w0 hSw; (try dsimp only at hSw); go_simp; (try with_reducible rfl); (try assumption))
          try simp only [Act.put, List.setIfInBounds_toArray, List.set_cons_zero, List.set_cons_succ]
          refine wpAnyH_take (i := 4) (v := ?vm1_4) (by conv => lhs; simp only [List.getElem?_toArray, List.getElem?_cons_succ, List.getElem?_cons_zero]) (by kernel_rfl) (by kernel_rfl) (by kernel_rfl) (by exact fun _ _ _ h => h) (Or.inl ⟨by rfl, ?hym1_4⟩) (by assumption) ?_
          case hym1_4 => (intro w0 hSw; (try dsimp only at hSw); go_simp; (try with_reducible rfl); (try assumption))
          try simp only [Act.put, List.setIfInBounds_toArray, List.set_cons_zero, List.set_cons_succ]
          refine wpAnyH_take (i := 5) (v := ?vm1_5) (by conv => lhs; simp only [List.getElem?_toArray, List.getElem?_cons_succ, List.getElem?_cons_zero]) (by kernel_rfl) (by kernel_rfl) (by kernel_rfl) (by exact fun _ _ _ h => h) (Or.inl ⟨by rfl, ?hym1_5⟩) (by assumption) ?_
          case hym1_5 => (intro w0 hSw; (try dsimp only at hSw); go_simp; (try with_reducible rfl); (try assumption))
          try simp only [Act.put, List.setIfInBounds_toArray, List.set_cons_zero, List.set_cons_succ]
          refine wpAnyH_take (i := 6) (v := ?vm1_6) (by conv => lhs; simp only [List.getElem?_toArray, List.getElem?_cons_succ, List.getElem?_cons_zero]) (by kernel_rfl) (by kernel_rfl) (by kernel_rfl) (by exact fun _ _ _ h => h) (Or.inl ⟨by rfl, ?hym1_6⟩) (by assumption) ?_
          case hym1_6 => (intro w0 hSw; (try dsimp only at hSw); go_simp; (try with_reducible rfl); (try assumption))
          try simp only [Act.put, List.setIfInBounds_toArray, List.set_cons_zero, List.set_cons_succ]
          refine wpAnyH_take (i := 7) (v := ?vm1_7) (by conv => lhs; simp only [List.getElem?_toArray, List.getElem?_cons_succ, List.getElem?_cons_zero]) (by kernel_rfl) (by kernel_rfl) (by kernel_rfl) (by exact fun _ _ _ h => h) (Or.inl ⟨by rfl, ?hym1_7⟩) (by assumption) ?_
          case hym1_7 => (intro w0 hSw; (try dsimp only at hSw); go_simp; (try with_reducible rfl); (try assumption))
          try simp only [Act.put, List.setIfInBounds_toArray, List.set_cons_zero, List.set_cons_succ]
          refine wpAnyH_take (i := 8) (v := ?vm1_8) (by conv => lhs; simp only [List.getElem?_toArray, List.getElem?_cons_succ, List.getElem?_cons_zero]) (by kernel_rfl) (by kernel_rfl) (by kernel_rfl) (by exact fun _ _ _ h => h) (Or.inl ⟨by rfl, ?hym1_8⟩) (by assumption) ?_
          case hym1_8 => (intro w0 hSw; (try dsimp only at hSw); go_simp; (try with_reducible rfl); (try assumption))
          try simp only [Act.put, List.setIfInBounds_toArray, List.set_cons_zero, List.set_cons_succ]
          refine wpAnyH_take (i := 9) (v := ?vm1_9) (by conv => lhs; simp only [List.getElem?_toArray, List.getElem?_cons_succ, List.getElem?_cons_zero]) (by kernel_rfl) (by kernel_rfl) (by kernel_rfl) (by exact fun _ _ _ h => h) (Or.inl ⟨by rfl, ?hym1_9⟩) (by assumption) ?_
          case hym1_9 => (intro w0 hSw; (try dsimp only at hSw); go_simp; (try with_reducible rfl); (try assumption))
          try simp only [Act.put, List.setIfInBounds_toArray, List.set_cons_zero, List.set_cons_succ]
          refine wpAnyH_ready (rs := [10]) (by kernel_rfl) (by simp) ?_
          refine AllReadyH.cons (by conv => lhs; simp only [List.getElem?_toArray, List.getElem?_cons_succ, List.getElem?_cons_zero]) (fun K hK => ?_) AllReadyH.nil
          go_simp
          refine (HIHY.out _ _ _ HWR.out.drew (HXB.out.keep (Below.drew (Below.refl _ _)))).mono ?_
          rintro e w8 ⟨rfl, hb8⟩
          have HW8 := Lib.hid (Below.next ((Below.refl wr.heap.size wr).drew) hb8)
          clear hb8
          go_wp2_with fail
          refine hK.out _ _ (by exact HSS.out _ HW8.out) (fun hHeld => ?_)
          clear hK K
          try simp only [Act.put, List.setIfInBounds_toArray, List.set_cons_zero, List.set_cons_succ]
          refine wpAnyH_done (by kernel_rfl) ?_ _
          refine LastQ.step (by conv => lhs; simp only [List.getElem?_toArray, List.getElem?_cons_succ, List.getElem?_cons_zero]) (fun K hK => ?_)
          go_simp
          refine hK.out _ _ ?_
          clear hK K
          try simp only [Act.put, List.setIfInBounds_toArray, List.set_cons_zero, List.set_cons_succ]
          go_wp2_with fail
          go_roundw
          case rel => exact ⟨q + 1, by omega, by go_num, Lib.hid (Below.next HBP.out HW8.out), Lib.hid (HP1.out.keep HW8.out), Lib.hid (HP2.out.keep HW8.out)⟩
          case measure => simp [Lib.intOf]; omega
        · have hge : ¬ (q : Int) < (ar.length : Int) := by omega
          clear hlt
          go_wp2_with fail
          go_ret
          exact ⟨rfl, HBP.out⟩
end Go.Proofs.YtnblmhfgmehnnaaGreatDoor

/- parse's laws: the document's Name. -/
namespace Go.Proofs.YtnblmhfgmehnnaaGreatDoor
open Go.RowKit Go.Lib
attribute [local go_sem ↓] Go.wp_at_zero Go.wp_at_succ

/-- What a byte is, by its number. -/
theorem byte_class (c : UInt8) : (((c.toNat : Int) < 48 ∨ (57 < (c.toNat : Int) ∧ (c.toNat : Int) < 65) ∨ (90 < (c.toNat : Int) ∧ (c.toNat : Int) < 95) ∨ (95 < (c.toNat : Int) ∧ (c.toNat : Int) < 97) ∨ 122 < (c.toNat : Int)) ∧ npartB c = false ∧ nletB c = false) ∨ ((48 ≤ (c.toNat : Int) ∧ (c.toNat : Int) ≤ 57) ∧ npartB c = true ∧ nletB c = false) ∨ (((65 ≤ (c.toNat : Int) ∧ (c.toNat : Int) ≤ 90) ∨ (c.toNat : Int) = 95 ∨ (97 ≤ (c.toNat : Int) ∧ (c.toNat : Int) ≤ 122)) ∧ npartB c = true ∧ nletB c = true) := by
  have key : (List.range 256).all (fun n => (decide (n < 48 ∨ (57 < n ∧ n < 65) ∨ (90 < n ∧ n < 95) ∨ (95 < n ∧ n < 97) ∨ 122 < n) && (npartB (UInt8.ofNat n) == false) && (nletB (UInt8.ofNat n) == false)) || (decide (48 ≤ n ∧ n ≤ 57) && (npartB (UInt8.ofNat n) == true) && (nletB (UInt8.ofNat n) == false)) || (decide ((65 ≤ n ∧ n ≤ 90) ∨ n = 95 ∨ (97 ≤ n ∧ n ≤ 122)) && (npartB (UInt8.ofNat n) == true) && (nletB (UInt8.ofNat n) == true))) = true := by decide +kernel
  have := List.all_eq_true.1 key c.toNat (List.mem_range.2 (UInt8.toNat_lt c))
  simp only [UInt8.ofNat_toNat, Bool.or_eq_true, Bool.and_eq_true, decide_eq_true_eq, beq_iff_eq] at this
  rcases this with (⟨⟨h1, h2⟩, h3⟩ | ⟨⟨h1, h2⟩, h3⟩) | ⟨⟨h1, h2⟩, h3⟩
  · exact .inl ⟨by omega, h2, h3⟩
  · exact .inr (.inl ⟨by omega, h2, h3⟩)
  · exact .inr (.inr ⟨by omega, h2, h3⟩)
set_option maxRecDepth 100000 in
set_option maxHeartbeats 8000000 in
theorem trname (s : ByteArray) (w : World) (hs : s.size ≤ 140737488351232) : Calls Tryz.prog 21 #[.string s] w fun e w' => e = .returned (.bool (nameL s.data.toList)) ∧ w = w' := by
  obtain ⟨bb, hbb⟩ : ∃ z, z = nameL s.data.toList := ⟨_, rfl⟩
  rw [← hbb]
  have HBB := Lib.hid hbb
  clear hbb
  go_enter Tryz.func21, Tryz.ntmps21
  go_wp2_with fail
  go_loop [3] (fun x6 => ∃ q : Nat, q ≤ s.size ∧ x6 = .int .i64 q ∧ Hid ((s.data.toList.take q).all npartB = true) ∧ Hid (0 < q → ∀ h : 0 < s.size, nletB s[0] = true)) (fun x6 => s.size - (Lib.intOf x6).toNat)
  case atStart => exact ⟨0, Nat.zero_le _, rfl, Lib.hid (by simp), Lib.hid (fun h => absurd h (Nat.lt_irrefl _))⟩
  case round =>
    obtain ⟨q, hq, rfl, HA, HL⟩ := hrel
    by_cases hlt : q < s.size
    · have hlt2 : (q : Int) < s.size := by omega
      have h256 := UInt8.toNat_lt s[q]
      have hbc := byte_class s[q]
      have HA2 := Lib.hid (fun hp : npartB s[q] = true => show (s.data.toList.take (q + 1)).all npartB = true from by rw [all_take_succ (by rw [← size_list]; exact hlt), HA.out, ← byte_at hlt, hp]; rfl)
      have HB0 := Lib.hid (fun hp : npartB s[q] = false => name_bad1 hlt hp)
      have HB1 := Lib.hid (fun (h0 : q = 0) (hp : nletB s[q] = false) => show nameL s.data.toList = false from by subst h0; exact name_bad0 hlt hp)
      have HL2 := Lib.hid (fun (hp : nletB s[q] = true ∨ 0 < q) => show ∀ h : 0 < s.size, nletB s[0] = true from fun h => by
        by_cases h0 : q = 0
        · subst h0; exact hp.elim id (fun h => absurd h (Nat.lt_irrefl _))
        · exact HL.out (by omega) h)
      obtain ⟨cn, hcn⟩ : ∃ z, z = s[q].toNat := ⟨_, rfl⟩
      rcases hbc with ⟨hr, hp, hl⟩ | ⟨⟨hr, hr2⟩, hp, hl⟩ | ⟨hr, hp, hl⟩
      · have HE := Lib.hid (HB0.out hp)
        clear hp hl HA2 HB0 HB1 HL2 hcn
        have g95 : ((s[q].toNat : Int) == 95) = false := beq_eq_false_iff_ne.2 (by omega)
        by_cases h0 : q = 0
        · subst h0
          rcases hr with hr | ⟨hr, hr2⟩ | ⟨hr, hr2⟩ | ⟨hr, hr2⟩ | hr
          all_goals
            go_wp2_with fail
            all_goals first | (go_ret; exact ⟨by rw [HBB.out, HE.out]; rfl, rfl⟩) | (rename_i hx; simp at hx; omega)
        · have g0 : ((q : Int) == 0) = false := beq_eq_false_iff_ne.2 (by omega)
          clear h0
          rcases hr with hr | ⟨hr, hr2⟩ | ⟨hr, hr2⟩ | ⟨hr, hr2⟩ | hr
          all_goals
            go_wp2_with fail
            all_goals first | (go_ret; exact ⟨by rw [HBB.out, HE.out]; rfl, rfl⟩) | (rename_i hx; simp at hx; omega)
      · have g95 : ((s[q].toNat : Int) == 95) = false := beq_eq_false_iff_ne.2 (by omega)
        by_cases h0 : q = 0
        · have HE := Lib.hid (HB1.out h0 hl)
          clear hp hl HA2 HB0 HB1 HL2 hcn
          subst h0
          go_wp2_with fail
          go_ret
          exact ⟨by rw [HBB.out, HE.out]; rfl, rfl⟩
        · have HA3 := Lib.hid (HA2.out hp); have HL3 := Lib.hid (HL2.out (.inr (by omega)))
          have g0 : ((q : Int) == 0) = false := beq_eq_false_iff_ne.2 (by omega)
          clear hp hl HA2 HB0 HB1 HL2 hcn h0
          go_wp2_with fail
          go_round
          case rel => exact ⟨q + 1, by omega, by go_num, HA3, Lib.hid (fun _ => HL3.out)⟩
          case measure => simp [Lib.intOf]; omega
      · have HA3 := Lib.hid (HA2.out hp); have HL3 := Lib.hid (HL2.out (.inl hl))
        clear hp hl HA2 HB0 HB1 HL2 hcn
        rcases hr with ⟨hr, hr2⟩ | hr | ⟨hr, hr2⟩
        · go_wp2_with fail
          go_round
          case rel => exact ⟨q + 1, by omega, by go_num, HA3, Lib.hid (fun _ => HL3.out)⟩
          case measure => simp [Lib.intOf]; omega
        · have g95 : ((s[q].toNat : Int) == 95) = true := by rw [hr]; rfl
          have hr1 : 90 < (s[q].toNat : Int) := by omega
          have hr2 : (s[q].toNat : Int) < 97 := by omega
          clear hr
          go_wp2_with fail
          go_round
          case rel => exact ⟨q + 1, by omega, by go_num, HA3, Lib.hid (fun _ => HL3.out)⟩
          case measure => simp [Lib.intOf]; omega
        · go_wp2_with fail
          go_round
          case rel => exact ⟨q + 1, by omega, by go_num, HA3, Lib.hid (fun _ => HL3.out)⟩
          case measure => simp [Lib.intOf]; omega
    · obtain rfl : q = s.size := by omega
      have HE := Lib.hid (name_good (by have h9 := HA.out; rw [List.take_of_length_le (by rw [← size_list]; exact Nat.le_refl _)] at h9; exact h9) (fun h => HL.out h h))
      by_cases h0 : s.size = 0
      · have g0 : ¬ (1 : Int) ≤ s.size := by omega
        go_wp2_with fail
        go_ret
        exact ⟨by rw [HBB.out, HE.out, decide_eq_false (fun h => h h0)]; rfl, rfl⟩
      · have g0 : (1 : Int) ≤ s.size := by omega
        have HZ := Lib.hid h0
        have HD := Lib.hid (show decide ((s.size : Int) ≤ 256) = decide (s.size ≤ 256) from by rw [decide_eq_decide]; omega)
        clear h0
        go_wp2_with fail
        go_ret
        exact ⟨by rw [HBB.out, HE.out, decide_eq_true HZ.out, Bool.true_and, ← HD.out]; rfl, rfl⟩
end Go.Proofs.YtnblmhfgmehnnaaGreatDoor

/- The parser, plainly, without fuel: enough fuel is enough. -/
namespace Go.Proofs.YtnblmhfgmehnnaaGreatDoor

structure Irr (n : Nat) : Prop where
  op : ∀ (r : Rd) (m : Nat), 4 * r.s.length + 1 ≤ n → n ≤ m → operandF m r = operandF n r
  co : ∀ (r : Rd) (m : Nat), 4 * r.s.length + 2 ≤ n → n ≤ m → commandF m r = commandF n r
  ar : ∀ (x : Ex) (r : Rd) (m : Nat), 4 * r.s.length + 2 ≤ n → n ≤ m → argsF m x r = argsF n x r
  pi : ∀ (r : Rd) (m : Nat), 4 * r.s.length + 3 ≤ n → n ≤ m → pipeF m r = pipeF n r
  ba : ∀ (x : Ex) (r : Rd) (m : Nat), 4 * r.s.length + 2 ≤ n → n ≤ m → barsF m x r = barsF n x r
theorem skip_lt {l t : List UInt8} {c : UInt8} (h : skipB l = c :: t) : t.length + 1 ≤ l.length := by
  have := skip_len l
  rw [h, List.length_cons] at this
  exact this
theorem irr (n : Nat) : Irr n := by
  induction n with
  | zero => exact ⟨fun r m h => by omega, fun r m h => by omega, fun x r m h => by omega, fun r m h => by omega, fun x r m h => by omega⟩
  | succ n ih =>
    refine ⟨fun r m h hm => ?_, fun r m h hm => ?_, fun x r m h hm => ?_, fun r m h hm => ?_, fun x r m h hm => ?_⟩
    all_goals obtain ⟨m, rfl⟩ : ∃ k, m = k + 1 := ⟨m - 1, by omega⟩
    all_goals have hnm : n ≤ m := by omega
    · rw [operandF, operandF]
      cases hp : plainOp r with
      | some q => rfl
      | none =>
        obtain ⟨l, hl⟩ := plain_none hp
        have hl2 := skip_lt hl
        have e : pipeF m ⟨(skipB r.s).drop 1, r.deep + 1, r.bad⟩ = pipeF n ⟨(skipB r.s).drop 1, r.deep + 1, r.bad⟩ := ih.pi _ m (by rw [hl]; show 4 * l.length + 3 ≤ n; omega) hnm
        simp only [e]
    · have e : operandF m r = operandF n r := ih.op r m (by omega) hnm
      have hle := (le_all n).1 r
      rw [commandF, commandF]
      simp only [e]
      obtain ⟨⟨⟨x, b⟩, r2⟩, hq⟩ : ∃ z, z = operandF n r := ⟨_, rfl⟩
      rw [← hq] at hle ⊢
      simp only at hle ⊢
      cases b with
      | true => rfl
      | false =>
        by_cases hk : nameK r2.s = 0
        · rw [if_pos hk, if_pos hk]
        · rw [if_neg hk, if_neg hk]
          have h1 := hle.1.len
          have h2 := nameD_len r2.s
          rw [ih.ar _ (r2.go (nameD r2.s)) m (by show 4 * (nameD r2.s).length + 2 ≤ n; omega) hnm]
    · have e : operandF m r = operandF n r := ih.op r m (by omega) hnm
      have hle := (le_all n).1 r
      rw [argsF, argsF]
      simp only [e]
      obtain ⟨⟨⟨y, b⟩, r2⟩, hq⟩ : ∃ z, z = operandF n r := ⟨_, rfl⟩
      rw [← hq] at hle ⊢
      simp only at hle ⊢
      have h1 := hle.1.len
      cases b with
      | true =>
        have h2 := hle.2 rfl
        simp only [if_true]
        exact ih.ar _ _ m (by omega) hnm
      | false =>
        simp only [Bool.false_eq_true, if_false]
        by_cases hk : nameK r2.s = 0
        · rw [if_pos hk, if_pos hk]
        · rw [if_neg hk, if_neg hk]
          have h2 := nameD_len r2.s
          rw [ih.ar _ (r2.go (nameD r2.s)) m (by show 4 * (nameD r2.s).length + 2 ≤ n; omega) hnm]
    · have e : commandF m r = commandF n r := ih.co r m (by omega) hnm
      have hle := (le_all n).2.1 r
      rw [pipeF, pipeF]
      simp only [e]
      exact ih.ba _ _ m (by have := hle.len; omega) hnm
    · rw [barsF, barsF]
      cases hs : skipB r.s with
      | nil => rfl
      | cons c l =>
        have hl2 := skip_lt hs
        by_cases hc : c = 124
        · subst hc
          have e : commandF m (r.go l) = commandF n (r.go l) := ih.co _ m (by show 4 * l.length + 2 ≤ n; omega) hnm
          have hle := (le_all n).2.1 (r.go l)
          have h1 : (commandF n (r.go l)).2.s.length ≤ l.length := hle.len
          simp only [e]
          rw [ih.ba _ _ m (by omega) hnm]
        · split
          · next l2 h2 => injection h2 with h2 _; exact absurd h2 hc
          · rfl
def opX (r : Rd) : (Ex × Bool) × Rd := operandF (4 * r.s.length + 1) r
def coX (r : Rd) : Ex × Rd := commandF (4 * r.s.length + 2) r
def arX (x : Ex) (r : Rd) : Ex × Rd := argsF (4 * r.s.length + 2) x r
def piX (r : Rd) : Ex × Rd := pipeF (4 * r.s.length + 3) r
def baX (x : Ex) (r : Rd) : Ex × Rd := barsF (4 * r.s.length + 2) x r
theorem op_is {r : Rd} {n : Nat} (h : 4 * r.s.length + 1 ≤ n) : operandF n r = opX r := (irr _).op r n (Nat.le_refl _) h
theorem co_is {r : Rd} {n : Nat} (h : 4 * r.s.length + 2 ≤ n) : commandF n r = coX r := (irr _).co r n (Nat.le_refl _) h
theorem ar_is {x : Ex} {r : Rd} {n : Nat} (h : 4 * r.s.length + 2 ≤ n) : argsF n x r = arX x r := (irr _).ar x r n (Nat.le_refl _) h
theorem pi_is {r : Rd} {n : Nat} (h : 4 * r.s.length + 3 ≤ n) : pipeF n r = piX r := (irr _).pi r n (Nat.le_refl _) h
theorem ba_is {x : Ex} {r : Rd} {n : Nat} (h : 4 * r.s.length + 2 ≤ n) : barsF n x r = baX x r := (irr _).ba x r n (Nat.le_refl _) h
theorem opX_le (r : Rd) : r.Le (opX r).2 ∧ ((opX r).1.2 = true → (opX r).2.s.length < r.s.length) := (le_all _).1 r
theorem opX_plain {r : Rd} {q : (Ex × Bool) × Rd} (h : plainOp r = some q) : opX r = q := by
  unfold opX
  rw [operandF, h]
theorem opX_br {r : Rd} {l l2 : List UInt8} (h : skipB r.s = 40 :: l) (hd : ¬ 16 < r.deep + 1) (h2 : skipB (piX ⟨l, r.deep + 1, r.bad⟩).2.s = 41 :: l2) : opX r = (((piX ⟨l, r.deep + 1, r.bad⟩).1, true), ⟨l2, (piX ⟨l, r.deep + 1, r.bad⟩).2.deep - 1, (piX ⟨l, r.deep + 1, r.bad⟩).2.bad⟩) := by
  have hp : plainOp r = none := by unfold plainOp; rw [h]; simp [digitB]
  have hl := skip_lt h
  unfold opX
  rw [operandF, hp]
  simp only
  rw [if_neg hd, h]
  simp only [List.drop_succ_cons, List.drop_zero]
  rw [pi_is (by show 4 * l.length + 3 ≤ 4 * r.s.length; omega), h2]
  rfl
theorem coX_eq (r : Rd) : coX r = (if (opX r).1.2 then ((opX r).1.1, (opX r).2) else if nameK (opX r).2.s = 0 then (Ex.zero, (opX r).2.fail 20) else arX (Ex.call (nameT (opX r).2.s) []) ((opX r).2.go (nameD (opX r).2.s))) := by
  have h1 := (opX_le r).1.len
  unfold coX
  rw [commandF, op_is (Nat.le_refl _)]
  split
  · rfl
  · split
    · rfl
    · next hk =>
      have h2 := nameD_len (opX r).2.s
      rw [ar_is (by show 4 * (nameD (opX r).2.s).length + 2 ≤ _; omega)]
theorem arX_eq (x : Ex) (r : Rd) : arX x r = (if (opX r).1.2 then arX (x.push (opX r).1.1) (opX r).2 else if nameK (opX r).2.s = 0 then (x, (opX r).2) else arX (x.push (Ex.call (nameT (opX r).2.s) [])) ((opX r).2.go (nameD (opX r).2.s))) := by
  have h1 := (opX_le r).1.len
  have h0 := (opX_le r).2
  conv => lhs; unfold arX
  rw [argsF, op_is (Nat.le_refl _)]
  split
  · next hb =>
    have h3 := h0 hb
    rw [ar_is (by omega)]
  · split
    · rfl
    · next hk =>
      have h2 := nameD_len (opX r).2.s
      rw [ar_is (by show 4 * (nameD (opX r).2.s).length + 2 ≤ _; omega)]
theorem piX_eq (r : Rd) : piX r = baX (coX r).1 (coX r).2 := by
  have h1 : (coX r).2.s.length ≤ r.s.length := ((le_all _).2.1 r).len
  unfold piX
  rw [pipeF, co_is (Nat.le_refl _)]
  exact ba_is (by omega)
theorem baX_bar {x : Ex} {r : Rd} {l : List UInt8} (h : skipB r.s = 124 :: l) : baX x r = (if (coX (r.go l)).1.kind ≠ 3 ∧ (coX (r.go l)).2.bad = 0 then (Ex.zero, (coX (r.go l)).2.fail 20) else baX ((coX (r.go l)).1.push x) (coX (r.go l)).2) := by
  have hl := skip_lt h
  have h1 : (coX (r.go l)).2.s.length ≤ l.length := ((le_all _).2.1 (r.go l)).len
  conv => lhs; unfold baX
  rw [barsF, h]
  simp only
  rw [co_is (by show 4 * l.length + 2 ≤ _; omega)]
  split
  · rfl
  · rw [ba_is (by omega)]
theorem baX_end {x : Ex} {r : Rd} (h : (skipB r.s).head? ≠ some 124) : baX x r = (x, r.go (skipB r.s)) := by
  unfold baX
  rw [barsF]
  split
  · next l hl => rw [hl] at h; exact absurd rfl h
  · rfl
theorem allF_eq (s : List UInt8) : allF s = (let q := piX ⟨s, 0, 0⟩; let b := if q.2.bad = 0 ∧ skipB q.2.s ≠ [] then 20 else q.2.bad; if b = 0 then (q.1, 0) else (Ex.zero, b)) := by
  unfold allF
  rw [pi_is (by show 4 * s.length + 3 ≤ 4 * s.length + 8; omega)]
theorem allF_of {s : List UInt8} {x : Ex} {d : Int} {t : List UInt8} (h : piX ⟨s, 0, 0⟩ = (x, ⟨t, d, 0⟩)) (ht : skipB t = []) : allF s = (x, 0) := by
  rw [allF_eq, h]
  simp only [ht, ne_eq, not_true_eq_false, and_false, if_false, if_true]
end Go.Proofs.YtnblmhfgmehnnaaGreatDoor

/- The parser read back, plainly: names, steps, literals. -/
namespace Go.Proofs.YtnblmhfgmehnnaaGreatDoor

/-- All are blanks. -/
def Blk_ (l : List UInt8) : Prop := ∀ c ∈ l, c ∈ blanks
/-- What may stand behind an operand. -/
def Stop_ (l : List UInt8) : Prop := ∀ c, l.head? = some c → c ∈ blanks ∨ c = 41
theorem blank_cases {c : UInt8} (h : c ∈ blanks) : c = 32 ∨ c = 9 ∨ c = 10 := by simpa [blanks] using h
theorem skip_blank {p u : List UInt8} (h : Blk_ p) : skipB (p ++ u) = skipB u := by
  induction p with
  | nil => rfl
  | cons a p ih =>
    have ha := h a (List.mem_cons_self ..)
    rw [List.cons_append]
    show (a :: (p ++ u)).dropWhile _ = _
    rw [List.dropWhile_cons, if_pos (by simpa using ha)]
    exact ih (fun c hc => h c (List.mem_cons_of_mem _ hc))
theorem skip_none {u : List UInt8} (h : ∀ c, u.head? = some c → c ∉ blanks) : skipB u = u := by
  cases u with
  | nil => rfl
  | cons a u =>
    show (a :: u).dropWhile _ = _
    rw [List.dropWhile_cons, if_neg (by simpa using h a rfl)]
theorem skip_head (u : List UInt8) : ∀ c, (skipB u).head? = some c → c ∉ blanks := by
  induction u with
  | nil => intro c h; cases h
  | cons a u ih =>
    intro c
    show ((a :: u).dropWhile _).head? = some c → _
    rw [List.dropWhile_cons]
    split
    · exact ih c
    · next hb =>
      intro h
      injection h with h
      subst h
      simpa using hb
theorem skip_skip (u : List UInt8) : skipB (skipB u) = skipB u := skip_none (skip_head u)
theorem stop_part {l : List UInt8} (h : Stop_ l) : ∀ c, l.head? = some c → npartB c = false := by
  intro c hc
  rcases h c hc with h1 | h1
  · rcases blank_cases h1 with rfl | rfl | rfl <;> decide
  · subst h1; decide
theorem stop_not {l : List UInt8} (h : Stop_ l) {d : UInt8} (hd : d ≠ 32 ∧ d ≠ 9 ∧ d ≠ 10 ∧ d ≠ 41) : l.head? ≠ some d := by
  intro hc
  rcases h d hc with h1 | h1
  · rcases blank_cases h1 with h2 | h2 | h2
    · exact hd.1 h2
    · exact hd.2.1 h2
    · exact hd.2.2.1 h2
  · exact hd.2.2.2 h1
theorem takeWhile_app {p : UInt8 → Bool} {l r : List UInt8} (h : l.all p = true) (hr : ∀ c, r.head? = some c → p c = false) : (l ++ r).takeWhile p = l := by
  induction l with
  | nil =>
    cases r with
    | nil => rfl
    | cons a r => rw [List.nil_append, List.takeWhile_cons, if_neg (by rw [hr a rfl]; decide)]
  | cons a l ih =>
    rw [List.all_cons, Bool.and_eq_true] at h
    rw [List.cons_append, List.takeWhile_cons, if_pos h.1, ih h.2]
theorem name_parts {l : List UInt8} (h : nameL l = true) : ∃ c r, l = c :: r ∧ nletB c = true ∧ r.all npartB = true ∧ l.length ≤ 256 := by
  unfold nameL at h
  rw [Bool.and_eq_true, Bool.and_eq_true] at h
  obtain ⟨⟨h1, h2⟩, h3⟩ := h
  cases l with
  | nil => cases h2
  | cons c r =>
    rw [List.all_cons, Bool.and_eq_true] at h1
    exact ⟨c, r, rfl, h2, h1.2, of_decide_eq_true h3⟩
theorem nameK_app {l r : List UInt8} (h : nameL l = true) (hr : ∀ c, r.head? = some c → npartB c = false) : nameK (l ++ r) = l.length := by
  obtain ⟨c, t, rfl, h1, h2, -⟩ := name_parts h
  rw [List.cons_append, nameK, if_pos h1, takeWhile_app h2 hr, List.length_cons, Nat.add_comm]
theorem nameT_app {l r : List UInt8} (h : nameL l = true) (hr : ∀ c, r.head? = some c → npartB c = false) : nameT (l ++ r) = bs l ∧ nameD (l ++ r) = r := by
  unfold nameT nameD
  rw [nameK_app h hr]
  exact ⟨by rw [List.take_left], by rw [List.drop_left]⟩
theorem nlet_not {c : UInt8} (h : nletB c = true) : c ∉ blanks ∧ c ≠ 34 ∧ c ≠ 45 ∧ digitB c = false ∧ c ≠ 46 ∧ c ≠ 36 ∧ c ≠ 40 ∧ c ≠ 41 ∧ c ≠ 124 ∧ c ≠ 47 ∧ c ≠ 123 ∧ c ≠ 125 ∧ c ≠ 44 ∧ c ≠ 58 := by
  have key : (List.range 256).all (fun n => !(nletB (UInt8.ofNat n)) || (decide (UInt8.ofNat n ∉ blanks) && (UInt8.ofNat n != 34) && (UInt8.ofNat n != 45) && (digitB (UInt8.ofNat n) == false) && (UInt8.ofNat n != 46) && (UInt8.ofNat n != 36) && (UInt8.ofNat n != 40) && (UInt8.ofNat n != 41) && (UInt8.ofNat n != 124) && (UInt8.ofNat n != 47) && (UInt8.ofNat n != 123) && (UInt8.ofNat n != 125) && (UInt8.ofNat n != 44) && (UInt8.ofNat n != 58))) = true := by decide +kernel
  have hc : UInt8.ofNat c.toNat = c := UInt8.ofNat_toNat
  have := List.all_eq_true.1 key c.toNat (List.mem_range.2 (UInt8.toNat_lt c))
  rw [hc, h] at this
  simp only [Bool.not_true, Bool.false_or, Bool.and_eq_true, decide_eq_true_eq, bne_iff_ne, ne_eq, beq_iff_eq] at this
  obtain ⟨⟨⟨⟨⟨⟨⟨⟨⟨⟨⟨⟨⟨a1, a2⟩, a3⟩, a4⟩, a5⟩, a6⟩, a7⟩, a8⟩, a9⟩, a10⟩, a11⟩, a12⟩, a13⟩, a14⟩ := this
  exact ⟨a1, a2, a3, a4, a5, a6, a7, a8, a9, a10, a11, a12, a13, a14⟩
/-- Steps, written. -/
def stepsW (l : List ByteArray) : List UInt8 := l.flatMap (fun s => 46 :: s.data.toList)
theorem stepsW_cons (s : ByteArray) (l : List ByteArray) : stepsW (s :: l) = 46 :: (s.data.toList ++ stepsW l) := by simp [stepsW]
theorem stepsW_head {l : List ByteArray} {r : List UInt8} (hr : ∀ c, r.head? = some c → npartB c = false) : ∀ c, (stepsW l ++ r).head? = some c → npartB c = false := by
  cases l with
  | nil => exact hr
  | cons s l => intro c hc; rw [stepsW_cons, List.cons_append] at hc; injection hc with hc; subst hc; decide
theorem stepsL_app {l : List ByteArray} {r : List UInt8} (h : ∀ s ∈ l, nameL s.data.toList = true) (hr : Stop_ r) : ∀ N, l.length ≤ N → stepsL N (stepsW l ++ r) = (l, r) := by
  induction l with
  | nil =>
    intro N _
    show stepsL N r = _
    exact stepsL_stop N (fun c t e => absurd (by rw [e]; rfl) (stop_not hr (d := 46) (by decide)))
  | cons s l ih =>
    intro N hN
    obtain ⟨N, rfl⟩ : ∃ k, N = k + 1 := ⟨N - 1, by simp only [List.length_cons] at hN; omega⟩
    have hs := h s (List.mem_cons_self ..)
    obtain ⟨c, t, e, h1, -, -⟩ := name_parts hs
    have hh := stepsW_head (l := l) (stop_part hr)
    obtain ⟨hT, hD⟩ := nameT_app hs hh
    have e2 : stepsW (s :: l) ++ r = 46 :: c :: (t ++ (stepsW l ++ r)) := by rw [stepsW_cons, e]; simp
    have e3 : c :: (t ++ (stepsW l ++ r)) = s.data.toList ++ (stepsW l ++ r) := by rw [e]; rfl
    rw [e2, stepsL_cons h1, e3, hT, hD, ih (fun x hx => h x (List.mem_cons_of_mem _ hx)) N (by simp only [List.length_cons] at hN; omega), bs_of]
/-- A literal, written. -/
def litW (v : T) : List UInt8 := if v.kind = 0 then [110, 105, 108] else if v.kind = 3 then quoteL v.str.data.toList else if v.kind = 1 then (if v.bool then trueW else falseW) else Lib.itoa v.int
end Go.Proofs.YtnblmhfgmehnnaaGreatDoor

/- The parser read back, plainly: expressions, written in any style. -/
namespace Go.Proofs.YtnblmhfgmehnnaaGreatDoor

/-! ### Choices -/
/-- The next choice of so many: which, and where the choices stand then. -/
def pickW (L : List UInt8) (a n : Nat) : Nat × Nat := if L = [] then (0, a) else ((L.getD (a % L.length) 0).toNat % n, a + 1)
theorem pickW_lt (L : List UInt8) (a : Nat) {n : Nat} (hn : 0 < n) : (pickW L a n).1 < n := by
  unfold pickW
  split
  · exact hn
  · exact Nat.mod_lt _ hn
def gaps : List (List UInt8) := [[32], [32], [32, 32], [10], [32, 9]]
def gapW (L : List UInt8) (a : Nat) : List UInt8 × Nat := (gaps.getD (pickW L a 5).1 [32], (pickW L a 5).2)
theorem gap_blk (L : List UInt8) (a : Nat) : Blk_ (gapW L a).1 ∧ (gapW L a).1 ≠ [] := by
  have h := pickW_lt L a (n := 5) (by omega)
  have key : ∀ k, k < 5 → (gaps.getD k [32]).all (fun c => decide (c ∈ blanks)) = true ∧ gaps.getD k [32] ≠ [] := by decide
  obtain ⟨h1, h2⟩ := key _ h
  exact ⟨fun c hc => of_decide_eq_true (List.all_eq_true.1 h1 c hc), h2⟩
/-- The text of an operand, the text of a pipe being given. -/
def opW (L : List UInt8) (pipe : Ex → Nat → List UInt8 × Nat) (x : Ex) (a : Nat) : List UInt8 × Nat :=
  if x.kind = 0 then (litW x.val, a)
  else if x.kind = 1 then (if x.steps = [] then [46] else stepsW x.steps, a)
  else if x.kind = 2 then (36 :: (x.name.data.toList ++ stepsW x.steps), a)
  else if x.args = [] then
    if (pickW L a 2).1 = 1 then (x.name.data.toList, (pickW L a 2).2)
    else (40 :: ((pipe x (pickW L a 2).2).1 ++ [41]), (pipe x (pickW L a 2).2).2)
  else (40 :: ((pipe x a).1 ++ [41]), (pipe x a).2)
/-- Arguments, each with a gap ahead. -/
def argsW (L : List UInt8) (pipe : Ex → Nat → List UInt8 × Nat) : List Ex → Nat → List UInt8 × Nat
  | [], a => ([], a)
  | x :: l, a => ((gapW L a).1 ++ ((opW L pipe x (gapW L a).2).1 ++ (argsW L pipe l (opW L pipe x (gapW L a).2).2).1), (argsW L pipe l (opW L pipe x (gapW L a).2).2).2)
def callW (L : List UInt8) (pipe : Ex → Nat → List UInt8 × Nat) (x : Ex) (l : List Ex) (pre : List UInt8) (a : Nat) : List UInt8 × Nat :=
  (pre ++ (x.name.data.toList ++ (argsW L pipe l a).1), (argsW L pipe l a).2)
/-- The text of a pipe; how deep it may go. -/
def pipW (L : List UInt8) : Nat → Ex → Nat → List UInt8 × Nat
  | 0, _, a => ([], a)
  | n + 1, x, a =>
    if x.kind ≠ 3 then opW L (pipW L n) x a
    else match x.args.getLast? with
      | none => callW L (pipW L n) x [] [] a
      | some y =>
        if (pickW L a 3).1 = 1 then
          let u := pipW L n y (pickW L a 3).2
          let g1 := gapW L u.2
          let g2 := gapW L g1.2
          callW L (pipW L n) x x.args.dropLast (u.1 ++ (g1.1 ++ (124 :: g2.1))) g2.2
        else callW L (pipW L n) x x.args [] (pickW L a 3).2

/-! ### What may be written -/
def wordsB (s : List UInt8) : Bool := s != trueW && s != falseW && s != [110, 105, 108]
/-- What an expression has by itself. -/
structure OwnX (x : Ex) : Prop where
  kind : x.kind = 0 ∨ x.kind = 1 ∨ x.kind = 2 ∨ x.kind = 3
  steps : ∀ s ∈ x.steps, nameL s.data.toList = true
  lit : x.kind = 0 → (x.val = T.zero ∨ (∃ b, x.val = tB b) ∨ (∃ n, x.val = tN n ∧ -9223372036854775808 ≤ n ∧ n < 9223372036854775808) ∨ (∃ s, x.val = tS s)) ∧ x.name = ⟨#[]⟩ ∧ x.steps = [] ∧ x.args = []
  bare : x.kind ≠ 0 → x.val = T.zero
  dot : x.kind = 1 → x.name = ⟨#[]⟩ ∧ x.args = []
  var : x.kind = 2 → nameL x.name.data.toList = true ∧ x.args = []
  call : x.kind = 3 → nameL x.name.data.toList = true ∧ wordsB x.name.data.toList = true ∧ x.steps = []
/-- May be, so deep. -/
inductive RightX : Nat → Ex → Prop
  | mk (d : Nat) (x : Ex) (ho : OwnX x) (hd : x.args = [] ∨ 0 < d) (ha : ∀ y ∈ x.args, RightX (d - 1) y) : RightX d x
theorem RightX.own {d : Nat} {x : Ex} (h : RightX d x) : OwnX x := by cases h; assumption
theorem RightX.deep {d : Nat} {x : Ex} (h : RightX d x) : x.args = [] ∨ 0 < d := by cases h; assumption
theorem RightX.args {d : Nat} {x : Ex} (h : RightX d x) : ∀ y ∈ x.args, RightX (d - 1) y := by cases h; assumption

/-! ### Operands -/
theorem plain_nil {r : Rd} (h : skipB r.s = []) : plainOp r = some ((Ex.zero, false), r.go []) := by unfold plainOp; rw [h]
/-- A name that is none of the literals' words is no operand. -/
theorem plain_name {r : Rd} {c : UInt8} {l : List UInt8} (h : skipB r.s = c :: l) (hc : nletB c = true) (hw : wordsB ((c :: l).take (nameK (c :: l))) = true) : plainOp r = some ((Ex.zero, false), r.go (c :: l)) := by
  obtain ⟨-, h1, h2, h3, h4, h5, h6, -⟩ := nlet_not hc
  unfold wordsB at hw
  rw [Bool.and_eq_true, Bool.and_eq_true] at hw
  obtain ⟨⟨w1, w2⟩, w3⟩ := hw
  rw [bne_iff_ne] at w1 w2 w3
  unfold plainOp
  rw [h]
  simp only
  rw [if_neg h1, if_neg (by rintro (e | e); exact h2 e; rw [h3] at e; cases e), if_neg h4, if_neg h5, if_neg h6, if_pos hc, if_neg w1, if_neg w2, if_neg w3]
theorem plain_end {r : Rd} {c : UInt8} {l : List UInt8} (h : skipB r.s = c :: l) (hc : c = 41 ∨ c = 124) : plainOp r = some ((Ex.zero, false), r.go (c :: l)) := by
  unfold plainOp
  rw [h]
  rcases hc with rfl | rfl <;> simp [digitB, nletB, letterB]
/-- Behind a reader's operands: nothing, a bracket that closes, or a bar. -/
def End_ (l : List UInt8) : Prop := Stop_ l ∧ ∀ c, (skipB l).head? = some c → c = 41 ∨ c = 124
theorem op_end {rest : List UInt8} {d b : Int} (h : ∀ c, (skipB rest).head? = some c → c = 41 ∨ c = 124) : opX ⟨rest, d, b⟩ = ((Ex.zero, false), ⟨skipB rest, d, b⟩) := by
  cases hs : skipB rest with
  | nil => exact opX_plain (plain_nil hs)
  | cons c l => exact opX_plain (plain_end hs (h c (by rw [hs]; rfl)))
theorem nameK_end {rest : List UInt8} (h : ∀ c, (skipB rest).head? = some c → c = 41 ∨ c = 124) : nameK (skipB rest) = 0 := by
  cases hs : skipB rest with
  | nil => rfl
  | cons c l =>
    have hc := h c (by rw [hs]; rfl)
    rw [nameK, if_neg]
    rcases hc with rfl | rfl <;> decide
theorem ar_end {x : Ex} {rest : List UInt8} {d b : Int} (h : ∀ c, (skipB rest).head? = some c → c = 41 ∨ c = 124) : arX x ⟨rest, d, b⟩ = (x, ⟨skipB rest, d, b⟩) := by
  rw [arX_eq, op_end h]
  simp only [Bool.false_eq_true, if_false]
  rw [if_pos (nameK_end h)]
theorem num_head (n : Int) : ∃ c l, Lib.itoa n = c :: l ∧ (c = 45 ∨ digitB c = true) ∧ l.all digitB = true := by
  unfold Lib.itoa
  split
  · exact ⟨45, _, rfl, .inl rfl, dec_digits _ _ (Nat.le_refl _)⟩
  · obtain ⟨c, r, e, hc⟩ := dec_head n.toNat
    have h := dec_digits _ n.toNat (Nat.le_refl _)
    rw [e, List.all_cons, Bool.and_eq_true] at h
    exact ⟨c, r, e, .inr hc, h.2⟩
/-- A literal, behind blanks. -/
theorem rd_lit {p rest : List UInt8} {v : T} {d b : Int} (hp : Blk_ p) (hr : Stop_ rest) (hv : v = T.zero ∨ (∃ b, v = tB b) ∨ (∃ n, v = tN n ∧ -9223372036854775808 ≤ n ∧ n < 9223372036854775808) ∨ (∃ s, v = tS s)) : opX ⟨p ++ (litW v ++ rest), d, b⟩ = ((Ex.lit v, true), ⟨rest, d, b⟩) := by
  have word : ∀ (c : UInt8) (t : List UInt8), nameL (c :: t) = true → skipB (p ++ ((c :: t) ++ rest)) = c :: (t ++ rest) ∧ nletB c = true ∧ nameK (c :: (t ++ rest)) = (c :: t).length := fun c t hn => by
    obtain ⟨c', t', e, h1, -⟩ := name_parts hn
    injection e with e1 e2
    subst e1 e2
    refine ⟨?_, h1, nameK_app hn (stop_part hr)⟩
    rw [skip_blank hp]
    exact skip_none (fun c hc => by injection hc with hc; subst hc; exact (nlet_not h1).1)
  have wd : ∀ (c : UInt8) (t : List UInt8) (q : Ex), nameL (c :: t) = true → (c :: t = trueW ∧ q = Ex.lit (tB true) ∨ c :: t = falseW ∧ q = Ex.lit (tB false) ∨ c :: t = [110, 105, 108] ∧ q = Ex.zero) → opX ⟨p ++ ((c :: t) ++ rest), d, b⟩ = ((q, true), ⟨rest, d, b⟩) := fun c t q hn hq => by
    obtain ⟨hs, h1, hk⟩ := word c t hn
    have htk : (c :: (t ++ rest)).take (c :: t).length = c :: t := by rw [← List.cons_append, List.take_left]
    have hdr : nameD (c :: (t ++ rest)) = rest := by unfold nameD; rw [hk, ← List.cons_append, List.drop_left]
    obtain ⟨-, g1, g2, g3, g4, g5, g6, -⟩ := nlet_not h1
    refine opX_plain ?_
    unfold plainOp
    rw [show skipB (⟨p ++ ((c :: t) ++ rest), d, b⟩ : Rd).s = c :: (t ++ rest) from hs]
    simp only
    rw [if_neg g1, if_neg (by rintro (e | e); exact g2 e; rw [g3] at e; cases e), if_neg g4, if_neg g5, if_neg g6, if_pos h1, hk, htk, hdr]
    rcases hq with ⟨e, rfl⟩ | ⟨e, rfl⟩ | ⟨e, rfl⟩
    · rw [if_pos e]; rfl
    · rw [if_neg (by rw [e]; decide), if_pos e]; rfl
    · rw [if_neg (by rw [e]; decide), if_neg (by rw [e]; decide), if_pos e]; rfl
  rcases hv with rfl | ⟨b', rfl⟩ | ⟨n, rfl, hn1, hn2⟩ | ⟨s, rfl⟩
  · exact wd 110 [105, 108] Ex.zero (by decide) (.inr (.inr ⟨rfl, rfl⟩))
  · cases b' with
    | true => exact wd 116 [114, 117, 101] _ (by decide) (.inl ⟨rfl, rfl⟩)
    | false => exact wd 102 [97, 108, 115, 101] _ (by decide) (.inr (.inl ⟨rfl, rfl⟩))
  · obtain ⟨c, l, e, hc, hl⟩ := num_head n
    have e0 : litW (tN n) = c :: l := by rw [← e]; rfl
    have hcb : c ∉ blanks ∧ c ≠ 34 := by
      rcases hc with rfl | hc
      · decide
      · constructor
        · intro hb; rcases blank_cases hb with rfl | rfl | rfl <;> exact absurd hc (by decide)
        · rintro rfl; exact absurd hc (by decide)
    have hs : skipB (p ++ ((c :: l) ++ rest)) = c :: (l ++ rest) := by
      rw [skip_blank hp]
      exact skip_none (fun c' hc' => by injection hc' with hc'; subst hc'; exact hcb.1)
    have hnk : numK (c :: (l ++ rest)) = (c :: l).length := by
      unfold numK
      rw [List.tail_cons, takeWhile_app hl (fun c' hc' => by
        rcases hr c' hc' with h | rfl
        · rcases blank_cases h with rfl | rfl | rfl <;> decide
        · decide), List.length_cons, Nat.add_comm]
    have htk : (c :: (l ++ rest)).take (c :: l).length = c :: l := by rw [← List.cons_append, List.take_left]
    have hdk : (c :: (l ++ rest)).drop (c :: l).length = rest := by rw [← List.cons_append, List.drop_left]
    have hnv : numV (c :: l) = some (tN n) := by
      obtain ⟨h1, h2⟩ := itoa_num n hn1 hn2
      unfold numV
      rw [← e, parse_int (s := bs (Lib.itoa n)) h1 h2]
      rfl
    rw [e0]
    refine opX_plain ?_
    unfold plainOp
    rw [show skipB (⟨p ++ ((c :: l) ++ rest), d, b⟩ : Rd).s = c :: (l ++ rest) from hs]
    simp only
    rw [if_neg hcb.2, if_pos hc, hnk, htk, hdk, hnv]
    rfl
  · have e0 : litW (tS s) = quoteL s.data.toList := rfl
    have hs : skipB (p ++ (quoteL s.data.toList ++ rest)) = 34 :: (escL s.data.toList ++ ([34] ++ rest)) := by
      rw [skip_blank hp]
      unfold quoteL
      rw [List.cons_append, List.append_assoc]
      exact skip_none (fun c' hc' => by injection hc' with hc'; subst hc'; decide)
    have hu := unq_quote s.data.toList rest
    unfold quoteL at hu
    rw [List.cons_append, List.append_assoc] at hu
    rw [e0]
    refine opX_plain ?_
    unfold plainOp
    rw [show skipB (⟨p ++ (quoteL s.data.toList ++ rest), d, b⟩ : Rd).s = 34 :: (escL s.data.toList ++ ([34] ++ rest)) from hs]
    simp only
    rw [if_pos trivial, hu]
    rfl
/-- The dot, or its steps, behind blanks. -/
theorem rd_dot {p rest : List UInt8} {st : List ByteArray} {d b : Int} (hp : Blk_ p) (hr : Stop_ rest) (hst : ∀ s ∈ st, nameL s.data.toList = true) : opX ⟨p ++ ((if st = [] then [46] else stepsW st) ++ rest), d, b⟩ = ((.mk 1 T.zero ⟨#[]⟩ st [], true), ⟨rest, d, b⟩) := by
  obtain ⟨t, ht⟩ : ∃ t, (if st = [] then [46] else stepsW st) ++ rest = 46 :: t := by
    cases st with
    | nil => exact ⟨rest, rfl⟩
    | cons s st => rw [if_neg (by simp), stepsW_cons]; exact ⟨_, rfl⟩
  have hs : skipB (p ++ ((if st = [] then [46] else stepsW st) ++ rest)) = 46 :: t := by
    rw [skip_blank hp, ht]
    exact skip_none (fun c' hc' => by injection hc' with hc'; subst hc'; decide)
  have hlen : st.length ≤ t.length + 1 := by
    have h9 := congrArg List.length ht
    rw [List.length_append, List.length_cons] at h9
    have : st.length ≤ (stepsW st).length := by
      clear ht hs hst h9
      induction st with
      | nil => exact Nat.zero_le _
      | cons s st ih => rw [stepsW_cons]; simp only [List.length_cons, List.length_append]; omega
    split at h9
    · next e => rw [e]; exact Nat.zero_le _
    · omega
  refine opX_plain ?_
  unfold plainOp
  rw [show skipB (⟨p ++ ((if st = [] then [46] else stepsW st) ++ rest), d, b⟩ : Rd).s = 46 :: t from hs]
  simp only
  rw [if_neg (by decide), if_neg (by decide), if_pos trivial, ← ht]
  cases st with
  | nil =>
    have h1 : stepsL (t.length + 1) (([46] : List UInt8) ++ rest) = ([], [46] ++ rest) := stepsL_stop _ (fun c r e => by
      injection e with _ e
      have e' : rest = c :: r := e
      have := stop_part hr c (by rw [e']; rfl)
      cases hc : nletB c with
      | false => rfl
      | true => rw [npart_of hc] at this; cases this)
    rw [if_pos rfl, h1]
    rfl
  | cons s st =>
    rw [if_neg (by simp), stepsL_app hst hr _ hlen]
    rfl
/-- A variable, behind blanks. -/
theorem rd_var {p rest : List UInt8} {nm : ByteArray} {st : List ByteArray} {d b : Int} (hp : Blk_ p) (hr : Stop_ rest) (hn : nameL nm.data.toList = true) (hst : ∀ s ∈ st, nameL s.data.toList = true) : opX ⟨p ++ (36 :: (nm.data.toList ++ stepsW st) ++ rest), d, b⟩ = ((.mk 2 T.zero nm st [], true), ⟨rest, d, b⟩) := by
  have hs : skipB (p ++ (36 :: (nm.data.toList ++ stepsW st) ++ rest)) = 36 :: (nm.data.toList ++ (stepsW st ++ rest)) := by
    rw [skip_blank hp, List.cons_append, List.append_assoc]
    exact skip_none (fun c' hc' => by injection hc' with hc'; subst hc'; decide)
  have hh := stepsW_head (l := st) (stop_part hr)
  obtain ⟨hT, hD⟩ := nameT_app hn hh
  have hK := nameK_app hn hh
  obtain ⟨c, t, e, -⟩ := name_parts hn
  have hk0 : ¬ nameK (nm.data.toList ++ (stepsW st ++ rest)) = 0 := by rw [hK, e]; simp
  have hlen : st.length ≤ (nm.data.toList ++ (stepsW st ++ rest)).length + 1 := by
    have : st.length ≤ (stepsW st).length := by
      clear hs hh hT hD hK hk0 hst
      induction st with
      | nil => exact Nat.zero_le _
      | cons s st ih => rw [stepsW_cons]; simp only [List.length_cons, List.length_append]; omega
    simp only [List.length_append]; omega
  refine opX_plain ?_
  unfold plainOp
  rw [show skipB (⟨p ++ (36 :: (nm.data.toList ++ stepsW st) ++ rest), d, b⟩ : Rd).s = 36 :: (nm.data.toList ++ (stepsW st ++ rest)) from hs]
  simp only
  rw [if_neg (by decide), if_neg (by decide), if_neg (by decide), if_pos trivial, if_neg hk0, hT, hD, stepsL_app hst hr _ hlen, bs_of]
  rfl
end Go.Proofs.YtnblmhfgmehnnaaGreatDoor

/- The parser read back, plainly: a written pipe is read as it is. -/
namespace Go.Proofs.YtnblmhfgmehnnaaGreatDoor

theorem last_cat {α : Type} {y : α} : ∀ {l : List α}, l.getLast? = some y → l.dropLast ++ [y] = l
  | [], h => by cases h
  | [a], h => by simp at h; rw [h]; rfl
  | a :: b :: l, h => by
    rw [List.getLast?_cons_cons] at h
    rw [List.dropLast_cons_cons, List.cons_append, last_cat h]
def PipOk (L : List UInt8) (n : Nat) : Prop := ∀ (d : Nat) (x : Ex) (a : Nat) (deep : Int) (rest : List UInt8), RightX d x → d + 1 ≤ n → 0 ≤ deep → deep + d ≤ 16 → End_ rest → piX ⟨(pipW L n x a).1 ++ rest, deep, 0⟩ = baX x ⟨rest, deep, 0⟩
theorem end_close (rest : List UInt8) : End_ (41 :: rest) := by
  refine ⟨fun c hc => by injection hc with hc; exact .inr hc.symm, fun c hc => ?_⟩
  rw [skip_none (fun c' hc' => by injection hc' with hc'; subst hc'; decide)] at hc
  injection hc with hc
  exact .inl hc.symm
theorem end_nil : End_ [] := ⟨(fun c hc => by cases hc), (fun c hc => by cases hc)⟩
theorem call_of {x : Ex} (h : OwnX x) (hk : x.kind = 3) : x = Ex.call x.name x.args := by
  have h1 := h.bare (by omega)
  have h2 := (h.call hk).2.2
  obtain ⟨k, v, nm, st, ar⟩ := x
  simp only [Ex.kind] at hk
  simp only [Ex.val] at h1
  simp only [Ex.steps] at h2
  subst hk h1 h2
  rfl
section
variable {L : List UInt8} {n : Nat}
/-- An operand that is in brackets or none of a name's own. -/
theorem op_read (hP : PipOk L n) {d : Nat} {y : Ex} {a : Nat} {deep : Int} {p rest : List UInt8} (hy : RightX d y) (hn : d + 1 ≤ n) (h0 : 0 ≤ deep) (hd : deep + d + 1 ≤ 16) (hp : Blk_ p) (hr : Stop_ rest) :
    (opX ⟨p ++ ((opW L (pipW L n) y a).1 ++ rest), deep, 0⟩ = ((y, true), ⟨rest, deep, 0⟩)) ∨ (y.kind = 3 ∧ y.args = [] ∧ (opW L (pipW L n) y a).1 = y.name.data.toList) := by
  have ho := hy.own
  have br : ∀ a, opX ⟨p ++ ((40 :: ((pipW L n y a).1 ++ [41])) ++ rest), deep, 0⟩ = ((y, true), ⟨rest, deep, 0⟩) := fun a => by
    have hs : skipB (p ++ ((40 :: ((pipW L n y a).1 ++ [41])) ++ rest)) = 40 :: ((pipW L n y a).1 ++ (41 :: rest)) := by
      rw [skip_blank hp, List.cons_append, List.append_assoc]
      exact skip_none (fun c' hc' => by injection hc' with hc'; subst hc'; decide)
    have h1 := hP d y a (deep + 1) (41 :: rest) hy hn (by omega) (by omega) (end_close rest)
    have h2 : baX y ⟨41 :: rest, deep + 1, 0⟩ = (y, ⟨41 :: rest, deep + 1, 0⟩) := by
      have h3 : skipB (41 :: rest) = 41 :: rest := skip_none (fun c' hc' => by injection hc' with hc'; subst hc'; decide)
      rw [baX_end (by rw [h3]; simp)]
      show (y, (⟨skipB (41 :: rest), deep + 1, 0⟩ : Rd)) = _
      rw [h3]
    have hpi := h1.trans h2
    rw [opX_br (l := (pipW L n y a).1 ++ (41 :: rest)) (l2 := rest) hs (by show ¬ 16 < deep + 1; omega) (by
      show skipB (piX ⟨_, deep + 1, 0⟩).2.s = _
      rw [hpi]
      exact skip_none (fun c' hc' => by injection hc' with hc'; subst hc'; decide))]
    show (((piX ⟨_, deep + 1, 0⟩).1, true), (⟨rest, (piX ⟨_, deep + 1, 0⟩).2.deep - 1, (piX ⟨_, deep + 1, 0⟩).2.bad⟩ : Rd)) = _
    rw [hpi]
    simp only [Int.add_sub_cancel]
  rcases ho.kind with hk | hk | hk | hk
  · obtain ⟨hv, h1, h2, h3⟩ := ho.lit hk
    refine .inl ?_
    have e : y = Ex.lit y.val := by obtain ⟨k, v, nm, st, ar⟩ := y; simp only [Ex.kind] at hk; simp only [Ex.name] at h1; simp only [Ex.steps] at h2; simp only [Ex.args] at h3; subst hk h1 h2 h3; rfl
    have e2 : (opW L (pipW L n) y a).1 = litW y.val := by unfold opW; rw [if_pos hk]
    rw [e2, rd_lit hp hr hv, ← e]
  · obtain ⟨h1, h3⟩ := ho.dot hk
    have h4 := ho.bare (by omega)
    refine .inl ?_
    have e : y = .mk 1 T.zero ⟨#[]⟩ y.steps [] := by obtain ⟨k, v, nm, st, ar⟩ := y; simp only [Ex.kind] at hk; simp only [Ex.name] at h1; simp only [Ex.args] at h3; simp only [Ex.val] at h4; subst hk h1 h3 h4; rfl
    have e2 : (opW L (pipW L n) y a).1 = if y.steps = [] then [46] else stepsW y.steps := by unfold opW; rw [if_neg (by omega), if_pos hk]
    rw [e2, rd_dot hp hr ho.steps, ← e]
  · obtain ⟨h1, h3⟩ := ho.var hk
    have h4 := ho.bare (by omega)
    refine .inl ?_
    have e : y = .mk 2 T.zero y.name y.steps [] := by obtain ⟨k, v, nm, st, ar⟩ := y; simp only [Ex.kind] at hk; simp only [Ex.args] at h3; simp only [Ex.val] at h4; subst hk h3 h4; rfl
    have e2 : (opW L (pipW L n) y a).1 = 36 :: (y.name.data.toList ++ stepsW y.steps) := by unfold opW; rw [if_neg (by omega), if_neg (by omega), if_pos hk]
    rw [e2, rd_var hp hr h1 ho.steps, ← e]
  · unfold opW
    rw [if_neg (by omega), if_neg (by omega), if_neg (by omega)]
    by_cases ha : y.args = []
    · rw [if_pos ha]
      by_cases hk2 : (pickW L a 2).1 = 1
      · rw [if_pos hk2]
        exact .inr ⟨hk, ha, rfl⟩
      · rw [if_neg hk2]
        exact .inl (br _)
    · rw [if_neg ha]
      exact .inl (br _)
theorem arg_read (hP : PipOk L n) {d : Nat} {y X : Ex} {a : Nat} {deep : Int} {p rest : List UInt8} (hy : RightX d y) (hn : d + 1 ≤ n) (h0 : 0 ≤ deep) (hd : deep + d + 1 ≤ 16) (hp : Blk_ p) (hr : Stop_ rest) :
    arX X ⟨p ++ ((opW L (pipW L n) y a).1 ++ rest), deep, 0⟩ = arX (X.push y) ⟨rest, deep, 0⟩ := by
  rcases op_read (a := a) hP hy hn h0 hd hp hr with h | ⟨hk, ha, he⟩
  · rw [arX_eq, h]
    rfl
  · obtain ⟨hn1, hw, -⟩ := hy.own.call hk
    rw [he]
    obtain ⟨c, t, e, hc, -⟩ := name_parts hn1
    have hs : skipB (p ++ (y.name.data.toList ++ rest)) = c :: (t ++ rest) := by
      rw [skip_blank hp, e]
      exact skip_none (fun c' hc' => by injection hc' with hc'; subst hc'; exact (nlet_not hc).1)
    have e3 : c :: (t ++ rest) = y.name.data.toList ++ rest := by rw [e]; rfl
    have hK := nameK_app hn1 (stop_part hr)
    obtain ⟨hT, hD⟩ := nameT_app hn1 (stop_part hr)
    have hop : opX ⟨p ++ (y.name.data.toList ++ rest), deep, 0⟩ = ((Ex.zero, false), ⟨y.name.data.toList ++ rest, deep, 0⟩) := by
      rw [opX_plain (plain_name (r := ⟨p ++ (y.name.data.toList ++ rest), deep, 0⟩) hs hc (by rw [e3, hK, List.take_left]; exact hw)), e3]
      rfl
    rw [arX_eq, hop]
    simp only [Bool.false_eq_true, if_false]
    rw [if_neg (by rw [hK, e]; simp), hT]
    show arX _ ⟨nameD (y.name.data.toList ++ rest), deep, 0⟩ = _
    rw [hD, bs_of, show Ex.call y.name [] = y from by rw [← ha]; exact (call_of hy.own hk).symm]
theorem args_stop (l : List Ex) (a : Nat) {pipe : Ex → Nat → List UInt8 × Nat} {rest : List UInt8} (hr : Stop_ rest) : Stop_ ((argsW L pipe l a).1 ++ rest) := by
  cases l with
  | nil => exact hr
  | cons x l =>
    obtain ⟨h1, h2⟩ := gap_blk L a
    intro c hc
    unfold argsW at hc
    simp only at hc
    cases hg : (gapW L a).1 with
    | nil => exact absurd hg h2
    | cons g gs =>
      rw [hg] at hc h1
      injection hc with hc
      subst hc
      exact .inl (h1 g (List.mem_cons_self ..))
theorem args_read (hP : PipOk L n) {d : Nat} {deep : Int} {rest : List UInt8} (hn : d + 1 ≤ n) (h0 : 0 ≤ deep) (hd : deep + d + 1 ≤ 16) (hr : Stop_ rest) (nm : ByteArray) : ∀ (l done : List Ex) (a : Nat), (∀ y ∈ l, RightX d y) →
    arX (Ex.call nm done) ⟨(argsW L (pipW L n) l a).1 ++ rest, deep, 0⟩ = arX (Ex.call nm (done ++ l)) ⟨rest, deep, 0⟩
  | [], done, a, h => by rw [List.append_nil]; rfl
  | y :: l, done, a, h => by
    have h1 := args_read hP hn h0 hd hr nm l (done ++ [y]) (opW L (pipW L n) y (gapW L a).2).2 (fun z hz => h z (List.mem_cons_of_mem _ hz))
    have e : (argsW L (pipW L n) (y :: l) a).1 ++ rest = (gapW L a).1 ++ ((opW L (pipW L n) y (gapW L a).2).1 ++ ((argsW L (pipW L n) l (opW L (pipW L n) y (gapW L a).2).2).1 ++ rest)) := by
      rw [argsW]
      simp only [List.append_assoc]
    rw [e, arg_read hP (h y (List.mem_cons_self ..)) hn h0 hd (gap_blk L a).1 (args_stop l _ hr)]
    show arX (Ex.call nm (done ++ [y])) _ = _
    rw [h1, List.append_assoc]
    rfl
theorem call_read (hP : PipOk L n) {d : Nat} {deep : Int} {p rest : List UInt8} {nm : ByteArray} {l : List Ex} {a : Nat} (hn : d + 1 ≤ n ∨ l = []) (h0 : 0 ≤ deep) (hd : deep + d + 1 ≤ 16 ∨ l = []) (hr : End_ rest) (hp : Blk_ p) (h1 : nameL nm.data.toList = true) (h2 : wordsB nm.data.toList = true) (hl : ∀ y ∈ l, RightX d y) :
    coX ⟨p ++ (nm.data.toList ++ ((argsW L (pipW L n) l a).1 ++ rest)), deep, 0⟩ = (Ex.call nm l, ⟨skipB rest, deep, 0⟩) := by
  have hst := args_stop (L := L) l a (pipe := pipW L n) hr.1
  obtain ⟨c, t, e, hc, -⟩ := name_parts h1
  have hs : skipB (p ++ (nm.data.toList ++ ((argsW L (pipW L n) l a).1 ++ rest))) = c :: (t ++ ((argsW L (pipW L n) l a).1 ++ rest)) := by
    rw [skip_blank hp, e]
    exact skip_none (fun c' hc' => by injection hc' with hc'; subst hc'; exact (nlet_not hc).1)
  have e3 : c :: (t ++ ((argsW L (pipW L n) l a).1 ++ rest)) = nm.data.toList ++ ((argsW L (pipW L n) l a).1 ++ rest) := by rw [e]; rfl
  have hK := nameK_app h1 (stop_part hst)
  obtain ⟨hT, hD⟩ := nameT_app h1 (stop_part hst)
  have hop : opX ⟨p ++ (nm.data.toList ++ ((argsW L (pipW L n) l a).1 ++ rest)), deep, 0⟩ = ((Ex.zero, false), ⟨nm.data.toList ++ ((argsW L (pipW L n) l a).1 ++ rest), deep, 0⟩) := by
    rw [opX_plain (plain_name (r := ⟨p ++ (nm.data.toList ++ ((argsW L (pipW L n) l a).1 ++ rest)), deep, 0⟩) hs hc (by rw [e3, hK, List.take_left]; exact h2)), e3]
    rfl
  rw [coX_eq, hop]
  simp only [Bool.false_eq_true, if_false]
  rw [if_neg (by rw [hK, e]; simp), hT]
  show arX _ ⟨nameD (nm.data.toList ++ ((argsW L (pipW L n) l a).1 ++ rest)), deep, 0⟩ = _
  rw [hD, bs_of]
  rcases hn with hn | rfl
  · rcases hd with hd | rfl
    · rw [args_read hP hn h0 hd hr.1 nm l [] a hl, ar_end hr.2, List.nil_append]
    · exact ar_end hr.2
  · exact ar_end hr.2
end
/-- A written pipe is read as it is. -/
theorem pip_ok (L : List UInt8) : ∀ n, PipOk L n
  | 0 => fun d x a deep rest hx hn => by omega
  | n + 1 => by
    have hP := pip_ok L n
    intro d x a deep rest hx hn h0 hd hr
    have ho := hx.own
    have fin : ∀ (y : Ex), baX y ⟨skipB rest, deep, 0⟩ = baX y ⟨rest, deep, 0⟩ := fun y => by
      by_cases h : (skipB rest).head? = some 124
      · obtain ⟨l, hl⟩ : ∃ l, skipB rest = 124 :: l := by cases hh : skipB rest with | nil => rw [hh] at h; cases h | cons c l => rw [hh] at h; injection h with h; subst h; exact ⟨l, rfl⟩
        rw [baX_bar (r := ⟨skipB rest, deep, 0⟩) (l := l) (by show skipB (skipB rest) = _; rw [skip_skip, hl]), baX_bar (r := ⟨rest, deep, 0⟩) (l := l) hl]
        rfl
      · rw [baX_end (r := ⟨skipB rest, deep, 0⟩) (by show (skipB (skipB rest)).head? ≠ _; rw [skip_skip]; exact h), baX_end (r := ⟨rest, deep, 0⟩) h]
        show (y, (⟨skipB (skipB rest), deep, 0⟩ : Rd)) = _
        rw [skip_skip]
        rfl
    have sub : x.args ≠ [] → ∀ y ∈ x.args, RightX (d - 1) y := fun _ => hx.args
    have bnd : ∀ l : List Ex, (∀ y ∈ l, y ∈ x.args) → (d - 1 + 1 ≤ n ∨ l = []) ∧ (deep + (d - 1 : Nat) + 1 ≤ 16 ∨ l = []) := fun l hl => by
      rcases hx.deep with h | h
      · have : l = [] := by cases l with | nil => rfl | cons y l => have := hl y (List.mem_cons_self ..); rw [h] at this; cases this
        exact ⟨.inr this, .inr this⟩
      · exact ⟨.inl (by omega), .inl (by omega)⟩
    unfold pipW
    by_cases hk : x.kind = 3
    · rw [if_neg (fun h => h hk)]
      obtain ⟨h1, h2, -⟩ := ho.call hk
      have hxe := call_of ho hk
      have plain : ∀ a, piX ⟨(callW L (pipW L n) x x.args [] a).1 ++ rest, deep, 0⟩ = baX x ⟨rest, deep, 0⟩ := fun a => by
        have hb := bnd x.args (fun _ h => h)
        have hc := call_read (L := L) (n := n) (d := d - 1) (deep := deep) (p := []) (rest := rest) (nm := x.name) (l := x.args) (a := a) hP hb.1 h0 hb.2 hr (fun c hc => by cases hc) h1 h2 hx.args
        rw [List.nil_append] at hc
        unfold callW
        simp only [List.nil_append, List.append_assoc]
        rw [piX_eq, hc]
        show baX (Ex.call x.name x.args) ⟨skipB rest, deep, 0⟩ = _
        rw [fin, ← hxe]
      cases hl : x.args.getLast? with
      | none =>
        have hnil : x.args = [] := by simpa using hl
        have := plain a
        rw [hnil] at this
        exact this
      | some y =>
        simp only
        by_cases hp : (pickW L a 3).1 = 1
        · rw [if_pos hp]
          have hne : x.args ≠ [] := fun e => by rw [e] at hl; cases hl
          have hcat : x.args.dropLast ++ [y] = x.args := last_cat hl
          have hy : RightX (d - 1) y := hx.args y (by rw [← hcat]; simp)
          have hb := bnd x.args.dropLast (fun z hz => by rw [← hcat]; exact List.mem_append_left _ hz)
          have hdp : 0 < d := hx.deep.resolve_left hne
          obtain ⟨u, hu⟩ : ∃ z, z = pipW L n y (pickW L a 3).2 := ⟨_, rfl⟩
          obtain ⟨g1, hg1⟩ : ∃ z, z = gapW L u.2 := ⟨_, rfl⟩
          obtain ⟨g2, hg2⟩ : ∃ z, z = gapW L g1.2 := ⟨_, rfl⟩
          have hb1 : Blk_ g1.1 ∧ g1.1 ≠ [] := by rw [hg1]; exact gap_blk L u.2
          have hb2 : Blk_ g2.1 ∧ g2.1 ≠ [] := by rw [hg2]; exact gap_blk L g1.2
          rw [← hu, ← hg1, ← hg2]
          unfold callW
          simp only [List.append_assoc, List.cons_append]
          obtain ⟨tl, htl⟩ : ∃ z, z = x.name.data.toList ++ ((argsW L (pipW L n) x.args.dropLast g2.2).1 ++ rest) := ⟨_, rfl⟩
          rw [← htl]
          have hend : End_ (g1.1 ++ (124 :: (g2.1 ++ tl))) := by
            have hsk : skipB (g1.1 ++ (124 :: (g2.1 ++ tl))) = 124 :: (g2.1 ++ tl) := by
              rw [skip_blank hb1.1]
              exact skip_none (fun c' hc' => by injection hc' with hc'; subst hc'; decide)
            refine ⟨fun c hc => ?_, fun c hc => ?_⟩
            · cases hg : g1.1 with
              | nil => exact absurd hg hb1.2
              | cons g gs =>
                rw [hg] at hc hb1
                injection hc with hc
                subst hc
                exact .inl (hb1.1 g (List.mem_cons_self ..))
            · rw [hsk] at hc
              injection hc with hc
              exact .inr hc.symm
          have hsk : skipB (g1.1 ++ (124 :: (g2.1 ++ tl))) = 124 :: (g2.1 ++ tl) := by
            rw [skip_blank hb1.1]
            exact skip_none (fun c' hc' => by injection hc' with hc'; subst hc'; decide)
          have hpy := hP (d - 1) y (pickW L a 3).2 deep (g1.1 ++ (124 :: (g2.1 ++ tl))) hy (by omega) h0 (by omega) hend
          rw [← hu] at hpy
          have hc := call_read (L := L) (n := n) (d := d - 1) (deep := deep) (p := g2.1) (rest := rest) (nm := x.name) (l := x.args.dropLast) (a := g2.2) hP hb.1 h0 hb.2 hr hb2.1 h1 h2 (fun z hz => hx.args z (by rw [← hcat]; exact List.mem_append_left _ hz))
          rw [← htl] at hc
          rw [hpy, baX_bar (r := ⟨g1.1 ++ (124 :: (g2.1 ++ tl)), deep, 0⟩) (l := g2.1 ++ tl) hsk]
          show (if (coX ⟨g2.1 ++ tl, deep, 0⟩).1.kind ≠ 3 ∧ (coX ⟨g2.1 ++ tl, deep, 0⟩).2.bad = 0 then _ else baX ((coX ⟨g2.1 ++ tl, deep, 0⟩).1.push y) (coX ⟨g2.1 ++ tl, deep, 0⟩).2) = _
          rw [hc, if_neg (fun h => h.1 rfl)]
          show baX (Ex.call x.name (x.args.dropLast ++ [y])) ⟨skipB rest, deep, 0⟩ = _
          rw [hcat, fin, ← hxe]
        · rw [if_neg hp]
          exact plain _
    · rw [if_pos hk]
      have hd0 : x.args = [] := by
        rcases ho.kind with h | h | h | h
        · exact (ho.lit h).2.2.2
        · exact (ho.dot h).2
        · exact (ho.var h).2
        · exact absurd h hk
      have lit : opX ⟨[] ++ ((opW L (pipW L n) x a).1 ++ rest), deep, 0⟩ = ((x, true), ⟨rest, deep, 0⟩) := by
        have hp : Blk_ [] := fun c hc => by cases hc
        have hs := hr.1
        rcases ho.kind with hk0 | hk0 | hk0 | hk0
        · obtain ⟨hv, h1, h2, h3⟩ := ho.lit hk0
          have e : x = Ex.lit x.val := by obtain ⟨k, v, nm, st, ar⟩ := x; simp only [Ex.kind] at hk0; simp only [Ex.name] at h1; simp only [Ex.steps] at h2; simp only [Ex.args] at h3; subst hk0 h1 h2 h3; rfl
          have e2 : (opW L (pipW L n) x a).1 = litW x.val := by unfold opW; rw [if_pos hk0]
          rw [e2, rd_lit hp hs hv, ← e]
        · obtain ⟨h1, h3⟩ := ho.dot hk0
          have h4 := ho.bare (by omega)
          have e : x = .mk 1 T.zero ⟨#[]⟩ x.steps [] := by obtain ⟨k, v, nm, st, ar⟩ := x; simp only [Ex.kind] at hk0; simp only [Ex.name] at h1; simp only [Ex.args] at h3; simp only [Ex.val] at h4; subst hk0 h1 h3 h4; rfl
          have e2 : (opW L (pipW L n) x a).1 = if x.steps = [] then [46] else stepsW x.steps := by unfold opW; rw [if_neg (by omega), if_pos hk0]
          rw [e2, rd_dot hp hs ho.steps, ← e]
        · obtain ⟨h1, h3⟩ := ho.var hk0
          have h4 := ho.bare (by omega)
          have e : x = .mk 2 T.zero x.name x.steps [] := by obtain ⟨k, v, nm, st, ar⟩ := x; simp only [Ex.kind] at hk0; simp only [Ex.args] at h3; simp only [Ex.val] at h4; subst hk0 h3 h4; rfl
          have e2 : (opW L (pipW L n) x a).1 = 36 :: (x.name.data.toList ++ stepsW x.steps) := by unfold opW; rw [if_neg (by omega), if_neg (by omega), if_pos hk0]
          rw [e2, rd_var hp hs h1 ho.steps, ← e]
        · exact absurd hk0 hk
      rw [List.nil_append] at lit
      rw [piX_eq, coX_eq, lit]
      rfl
/-- A written pipe that is all of an action. -/
theorem all_read {L : List UInt8} {n d : Nat} {x : Ex} {a : Nat} (hx : RightX d x) (hn : d + 1 ≤ n) (hd : d ≤ 16) : allF (pipW L n x a).1 = (x, 0) := by
  have h := pip_ok L n d x a 0 [] hx hn (Int.le_refl _) (by omega) end_nil
  rw [List.append_nil] at h
  have h2 : baX x ⟨[], 0, 0⟩ = (x, ⟨[], 0, 0⟩) := by rw [baX_end (by show (skipB []).head? ≠ _; simp [skipB, Lib.trimLeftS])]; rfl
  exact allF_of (h.trans h2) rfl
end Go.Proofs.YtnblmhfgmehnnaaGreatDoor

/- The parser read back, plainly: pipes and brackets (ParsePiped). -/
namespace Go.Proofs.YtnblmhfgmehnnaaGreatDoor

theorem br_read {u p rest : List UInt8} {y : Ex} {deep : Int} (hp : Blk_ p) (hd : deep + 1 ≤ 16) (h : piX ⟨u ++ (41 :: rest), deep + 1, 0⟩ = baX y ⟨41 :: rest, deep + 1, 0⟩) : opX ⟨p ++ (40 :: (u ++ (41 :: rest))), deep, 0⟩ = ((y, true), ⟨rest, deep, 0⟩) := by
  have hs : skipB (p ++ (40 :: (u ++ (41 :: rest)))) = 40 :: (u ++ (41 :: rest)) := by
    rw [skip_blank hp]
    exact skip_none (fun c' hc' => by injection hc' with hc'; subst hc'; decide)
  have h3 : skipB (41 :: rest) = 41 :: rest := skip_none (fun c' hc' => by injection hc' with hc'; subst hc'; decide)
  have h2 : baX y ⟨41 :: rest, deep + 1, 0⟩ = (y, ⟨41 :: rest, deep + 1, 0⟩) := by
    rw [baX_end (by rw [h3]; simp)]
    show (y, (⟨skipB (41 :: rest), deep + 1, 0⟩ : Rd)) = _
    rw [h3]
  have hpi := h.trans h2
  rw [opX_br (l := u ++ (41 :: rest)) (l2 := rest) hs (by show ¬ 16 < deep + 1; omega) (by
    show skipB (piX ⟨_, deep + 1, 0⟩).2.s = _
    rw [hpi]
    exact h3)]
  show (((piX ⟨_, deep + 1, 0⟩).1, true), (⟨rest, (piX ⟨_, deep + 1, 0⟩).2.deep - 1, (piX ⟨_, deep + 1, 0⟩).2.bad⟩ : Rd)) = _
  rw [hpi]
  simp only [Int.add_sub_cancel]
/-- Brackets around all of it change nothing. -/
theorem br_pipe {u rest : List UInt8} {y : Ex} {deep : Int} (hd : deep + 1 ≤ 16) (h : piX ⟨u ++ (41 :: rest), deep + 1, 0⟩ = baX y ⟨41 :: rest, deep + 1, 0⟩) : piX ⟨40 :: (u ++ (41 :: rest)), deep, 0⟩ = baX y ⟨rest, deep, 0⟩ := by
  have h1 := br_read (p := []) (fun c hc => by cases hc) hd h
  rw [List.nil_append] at h1
  rw [piX_eq, coX_eq, h1]
  rfl
def exD (a : ByteArray) : Ex := .mk 1 T.zero ⟨#[]⟩ [a] []
def exF (f b a : ByteArray) : Ex := Ex.call f [exD b, exD a]
def exG (g f b a : ByteArray) : Ex := Ex.call g [exF f b a]
/-- A name that may be a call's. -/
def CallN (s : ByteArray) : Prop := nameL s.data.toList = true ∧ wordsB s.data.toList = true
theorem right_D {a : ByteArray} (h : CallN a) (d : Nat) : RightX d (exD a) :=
  .mk d _ ⟨.inr (.inl rfl), fun s hs => by rw [List.mem_singleton.1 hs]; exact h.1, fun h => absurd h (show ¬ (1 : Int) = 0 by decide), fun _ => rfl, fun _ => ⟨rfl, rfl⟩, fun h => absurd h (show ¬ (1 : Int) = 2 by decide), fun h => absurd h (show ¬ (1 : Int) = 3 by decide)⟩ (.inl rfl) (fun y hy => by cases hy)
theorem right_call {n : ByteArray} {l : List Ex} {d : Nat} (h : CallN n) (hl : ∀ y ∈ l, RightX d y) : RightX (d + 1) (Ex.call n l) :=
  .mk (d + 1) _ ⟨.inr (.inr (.inr rfl)), (fun s hs => by cases hs), fun h => absurd h (show ¬ (3 : Int) = 0 by decide), fun _ => rfl, fun h => absurd h (show ¬ (3 : Int) = 1 by decide), fun h => absurd h (show ¬ (3 : Int) = 2 by decide), fun _ => ⟨h.1, h.2, rfl⟩⟩ (.inr (Nat.succ_pos d)) hl
theorem right_F {f b a : ByteArray} (hf : CallN f) (hb : CallN b) (ha : CallN a) : RightX 1 (exF f b a) := right_call hf (fun y hy => by
  simp only [List.mem_cons, List.not_mem_nil, or_false] at hy
  rcases hy with rfl | rfl
  · exact right_D hb 0
  · exact right_D ha 0)
theorem right_G {g f b a : ByteArray} (hg : CallN g) (hf : CallN f) (hb : CallN b) (ha : CallN a) : RightX 2 (exG g f b a) := right_call hg (fun y hy => by rw [List.mem_singleton.1 hy]; exact right_F hf hb ha)
theorem pick_nil (a n : Nat) : pickW [] a n = (0, a) := rfl
theorem pick_one (a n : Nat) : pickW [1] a n = (1 % n, a + 1) := by
  unfold pickW
  rw [if_neg (by simp)]
  simp [Nat.mod_one]
theorem gap_nil (a : Nat) : gapW [] a = ([32], a) := rfl
theorem gap_one (a : Nat) : gapW [1] a = ([32], a + 1) := by unfold gapW; rw [pick_one]; rfl
def textF (f b a : ByteArray) : List UInt8 := f.data.toList ++ (32 :: 46 :: (b.data.toList ++ (32 :: 46 :: a.data.toList)))
def textP (g f b a : ByteArray) : List UInt8 := 46 :: (a.data.toList ++ (32 :: 124 :: 32 :: (f.data.toList ++ (32 :: 46 :: (b.data.toList ++ (32 :: 124 :: 32 :: g.data.toList))))))
theorem text_F (f b a : ByteArray) : (pipW [] 2 (exF f b a) 0).1 = textF f b a := by
  simp [pipW, exF, exD, Ex.call, Ex.kind, Ex.args, Ex.name, Ex.steps, callW, argsW, opW, pick_nil, gap_nil, stepsW, textF]
theorem text_P (g f b a : ByteArray) : (pipW [1] 3 (exG g f b a) 0).1 = textP g f b a := by
  simp [pipW, exG, exF, exD, Ex.call, Ex.kind, Ex.args, Ex.name, Ex.steps, callW, argsW, opW, pick_one, gap_one, stepsW, textP]
section
variable {g f b a : ByteArray}
theorem read_P (hg : CallN g) (hf : CallN f) (hb : CallN b) (ha : CallN a) {deep : Int} {rest : List UInt8} (h0 : 0 ≤ deep) (hd : deep + 2 ≤ 16) (hr : End_ rest) : piX ⟨textP g f b a ++ rest, deep, 0⟩ = baX (exG g f b a) ⟨rest, deep, 0⟩ := by
  have h := pip_ok [1] 3 2 (exG g f b a) 0 deep rest (right_G hg hf hb ha) (by omega) h0 hd hr
  rw [text_P] at h
  exact h
theorem read_F (hf : CallN f) (hb : CallN b) (ha : CallN a) {deep : Int} {rest : List UInt8} (h0 : 0 ≤ deep) (hd : deep + 1 ≤ 16) (hr : End_ rest) : piX ⟨textF f b a ++ rest, deep, 0⟩ = baX (exF f b a) ⟨rest, deep, 0⟩ := by
  have h := pip_ok [] 2 1 (exF f b a) 0 deep rest (right_F hf hb ha) (by omega) h0 hd hr
  rw [text_F] at h
  exact h
theorem ba_nil (x : Ex) (d : Int) : baX x ⟨[], d, 0⟩ = (x, ⟨[], d, 0⟩) := by rw [baX_end (by show (skipB []).head? ≠ _; simp [skipB, Lib.trimLeftS])]; rfl
/-- Commands with bars between. -/
theorem piped1 (hg : CallN g) (hf : CallN f) (hb : CallN b) (ha : CallN a) : allF (textP g f b a) = (exG g f b a, 0) := by
  have h := read_P hg hf hb ha (deep := 0) (rest := []) (Int.le_refl _) (by omega) end_nil
  rw [List.append_nil] at h
  exact allF_of (h.trans (ba_nil _ _)) rfl
/-- The same in brackets. -/
theorem piped3 (hg : CallN g) (hf : CallN f) (hb : CallN b) (ha : CallN a) : allF (40 :: 40 :: (textP g f b a ++ [41, 41])) = (exG g f b a, 0) := by
  have h1 := br_pipe (deep := 1) (u := textP g f b a) (rest := [41]) (by omega) (read_P hg hf hb ha (by omega) (by omega) (end_close _))
  have h2 := br_pipe (deep := 0) (u := 40 :: (textP g f b a ++ [41])) (rest := []) (y := exG g f b a) (by omega) (by
    have e : (40 :: (textP g f b a ++ [41])) ++ ([41] : List UInt8) = 40 :: (textP g f b a ++ (41 :: [41])) := by simp
    rw [e]
    exact h1)
  have e2 : (40 :: ((40 :: (textP g f b a ++ [41])) ++ ([41] : List UInt8))) = 40 :: 40 :: (textP g f b a ++ [41, 41]) := by simp
  rw [e2] at h2
  exact allF_of (h2.trans (ba_nil _ _)) rfl
/-- A call, in brackets its argument. -/
theorem piped2 (hg : CallN g) (hf : CallN f) (hb : CallN b) (ha : CallN a) : allF (g.data.toList ++ (32 :: 40 :: (textF f b a ++ [41]))) = (exG g f b a, 0) := by
  have h := all_read (L := []) (n := 3) (a := 0) (right_G hg hf hb ha) (by omega) (by omega)
  have e : (pipW [] 3 (exG g f b a) 0).1 = g.data.toList ++ (32 :: 40 :: (textF f b a ++ [41])) := by
    simp [pipW, exG, exF, exD, Ex.call, Ex.kind, Ex.args, Ex.name, Ex.steps, callW, argsW, opW, pick_nil, gap_nil, stepsW, textF]
  rw [e] at h
  exact h
/-- A call in brackets, handed on. -/
theorem piped4 (hg : CallN g) (hf : CallN f) (hb : CallN b) (ha : CallN a) : allF (40 :: (textF f b a ++ (41 :: 32 :: 124 :: 32 :: g.data.toList))) = (exG g f b a, 0) := by
  have h1 := br_pipe (deep := 0) (u := textF f b a) (rest := 32 :: 124 :: 32 :: g.data.toList) (by omega) (read_F hf hb ha (by omega) (by omega) (end_close _))
  have hs : skipB (32 :: 124 :: 32 :: g.data.toList) = 124 :: 32 :: g.data.toList := by
    rw [show (32 :: 124 :: 32 :: g.data.toList : List UInt8) = [32] ++ (124 :: 32 :: g.data.toList) from rfl, skip_blank (by intro c hc; rw [List.mem_singleton.1 hc]; decide)]
    exact skip_none (fun c' hc' => by injection hc' with hc'; subst hc'; decide)
  have hc := call_read (L := []) (n := 1) (d := 0) (deep := 0) (p := [32]) (rest := []) (nm := g) (l := []) (a := 0) (pip_ok [] 1) (.inr rfl) (Int.le_refl _) (.inr rfl) end_nil (by intro c hc; rw [List.mem_singleton.1 hc]; decide) hg.1 hg.2 (fun y hy => by cases hy)
  have e : ([32] : List UInt8) ++ (g.data.toList ++ ((argsW [] (pipW [] 1) [] 0).1 ++ [])) = 32 :: g.data.toList := by simp [argsW]
  rw [e] at hc
  have h2 : baX (exF f b a) ⟨32 :: 124 :: 32 :: g.data.toList, 0, 0⟩ = (exG g f b a, ⟨[], 0, 0⟩) := by
    rw [baX_bar (r := ⟨32 :: 124 :: 32 :: g.data.toList, 0, 0⟩) (l := 32 :: g.data.toList) hs]
    show (if (coX ⟨32 :: g.data.toList, 0, 0⟩).1.kind ≠ 3 ∧ (coX ⟨32 :: g.data.toList, 0, 0⟩).2.bad = 0 then _ else baX ((coX ⟨32 :: g.data.toList, 0, 0⟩).1.push (exF f b a)) (coX ⟨32 :: g.data.toList, 0, 0⟩).2) = _
    rw [hc, if_neg (fun h => h.1 rfl)]
    exact ba_nil _ _
  exact allF_of (h1.trans h2) rfl
end
end Go.Proofs.YtnblmhfgmehnnaaGreatDoor

