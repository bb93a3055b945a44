/- TreeChecks answers true for every input. -/
import Derived.Test.YtmdihildjblgnaaAwake
import Derived.Test.YtmdihildjblgnaaPartsT
import Derived.Test.YtmdihildjblgnaaDelete
import Derived.Deep.RegionHeld3
import Derived.Deep.DrawnRows
namespace Go.Proofs.Ytmdihildjblgnaa
open Go.RowKit
attribute [local go_sem ↓] Go.wp_at_zero Go.wp_at_succ

theorem chk_parts (t : T) : 0 ≤ t.parts ∧ t.parts ≤ 13 := by
  induction t using T.ind' with
  | h t ihl ihm =>
  have h1 : 0 ≤ T.partsL t.list ∧ T.partsL t.list ≤ 13 := by
    generalize t.list = l at ihl
    induction l with
    | nil => simp [T.partsL]
    | cons x l ih =>
      have := ihl x (by simp)
      have := ih (fun y hy => ihl y (by simp [hy]))
      rw [T.partsL]; split <;> omega
  have h2 : ∀ prev, 0 ≤ T.partsM prev t.map ∧ T.partsM prev t.map ≤ 13 := by
    generalize t.map = l at ihm
    induction l with
    | nil => intro prev; simp [T.partsM]
    | cons x l ih =>
      intro prev
      have h3 := ihm x (by simp)
      have h4 := ih (fun y hy => ihm y (by simp [hy])) (some x.1)
      rw [partsM_cons, T.partsP_eq]
      repeat' split
      all_goals omega
  have h2 := h2 none
  rw [T.parts_eq]
  repeat' split
  all_goals omega
theorem check_range (t : T) : 0 ≤ t.check ∧ t.check ≤ 13 := by
  have := chk_parts t
  unfold T.check
  repeat' split
  all_goals omega
/-- What a clone's first pair is, in a row of the clone's own. -/
theorem clone_row {w wr : World} {t : T} {lc mc : Nat} {A1 A2 : Option Addr} {g1 g2 : Nat} {d0 d1 d2 d3 d4 d5 : Value} (h : Cl w wr t lc mc A1 A2 g1 g2 t.list.length t.map.length) (h0 : 0 < t.map.length) :
    ∃ cur, A2 = some ⟨g2, 0, none⟩ ∧ w.heap.size + 2 ≤ g2 ∧ Blk (set6 wr (w.heap.size + 1) 0 d0 d1 d2 d3 d4 d5) g2 43 cur ∧ cur[1]? = some (.int .i64 t.map[0].2.kind) := by
  obtain ⟨hb1, hb2, hbw, hg1, hg2, hne, hL, hM⟩ := h
  obtain ⟨e, hlo, cur, hb, hz, hi⟩ := hM h0
  obtain ⟨cs, hl, hc, hE⟩ := hi 0 h0
  obtain ⟨r, hr, -, hrep⟩ := hE h0
  obtain ⟨la, lc2, ma, mc2, hv, -⟩ := hrep.inv
  refine ⟨cur, e, hlo, (set6_heap (show g2 ≠ w.heap.size + 1 by omega)).trans hb, ?_⟩
  have h1 := hc 1 (by omega)
  rw [Nat.zero_mul, Nat.zero_add] at h1
  rw [h1, hr, agg_list hv]; rfl

set_option maxRecDepth 100000 in
set_option maxHeartbeats 8000000 in
theorem checks (v : T) (s : ByteArray) (vv : Value) (w : World) (hv : RepT w (fun _ => True) vv v) (hs : s.size ≤ 140737488351232) :
    Calls Try.prog 19 #[vv, .string s] w fun e w' => e = .returned (.bool true) ∧ Below w.heap.size w w' := by
  obtain ⟨la, lc, ma, mc, rfl, hp⟩ := hv.inv
  obtain ⟨hk, hn, hst, hll, hml, -, -, -, -, -, hM⟩ := hp
  have HP := Lib.hid (And.intro hk (And.intro hn (And.intro hst (And.intro hll hml))))
  have HM := Lib.hid hM
  have H_v := Lib.hid hv
  clear hv hk hn hst hll hml hM
  go_enter Try.func19, Try.ntmps19
  go_wp2_with fail
  refine (light v _ (fun _ => True) _ (H_v.out.keep (by exact Below.new _ _))).mono ?_
  rintro e w1 ⟨r, rfl, hr, hb⟩
  have HD1 := Lib.hid (show Below w.heap.size w w1 from Below.next (Below.new _ _) hb)
  have L1_0 := Lib.hid ((Blk.new w 25 #[.int .i64 v.kind, .bool v.bool, .int .i64 v.int, .string v.str, .slice la v.list.length lc, .slice ma v.map.length mc]).keep hb)
  have V1_v := Lib.hid (H_v.out.keep HD1.out)
  have HW1 := Lib.hid (show Below w.heap.size w w1 from HD1.out)
  clear hb HD1 H_v
  have k1_0 := L1_0.out.cell
  have l1_0 := L1_0.out.lt
  have HLT := Lib.hid L1_0.out.lt
  have HR := Lib.hid hr
  clear hr
  cases r
  · go_wp2_with (go_at_call 24; refine (awake1 _).mono ?_; rintro e w9 ⟨rfl, hb9⟩)
    go_ret
    exact ⟨rfl, Below.next HW1.out hb9⟩
  by_cases h1 : 1000 < s.size
  · go_wp2_with (go_at_call 24; refine (awake1 _).mono ?_; rintro e w9 ⟨rfl, hb9⟩)
    go_ret
    exact ⟨rfl, Below.next HW1.out hb9⟩
  have HZ : Hid (v.size < 4611686018427387904) := by have := HR.out rfl; have := size_le_wt v; show _ < _; omega
  clear HR
  go_wp2_with fail
  refine (clone_full v _ (fun _ => True) _ (V1_v.out)).mono ?_
  rintro e w2 ⟨A1, lc1, A2, mc1, g1, g2, wr1, rfl, hcl, hw1, hc1, hc2, hc3, hc4⟩
  obtain ⟨hr, -, hb⟩ := clone_new hcl HP.out.2.2.2.1 HP.out.2.2.2.2 HP.out.1 HP.out.2.1 HP.out.2.2.1 hc1 hc2 hc3 hc4
  have hrow := fun h0 => clone_row (d0 := .int .i64 v.kind) (d1 := .bool v.bool) (d2 := .int .i64 v.int) (d3 := .string v.str) (d4 := .slice A1 v.list.length lc1) (d5 := .slice A2 v.map.length mc1) hcl h0
  rw [← hw1] at hr hb hrow
  have N2 := Lib.hid hr.any
  have HROW := Lib.hid hrow
  clear hw1 hcl hr hrow hc1 hc2 hc3 hc4
  have HD2 := Lib.hid (show Below w1.heap.size w1 w2 from hb)
  have L2_0 := Lib.hid (L1_0.out.keep HD2.out)
  have V2_v := Lib.hid (V1_v.out.keep HD2.out)
  have HW2 := Lib.hid (Below.next HW1.out HD2.out)
  clear k1_0 l1_0 hb HD2 L1_0 V1_v HW1
  have k2_0 := L2_0.out.cell
  have l2_0 := L2_0.out.lt
  have HBB := Lib.hid (Below.refl w2.heap.size w2)
  go_wp2_with fail
  obtain ⟨w3, hwz⟩ : ∃ x, x = (w2.alloc (.cells #[.int .i64 v.kind, .bool v.bool, .int .i64 v.int, .string v.str, .slice A1 v.list.length lc1, .slice A2 v.map.length mc1] 25)) := ⟨_, rfl⟩
  have hb : Below (w2.alloc (.cells #[.int .i64 v.kind, .bool v.bool, .int .i64 v.int, .string v.str, .slice A1 v.list.length lc1, .slice A2 v.map.length mc1] 25)).heap.size (w2.alloc (.cells #[.int .i64 v.kind, .bool v.bool, .int .i64 v.int, .string v.str, .slice A1 v.list.length lc1, .slice A2 v.map.length mc1] 25)) w3 := by rw [hwz]; exact Below.refl _ _
  rw [← hwz]
  clear hwz
  have HD3 := Lib.hid (show Below w2.heap.size w2 w3 from Below.next (Below.new _ _) hb)
  have L3_0 := Lib.hid (L2_0.out.keep HD3.out)
  have L3_1 := Lib.hid ((Blk.new w2 25 #[.int .i64 v.kind, .bool v.bool, .int .i64 v.int, .string v.str, .slice A1 v.list.length lc1, .slice A2 v.map.length mc1]).keep hb)
  have V3_v := Lib.hid (V2_v.out.keep HD3.out)
  have V3_c := Lib.hid (N2.out.keep HD3.out)
  have B3_0 := Lib.hid (Below.next HBB.out HD3.out)
  have HW3 := Lib.hid (Below.next HW2.out HD3.out)
  clear k2_0 l2_0 hb HD3 L2_0 V2_v N2 HBB HW2
  have k3_0 := L3_0.out.cell
  have l3_0 := L3_0.out.lt
  have k3_1 := L3_1.out.cell
  have l3_1 := L3_1.out.lt
  have HWZ : Hid (IntKind.i64.wrap v.check = v.check) := wrap_fit (by have := check_range v; omega) (by have := check_range v; omega)
  have C1 : Hid (∀ (w : World) (a : Value), RepT w (fun _ => True) a v → Calls Try.prog 70 #[a] w (fun e w' => e = .returned (.int .i64 v.check) ∧ Below w.heap.size w w')) := fun w a h => tcheck v w _ a h HZ.out
  have C2 : Hid (∀ (w : World) (a : Value), RepT w (fun _ => True) a v → Calls Try.prog 71 #[a] w (fun e w' => e = .returned (.int .i64 v.check) ∧ Below w.heap.size w w')) := fun w a h => rcheck v w _ a h HZ.out
  have C3 : Hid (∀ (w : World) (a : Value), RepT w (fun _ => True) a v → Calls Try.prog 30 #[a] w (fun e w' => e = .returned (.int .i64 (v.size : Nat)) ∧ Below w.heap.size w w')) := fun w a h => tsize v w _ a h HZ.out
  have C4 : Hid (∀ (w : World) (a : Value), RepT w (fun _ => True) a v → Calls Try.prog 72 #[a] w (fun e w' => e = .returned (.int .i64 (v.size : Nat)) ∧ Below w.heap.size w w')) := fun w a h => rsize v w _ a h HZ.out
  have C5 : Hid (∀ (w : World) (a : Value), RepT w (fun _ => True) a v → Calls Try.prog 31 #[a] w (fun e w' => e = .returned (.int .i64 (v.depth : Nat)) ∧ Below w.heap.size w w')) := fun w a h => tdepth v w _ a h HZ.out
  have C6 : Hid (∀ (w : World) (a : Value), RepT w (fun _ => True) a v → Calls Try.prog 73 #[a] w (fun e w' => e = .returned (.int .i64 (v.depth : Nat)) ∧ Below w.heap.size w w')) := fun w a h => rdepth v w _ a h HZ.out
  have C7 : Hid (∀ (w : World) (a b : Value), RepT w (fun _ => True) a v → RepT w (fun _ => True) b v → Calls Try.prog 28 #[a, b] w (fun e w' => e = .returned (.bool true) ∧ Below w.heap.size w w')) := fun w a b h0 h1 => rsame_true rfl w _ _ a b h0 h1
  have C8 : Hid (∀ (w : World), Calls Try.prog 74 #[.string s] w (fun e w' => e = .returned (.bool (textB s)) ∧ Below w.heap.size w w')) := fun w => (ttext s w hs).mono fun e w' h => ⟨h.1, h.2 ▸ Below.refl _ _⟩
  have C9 : Hid (∀ (w : World), Calls Try.prog 75 #[.string s] w (fun e w' => e = .returned (.bool (textB s)) ∧ Below w.heap.size w w')) := fun w => (rtext s w hs).mono fun e w' h => ⟨h.1, h.2 ▸ Below.refl _ _⟩
  have C10 : Hid (∀ (w : World), Calls Try.prog 76 #[.string s] w (fun e w' => e = .returned (.bool (keyB s)) ∧ Below w.heap.size w w')) := fun w => (tkey s w hs).mono fun e w' h => ⟨h.1, h.2 ▸ Below.refl _ _⟩
  have C11 : Hid (∀ (w : World), Calls Try.prog 23 #[.string s] w (fun e w' => e = .returned (.bool (keyB s)) ∧ Below w.heap.size w w')) := fun w => (rkey s w hs).mono fun e w' h => ⟨h.1, h.2 ▸ Below.refl _ _⟩
  generalize v.check = zc at C1 C2 HWZ
  generalize ((v.size : Nat) : Int) = zs at C3 C4
  generalize ((v.depth : Nat) : Int) = zd at C5 C6
  generalize textB s = bt at C8 C9
  generalize keyB s = bk at C10 C11
  have hwz := HWZ.out
  go_wp2_with fail
  have tok1 : True := trivial
  have tok2 : True := trivial
  have tok3 : True := trivial
  have tok4 : True := trivial
  have tok5 : True := trivial
  have tok6 : True := trivial
  have tok7 : True := trivial
  have tok8 : True := trivial
  have tok9 : True := trivial
  have tok10 : True := trivial
  have q_0 := L3_0.out.cell
  have q_1 := L3_1.out.cell
  clear k3_0 k3_1
  go_region_held3 (fun w' => (∀ i, w'.cell? ⟨w.heap.size, i, none⟩ = (#[.int .i64 v.kind, .bool v.bool, .int .i64 v.int, .string v.str, .slice la v.list.length lc, .slice ma v.map.length mc] : Array Value)[i]?) ∧ (∀ i, w'.cell? ⟨w2.heap.size, i, none⟩ = (#[.int .i64 v.kind, .bool v.bool, .int .i64 v.int, .string v.str, .slice A1 v.list.length lc1, .slice A2 v.map.length mc1] : Array Value)[i]?)) (exact ⟨q_0, q_1⟩) (first
        | (go_at_call 70; have _t := tok1; refine (C1.out _ _ (V3_v.out.keep (by exact (Below.refl _ _).drew))).mono ?_; rintro e w4 ⟨rfl, hb⟩; have HD4 := Lib.hid (show Below w3.heap.size w3 w4 from Below.next ((Below.refl _ _).drew) hb); have L4_0 := Lib.hid (L3_0.out.keep HD4.out); have L4_1 := Lib.hid (L3_1.out.keep HD4.out); have V4_v := Lib.hid (V3_v.out.keep HD4.out); have V4_c := Lib.hid (V3_c.out.keep HD4.out); have B4_0 := Lib.hid (Below.next B3_0.out HD4.out); have HW4 := Lib.hid (Below.next HW3.out HD4.out); clear q_0; clear q_1; have q_0 := L4_0.out.cell; have q_1 := L4_1.out.cell; clear tok1)
        | (go_at_call 71; have _t := tok2; refine (C2.out _ _ (V4_v.out)).mono ?_; rintro e w5 ⟨rfl, hb⟩; have HD5 := Lib.hid (show Below w4.heap.size w4 w5 from hb); have L5_0 := Lib.hid (L4_0.out.keep HD5.out); have L5_1 := Lib.hid (L4_1.out.keep HD5.out); have V5_v := Lib.hid (V4_v.out.keep HD5.out); have V5_c := Lib.hid (V4_c.out.keep HD5.out); have B5_0 := Lib.hid (Below.next B4_0.out HD5.out); have HW5 := Lib.hid (Below.next HW4.out HD5.out); clear q_0; clear q_1; have q_0 := L5_0.out.cell; have q_1 := L5_1.out.cell; clear tok2)
        | (go_at_call 30; have _t := tok3; refine (C3.out _ _ (V5_v.out)).mono ?_; rintro e w6 ⟨rfl, hb⟩; have HD6 := Lib.hid (show Below w5.heap.size w5 w6 from hb); have L6_0 := Lib.hid (L5_0.out.keep HD6.out); have L6_1 := Lib.hid (L5_1.out.keep HD6.out); have V6_v := Lib.hid (V5_v.out.keep HD6.out); have V6_c := Lib.hid (V5_c.out.keep HD6.out); have B6_0 := Lib.hid (Below.next B5_0.out HD6.out); have HW6 := Lib.hid (Below.next HW5.out HD6.out); clear q_0; clear q_1; have q_0 := L6_0.out.cell; have q_1 := L6_1.out.cell; clear tok3)
        | (go_at_call 72; have _t := tok4; refine (C4.out _ _ (V6_v.out)).mono ?_; rintro e w7 ⟨rfl, hb⟩; have HD7 := Lib.hid (show Below w6.heap.size w6 w7 from hb); have L7_0 := Lib.hid (L6_0.out.keep HD7.out); have L7_1 := Lib.hid (L6_1.out.keep HD7.out); have V7_v := Lib.hid (V6_v.out.keep HD7.out); have V7_c := Lib.hid (V6_c.out.keep HD7.out); have B7_0 := Lib.hid (Below.next B6_0.out HD7.out); have HW7 := Lib.hid (Below.next HW6.out HD7.out); clear q_0; clear q_1; have q_0 := L7_0.out.cell; have q_1 := L7_1.out.cell; clear tok4)
        | (go_at_call 31; have _t := tok5; refine (C5.out _ _ (V7_v.out)).mono ?_; rintro e w8 ⟨rfl, hb⟩; have HD8 := Lib.hid (show Below w7.heap.size w7 w8 from hb); have L8_0 := Lib.hid (L7_0.out.keep HD8.out); have L8_1 := Lib.hid (L7_1.out.keep HD8.out); have V8_v := Lib.hid (V7_v.out.keep HD8.out); have V8_c := Lib.hid (V7_c.out.keep HD8.out); have B8_0 := Lib.hid (Below.next B7_0.out HD8.out); have HW8 := Lib.hid (Below.next HW7.out HD8.out); clear q_0; clear q_1; have q_0 := L8_0.out.cell; have q_1 := L8_1.out.cell; clear tok5)
        | (go_at_call 73; have _t := tok6; refine (C6.out _ _ (V8_v.out)).mono ?_; rintro e w9 ⟨rfl, hb⟩; have HD9 := Lib.hid (show Below w8.heap.size w8 w9 from hb); have L9_0 := Lib.hid (L8_0.out.keep HD9.out); have L9_1 := Lib.hid (L8_1.out.keep HD9.out); have V9_v := Lib.hid (V8_v.out.keep HD9.out); have V9_c := Lib.hid (V8_c.out.keep HD9.out); have B9_0 := Lib.hid (Below.next B8_0.out HD9.out); have HW9 := Lib.hid (Below.next HW8.out HD9.out); clear q_0; clear q_1; have q_0 := L9_0.out.cell; have q_1 := L9_1.out.cell; clear tok6)
        | (go_at_call 28; have _t := tok7; refine (C7.out _ _ _ (V9_c.out) (V9_v.out)).mono ?_; rintro e w10 ⟨rfl, hb⟩; have HD10 := Lib.hid (show Below w9.heap.size w9 w10 from hb); have L10_0 := Lib.hid (L9_0.out.keep HD10.out); have L10_1 := Lib.hid (L9_1.out.keep HD10.out); have V10_v := Lib.hid (V9_v.out.keep HD10.out); have V10_c := Lib.hid (V9_c.out.keep HD10.out); have B10_0 := Lib.hid (Below.next B9_0.out HD10.out); have HW10 := Lib.hid (Below.next HW9.out HD10.out); clear q_0; clear q_1; have q_0 := L10_0.out.cell; have q_1 := L10_1.out.cell; clear tok7)
        | (go_at_call 74; have _t := tok8; refine (C8.out _).mono ?_; rintro e w11 ⟨rfl, hb⟩; have HD11 := Lib.hid (show Below w10.heap.size w10 w11 from hb); have L11_0 := Lib.hid (L10_0.out.keep HD11.out); have L11_1 := Lib.hid (L10_1.out.keep HD11.out); have V11_v := Lib.hid (V10_v.out.keep HD11.out); have V11_c := Lib.hid (V10_c.out.keep HD11.out); have B11_0 := Lib.hid (Below.next B10_0.out HD11.out); have HW11 := Lib.hid (Below.next HW10.out HD11.out); clear q_0; clear q_1; have q_0 := L11_0.out.cell; have q_1 := L11_1.out.cell; clear tok8)
        | (go_at_call 75; have _t := tok9; refine (C9.out _).mono ?_; rintro e w12 ⟨rfl, hb⟩; have HD12 := Lib.hid (show Below w11.heap.size w11 w12 from hb); have L12_0 := Lib.hid (L11_0.out.keep HD12.out); have L12_1 := Lib.hid (L11_1.out.keep HD12.out); have V12_v := Lib.hid (V11_v.out.keep HD12.out); have V12_c := Lib.hid (V11_c.out.keep HD12.out); have B12_0 := Lib.hid (Below.next B11_0.out HD12.out); have HW12 := Lib.hid (Below.next HW11.out HD12.out); clear q_0; clear q_1; have q_0 := L12_0.out.cell; have q_1 := L12_1.out.cell; clear tok9)
        | (go_at_call 76; have _t := tok10; refine (C10.out _).mono ?_; rintro e w13 ⟨rfl, hb⟩; have HD13 := Lib.hid (show Below w12.heap.size w12 w13 from hb); have L13_0 := Lib.hid (L12_0.out.keep HD13.out); have L13_1 := Lib.hid (L12_1.out.keep HD13.out); have V13_v := Lib.hid (V12_v.out.keep HD13.out); have V13_c := Lib.hid (V12_c.out.keep HD13.out); have B13_0 := Lib.hid (Below.next B12_0.out HD13.out); have HW13 := Lib.hid (Below.next HW12.out HD13.out); clear q_0; clear q_1; have q_0 := L13_0.out.cell; have q_1 := L13_1.out.cell; clear tok10)
        | (go_at_call 23; refine (C11.out _).mono ?_; rintro e w14 ⟨rfl, hb⟩; have HD14 := Lib.hid (show Below w13.heap.size w13 w14 from hb); have L14_0 := Lib.hid (L13_0.out.keep HD14.out); have L14_1 := Lib.hid (L13_1.out.keep HD14.out); have V14_v := Lib.hid (V13_v.out.keep HD14.out); have V14_c := Lib.hid (V13_c.out.keep HD14.out); have B14_0 := Lib.hid (Below.next B13_0.out HD14.out); have HW14 := Lib.hid (Below.next HW13.out HD14.out); clear q_0; clear q_1; have q_0 := L14_0.out.cell; have q_1 := L14_1.out.cell))
  clear C1 C2 C3 C4 C5 C6 C7 C8 C9 C10 C11
  by_cases h0 : 0 < v.map.length
  case neg =>
    go_wp2_with (go_at_call 24; refine (awake1 _).mono ?_; rintro e w9 ⟨rfl, hb9⟩)
    go_ret
    exact ⟨rfl, Below.next HW14.out hb9⟩
  obtain ⟨b, o, la5, lc5, ma5, mc5, rfl, -, hblt, -, ⟨-, hv0, -⟩, -⟩ := HM.out.at_ h0
  obtain ⟨cur, hA, hg, hbk, hcur⟩ := HROW.out h0
  subst hA
  have hg2 := hbk.lt
  have HBK := Lib.hid (hbk.keep B14_0.out)
  generalize v.map[0].2.kind = k0 at hv0 hcur
  have hv1 : w14.cell? ⟨b, o + 1, none⟩ = some (.int .i64 k0) := by have := HW14.out.cell (p := ⟨b, o + 1, none⟩) hblt; rw [this]; simpa using hv0
  have hk1 : w14.cell? ⟨g2, 1, none⟩ = some (.int .i64 k0) := (HBK.out.cell 1).trans hcur
  have hk2 := HBK.out.lt
  have hk3 := HBK.out.frozen
  have hlt := HLT.out
  have hbox0 : w.heap.size ≠ g2 := by omega
  have hbox1 : w2.heap.size ≠ g2 := by omega
  have hbox2 : b ≠ g2 := by omega
  have s0 := (L14_0.out.far (p := ⟨g2, 1, none⟩) hbox0 (.int .i64 (IntKind.i64.wrap (k0 + 1)))).cell
  have s1 := (L14_1.out.far (p := ⟨g2, 1, none⟩) hbox1 (.int .i64 (IntKind.i64.wrap (k0 + 1)))).cell
  have s2 : (w14.setCell ⟨g2, 1, none⟩ (.int .i64 (IntKind.i64.wrap (k0 + 1)))).cell? ⟨b, o + 1, none⟩ = some (.int .i64 k0) := (World.cell?_of_block (Below.heap_setCell w14 ⟨g2, 1, none⟩ (.int .i64 (IntKind.i64.wrap (k0 + 1))) b hbox2)).trans hv1
  have HS := Lib.hid (HW14.out.setCell (p := ⟨g2, 1, none⟩) (show w.heap.size ≤ g2 by omega) (.int .i64 (wrap64 (k0 + 1))))
  clear hv0 hcur hbk hg hg2
  go_wp2_with (go_at_call 24; refine (awake1 _).mono ?_; rintro e w9 ⟨rfl, hb9⟩)
  go_ret
  exact ⟨rfl, Below.next HS.out hb9⟩

end Go.Proofs.Ytmdihildjblgnaa
