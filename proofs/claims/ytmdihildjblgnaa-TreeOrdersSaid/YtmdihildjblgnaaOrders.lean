/- TreeOrders answers true for every input: values stand in one order. -/
import Derived.Test.YtmdihildjblgnaaAwake
import Derived.Test.YtmdihildjblgnaaCmpW
import Derived.Test.YtmdihildjblgnaaOpen
import Derived.Deep.RegionHeld3
import Derived.Deep.DrawnRows
namespace Go.Proofs.Ytmdihildjblgnaa
open Go.RowKit
attribute [local go_sem ↓] Go.wp_at_zero Go.wp_at_succ

theorem orders_true {x y z : Int} (_hx : x = -1 ∨ x = 0 ∨ x = 1) (_hy : y = -1 ∨ y = 0 ∨ y = 1) (h1 : x = 0 → z = y) (h2 : y = 0 → z = x) (h3 : x < 0 → y < 0 → z < 0) : (0 < x ∨ 0 < y ∨ z ≤ 0) ∧ (0 ≤ x ∨ 0 < y ∨ z < 0) := by omega

set_option maxRecDepth 100000 in
set_option maxHeartbeats 4000000 in
theorem orders (a b c : T) (va vb vc : Value) (w : World) (ha : RepT w (fun _ => True) va a) (hb : RepT w (fun _ => True) vb b) (hc : RepT w (fun _ => True) vc c) :
    Calls Try.prog 7 #[va, vb, vc] w fun e w' => e = .returned (.bool true) ∧ Below w.heap.size w w' := by
  obtain ⟨la, lc, ma, mc, rfl, -⟩ := ha.inv
  obtain ⟨la2, lc2, ma2, mc2, rfl, -⟩ := hb.inv
  obtain ⟨la3, lc3, ma3, mc3, rfl, -⟩ := hc.inv
  have HW0 := Lib.hid ((((Below.new w (.cells #[.int .i64 a.kind, .bool a.bool, .int .i64 a.int, .string a.str, .slice la a.list.length lc, .slice ma a.map.length mc] 25)).alloc (by simp) (.cells #[.int .i64 b.kind, .bool b.bool, .int .i64 b.int, .string b.str, .slice la2 b.list.length lc2, .slice ma2 b.map.length mc2] 25)).alloc (by simp; omega) (.cells #[.int .i64 c.kind, .bool c.bool, .int .i64 c.int, .string c.str, .slice la3 c.list.length lc3, .slice ma3 c.map.length mc3] 25)).alloc (by simp; omega) (.cells #[.int .i64 a.kind, .bool a.bool, .int .i64 a.int, .string a.str, .slice la a.list.length lc, .slice ma a.map.length mc, .int .i64 b.kind, .bool b.bool, .int .i64 b.int, .string b.str, .slice la2 b.list.length lc2, .slice ma2 b.map.length mc2, .int .i64 c.kind, .bool c.bool, .int .i64 c.int, .string c.str, .slice la3 c.list.length lc3, .slice ma3 c.map.length mc3] 25))
  have HA0 := Lib.hid (ha.keep HW0.out)
  have HB0 := Lib.hid (hb.keep HW0.out)
  have HC0 := Lib.hid (hc.keep HW0.out)
  have hK1 := ((((Blk.new w 25 #[.int .i64 a.kind, .bool a.bool, .int .i64 a.int, .string a.str, .slice la a.list.length lc, .slice ma a.map.length mc]).alloc (.cells #[.int .i64 b.kind, .bool b.bool, .int .i64 b.int, .string b.str, .slice la2 b.list.length lc2, .slice ma2 b.map.length mc2] 25)).alloc (.cells #[.int .i64 c.kind, .bool c.bool, .int .i64 c.int, .string c.str, .slice la3 c.list.length lc3, .slice ma3 c.map.length mc3] 25)).alloc (.cells #[.int .i64 a.kind, .bool a.bool, .int .i64 a.int, .string a.str, .slice la a.list.length lc, .slice ma a.map.length mc, .int .i64 b.kind, .bool b.bool, .int .i64 b.int, .string b.str, .slice la2 b.list.length lc2, .slice ma2 b.map.length mc2, .int .i64 c.kind, .bool c.bool, .int .i64 c.int, .string c.str, .slice la3 c.list.length lc3, .slice ma3 c.map.length mc3] 25))
  have hK2 := (((Blk.new_at (w.alloc (.cells #[.int .i64 a.kind, .bool a.bool, .int .i64 a.int, .string a.str, .slice la a.list.length lc, .slice ma a.map.length mc] 25)) 25 #[.int .i64 b.kind, .bool b.bool, .int .i64 b.int, .string b.str, .slice la2 b.list.length lc2, .slice ma2 b.map.length mc2] (n := w.heap.size + 1) (by simp)).alloc (.cells #[.int .i64 c.kind, .bool c.bool, .int .i64 c.int, .string c.str, .slice la3 c.list.length lc3, .slice ma3 c.map.length mc3] 25)).alloc (.cells #[.int .i64 a.kind, .bool a.bool, .int .i64 a.int, .string a.str, .slice la a.list.length lc, .slice ma a.map.length mc, .int .i64 b.kind, .bool b.bool, .int .i64 b.int, .string b.str, .slice la2 b.list.length lc2, .slice ma2 b.map.length mc2, .int .i64 c.kind, .bool c.bool, .int .i64 c.int, .string c.str, .slice la3 c.list.length lc3, .slice ma3 c.map.length mc3] 25))
  have hK3 := ((Blk.new_at ((w.alloc (.cells #[.int .i64 a.kind, .bool a.bool, .int .i64 a.int, .string a.str, .slice la a.list.length lc, .slice ma a.map.length mc] 25)).alloc (.cells #[.int .i64 b.kind, .bool b.bool, .int .i64 b.int, .string b.str, .slice la2 b.list.length lc2, .slice ma2 b.map.length mc2] 25)) 25 #[.int .i64 c.kind, .bool c.bool, .int .i64 c.int, .string c.str, .slice la3 c.list.length lc3, .slice ma3 c.map.length mc3] (n := w.heap.size + 1 + 1) (by simp)).alloc (.cells #[.int .i64 a.kind, .bool a.bool, .int .i64 a.int, .string a.str, .slice la a.list.length lc, .slice ma a.map.length mc, .int .i64 b.kind, .bool b.bool, .int .i64 b.int, .string b.str, .slice la2 b.list.length lc2, .slice ma2 b.map.length mc2, .int .i64 c.kind, .bool c.bool, .int .i64 c.int, .string c.str, .slice la3 c.list.length lc3, .slice ma3 c.map.length mc3] 25))
  have hK4 := (Blk.new_at (((w.alloc (.cells #[.int .i64 a.kind, .bool a.bool, .int .i64 a.int, .string a.str, .slice la a.list.length lc, .slice ma a.map.length mc] 25)).alloc (.cells #[.int .i64 b.kind, .bool b.bool, .int .i64 b.int, .string b.str, .slice la2 b.list.length lc2, .slice ma2 b.map.length mc2] 25)).alloc (.cells #[.int .i64 c.kind, .bool c.bool, .int .i64 c.int, .string c.str, .slice la3 c.list.length lc3, .slice ma3 c.map.length mc3] 25)) 25 #[.int .i64 a.kind, .bool a.bool, .int .i64 a.int, .string a.str, .slice la a.list.length lc, .slice ma a.map.length mc, .int .i64 b.kind, .bool b.bool, .int .i64 b.int, .string b.str, .slice la2 b.list.length lc2, .slice ma2 b.map.length mc2, .int .i64 c.kind, .bool c.bool, .int .i64 c.int, .string c.str, .slice la3 c.list.length lc3, .slice ma3 c.map.length mc3] (n := w.heap.size + 1 + 1 + 1) (by simp))
  have HRL := Lib.hid (rep_block (E := eltV) (S := fun _ => True) (l := [a, b, c]) [[.int .i64 a.kind, .bool a.bool, .int .i64 a.int, .string a.str, .slice la a.list.length lc, .slice ma a.map.length mc], [.int .i64 b.kind, .bool b.bool, .int .i64 b.int, .string b.str, .slice la2 b.list.length lc2, .slice ma2 b.map.length mc2], [.int .i64 c.kind, .bool c.bool, .int .i64 c.int, .string c.str, .slice la3 c.list.length lc3, .slice ma3 c.map.length mc3]] hK4 rfl trivial ⟨HA0.out, HB0.out, HC0.out, trivial⟩)
  have HK1 := Lib.hid hK1
  have HK2 := Lib.hid hK2
  have HK3 := Lib.hid hK3
  have HX := Lib.hid ((cmp_1 a).range b)
  have HY := Lib.hid ((cmp_1 b).range c)
  have HXZ := Lib.hid ((cmp_1 a).left b c)
  have HYZ := Lib.hid ((cmp_1 a).right b c)
  have HXYZ := Lib.hid ((cmp_1 a).trans b c)
  have HBA := Lib.hid ((cmp_1 a).anti b)
  have HAA := Lib.hid (cmp_1 a).refl
  clear ha hb hc hK1 hK2 hK3 hK4
  go_enter Try.func7, Try.ntmps7
  go_wp2_with fail
  refine (right [a, b, c] _ (fun _ => True) _ 3 (repE_L.1 HRL.out) (by simp)).mono ?_
  rintro e w1 ⟨r, rfl, -, hb1⟩
  have HW1 := Lib.hid (Below.next HW0.out hb1)
  cases r with
  | false =>
    go_wp2_with (go_at_call 24; refine (awake1 _).mono ?_; rintro e w' ⟨rfl, hb⟩)
    go_ret
    exact ⟨rfl, Below.next HW1.out hb⟩
  | true =>
    have HA1 := Lib.hid (HA0.out.keep hb1)
    have HB1 := Lib.hid (HB0.out.keep hb1)
    have HC1 := Lib.hid (HC0.out.keep hb1)
    have hk1 := (HK1.out.keep hb1).cell
    have hk2 := (HK2.out.keep hb1).cell
    have hk3 := (HK3.out.keep hb1).cell
    have L1 := Lib.hid (HK1.out.keep hb1)
    have L2 := Lib.hid (HK2.out.keep hb1)
    have L3 := Lib.hid (HK3.out.keep hb1)
    have hlt1 := L1.out.lt
    have hlt2 := L2.out.lt
    have hlt3 := L3.out.lt
    clear hb1 HK1 HK2 HK3 HA0 HB0 HC0 HRL HW0
    have HCAB := Lib.hid (fun (w : World) (v v' : Value) (h : RepT w (fun _ => True) v a) (h' : RepT w (fun _ => True) v' b) => tcompare a b w _ _ v v' h h')
    have HCBC := Lib.hid (fun (w : World) (v v' : Value) (h : RepT w (fun _ => True) v b) (h' : RepT w (fun _ => True) v' c) => tcompare b c w _ _ v v' h h')
    have HCAC := Lib.hid (fun (w : World) (v v' : Value) (h : RepT w (fun _ => True) v a) (h' : RepT w (fun _ => True) v' c) => tcompare a c w _ _ v v' h h')
    have HCBA := Lib.hid (fun (w : World) (v v' : Value) (h : RepT w (fun _ => True) v b) (h' : RepT w (fun _ => True) v' a) => tcompare b a w _ _ v v' h h')
    have HCAA := Lib.hid (fun (w : World) (v v' : Value) (h : RepT w (fun _ => True) v a) (h' : RepT w (fun _ => True) v' a) => tcompare a a w _ _ v v' h h')
    have HSAB := Lib.hid (fun (w : World) (v v' : Value) (h : RepT w (fun _ => True) v a) (h' : RepT w (fun _ => True) v' b) => tsame a b w _ _ v v' h h')
    rw [HBA.out] at HCBA
    rw [HAA.out] at HCAA
    generalize T.cmp a b = x at *
    generalize T.cmp b c = y at *
    generalize T.cmp a c = z at *
    have tok1 : True := trivial
    have tok2 : True := trivial
    go_wp2_with fail
    go_region_held3 (fun w' => (∀ i, w'.cell? ⟨w.heap.size, i, none⟩ = (#[.int .i64 a.kind, .bool a.bool, .int .i64 a.int, .string a.str, .slice la a.list.length lc, .slice ma a.map.length mc] : Array Value)[i]?) ∧ (∀ i, w'.cell? ⟨w.heap.size + 1, i, none⟩ = (#[.int .i64 b.kind, .bool b.bool, .int .i64 b.int, .string b.str, .slice la2 b.list.length lc2, .slice ma2 b.map.length mc2] : Array Value)[i]?) ∧ (∀ i, w'.cell? ⟨w.heap.size + 1 + 1, i, none⟩ = (#[.int .i64 c.kind, .bool c.bool, .int .i64 c.int, .string c.str, .slice la3 c.list.length lc3, .slice ma3 c.map.length mc3] : Array Value)[i]?)) (go_keep) (first
      | (go_at_call 39; have _t := tok1; refine (HCAB.out _ _ _ (HA1.out.keep (by exact Below.drew (Below.refl _ _))) (HB1.out.keep (by exact Below.drew (Below.refl _ _)))).mono ?_; rintro e w2 ⟨rfl, hb2⟩; clear tok1; have M1 := Lib.hid (Below.next (Below.drew (Below.refl _ _)) hb2); have hm1 := (L1.out.keep M1.out).cell; have hm2 := (L2.out.keep M1.out).cell; have hm3 := (L3.out.keep M1.out).cell)
      | (go_at_call 39; have _t := tok2; refine (HCBC.out _ _ _ (HB1.out.keep (by exact M1.out)) (HC1.out.keep (by exact M1.out))).mono ?_; rintro e w3 ⟨rfl, hb3⟩; clear tok2; have M2 := Lib.hid (Below.next M1.out hb3); have hn1 := (L1.out.keep M2.out).cell; have hn2 := (L2.out.keep M2.out).cell; have hn3 := (L3.out.keep M2.out).cell)
      | (go_at_call 39; refine (HCAC.out _ _ _ (HA1.out.keep (by exact M2.out)) (HC1.out.keep (by exact M2.out))).mono ?_; rintro e w4 ⟨rfl, hb4⟩; have M3 := Lib.hid (Below.next M2.out hb4); have ho1 := (L1.out.keep M3.out).cell; have ho2 := (L2.out.keep M3.out).cell; have ho3 := (L3.out.keep M3.out).cell))
    have hx1 : -1 ≤ x ∧ x ≤ 1 := by rcases HX.out with h | h | h <;> omega
    have hxl := hx1.1
    have hxr := hx1.2
    clear hx1 hk1 hk2 hk3 hm1 hm2 hm3 hn1 hn2 hn3
    go_wp2_with fail
    refine (HCBA.out _ _ _ (HB1.out.keep (by exact M3.out)) (HA1.out.keep (by exact M3.out))).mono ?_
    rintro e w5 ⟨rfl, hb5⟩
    have M4 := Lib.hid (Below.next M3.out hb5)
    have hp1 := (L1.out.keep M4.out).cell
    have hp2 := (L2.out.keep M4.out).cell
    clear hb5 ho1 ho2 ho3
    go_wp2_with fail
    refine (HCAA.out _ _ _ (HA1.out.keep (by exact M4.out)) (HA1.out.keep (by exact M4.out))).mono ?_
    rintro e w6 ⟨rfl, hb6⟩
    have M5 := Lib.hid (Below.next M4.out hb6)
    have hq1 := (L1.out.keep M5.out).cell
    have hq2 := (L2.out.keep M5.out).cell
    clear hb6 hp1 hp2
    go_wp2_with fail
    refine (HSAB.out _ _ _ (HA1.out.keep (by exact M5.out)) (HB1.out.keep (by exact M5.out))).mono ?_
    rintro e w7 ⟨rfl, hb7⟩
    have M6 := Lib.hid (Below.next M5.out hb7)
    have hsame : ((x == 0) == decide (x = 0)) = true := by by_cases h : x = 0 <;> simp [h]
    clear hb7 hq1 hq2
    go_wp2_with fail
    refine (awake1 _).mono ?_
    rintro e w8 ⟨rfl, hb8⟩
    have M7 := Lib.hid (Below.next HW1.out (Below.next M6.out hb8))
    have HO := orders_true HX.out HY.out HXZ.out HYZ.out HXYZ.out
    obtain ⟨ho1, ho2⟩ := HO
    clear hb8 hsame hxl hxr
    by_cases g1 : 0 < x <;> by_cases g2 : 0 < y <;> by_cases g3 : z ≤ 0 <;> by_cases g4 : 0 ≤ x <;> by_cases g5 : z < 0 <;> first
      | (exfalso; omega)
      | skip
    all_goals
      clear ho1 ho2
      go_wp2_with fail
      go_ret
      exact ⟨rfl, M7.out⟩

end Go.Proofs.Ytmdihildjblgnaa
