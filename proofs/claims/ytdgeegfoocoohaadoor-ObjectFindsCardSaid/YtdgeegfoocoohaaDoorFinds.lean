/- ObjectFinds answers true for every input: the law. -/
import Derived.Test.YtdgeegfoocoohaaDoorObjT
import Derived.Test.YtdgeegfoocoohaaDoorObjOA
import Derived.Test.YtdgeegfoocoohaaDoorLaw
namespace Go.Proofs.YtdgeegfoocoohaaDoor
open Go.RowKit
attribute [local go_sem ↓] Go.wp_at_zero Go.wp_at_succ

set_option maxRecDepth 100000 in
set_option maxHeartbeats 4000000 in
theorem lightO (l : List (ID3 × T)) (a : Option Addr) (cc : Nat) (w : World) (S : Nat → Prop) (h : RepE eltO w S a l) (hl : l.length ≤ 4611686018427387904) :
    Calls Tryd.prog 4 #[.slice a l.length cc] w fun e w' => ∃ b : Bool, e = .returned (.bool b) ∧ (b = true → l.length ≤ 40) ∧ Below w.heap.size w w' := by
  have HL := Lib.hid h
  clear h
  by_cases h40 : l.length ≤ 40
  case neg =>
    have g : (40 : Int) < (l.length : Int) := by omega
    clear h40
    go_enter Tryd.func4, Tryd.ntmps4
    go_wp2_with fail
    go_ret
    exact ⟨false, rfl, by simp, Below.refl _ _⟩
  have g : ¬ (40 : Int) < (l.length : Int) := by omega
  have H40 := Lib.hid h40
  clear h40
  go_enter Tryd.func4, Tryd.ntmps4
  go_wp2_with fail
  go_loopw [10] (fun y wr => ∃ q : Nat, q ≤ l.length ∧ y = .int .i64 q ∧ Hid (Below w.heap.size w wr)) (fun y _ => l.length - (intOf y).toNat)
  case atStart => exact ⟨0, Nat.zero_le _, rfl, Lib.hid (Below.refl _ _)⟩
  case round =>
    obtain ⟨q, hq, rfl, HB⟩ := hrel
    by_cases hlt : q < l.length
    · obtain ⟨b, o, la, lc, ma, mc, rfl, -, hbl, hok, ⟨c0, c1, c2, c3, c4, c5, c6, c7, c8⟩, hr⟩ := RepO.at_ (HL.out.keep HB.out) hlt
      have HX := Lib.hid hr
      have gi1 : (0 : Int) ≤ (q : Int) := by omega
      have gi2 : (q : Int) < (l.length : Int) := by omega
      clear hr
      generalize l[q] = y at *
      obtain ⟨k, x⟩ := y
      simp only at c0 c1 c2 c3 c4 c5 c6 c7 c8 hok
      go_wp2_with fail
      refine (light x _ _ _ (HX.out.keep (by exact Below.new _ _))).mono ?_
      rintro e w1 ⟨r, rfl, -, hb⟩
      have HB1 := Lib.hid (Below.next HB.out (Below.next (Below.new _ _) hb))
      clear hb
      cases r
      · go_wp2_with fail
        go_ret
        exact ⟨false, rfl, by simp, HB1.out⟩
      · go_wp2_with fail
        go_roundw
        case rel => exact ⟨q + 1, by omega, by go_num, HB1⟩
        case measure => simp [intOf]; omega
    · obtain rfl : q = l.length := by omega
      go_wp2_with fail
      go_ret
      exact ⟨true, rfl, fun _ => H40.out, HB.out⟩

set_option maxRecDepth 100000 in
set_option maxHeartbeats 8000000 in
theorem findsL (l : List (ID3 × T)) (a : Option Addr) (cc : Nat) (w : World) (h : RepE eltO w (fun _ => True) a l) (hl : l.length ≤ 4611686018427387904) (hv : ObjV w) :
    Calls Tryd.prog 3 #[.slice a l.length cc] w fun e w' => e = .returned (.bool true) ∧ Below w.heap.size w w' := by
  have HL := Lib.hid (h.mono (w' := w) (S' := fun b => b < w.heap.size) (fun _ _ h => h) (fun _ _ _ _ => rfl))
  have hlz := HL.out
  clear hlz
  have HV := Lib.hid hv
  clear h hv
  go_enter Tryd.func3, Tryd.ntmps3
  go_wp2_with fail
  refine (lightO l a cc _ _ HL.out hl).mono ?_
  rintro e w1 ⟨b, rfl, hb40, hb⟩
  have HB1 := Lib.hid hb
  have H40 := Lib.hid hb40
  clear hb hb40
  cases b
  · go_wp2_with (go_at_call 5; refine (awake12 _ (HV.out.keep HB1.out)).mono ?_; rintro e w9 ⟨rfl, hb9⟩)
    go_ret
    exact ⟨rfl, Below.next HB1.out hb9⟩
  have h40 : l.length ≤ 40 := by first | exact H40.out rfl | exact H40.out trivial
  clear H40
  go_wp2_with fail
  refine (tsortO l a cc _ _ (HV.out.keep HB1.out) (HL.out.keep HB1.out) (by omega)).mono ?_
  rintro e w2 (⟨ec, hec, rfl, hb⟩ | ⟨out, A, c, rfl, hr, hlen, hmem, hko, hb⟩)
  · have HB2 := Lib.hid (Below.next HB1.out hb)
    have g : (ec != 0) = true := bne_iff_ne.2 hec
    clear hb hec
    go_wp2_with (go_at_call 5; refine (awake12 _ (HV.out.keep HB2.out)).mono ?_; rintro e w9 ⟨rfl, hb9⟩)
    go_ret
    exact ⟨rfl, Below.next HB2.out hb9⟩
  have HB2 := Lib.hid (Below.next HB1.out hb)
  have HO := Lib.hid hr
  have HLN := Lib.hid hlen
  have HME := Lib.hid hmem
  have HKO := Lib.hid hko
  have ho40 : out.length ≤ 40 := by omega
  have glen : ((out.length : Int) == (l.length : Int)) = true := by rw [hlen]; simp
  clear hb hr hlen hmem hko
  go_wp2_with fail
  go_loopw [32] (fun y wr => ∃ q : Nat, q ≤ l.length ∧ y = .int .i64 q ∧ Hid (Below w2.heap.size w2 wr)) (fun y _ => l.length - (intOf y).toNat)
  case atStart => exact ⟨0, Nat.zero_le _, rfl, Lib.hid (Below.refl _ _)⟩
  case round =>
    obtain ⟨q, hq, rfl, HB⟩ := hrel
    have HBW := Lib.hid (Below.next HB2.out HB.out)
    have HBW9 := Lib.hid HBW.out
    have hs29 := HB.out.size
    by_cases hlt : q < l.length
    · obtain ⟨b, o, la, lc, ma, mc, rfl, -, hbl, hok, ⟨c0, c1, c2, c3, c4, c5, c6, c7, c8⟩, hr⟩ := RepO.at_ (HL.out.keep HBW.out) hlt
      have HX := Lib.hid hr
      have gi1 : (0 : Int) ≤ (q : Int) := by omega
      have gi2 : (q : Int) < (l.length : Int) := by omega
      have HMEM := Lib.hid (HME.out _ (List.getElem_mem hlt))
      clear hr
      generalize l[q] = y at *
      obtain ⟨k, x⟩ := y
      simp only at c0 c1 c2 c3 c4 c5 c6 c7 c8 hok
      go_upto_region 9 with fail
      have hb1 : Below wr.heap.size wr (wr.alloc (.cells #[.string k.k, .string k.s, .string k.n, .int .i64 x.kind, .bool x.bool, .int .i64 x.int, .string x.str, .slice la x.list.length lc, .slice ma x.map.length mc] 35)) := Below.new _ _
      have hl1 : Blk (wr.alloc (.cells #[.string k.k, .string k.s, .string k.n, .int .i64 x.kind, .bool x.bool, .int .i64 x.int, .string x.str, .slice la x.list.length lc, .slice ma x.map.length mc] 35)) wr.heap.size 35 #[.string k.k, .string k.s, .string k.n, .int .i64 x.kind, .bool x.bool, .int .i64 x.int, .string x.str, .slice la x.list.length lc, .slice ma x.map.length mc] := Blk.new _ _ _
      obtain ⟨W1, e1⟩ : ∃ z, z = wr.alloc (.cells #[.string k.k, .string k.s, .string k.n, .int .i64 x.kind, .bool x.bool, .int .i64 x.int, .string x.str, .slice la x.list.length lc, .slice ma x.map.length mc] 35) := ⟨_, rfl⟩
      have hszW : W1.heap.size = wr.heap.size + 1 := by rw [e1]; simp
      rw [← e1] at hb1 hl1
      rw [← e1]
      have HBA := Lib.hid (Below.next HB.out hb1)
      have HOA := Lib.hid (HO.out.keep HBA.out)
      have HKA := Lib.hid hl1
      have HXA := Lib.hid (HX.out.keep hb1)
      clear c0 c1 c2 c3 c4 c5 c6 c7 c8 e1 hb1 hl1 HX HBW HB
      have k1 := HKA.out.cell
      go_wp2_with fail
      refine (tfindO out k A c W1 _ HOA.out (by omega)).mono ?_
      rintro e w3 (⟨p, qa, qc, qm, qn, hp, hpk, rfl, hr, hb, hrow⟩ | ⟨hno, -⟩)
      case inr => exact absurd rfl (hno _ HMEM.out)
      obtain rfl : p = (k, x) := HKO.out.one hp HMEM.out hpk
      have HW3 := Lib.hid hb
      have HR3 := Lib.hid hr
      have HROW := Lib.hid hrow
      have HBB := Lib.hid (Below.next HBA.out hb)
      have HKB := Lib.hid (HKA.out.keep hb)
      have HXB := Lib.hid (HXA.out.keep hb)
      have hszB := hb.size
      have hszA := HBA.out.size
      clear hp hpk hr hb hrow k1 HKA HXA HOA
      simp only at HR3 HROW
      have k2 := HKB.out.cell
      have l2 := HKB.out.lt
      have gk : (k.k.toList == k.k.toList) = true := by simp
      have gs : (k.s.toList == k.s.toList) = true := by simp
      have gn : (k.n.toList == k.n.toList) = true := by simp
      go_wp2_with fail
      refine (rsame_true rfl _ _ _ _ _ (HR3.out.keep (by exact Below.new _ _)) (HXB.out.keep (by exact Below.new _ _))).mono ?_
      rintro e w4 ⟨rfl, hb4⟩
      have HW4 := Lib.hid (Below.next (Below.new _ _) hb4)
      have HKC := Lib.hid (HKB.out.keep HW4.out)
      have HXC := Lib.hid (HXB.out.keep HW4.out)
      have HBC := Lib.hid (Below.next HBB.out HW4.out)
      have HYC := Lib.hid ((Blk.new w3 35 #[.string k.k, .string k.s, .string k.n, .int .i64 x.kind, .bool x.bool, .int .i64 x.int, .string x.str, .slice qa x.list.length qc, .slice qm x.map.length qn]).keep hb4)
      clear hb4 k2 l2 HKB HXB
      have k3 := HKC.out.cell
      have l3 := HKC.out.lt
      have y3 := HYC.out.cell
      have m3 := HYC.out.lt
      by_cases hm0 : 0 < x.map.length
      · obtain ⟨g, cur, n, rfl, hg, hgb, hg1⟩ := HROW.out hm0
        have HG := Lib.hid (hgb.keep HW4.out)
        have kg : w4.cell? ⟨g, 1, none⟩ = some (.int .i64 n) := by rw [HG.out.cell, hg1]
        have zg := HG.out.frozen 1
        have gm : (0 : Int) < (x.map.length : Int) := by omega
        have hgl : g < w3.heap.size := hgb.lt
        have hg9 : W1.heap.size ≤ g := hg
        have hgk : wr.heap.size ≠ g := by omega
        have hwl := HBW9.out.size
        go_upto_region 14 with fail
        have HB5 := Lib.hid (HBC.out.setCell (p := ⟨g, 1, none⟩) (by show w2.heap.size ≤ g; omega) (.int .i64 99))
        have HKD := Lib.hid (show Blk (w4.setCell ⟨g, 1, none⟩ (.int .i64 99)) wr.heap.size 35 _ from (Below.heap_setCell w4 ⟨g, 1, none⟩ (.int .i64 99) wr.heap.size hgk).trans HKC.out)
        have HXD := Lib.hid (RepT.mono (w' := w4.setCell ⟨g, 1, none⟩ (.int .i64 99)) HXC.out (S' := fun b => b < w.heap.size) (fun _ h _ => h) (fun b o hb _ => World.cell?_of_block (Below.heap_setCell w4 ⟨g, 1, none⟩ (.int .i64 99) b (show b ≠ g from by have h2 : b < w.heap.size := hb; omega))))
        obtain ⟨W5, e5⟩ : ∃ z, z = w4.setCell ⟨g, 1, none⟩ (.int .i64 99) := ⟨_, rfl⟩
        rw [← e5] at HB5 HKD HXD
        rw [← e5]
        clear e5 k3 l3 y3 m3 kg zg HKC HXC HYC HG HBC
        have k4 := HKD.out.cell
        have l4 := HKD.out.lt
        go_wp2_with fail
        refine (tfindO out k A c W5 _ (HO.out.keep HB5.out) (by omega)).mono ?_
        rintro e w6 (⟨p, ra, rc, rm, rn, hp, hpk, rfl, hr, hb, -⟩ | ⟨hno, -⟩)
        case inr => exact absurd rfl (hno _ HMEM.out)
        obtain rfl : p = (k, x) := HKO.out.one hp HMEM.out hpk
        have HR6 := Lib.hid hr
        have HB6 := Lib.hid (Below.next HB5.out hb)
        have HKE := Lib.hid (HKD.out.keep hb)
        have HXE := Lib.hid (HXD.out.keep hb)
        clear hp hpk hr hb k4 l4 HKD HXD HB5
        simp only at HR6
        have k5 := HKE.out.cell
        have l5 := HKE.out.lt
        go_wp2_with fail
        refine (rsame_true rfl _ _ _ _ _ (HR6.out.keep (by exact Below.new _ _)) (HXE.out.keep (by exact Below.new _ _))).mono ?_
        rintro e w7 ⟨rfl, hb7⟩
        have HB7 := Lib.hid (Below.next HB6.out (Below.next (Below.new _ _) hb7))
        clear hb7 k5 l5
        go_wp2_with fail
        go_roundw
        case rel => exact ⟨q + 1, by omega, by go_num, HB7⟩
        case measure => simp [intOf]; omega
      · have gm : ¬ (0 : Int) < (x.map.length : Int) := by omega
        go_wp2_with fail
        go_roundw
        case rel => exact ⟨q + 1, by omega, by go_num, HBC⟩
        case measure => simp [intOf]; omega
    · obtain rfl : q = l.length := by omega
      go_wp2_with fail
      refine (tfindO out ⟨⟨#[110, 111, 110, 101, 32, 97, 116, 32, 97, 108, 108]⟩, ⟨#[]⟩, ⟨#[]⟩⟩ A c _ _ (HO.out.keep HB.out) (by omega)).mono ?_
      rintro e w3 (⟨p, qa, qc, qm, qn, hp, hpk, rfl, hr, hb, -⟩ | ⟨hno, rfl, hb⟩)
      · have gpos : (0 : Int) < (l.length : Int) := by
          have := List.length_pos_of_mem hp
          have := HLN.out
          omega
        have hp0 : 0 < l.length := by omega
        have HP0 := Lib.hid hp0
        clear hp0
        have HW3 := Lib.hid (Below.next HBW.out hb)
        clear hp hpk hr hb
        go_wp2_with (go_at_call 5; refine (awake12 _ (HV.out.keep (by exact (HW3.out.alloc HW3.out.size _)))).mono ?_; rintro e w9 ⟨rfl, hb9⟩)
        go_ret
        exact ⟨by first | rfl | exact congrArg (fun b => Ending.returned (Value.bool b)) (decide_eq_true HP0.out), Below.next (HW3.out.alloc HW3.out.size _) hb9⟩
      · have HW3 := Lib.hid (Below.next HBW.out hb)
        clear hno hb
        go_wp2_with (go_at_call 5; refine (awake12 _ (HV.out.keep (by exact (HW3.out.alloc HW3.out.size _)))).mono ?_; rintro e w9 ⟨rfl, hb9⟩)
        go_ret
        exact ⟨rfl, Below.next (HW3.out.alloc HW3.out.size _) hb9⟩
end Go.Proofs.YtdgeegfoocoohaaDoor
