/- How the reference compares values: the walks of its before and Compare. -/
import Derived.Test.YtmdihildjblgnaaCmpW
import Derived.Test.YtmdihildjblgnaaSame
namespace Go.Proofs.Ytmdihildjblgnaa
open Go.RowKit
attribute [local go_sem ↓] Go.wp_at_zero Go.wp_at_succ

def bfI (a b : Bool) : Int := if a then -1 else if b then 1 else 0
theorem rbefore (a b : Bool) (w : World) : Calls Try.prog 101 #[.bool a, .bool b] w fun e w' => e = .returned (.int .i64 (bfI a b)) ∧ w = w' := by
  cases a <;> cases b
  all_goals
    go_enter Try.func101, Try.ntmps101
    go_wp2_with fail
    go_ret
    exact ⟨rfl, rfl⟩
theorem bf_int (x y : Int) : bfI (decide (x < y)) (decide (y < x)) = icmp x y := by
  unfold bfI icmp
  by_cases h1 : x < y
  · simp [h1]
  · by_cases h2 : y < x
    · simp [h1, h2]
    · simp [h1, h2]
theorem bf_nat (x y : Nat) : bfI (decide ((x : Int) < (y : Int))) (decide ((y : Int) < (x : Int))) = if x < y then -1 else if y < x then 1 else 0 := by
  rw [bf_int]; unfold icmp
  by_cases h1 : x < y
  · rw [if_pos (by omega), if_pos h1]
  · rw [if_neg (by omega), if_neg h1]
    by_cases h2 : y < x
    · rw [if_pos (by omega), if_pos h2]
    · rw [if_neg (by omega), if_neg h2]
theorem bf_str (x y : ByteArray) : bfI (Op.bytesLess x.toList y.toList) (!Op.bytesLess x.toList y.toList && !(x.toList == y.toList)) = kcmp x y := by
  rw [keq_iff]
  show bfI (klt x y) (!klt x y && !decide (x = y)) = kcmp x y
  unfold bfI kcmp
  cases klt x y
  · by_cases h : x = y <;> simp [h]
  · simp
theorem bf_bool (x y : Bool) : bfI (!x && y) (x && !y) = bcmp x y := by cases x <;> cases y <;> rfl

def RCmpOk (a : T) : Prop := ∀ (b : T) (w : World) (S S' : Nat → Prop) (v v' : Value), RepT w S v a → RepT w S' v' b → Calls Try.prog 41 #[v, v'] w (CmpPost w (T.cmp a b))

set_option maxRecDepth 100000 in
set_option maxHeartbeats 8000000 in
theorem rcompare (a : T) : RCmpOk a := by
  have hnot : ∀ (x : Bool) (w : World), (Op.unary .not (.bool x)).run Try.prog w = .ok (.bool (!x)) w := fun _ _ => rfl
  induction a using T.ind' with
  | h a ihl ihm =>
  intro b w S S' v v' h h'
  obtain ⟨la, lc, ma, mc, rfl, hp⟩ := h.inv
  obtain ⟨-, -, -, hl, hm, -, -, -, -, hL, hM⟩ := hp
  obtain ⟨lb, ld, mb, md, rfl, hp'⟩ := h'.inv
  obtain ⟨-, -, -, hl', hm', -, -, -, -, hL', hM'⟩ := hp'
  have HE := Lib.hid (T.cmp_eq a b)
  clear h h'
  generalize T.cmp a b = zr at *
  generalize a.kind = k1 at *
  generalize a.bool = b1 at *
  generalize a.int = n1 at *
  generalize a.str = s1 at *
  generalize a.list = l1 at *
  generalize a.map = m1 at *
  generalize b.kind = k2 at *
  generalize b.bool = b2 at *
  generalize b.int = n2 at *
  generalize b.str = s2 at *
  generalize b.list = l2 at *
  generalize b.map = m2 at *
  by_cases hk : k1 = k2
  · subst hk
    rw [if_neg (by simp)] at HE
    have HBX := Lib.hid (show Below w.heap.size w ((w.alloc (.cells #[.int .i64 k1, .bool b1, .int .i64 n1, .string s1, .slice la l1.length lc, .slice ma m1.length mc] 25)).alloc (.cells #[.int .i64 k1, .bool b2, .int .i64 n2, .string s2, .slice lb l2.length ld, .slice mb m2.length md] 25)) from (Below.new _ _).alloc (by simp) _)
    by_cases h1 : k1 = 1
    · subst h1
      rw [if_pos rfl] at HE
      clear hL hM hL' hM'
      cases b1 <;> cases b2
      all_goals
        go_enter Try.func41, Try.ntmps41
        go_wp2_with (go_at_call 101; refine (rbefore _ _ _).mono ?_; rintro e w1 ⟨rfl, rfl⟩)
        go_ret
        exact ⟨by rw [HE.out]; rfl, HBX.out⟩
    rw [if_neg h1] at HE
    have g1 : (k1 == 1) = false := beq_eq_false_iff_ne.2 h1
    by_cases h2 : k1 = 2
    · subst h2
      rw [if_pos rfl] at HE
      clear h1
      rw [← bf_int] at HE
      go_enter Try.func41, Try.ntmps41
      go_wp2_with (go_at_call 101; refine (rbefore _ _ _).mono ?_; rintro e w1 ⟨rfl, rfl⟩)
      go_ret
      exact ⟨by rw [HE.out]; rfl, HBX.out⟩
    rw [if_neg h2] at HE
    have g2 : (k1 == 2) = false := beq_eq_false_iff_ne.2 h2
    by_cases h3 : k1 = 3
    · subst h3
      rw [if_pos rfl] at HE
      clear h1 h2
      rw [← bf_str] at HE
      go_enter Try.func41, Try.ntmps41
      go_wp2_with (go_at_call 101; refine (rbefore _ _ _).mono ?_; rintro e w1 ⟨rfl, rfl⟩)
      go_ret
      exact ⟨by rw [HE.out]; rfl, HBX.out⟩
    rw [if_neg h3] at HE
    have g3 : (k1 == 3) = false := beq_eq_false_iff_ne.2 h3
    by_cases h4 : k1 = 4
    · subst h4
      rw [if_pos rfl] at HE
      clear h1 h2 h3
      go_enter Try.func41, Try.ntmps41
      go_wp2_with fail
      go_loopw [5] (fun i wr => ∃ q : Nat, i = .int .i64 q ∧ q ≤ l1.length ∧ q ≤ l2.length ∧ Hid (∀ j (h1 : j < l1.length) (h2 : j < l2.length), j < q → T.cmp l1[j] l2[j] = 0) ∧ Below w.heap.size w wr ∧ Blk wr w.heap.size 25 #[.int .i64 4, .bool b1, .int .i64 n1, .string s1, .slice la l1.length lc, .slice ma m1.length mc] ∧ Blk wr (w.heap.size + 1) 25 #[.int .i64 4, .bool b2, .int .i64 n2, .string s2, .slice lb l2.length ld, .slice mb m2.length md]) (fun i _ => l1.length - (intOf i).toNat)
      case atStart => exact ⟨0, rfl, Nat.zero_le _, Nat.zero_le _, fun j _ _ h => by omega, HBX.out, (Blk.new _ _ _).alloc _, Blk.new_at _ _ _ (by simp)⟩
      case round =>
        obtain ⟨q, rfl, hq, hq2, hall, hbw, hx1, hx2⟩ := hrel
        have k1c := hx1.cell
        have k2c := hx2.cell
        by_cases hlt : q < l1.length
        · by_cases hlt2 : q < l2.length
          · obtain ⟨b3, o3, la3, lc3, ma3, mc3, rfl, -, hbl, ⟨c0, c1, c2, c3, c4, c5⟩, hr1⟩ := (hL.keep hbw).at_ hlt
            obtain ⟨b4, o4, la4, lc4, ma4, mc4, rfl, -, hbk, ⟨d0, d1, d2, d3, d4, d5⟩, hr2⟩ := (hL'.keep hbw).at_ hlt2
            have HC := Lib.hid (fun (w : World) (v v' : Value) h h' => ihl _ (List.getElem_mem hlt) (l2[q]'hlt2) w S S' v v' h h')
            have HSTOP := Lib.hid (fun hne => cmpL_stop hall.out hlt hlt2 hne)
            have HNX := Lib.hid (show T.cmp l1[q] l2[q] = 0 → ∀ j (h1 : j < l1.length) (h2 : j < l2.length), j < q + 1 → T.cmp l1[j] l2[j] = 0 from fun he j h1 h2 h3 => by
              rcases Nat.lt_or_ge j q with h4 | h4
              · exact hall.out j h1 h2 h4
              · obtain rfl : j = q := by omega
                exact he)
            have HR1 := Lib.hid hr1
            have HR2 := Lib.hid hr2
            have HX1 := Lib.hid hx1
            have HX2 := Lib.hid hx2
            have HBW := Lib.hid hbw
            have hi1 : (0 : Int) ≤ (q : Int) := by omega
            have hi2 : (q : Int) < (l1.length : Int) := by omega
            have hi3 : (q : Int) < (l2.length : Int) := by omega
            have hxl1 := hx1.lt
            have hxl2 := hx2.lt
            clear hr1 hr2 hall hx1 hx2 hbw
            generalize l1[q] = x at *
            generalize l2[q] = y at *
            go_wp2_with fail
            go_region_held3 (fun w' => (∀ i, w'.cell? ⟨w.heap.size, i, none⟩ = (#[.int .i64 4, .bool b1, .int .i64 n1, .string s1, .slice (some ⟨b3, o3, none⟩) l1.length lc, .slice ma m1.length mc] : Array Value)[i]?) ∧ (∀ i, w'.cell? ⟨w.heap.size + 1, i, none⟩ = (#[.int .i64 4, .bool b2, .int .i64 n2, .string s2, .slice (some ⟨b4, o4, none⟩) l2.length ld, .slice mb m2.length md] : Array Value)[i]?) ∧ w'.cell? ⟨b3, o3 + q * 6, none⟩ = some (.int .i64 x.kind) ∧ w'.cell? ⟨b3, o3 + q * 6 + 1, none⟩ = some (.bool x.bool) ∧ w'.cell? ⟨b3, o3 + q * 6 + 2, none⟩ = some (.int .i64 x.int) ∧ w'.cell? ⟨b3, o3 + q * 6 + 3, none⟩ = some (.string x.str) ∧ w'.cell? ⟨b3, o3 + q * 6 + 4, none⟩ = some (.slice la3 x.list.length lc3) ∧ w'.cell? ⟨b3, o3 + q * 6 + 5, none⟩ = some (.slice ma3 x.map.length mc3) ∧ w'.cell? ⟨b4, o4 + q * 6, none⟩ = some (.int .i64 y.kind) ∧ w'.cell? ⟨b4, o4 + q * 6 + 1, none⟩ = some (.bool y.bool) ∧ w'.cell? ⟨b4, o4 + q * 6 + 2, none⟩ = some (.int .i64 y.int) ∧ w'.cell? ⟨b4, o4 + q * 6 + 3, none⟩ = some (.string y.str) ∧ w'.cell? ⟨b4, o4 + q * 6 + 4, none⟩ = some (.slice la4 y.list.length lc4) ∧ w'.cell? ⟨b4, o4 + q * 6 + 5, none⟩ = some (.slice ma4 y.map.length mc4)) (exact ⟨k1c, k2c, c0, c1, c2, c3, c4, c5, d0, d1, d2, d3, d4, d5⟩)
              (first | (go_at_call 41; refine (HC.out _ _ _ (HR1.out.keep (by exact Below.drew (Below.refl _ _))) (HR2.out.keep (by exact Below.drew (Below.refl _ _)))).mono ?_; rintro e w1 ⟨rfl, hb1⟩; have HM1 := Lib.hid (Below.next (Below.drew (Below.refl wr.heap.size wr)) hb1); clear hb1; clear k1c k2c; have k1c := (HX1.out.keep HM1.out).cell; have k2c := (HX2.out.keep HM1.out).cell; have c0 := (HM1.out.cell (p := ⟨b3, o3 + q * 6, none⟩) hbl).trans c0; have d0 := (HM1.out.cell (p := ⟨b4, o4 + q * 6, none⟩) hbk).trans d0; have c1 := (HM1.out.cell (p := ⟨b3, o3 + q * 6 + 1, none⟩) hbl).trans c1; have d1 := (HM1.out.cell (p := ⟨b4, o4 + q * 6 + 1, none⟩) hbk).trans d1; have c2 := (HM1.out.cell (p := ⟨b3, o3 + q * 6 + 2, none⟩) hbl).trans c2; have d2 := (HM1.out.cell (p := ⟨b4, o4 + q * 6 + 2, none⟩) hbk).trans d2; have c3 := (HM1.out.cell (p := ⟨b3, o3 + q * 6 + 3, none⟩) hbl).trans c3; have d3 := (HM1.out.cell (p := ⟨b4, o4 + q * 6 + 3, none⟩) hbk).trans d3; have c4 := (HM1.out.cell (p := ⟨b3, o3 + q * 6 + 4, none⟩) hbl).trans c4; have d4 := (HM1.out.cell (p := ⟨b4, o4 + q * 6 + 4, none⟩) hbk).trans d4; have c5 := (HM1.out.cell (p := ⟨b3, o3 + q * 6 + 5, none⟩) hbl).trans c5; have d5 := (HM1.out.cell (p := ⟨b4, o4 + q * 6 + 5, none⟩) hbk).trans d5))
            have HB2 := Lib.hid (Below.next HBW.out HM1.out)
            clear k1c k2c c0 c1 c2 c3 c4 c5 d0 d1 d2 d3 d4 d5
            by_cases he : T.cmp x y = 0
            · rw [he]
              have HN := Lib.hid (HNX.out (he))
              clear he
              go_wp2_with fail
              go_roundw
              case rel => first | exact ⟨q + 1, by go_num, by omega, by omega, HN, HB2.out, HX1.out.keep HM1.out, HX2.out.keep HM1.out⟩ | ((repeat apply Exists.intro); exact ⟨⟨q + 1, by go_num, by omega, by omega, HN, HB2.out, HX1.out.keep HM1.out, HX2.out.keep HM1.out⟩, rfl⟩)
              case measure => simp [intOf]; omega
            · have hne : (T.cmp x y != 0) = true := bne_iff_ne.2 he
              have HS := Lib.hid ((HE.out.trans (HSTOP.out he)))
              clear he
              generalize T.cmp x y = zz at *
              go_wp2_with fail
              go_ret
              exact ⟨by rw [HS.out]; rfl, HB2.out⟩
          · obtain rfl : q = l2.length := by omega
            have HM := Lib.hid (HE.out.trans (cmpL_more hall.out hlt))
            have HBF := Lib.hid (fun w => rbefore (decide ((l1.length : Int) < (l2.length : Int))) (decide ((l2.length : Int) < (l1.length : Int))) w)
            rw [bf_nat, if_neg (by omega), if_pos hlt] at HBF
            clear hall
            go_wp2_with (go_at_call 101; refine (rbefore _ _ _).mono ?_; rintro e w1 ⟨rfl, rfl⟩)
            go_ret
            exact ⟨by rw [HM.out]; simp [bfI]; try omega, hbw⟩
        · obtain rfl : q = l1.length := by omega
          have HM := Lib.hid (HE.out.trans (cmpL_end hall.out hq2))
          clear hall
          by_cases hlr : l1.length < l2.length
          · rw [if_pos hlr] at HM
            go_wp2_with (go_at_call 101; refine (rbefore _ _ _).mono ?_; rintro e w1 ⟨rfl, rfl⟩)
            go_ret
            exact ⟨by rw [HM.out]; simp [bfI]; try omega, hbw⟩
          · rw [if_neg hlr] at HM
            go_wp2_with (go_at_call 101; refine (rbefore _ _ _).mono ?_; rintro e w1 ⟨rfl, rfl⟩)
            go_ret
            exact ⟨by rw [HM.out]; simp [bfI]; try omega, hbw⟩
    rw [if_neg h4] at HE
    have g4 : (k1 == 4) = false := beq_eq_false_iff_ne.2 h4
    by_cases h5 : k1 = 5
    · subst h5
      rw [if_pos rfl] at HE
      clear h1 h2 h3 h4
      go_enter Try.func41, Try.ntmps41
      go_wp2_with fail
      go_loopw [7] (fun i wr => ∃ q : Nat, i = .int .i64 q ∧ q ≤ m1.length ∧ q ≤ m2.length ∧ Hid (∀ j (h1 : j < m1.length) (h2 : j < m2.length), j < q → T.cmpP m1[j] m2[j] = 0) ∧ Below w.heap.size w wr ∧ Blk wr w.heap.size 25 #[.int .i64 5, .bool b1, .int .i64 n1, .string s1, .slice la l1.length lc, .slice ma m1.length mc] ∧ Blk wr (w.heap.size + 1) 25 #[.int .i64 5, .bool b2, .int .i64 n2, .string s2, .slice lb l2.length ld, .slice mb m2.length md]) (fun i _ => m1.length - (intOf i).toNat)
      case atStart => exact ⟨0, rfl, Nat.zero_le _, Nat.zero_le _, fun j _ _ h => by omega, HBX.out, (Blk.new _ _ _).alloc _, Blk.new_at _ _ _ (by simp)⟩
      case round =>
        obtain ⟨q, rfl, hq, hq2, hall, hbw, hx1, hx2⟩ := hrel
        have k1c := hx1.cell
        have k2c := hx2.cell
        by_cases hlt : q < m1.length
        · by_cases hlt2 : q < m2.length
          · obtain ⟨b3, o3, la3, lc3, ma3, mc3, rfl, -, hbl, -, ⟨c0, c1, c2, c3, c4, c5, c6⟩, hr1⟩ := (hM.keep hbw).at_ hlt
            obtain ⟨b4, o4, la4, lc4, ma4, mc4, rfl, -, hbk, -, ⟨d0, d1, d2, d3, d4, d5, d6⟩, hr2⟩ := (hM'.keep hbw).at_ hlt2
            have HC := Lib.hid (fun (w : World) (v v' : Value) h h' => ihm _ (List.getElem_mem hlt) (m2[q]'hlt2).2 w S S' v v' h h')
            have HSTOP := Lib.hid (fun hne => cmpM_stop hall.out hlt hlt2 hne)
            have HNX := Lib.hid (show T.cmpP m1[q] m2[q] = 0 → ∀ j (h1 : j < m1.length) (h2 : j < m2.length), j < q + 1 → T.cmpP m1[j] m2[j] = 0 from fun he j h1 h2 h3 => by
              rcases Nat.lt_or_ge j q with h4 | h4
              · exact hall.out j h1 h2 h4
              · obtain rfl : j = q := by omega
                exact he)
            have HR1 := Lib.hid hr1
            have HR2 := Lib.hid hr2
            have HX1 := Lib.hid hx1
            have HX2 := Lib.hid hx2
            have HBW := Lib.hid hbw
            have hi1 : (0 : Int) ≤ (q : Int) := by omega
            have hi2 : (q : Int) < (m1.length : Int) := by omega
            have hi3 : (q : Int) < (m2.length : Int) := by omega
            have hxl1 := hx1.lt
            have hxl2 := hx2.lt
            have HPE := Lib.hid (T.cmpP_eq m1[q] m2[q])
            clear hr1 hr2 hall hx1 hx2 hbw
            generalize T.cmpP m1[q] m2[q] = z at *
            generalize m1[q] = px at *
            generalize m2[q] = py at *
            obtain ⟨p1, x⟩ := px
            obtain ⟨p2, y⟩ := py
            simp only at *
            by_cases hk : p1 = p2
            · subst hk
              have hkk : (p1.toList == p1.toList) = true := by simp
              rw [(kcmp_zero p1 p1).2 rfl, if_neg (by simp)] at HPE
              go_wp2_with fail
              go_region_held3 (fun w' => (∀ i, w'.cell? ⟨w.heap.size, i, none⟩ = (#[.int .i64 5, .bool b1, .int .i64 n1, .string s1, .slice la l1.length lc, .slice (some ⟨b3, o3, none⟩) m1.length mc] : Array Value)[i]?) ∧ (∀ i, w'.cell? ⟨w.heap.size + 1, i, none⟩ = (#[.int .i64 5, .bool b2, .int .i64 n2, .string s2, .slice lb l2.length ld, .slice (some ⟨b4, o4, none⟩) m2.length md] : Array Value)[i]?) ∧ w'.cell? ⟨b3, o3 + q * 7, none⟩ = some (.string p1) ∧ w'.cell? ⟨b3, o3 + q * 7 + 1, none⟩ = some (.int .i64 x.kind) ∧ w'.cell? ⟨b3, o3 + q * 7 + 2, none⟩ = some (.bool x.bool) ∧ w'.cell? ⟨b3, o3 + q * 7 + 3, none⟩ = some (.int .i64 x.int) ∧ w'.cell? ⟨b3, o3 + q * 7 + 4, none⟩ = some (.string x.str) ∧ w'.cell? ⟨b3, o3 + q * 7 + 5, none⟩ = some (.slice la3 x.list.length lc3) ∧ w'.cell? ⟨b3, o3 + q * 7 + 6, none⟩ = some (.slice ma3 x.map.length mc3) ∧ w'.cell? ⟨b4, o4 + q * 7, none⟩ = some (.string p1) ∧ w'.cell? ⟨b4, o4 + q * 7 + 1, none⟩ = some (.int .i64 y.kind) ∧ w'.cell? ⟨b4, o4 + q * 7 + 2, none⟩ = some (.bool y.bool) ∧ w'.cell? ⟨b4, o4 + q * 7 + 3, none⟩ = some (.int .i64 y.int) ∧ w'.cell? ⟨b4, o4 + q * 7 + 4, none⟩ = some (.string y.str) ∧ w'.cell? ⟨b4, o4 + q * 7 + 5, none⟩ = some (.slice la4 y.list.length lc4) ∧ w'.cell? ⟨b4, o4 + q * 7 + 6, none⟩ = some (.slice ma4 y.map.length mc4)) (exact ⟨k1c, k2c, c0, c1, c2, c3, c4, c5, c6, d0, d1, d2, d3, d4, d5, d6⟩) (fail)
              go_wp2_with fail
              go_region_held3 (fun w' => (∀ i, w'.cell? ⟨w.heap.size, i, none⟩ = (#[.int .i64 5, .bool b1, .int .i64 n1, .string s1, .slice la l1.length lc, .slice (some ⟨b3, o3, none⟩) m1.length mc] : Array Value)[i]?) ∧ (∀ i, w'.cell? ⟨w.heap.size + 1, i, none⟩ = (#[.int .i64 5, .bool b2, .int .i64 n2, .string s2, .slice lb l2.length ld, .slice (some ⟨b4, o4, none⟩) m2.length md] : Array Value)[i]?) ∧ w'.cell? ⟨b3, o3 + q * 7, none⟩ = some (.string p1) ∧ w'.cell? ⟨b3, o3 + q * 7 + 1, none⟩ = some (.int .i64 x.kind) ∧ w'.cell? ⟨b3, o3 + q * 7 + 2, none⟩ = some (.bool x.bool) ∧ w'.cell? ⟨b3, o3 + q * 7 + 3, none⟩ = some (.int .i64 x.int) ∧ w'.cell? ⟨b3, o3 + q * 7 + 4, none⟩ = some (.string x.str) ∧ w'.cell? ⟨b3, o3 + q * 7 + 5, none⟩ = some (.slice la3 x.list.length lc3) ∧ w'.cell? ⟨b3, o3 + q * 7 + 6, none⟩ = some (.slice ma3 x.map.length mc3) ∧ w'.cell? ⟨b4, o4 + q * 7, none⟩ = some (.string p1) ∧ w'.cell? ⟨b4, o4 + q * 7 + 1, none⟩ = some (.int .i64 y.kind) ∧ w'.cell? ⟨b4, o4 + q * 7 + 2, none⟩ = some (.bool y.bool) ∧ w'.cell? ⟨b4, o4 + q * 7 + 3, none⟩ = some (.int .i64 y.int) ∧ w'.cell? ⟨b4, o4 + q * 7 + 4, none⟩ = some (.string y.str) ∧ w'.cell? ⟨b4, o4 + q * 7 + 5, none⟩ = some (.slice la4 y.list.length lc4) ∧ w'.cell? ⟨b4, o4 + q * 7 + 6, none⟩ = some (.slice ma4 y.map.length mc4)) (exact ⟨k1c, k2c, c0, c1, c2, c3, c4, c5, c6, d0, d1, d2, d3, d4, d5, d6⟩)
                (first | (go_at_call 41; refine (HC.out _ _ _ (HR1.out.keep (by exact (Below.drew (Below.refl _ _)).drew)) (HR2.out.keep (by exact (Below.drew (Below.refl _ _)).drew))).mono ?_; rintro e w1 ⟨rfl, hb1⟩; have HM1 := Lib.hid (Below.next ((Below.drew (Below.refl wr.heap.size wr)).drew) hb1); clear hb1; clear k1c k2c; have k1c := (HX1.out.keep HM1.out).cell; have k2c := (HX2.out.keep HM1.out).cell; have c0 := (HM1.out.cell (p := ⟨b3, o3 + q * 7, none⟩) hbl).trans c0; have d0 := (HM1.out.cell (p := ⟨b4, o4 + q * 7, none⟩) hbk).trans d0; have c1 := (HM1.out.cell (p := ⟨b3, o3 + q * 7 + 1, none⟩) hbl).trans c1; have d1 := (HM1.out.cell (p := ⟨b4, o4 + q * 7 + 1, none⟩) hbk).trans d1; have c2 := (HM1.out.cell (p := ⟨b3, o3 + q * 7 + 2, none⟩) hbl).trans c2; have d2 := (HM1.out.cell (p := ⟨b4, o4 + q * 7 + 2, none⟩) hbk).trans d2; have c3 := (HM1.out.cell (p := ⟨b3, o3 + q * 7 + 3, none⟩) hbl).trans c3; have d3 := (HM1.out.cell (p := ⟨b4, o4 + q * 7 + 3, none⟩) hbk).trans d3; have c4 := (HM1.out.cell (p := ⟨b3, o3 + q * 7 + 4, none⟩) hbl).trans c4; have d4 := (HM1.out.cell (p := ⟨b4, o4 + q * 7 + 4, none⟩) hbk).trans d4; have c5 := (HM1.out.cell (p := ⟨b3, o3 + q * 7 + 5, none⟩) hbl).trans c5; have d5 := (HM1.out.cell (p := ⟨b4, o4 + q * 7 + 5, none⟩) hbk).trans d5; have c6 := (HM1.out.cell (p := ⟨b3, o3 + q * 7 + 6, none⟩) hbl).trans c6; have d6 := (HM1.out.cell (p := ⟨b4, o4 + q * 7 + 6, none⟩) hbk).trans d6))
              have HB2 := Lib.hid (Below.next HBW.out HM1.out)
              clear k1c k2c c0 c1 c2 c3 c4 c5 c6 d0 d1 d2 d3 d4 d5 d6
              by_cases he : T.cmp x y = 0
              · rw [he]
                have HN := Lib.hid (HNX.out (HPE.out.trans he))
                clear he
                go_wp2_with fail
                go_roundw
                case rel => first | exact ⟨q + 1, by go_num, by omega, by omega, HN, HB2.out, HX1.out.keep HM1.out, HX2.out.keep HM1.out⟩ | ((repeat apply Exists.intro); exact ⟨⟨q + 1, by go_num, by omega, by omega, HN, HB2.out, HX1.out.keep HM1.out, HX2.out.keep HM1.out⟩, rfl⟩)
                case measure => simp [intOf]; omega
              · have hne : (T.cmp x y != 0) = true := bne_iff_ne.2 he
                have HS := Lib.hid ((HE.out.trans ((HSTOP.out (by rw [HPE.out]; exact he)).trans HPE.out)))
                clear he
                generalize T.cmp x y = zz at *
                go_wp2_with fail
                go_ret
                exact ⟨by rw [HS.out]; rfl, HB2.out⟩
            · have hkk : (p1.toList == p2.toList) = false := by rw [keq_iff]; exact decide_eq_false hk
              have hkc : kcmp p1 p2 ≠ 0 := fun e => hk ((kcmp_zero p1 p2).1 e)
              rw [if_pos hkc] at HPE
              have HZ := Lib.hid (show bfI (Op.bytesLess p1.toList p2.toList) true = kcmp p1 p2 from by
                show bfI (klt p1 p2) true = _
                unfold bfI kcmp
                rw [if_neg hk]
                cases klt p1 p2 <;> simp)
              have HS := Lib.hid (HE.out.trans ((HSTOP.out (by rw [HPE.out]; exact hkc)).trans HPE.out))
              have HBF := Lib.hid (fun w => rbefore (Op.bytesLess p1.toList p2.toList) true w)
              rw [HZ.out] at HBF
              clear hk hkc
              generalize kcmp p1 p2 = kc at *
              go_wp2_with fail
              go_region_held3 (fun w' => (∀ i, w'.cell? ⟨w.heap.size, i, none⟩ = (#[.int .i64 5, .bool b1, .int .i64 n1, .string s1, .slice la l1.length lc, .slice (some ⟨b3, o3, none⟩) m1.length mc] : Array Value)[i]?) ∧ (∀ i, w'.cell? ⟨w.heap.size + 1, i, none⟩ = (#[.int .i64 5, .bool b2, .int .i64 n2, .string s2, .slice lb l2.length ld, .slice (some ⟨b4, o4, none⟩) m2.length md] : Array Value)[i]?) ∧ w'.cell? ⟨b3, o3 + q * 7, none⟩ = some (.string p1) ∧ w'.cell? ⟨b3, o3 + q * 7 + 1, none⟩ = some (.int .i64 x.kind) ∧ w'.cell? ⟨b3, o3 + q * 7 + 2, none⟩ = some (.bool x.bool) ∧ w'.cell? ⟨b3, o3 + q * 7 + 3, none⟩ = some (.int .i64 x.int) ∧ w'.cell? ⟨b3, o3 + q * 7 + 4, none⟩ = some (.string x.str) ∧ w'.cell? ⟨b3, o3 + q * 7 + 5, none⟩ = some (.slice la3 x.list.length lc3) ∧ w'.cell? ⟨b3, o3 + q * 7 + 6, none⟩ = some (.slice ma3 x.map.length mc3) ∧ w'.cell? ⟨b4, o4 + q * 7, none⟩ = some (.string p2) ∧ w'.cell? ⟨b4, o4 + q * 7 + 1, none⟩ = some (.int .i64 y.kind) ∧ w'.cell? ⟨b4, o4 + q * 7 + 2, none⟩ = some (.bool y.bool) ∧ w'.cell? ⟨b4, o4 + q * 7 + 3, none⟩ = some (.int .i64 y.int) ∧ w'.cell? ⟨b4, o4 + q * 7 + 4, none⟩ = some (.string y.str) ∧ w'.cell? ⟨b4, o4 + q * 7 + 5, none⟩ = some (.slice la4 y.list.length lc4) ∧ w'.cell? ⟨b4, o4 + q * 7 + 6, none⟩ = some (.slice ma4 y.map.length mc4)) (exact ⟨k1c, k2c, c0, c1, c2, c3, c4, c5, c6, d0, d1, d2, d3, d4, d5, d6⟩) (fail)
              go_wp2_with fail
              go_region_held3 (fun w' => (∀ i, w'.cell? ⟨w.heap.size, i, none⟩ = (#[.int .i64 5, .bool b1, .int .i64 n1, .string s1, .slice la l1.length lc, .slice (some ⟨b3, o3, none⟩) m1.length mc] : Array Value)[i]?) ∧ (∀ i, w'.cell? ⟨w.heap.size + 1, i, none⟩ = (#[.int .i64 5, .bool b2, .int .i64 n2, .string s2, .slice lb l2.length ld, .slice (some ⟨b4, o4, none⟩) m2.length md] : Array Value)[i]?) ∧ w'.cell? ⟨b3, o3 + q * 7, none⟩ = some (.string p1) ∧ w'.cell? ⟨b3, o3 + q * 7 + 1, none⟩ = some (.int .i64 x.kind) ∧ w'.cell? ⟨b3, o3 + q * 7 + 2, none⟩ = some (.bool x.bool) ∧ w'.cell? ⟨b3, o3 + q * 7 + 3, none⟩ = some (.int .i64 x.int) ∧ w'.cell? ⟨b3, o3 + q * 7 + 4, none⟩ = some (.string x.str) ∧ w'.cell? ⟨b3, o3 + q * 7 + 5, none⟩ = some (.slice la3 x.list.length lc3) ∧ w'.cell? ⟨b3, o3 + q * 7 + 6, none⟩ = some (.slice ma3 x.map.length mc3) ∧ w'.cell? ⟨b4, o4 + q * 7, none⟩ = some (.string p2) ∧ w'.cell? ⟨b4, o4 + q * 7 + 1, none⟩ = some (.int .i64 y.kind) ∧ w'.cell? ⟨b4, o4 + q * 7 + 2, none⟩ = some (.bool y.bool) ∧ w'.cell? ⟨b4, o4 + q * 7 + 3, none⟩ = some (.int .i64 y.int) ∧ w'.cell? ⟨b4, o4 + q * 7 + 4, none⟩ = some (.string y.str) ∧ w'.cell? ⟨b4, o4 + q * 7 + 5, none⟩ = some (.slice la4 y.list.length lc4) ∧ w'.cell? ⟨b4, o4 + q * 7 + 6, none⟩ = some (.slice ma4 y.map.length mc4)) (exact ⟨k1c, k2c, c0, c1, c2, c3, c4, c5, c6, d0, d1, d2, d3, d4, d5, d6⟩) (first | (go_at_call 101; refine (HBF.out _).mono ?_; rintro e w1 ⟨rfl, rfl⟩))
              go_wp2_with fail
              go_ret
              exact ⟨by rw [HS.out]; rfl, HBW.out.drew.drew⟩
          · obtain rfl : q = m2.length := by omega
            have HM := Lib.hid (HE.out.trans (cmpM_more hall.out hlt))
            have HBF := Lib.hid (fun w => rbefore (decide ((m1.length : Int) < (m2.length : Int))) (decide ((m2.length : Int) < (m1.length : Int))) w)
            rw [bf_nat, if_neg (by omega), if_pos hlt] at HBF
            clear hall
            go_wp2_with (go_at_call 101; refine (rbefore _ _ _).mono ?_; rintro e w1 ⟨rfl, rfl⟩)
            go_ret
            exact ⟨by rw [HM.out]; simp [bfI]; try omega, hbw⟩
        · obtain rfl : q = m1.length := by omega
          have HM := Lib.hid (HE.out.trans (cmpM_end hall.out hq2))
          clear hall
          by_cases hlr : m1.length < m2.length
          · rw [if_pos hlr] at HM
            go_wp2_with (go_at_call 101; refine (rbefore _ _ _).mono ?_; rintro e w1 ⟨rfl, rfl⟩)
            go_ret
            exact ⟨by rw [HM.out]; simp [bfI]; try omega, hbw⟩
          · rw [if_neg hlr] at HM
            go_wp2_with (go_at_call 101; refine (rbefore _ _ _).mono ?_; rintro e w1 ⟨rfl, rfl⟩)
            go_ret
            exact ⟨by rw [HM.out]; simp [bfI]; try omega, hbw⟩
    rw [if_neg h5] at HE
    have g5 : (k1 == 5) = false := beq_eq_false_iff_ne.2 h5
    clear h1 h2 h3 h4 h5
    go_enter Try.func41, Try.ntmps41
    go_wp2_with fail
    go_ret
    exact ⟨by rw [HE.out]; rfl, HBX.out⟩
  · rw [if_pos hk] at HE
    have gk : (k1 != k2) = true := bne_iff_ne.2 hk
    have HZ := Lib.hid (show bfI (decide (k1 < k2)) true = icmp k1 k2 from by
      unfold bfI icmp
      by_cases h1 : k1 < k2
      · simp [h1]
      · simp [h1, show k2 < k1 by omega])
    rw [← HZ.out] at HE
    have HBX := Lib.hid (show Below w.heap.size w ((w.alloc (.cells #[.int .i64 k1, .bool b1, .int .i64 n1, .string s1, .slice la l1.length lc, .slice ma m1.length mc] 25)).alloc (.cells #[.int .i64 k2, .bool b2, .int .i64 n2, .string s2, .slice lb l2.length ld, .slice mb m2.length md] 25)) from (Below.new _ _).alloc (by simp) _)
    clear hk
    go_enter Try.func41, Try.ntmps41
    go_wp2_with (go_at_call 101; refine (rbefore _ _ _).mono ?_; rintro e w1 ⟨rfl, rfl⟩)
    go_ret
    exact ⟨by rw [HE.out]; rfl, HBX.out⟩

end Go.Proofs.Ytmdihildjblgnaa
