/- parse's laws: ParsePiped. -/
import Derived.Test.YtnblmhfgmehnnaaGreatDoorBdAT
import Derived.Test.YtnblmhfgmehnnaaGreatDoorBdBA
namespace Go.Proofs.YtnblmhfgmehnnaaGreatDoor
open Go.RowKit Go.Lib
attribute [local go_sem ↓] Go.wp_at_zero Go.wp_at_succ

/-- A name of the law's. -/
structure OkN (s : ByteArray) : Prop where
  name : nameL s.data.toList = true
  size : s.size ≤ 40
  t : s.data.toList ≠ [116, 114, 117, 101]
  f : s.data.toList ≠ [102, 97, 108, 115, 101]
  n : s.data.toList ≠ [110, 105, 108]
theorem OkN.call {s : ByteArray} (h : OkN s) : CallN s := ⟨h.name, by unfold wordsB; rw [Bool.and_eq_true, Bool.and_eq_true, bne_iff_ne, bne_iff_ne, bne_iff_ne]; exact ⟨⟨h.t, h.f⟩, h.n⟩⟩
theorem four_at {a b f g : ByteArray} {P : ByteArray → Prop} (h : ∀ j < 4, ∀ s, [a, b, f, g][j]? = some s → P s) : P a ∧ P b ∧ P f ∧ P g := ⟨h 0 (by omega) a rfl, h 1 (by omega) b rfl, h 2 (by omega) f rfl, h 3 (by omega) g rfl⟩

set_option maxRecDepth 100000 in
set_option maxHeartbeats 16000000 in
theorem piped07 (a b f g : ByteArray) (w : World) (ha : a.size ≤ 140737488351232) (hb : b.size ≤ 140737488351232) (hf : f.size ≤ 140737488351232) (hg : g.size ≤ 140737488351232) (hm : MaxL w) (hv : ScalV w) : Calls Tryz.prog 7 #[.string a, .string b, .string f, .string g] w fun e w' => e = .returned (.bool true) ∧ Below w.heap.size w w' := by
  have HM := Lib.hid hm; have HV := Lib.hid hv
  have HSZ := Lib.hid (show ∀ j < 4, ∀ s, [a, b, f, g][j]? = some s → s.size ≤ 140737488351232 from fun j hj s h => by
    have : j = 0 ∨ j = 1 ∨ j = 2 ∨ j = 3 := by omega
    rcases this with rfl | rfl | rfl | rfl <;> (simp at h; subst h; assumption))
  clear hm hv ha hb hf hg
  have hb0 := Below.new w (.cells #[.string a, .string b, .string f, .string g] 9)
  have h0 := Blk.new w 9 #[.string a, .string b, .string f, .string g]
  obtain ⟨W0, e0⟩ : ∃ z, z = w.alloc (.cells #[.string a, .string b, .string f, .string g] 9) := ⟨_, rfl⟩
  obtain ⟨n0, en0⟩ : ∃ z, z = w.heap.size := ⟨_, rfl⟩
  rw [← e0] at hb0 h0
  rw [← en0] at h0
  have HB0 := Lib.hid hb0; have H0 := Lib.hid h0; have E0 := Lib.hid e0; have N0 := Lib.hid en0
  clear hb0 h0 e0 en0
  go_enter Tryz.func7, Tryz.ntmps7
  go_upto_region 2 with fail
  rw [← E0.out, ← N0.out]
  clear E0
  go_loopw [26] (fun x26 wr => ∃ q : Nat, q ≤ 4 ∧ x26 = .int .i64 q ∧ wr = W0 ∧ Hid (∀ j < q, ∀ s, [a, b, f, g][j]? = some s → OkN s)) (fun x _ => 4 - (Lib.intOf x).toNat)
  case atStart => exact ⟨0, by omega, rfl, rfl, Lib.hid (fun j hj => absurd hj (Nat.not_lt_zero _))⟩
  case round =>
    obtain ⟨q, hq, rfl, rfl, HOK⟩ := hrel
    by_cases hlt : q < 4
    · obtain ⟨sq, hsq⟩ : ∃ s, [a, b, f, g][q]? = some s := ⟨[a, b, f, g][q]'hlt, List.getElem?_eq_getElem _⟩
      have hz := HSZ.out q hlt sq hsq
      have hc : wr.cell? ⟨n0, q, none⟩ = some (.string sq) := by
        rw [H0.out.cell]
        have : q = 0 ∨ q = 1 ∨ q = 2 ∨ q = 3 := by omega
        rcases this with rfl | rfl | rfl | rfl <;> (simp at hsq; subst hsq; rfl)
      have HSQ := Lib.hid hsq
      have hg0 : (0 : Int) ≤ (q : Int) := by omega
      have hg1 : (q : Int) < 4 := by omega
      have hwk : IntKind.i64.wrap ((q : Int) + 1) = (q : Int) + 1 := wrap_fit (by omega) (by omega)
      have hl0 := H0.out.lt
      have CN := Lib.hid (trname sq wr hz)
      have CW := Lib.hid (tawake7 wr (HM.out.keep HB0.out) (HV.out.keep HB0.out))
      clear hsq
      by_cases c1 : nameL sq.data.toList = true
      · rw [c1] at CN
        by_cases c2 : sq.size ≤ 40
        · have d2 : decide ((sq.size : Int) > 40) = false := decide_eq_false (by omega)
          by_cases c3 : sq.data.toList = [116, 114, 117, 101]
          · have g3 : (sq.toList == [116, 114, 117, 101]) = true := by rw [word_eq]; exact decide_eq_true c3
            clear c1 c3
            go_wp2_with fail
            refine CN.out.mono ?_
            rintro e w9 ⟨rfl, rfl⟩
            go_wp2_with fail
            refine CW.out.mono ?_
            rintro e w10 ⟨rfl, hb10⟩
            have HB10 := Lib.hid (Below.next HB0.out hb10)
            clear hb10
            go_wp2_with fail
            go_ret
            exact ⟨rfl, HB10.out⟩
          · have g3 : (sq.toList == [116, 114, 117, 101]) = false := by rw [word_eq]; exact decide_eq_false c3
            by_cases c4 : sq.data.toList = [102, 97, 108, 115, 101]
            · have g4 : (sq.toList == [102, 97, 108, 115, 101]) = true := by rw [word_eq]; exact decide_eq_true c4
              clear c1 c3 c4
              go_wp2_with fail
              refine CN.out.mono ?_
              rintro e w9 ⟨rfl, rfl⟩
              go_wp2_with fail
              refine CW.out.mono ?_
              rintro e w10 ⟨rfl, hb10⟩
              have HB10 := Lib.hid (Below.next HB0.out hb10)
              clear hb10
              go_wp2_with fail
              go_ret
              exact ⟨rfl, HB10.out⟩
            · have g4 : (sq.toList == [102, 97, 108, 115, 101]) = false := by rw [word_eq]; exact decide_eq_false c4
              by_cases c5 : sq.data.toList = [110, 105, 108]
              · have g5 : (sq.toList == [110, 105, 108]) = true := by rw [word_eq]; exact decide_eq_true c5
                clear c1 c3 c4 c5
                go_wp2_with fail
                refine CN.out.mono ?_
                rintro e w9 ⟨rfl, rfl⟩
                go_wp2_with fail
                refine CW.out.mono ?_
                rintro e w10 ⟨rfl, hb10⟩
                have HB10 := Lib.hid (Below.next HB0.out hb10)
                clear hb10
                go_wp2_with fail
                go_ret
                exact ⟨rfl, HB10.out⟩
              · have g5 : (sq.toList == [110, 105, 108]) = false := by rw [word_eq]; exact decide_eq_false c5
                have HOK2 := Lib.hid (show ∀ j < q + 1, ∀ s, [a, b, f, g][j]? = some s → OkN s from fun j hj s hs => by
                  by_cases e : j < q
                  · exact HOK.out j e s hs
                  · obtain rfl : j = q := by omega
                    have h9 := HSQ.out
                    rw [hs] at h9
                    injection h9 with h9
                    subst h9
                    exact ⟨c1, c2, c3, c4, c5⟩)
                clear c1 c3 c4 c5
                go_wp2_with fail
                refine CN.out.mono ?_
                rintro e w9 ⟨rfl, rfl⟩
                go_wp2_with fail
                go_roundw
                case rel => exact ⟨q + 1, by omega, by go_num, by first | trivial | rfl, HOK2⟩
                case measure => simp [Lib.intOf]; omega
        · have d2 : decide ((sq.size : Int) > 40) = true := decide_eq_true (by omega)
          clear c1 c2
          go_wp2_with fail
          refine CN.out.mono ?_
          rintro e w9 ⟨rfl, rfl⟩
          go_wp2_with fail
          refine CW.out.mono ?_
          rintro e w10 ⟨rfl, hb10⟩
          have HB10 := Lib.hid (Below.next HB0.out hb10)
          clear hb10
          go_wp2_with fail
          go_ret
          exact ⟨rfl, HB10.out⟩
      · have c1' : nameL sq.data.toList = false := by simpa using c1
        rw [c1'] at CN
        clear c1 c1'
        go_wp2_with fail
        refine CN.out.mono ?_
        rintro e w9 ⟨rfl, rfl⟩
        go_wp2_with fail
        refine CW.out.mono ?_
        rintro e w10 ⟨rfl, hb10⟩
        have HB10 := Lib.hid (Below.next HB0.out hb10)
        clear hb10
        go_wp2_with fail
        go_ret
        exact ⟨rfl, HB10.out⟩
    · obtain rfl : q = 4 := by omega
      obtain ⟨oa, ob, of_, og⟩ := four_at HOK.out
      have za := oa.size; have zb := ob.size; have zf := of_.size; have zg := og.size
      have ca := oa.call; have cb := ob.call; have cf := of_.call; have cg := og.call
      have p1 := piped1 cg cf cb ca; have p2 := piped2 cg cf cb ca; have p3 := piped3 cg cf cb ca; have p4 := piped4 cg cf cb ca
      obtain ⟨G, hG⟩ : ∃ z, z = exG g f b a := ⟨_, rfl⟩
      rw [← hG] at p1 p2 p3 p4
      have HG := Lib.hid hG
      have cpi := fun (s : ByteArray) (W : World) (hs : s.size ≤ 1000000) (hvW : ScalV W) (h : allF s.data.toList = (G, 0)) => show Calls Tryz.prog 17 #[.string s] W (fun e w' => ∃ cs, e = .returned (.tuple #[.agg (List.toArray cs), .int .i64 0]) ∧ RepX w' (fun b => W.heap.size ≤ b) cs G ∧ Below W.heap.size W w') from by
        have h9 := tPipe s W hs hvW
        unfold AllPost at h9
        rw [h] at h9
        exact h9.mono fun e w' ⟨cs, h1, h2, h3⟩ => ⟨cs, h1, h2.1, h3⟩
      have C1 := Lib.hid (fun (W : World) (hvW : ScalV W) => cpi (⟨#[46]⟩ ++ a ++ ⟨#[32, 124, 32]⟩ ++ f ++ ⟨#[32, 46]⟩ ++ b ++ ⟨#[32, 124, 32]⟩ ++ g) W (by simp only [ByteArray.size_append]; have l0 : (⟨#[32, 124, 32]⟩ : ByteArray).size = 3 := rfl; have l1 : (⟨#[32, 46]⟩ : ByteArray).size = 2 := rfl; have l2 : (⟨#[46]⟩ : ByteArray).size = 1 := rfl; omega) hvW (by rw [← p1]; congr 1; simp [textP]))
      have C2 := Lib.hid (fun (W : World) (hvW : ScalV W) => cpi (g ++ ⟨#[32, 40]⟩ ++ f ++ ⟨#[32, 46]⟩ ++ b ++ ⟨#[32, 46]⟩ ++ a ++ ⟨#[41]⟩) W (by simp only [ByteArray.size_append]; have l0 : (⟨#[32, 40]⟩ : ByteArray).size = 2 := rfl; have l1 : (⟨#[32, 46]⟩ : ByteArray).size = 2 := rfl; have l2 : (⟨#[41]⟩ : ByteArray).size = 1 := rfl; omega) hvW (by rw [← p2]; congr 1; simp [textF]))
      have C3 := Lib.hid (fun (W : World) (hvW : ScalV W) => cpi (⟨#[40, 40, 46]⟩ ++ a ++ ⟨#[32, 124, 32]⟩ ++ f ++ ⟨#[32, 46]⟩ ++ b ++ ⟨#[32, 124, 32]⟩ ++ g ++ ⟨#[41, 41]⟩) W (by simp only [ByteArray.size_append]; have l0 : (⟨#[32, 124, 32]⟩ : ByteArray).size = 3 := rfl; have l1 : (⟨#[32, 46]⟩ : ByteArray).size = 2 := rfl; have l2 : (⟨#[40, 40, 46]⟩ : ByteArray).size = 3 := rfl; have l3 : (⟨#[41, 41]⟩ : ByteArray).size = 2 := rfl; omega) hvW (by rw [← p3]; congr 1; simp [textP]))
      have C4 := Lib.hid (fun (W : World) (hvW : ScalV W) => cpi (⟨#[40]⟩ ++ f ++ ⟨#[32, 46]⟩ ++ b ++ ⟨#[32, 46]⟩ ++ a ++ ⟨#[41, 32, 124, 32]⟩ ++ g) W (by simp only [ByteArray.size_append]; have l0 : (⟨#[32, 46]⟩ : ByteArray).size = 2 := rfl; have l1 : (⟨#[40]⟩ : ByteArray).size = 1 := rfl; have l2 : (⟨#[41, 32, 124, 32]⟩ : ByteArray).size = 4 := rfl; omega) hvW (by rw [← p4]; congr 1; simp [textF]))
      clear oa ob of_ og ca cb cf cg p1 p2 p3 p4 hG cpi HOK HSZ
      go_wp2_with fail
      refine (C1.out _ (HV.out.keep HB0.out)).mono ?_
      rintro e w1 ⟨cs, rfl, hx1, hb1⟩
      obtain ⟨la1, lc1, ma1, mc1, sa1, sc1, aa1, ac1, rfl, -⟩ := hx1.inv
      have hba := Below.new w1 (.cells #[.int .i64 G.kind, .int .i64 G.val.kind, .bool G.val.bool, .int .i64 G.val.int, .string G.val.str, .slice la1 G.val.list.length lc1, .slice ma1 G.val.map.length mc1, .string G.name, .slice sa1 G.steps.length sc1, .slice aa1 G.args.length ac1] 50)
      have hX1 := Blk.new w1 50 #[.int .i64 G.kind, .int .i64 G.val.kind, .bool G.val.bool, .int .i64 G.val.int, .string G.val.str, .slice la1 G.val.list.length lc1, .slice ma1 G.val.map.length mc1, .string G.name, .slice sa1 G.steps.length sc1, .slice aa1 G.args.length ac1]; have hB1 := Below.next (Below.next HB0.out hb1) hba; have hR1 := (hx1.keep hba).weak (S' := fun _ => True) (fun _ _ _ => trivial)
      go_upto_region 8 with fail
      obtain ⟨W1, eW⟩ : ∃ z, z = w1.alloc (.cells #[.int .i64 G.kind, .int .i64 G.val.kind, .bool G.val.bool, .int .i64 G.val.int, .string G.val.str, .slice la1 G.val.list.length lc1, .slice ma1 G.val.map.length mc1, .string G.name, .slice sa1 G.steps.length sc1, .slice aa1 G.args.length ac1] 50) := ⟨_, rfl⟩
      obtain ⟨m1, eM⟩ : ∃ z, z = w1.heap.size := ⟨_, rfl⟩
      rw [← eW] at hX1 hB1 hR1
      rw [← eM] at hX1
      rw [← eW, ← eM]
      have HB1 := Lib.hid hB1; have HX1_1 := Lib.hid hX1; have HR1_1 := Lib.hid hR1
      clear eW eM hba hb1 hx1 hX1 hB1 hR1
      go_wp2_with fail
      refine (C2.out _ (HV.out.keep HB1.out)).mono ?_
      rintro e w2 ⟨cs, rfl, hx2, hb2⟩
      obtain ⟨la2, lc2, ma2, mc2, sa2, sc2, aa2, ac2, rfl, -⟩ := hx2.inv
      have hba := Below.new w2 (.cells #[.int .i64 G.kind, .int .i64 G.val.kind, .bool G.val.bool, .int .i64 G.val.int, .string G.val.str, .slice la2 G.val.list.length lc2, .slice ma2 G.val.map.length mc2, .string G.name, .slice sa2 G.steps.length sc2, .slice aa2 G.args.length ac2] 50)
      have hX2 := Blk.new w2 50 #[.int .i64 G.kind, .int .i64 G.val.kind, .bool G.val.bool, .int .i64 G.val.int, .string G.val.str, .slice la2 G.val.list.length lc2, .slice ma2 G.val.map.length mc2, .string G.name, .slice sa2 G.steps.length sc2, .slice aa2 G.args.length ac2]; have hB2 := Below.next (Below.next HB1.out hb2) hba; have hR2 := (hx2.keep hba).weak (S' := fun _ => True) (fun _ _ _ => trivial)
      have hX1_2 := (HX1_1.out.keep hb2).keep hba; have hR1_2 := (HR1_1.out.keep hb2).keep hba
      go_upto_region 9 with fail
      obtain ⟨W2, eW⟩ : ∃ z, z = w2.alloc (.cells #[.int .i64 G.kind, .int .i64 G.val.kind, .bool G.val.bool, .int .i64 G.val.int, .string G.val.str, .slice la2 G.val.list.length lc2, .slice ma2 G.val.map.length mc2, .string G.name, .slice sa2 G.steps.length sc2, .slice aa2 G.args.length ac2] 50) := ⟨_, rfl⟩
      obtain ⟨m2, eM⟩ : ∃ z, z = w2.heap.size := ⟨_, rfl⟩
      rw [← eW] at hX2 hB2 hR2 hX1_2 hR1_2
      rw [← eM] at hX2
      rw [← eW, ← eM]
      have HB2 := Lib.hid hB2; have HX2_2 := Lib.hid hX2; have HR2_2 := Lib.hid hR2
      have HX1_2 := Lib.hid hX1_2; have HR1_2 := Lib.hid hR1_2
      clear eW eM hba hb2 hx2 hX2 hB2 hR2 hX1_2 hR1_2 HX1_1 HR1_1 HB1
      go_wp2_with fail
      refine (C3.out _ (HV.out.keep HB2.out)).mono ?_
      rintro e w3 ⟨cs, rfl, hx3, hb3⟩
      obtain ⟨la3, lc3, ma3, mc3, sa3, sc3, aa3, ac3, rfl, -⟩ := hx3.inv
      have hba := Below.new w3 (.cells #[.int .i64 G.kind, .int .i64 G.val.kind, .bool G.val.bool, .int .i64 G.val.int, .string G.val.str, .slice la3 G.val.list.length lc3, .slice ma3 G.val.map.length mc3, .string G.name, .slice sa3 G.steps.length sc3, .slice aa3 G.args.length ac3] 50)
      have hX3 := Blk.new w3 50 #[.int .i64 G.kind, .int .i64 G.val.kind, .bool G.val.bool, .int .i64 G.val.int, .string G.val.str, .slice la3 G.val.list.length lc3, .slice ma3 G.val.map.length mc3, .string G.name, .slice sa3 G.steps.length sc3, .slice aa3 G.args.length ac3]; have hB3 := Below.next (Below.next HB2.out hb3) hba; have hR3 := (hx3.keep hba).weak (S' := fun _ => True) (fun _ _ _ => trivial)
      have hX1_3 := (HX1_2.out.keep hb3).keep hba; have hR1_3 := (HR1_2.out.keep hb3).keep hba
      have hX2_3 := (HX2_2.out.keep hb3).keep hba; have hR2_3 := (HR2_2.out.keep hb3).keep hba
      go_upto_region 10 with fail
      obtain ⟨W3, eW⟩ : ∃ z, z = w3.alloc (.cells #[.int .i64 G.kind, .int .i64 G.val.kind, .bool G.val.bool, .int .i64 G.val.int, .string G.val.str, .slice la3 G.val.list.length lc3, .slice ma3 G.val.map.length mc3, .string G.name, .slice sa3 G.steps.length sc3, .slice aa3 G.args.length ac3] 50) := ⟨_, rfl⟩
      obtain ⟨m3, eM⟩ : ∃ z, z = w3.heap.size := ⟨_, rfl⟩
      rw [← eW] at hX3 hB3 hR3 hX1_3 hR1_3 hX2_3 hR2_3
      rw [← eM] at hX3
      rw [← eW, ← eM]
      have HB3 := Lib.hid hB3; have HX3_3 := Lib.hid hX3; have HR3_3 := Lib.hid hR3
      have HX1_3 := Lib.hid hX1_3; have HR1_3 := Lib.hid hR1_3
      have HX2_3 := Lib.hid hX2_3; have HR2_3 := Lib.hid hR2_3
      clear eW eM hba hb3 hx3 hX3 hB3 hR3 hX1_3 hR1_3 hX2_3 hR2_3 HX1_2 HR1_2 HX2_2 HR2_2 HB2
      go_wp2_with fail
      refine (C4.out _ (HV.out.keep HB3.out)).mono ?_
      rintro e w4 ⟨cs, rfl, hx4, hb4⟩
      obtain ⟨la4, lc4, ma4, mc4, sa4, sc4, aa4, ac4, rfl, -⟩ := hx4.inv
      have hba := Below.new w4 (.cells #[.int .i64 G.kind, .int .i64 G.val.kind, .bool G.val.bool, .int .i64 G.val.int, .string G.val.str, .slice la4 G.val.list.length lc4, .slice ma4 G.val.map.length mc4, .string G.name, .slice sa4 G.steps.length sc4, .slice aa4 G.args.length ac4] 50)
      have hX4 := Blk.new w4 50 #[.int .i64 G.kind, .int .i64 G.val.kind, .bool G.val.bool, .int .i64 G.val.int, .string G.val.str, .slice la4 G.val.list.length lc4, .slice ma4 G.val.map.length mc4, .string G.name, .slice sa4 G.steps.length sc4, .slice aa4 G.args.length ac4]; have hB4 := Below.next (Below.next HB3.out hb4) hba; have hR4 := (hx4.keep hba).weak (S' := fun _ => True) (fun _ _ _ => trivial)
      have hX1_4 := (HX1_3.out.keep hb4).keep hba; have hR1_4 := (HR1_3.out.keep hb4).keep hba
      have hX2_4 := (HX2_3.out.keep hb4).keep hba; have hR2_4 := (HR2_3.out.keep hb4).keep hba
      have hX3_4 := (HX3_3.out.keep hb4).keep hba; have hR3_4 := (HR3_3.out.keep hb4).keep hba
      go_upto_region 11 with fail
      obtain ⟨W4, eW⟩ : ∃ z, z = w4.alloc (.cells #[.int .i64 G.kind, .int .i64 G.val.kind, .bool G.val.bool, .int .i64 G.val.int, .string G.val.str, .slice la4 G.val.list.length lc4, .slice ma4 G.val.map.length mc4, .string G.name, .slice sa4 G.steps.length sc4, .slice aa4 G.args.length ac4] 50) := ⟨_, rfl⟩
      obtain ⟨m4, eM⟩ : ∃ z, z = w4.heap.size := ⟨_, rfl⟩
      rw [← eW] at hX4 hB4 hR4 hX1_4 hR1_4 hX2_4 hR2_4 hX3_4 hR3_4
      rw [← eM] at hX4
      rw [← eW, ← eM]
      have HB4 := Lib.hid hB4; have HX4_4 := Lib.hid hX4; have HR4_4 := Lib.hid hR4
      have HX1_4 := Lib.hid hX1_4; have HR1_4 := Lib.hid hR1_4
      have HX2_4 := Lib.hid hX2_4; have HR2_4 := Lib.hid hR2_4
      have HX3_4 := Lib.hid hX3_4; have HR3_4 := Lib.hid hR3_4
      clear eW eM hba hb4 hx4 hX4 hB4 hR4 hX1_4 hR1_4 hX2_4 hR2_4 hX3_4 hR3_4 HX1_3 HR1_3 HX2_3 HR2_3 HX3_3 HR3_3 HB3
      have CF := Lib.hid (tfrom HR1_4.out W4 (Below.refl _ _))
      have k1 := HX1_4.out.cell; have f1 := HX1_4.out.frozen; have l1 := HX1_4.out.lt
      go_wp2_with fail
      refine CF.out.mono ?_
      rintro e w5 ⟨cs, rfl, hx5, hb5⟩
      obtain ⟨la5, lc5, ma5, mc5, sa5, sc5, aa5, ac5, rfl, hp5⟩ := hx5.inv
      have hba := Below.new w5 (.cells #[.int .i64 G.kind, .int .i64 G.val.kind, .bool G.val.bool, .int .i64 G.val.int, .string G.val.str, .slice la5 G.val.list.length lc5, .slice ma5 G.val.map.length mc5, .string G.name, .slice sa5 G.steps.length sc5, .slice aa5 G.args.length ac5] 45)
      have hX5 := Blk.new w5 45 #[.int .i64 G.kind, .int .i64 G.val.kind, .bool G.val.bool, .int .i64 G.val.int, .string G.val.str, .slice la5 G.val.list.length lc5, .slice ma5 G.val.map.length mc5, .string G.name, .slice sa5 G.steps.length sc5, .slice aa5 G.args.length ac5]; have hB5 := Below.next (Below.next HB4.out hb5) hba; have hR5 := (hx5.keep hba).weak (S' := fun _ => True) (fun _ _ _ => trivial)
      have hX2_5 := (HX2_4.out.keep hb5).keep hba; have hR2_5 := (HR2_4.out.keep hb5).keep hba
      have hX3_5 := (HX3_4.out.keep hb5).keep hba; have hR3_5 := (HR3_4.out.keep hb5).keep hba
      have hX4_5 := (HX4_4.out.keep hb5).keep hba; have hR4_5 := (HR4_4.out.keep hb5).keep hba
      clear k1 f1 l1 hp5
      go_upto_region 14 with fail
      obtain ⟨W5, eW⟩ : ∃ z, z = w5.alloc (.cells #[.int .i64 G.kind, .int .i64 G.val.kind, .bool G.val.bool, .int .i64 G.val.int, .string G.val.str, .slice la5 G.val.list.length lc5, .slice ma5 G.val.map.length mc5, .string G.name, .slice sa5 G.steps.length sc5, .slice aa5 G.args.length ac5] 45) := ⟨_, rfl⟩
      obtain ⟨m5, eM⟩ : ∃ z, z = w5.heap.size := ⟨_, rfl⟩
      rw [← eW] at hX5 hB5 hR5 hX2_5 hR2_5 hX3_5 hR3_5 hX4_5 hR4_5
      rw [← eM] at hX5
      rw [← eW, ← eM]
      have HB5 := Lib.hid hB5; have HX5_5 := Lib.hid hX5; have HR5_5 := Lib.hid hR5
      have HX2_5 := Lib.hid hX2_5; have HR2_5 := Lib.hid hR2_5
      have HX3_5 := Lib.hid hX3_5; have HR3_5 := Lib.hid hR3_5
      have HX4_5 := Lib.hid hX4_5; have HR4_5 := Lib.hid hR4_5
      clear eW eM hba hb5 hx5 hX5 hB5 hR5 hX2_5 hR2_5 hX3_5 hR3_5 hX4_5 hR4_5 HB4
      have CW := Lib.hid (tawake7 W5 (HM.out.keep HB5.out) (HV.out.keep HB5.out))
      go_wp2_with fail
      refine CW.out.mono ?_
      rintro e w6 ⟨rfl, hb6⟩
      have HB6 := Lib.hid (Below.next HB5.out hb6)
      have HX2_6 := Lib.hid (HX2_5.out.keep hb6); have HR2_6 := Lib.hid (HR2_5.out.keep hb6)
      have HX3_6 := Lib.hid (HX3_5.out.keep hb6); have HR3_6 := Lib.hid (HR3_5.out.keep hb6)
      have HX4_6 := Lib.hid (HX4_5.out.keep hb6); have HR4_6 := Lib.hid (HR4_5.out.keep hb6)
      have HX5_6 := Lib.hid (HX5_5.out.keep hb6); have HR5_6 := Lib.hid (HR5_5.out.keep hb6)
      clear hb6 HB5 HX2_5 HR2_5 HX3_5 HR3_5 HX4_5 HR4_5 HX5_5 HR5_5
      have CE := Lib.hid (texpr HR2_6.out w6 _ _ (Below.refl _ _) HR5_6.out)
      have kj := HX2_6.out.cell; have fj := HX2_6.out.frozen; have lj := HX2_6.out.lt; have k5 := HX5_6.out.cell; have f5 := HX5_6.out.frozen; have l5 := HX5_6.out.lt
      go_wp2_with fail
      refine CE.out.mono ?_
      rintro e w7 ⟨rfl, hb7⟩
      clear kj fj lj k5 f5 l5 CE
      have HB7 := Lib.hid (Below.next HB6.out hb7)
      have HX2_7 := Lib.hid (HX2_6.out.keep hb7); have HR2_7 := Lib.hid (HR2_6.out.keep hb7)
      have HX3_7 := Lib.hid (HX3_6.out.keep hb7); have HR3_7 := Lib.hid (HR3_6.out.keep hb7)
      have HX4_7 := Lib.hid (HX4_6.out.keep hb7); have HR4_7 := Lib.hid (HR4_6.out.keep hb7)
      have HX5_7 := Lib.hid (HX5_6.out.keep hb7); have HR5_7 := Lib.hid (HR5_6.out.keep hb7)
      clear hb7 HB6 HX2_6 HR2_6 HX3_6 HR3_6 HX4_6 HR4_6 HX5_6 HR5_6
      have CE := Lib.hid (texpr HR3_7.out w7 _ _ (Below.refl _ _) HR5_7.out)
      have kj := HX3_7.out.cell; have fj := HX3_7.out.frozen; have lj := HX3_7.out.lt; have k5 := HX5_7.out.cell; have f5 := HX5_7.out.frozen; have l5 := HX5_7.out.lt
      go_wp2_with fail
      refine CE.out.mono ?_
      rintro e w8 ⟨rfl, hb8⟩
      clear kj fj lj k5 f5 l5 CE
      have HB8 := Lib.hid (Below.next HB7.out hb8)
      have HX2_8 := Lib.hid (HX2_7.out.keep hb8); have HR2_8 := Lib.hid (HR2_7.out.keep hb8)
      have HX3_8 := Lib.hid (HX3_7.out.keep hb8); have HR3_8 := Lib.hid (HR3_7.out.keep hb8)
      have HX4_8 := Lib.hid (HX4_7.out.keep hb8); have HR4_8 := Lib.hid (HR4_7.out.keep hb8)
      have HX5_8 := Lib.hid (HX5_7.out.keep hb8); have HR5_8 := Lib.hid (HR5_7.out.keep hb8)
      clear hb8 HB7 HX2_7 HR2_7 HX3_7 HR3_7 HX4_7 HR4_7 HX5_7 HR5_7
      have CE := Lib.hid (texpr HR4_8.out w8 _ _ (Below.refl _ _) HR5_8.out)
      have kj := HX4_8.out.cell; have fj := HX4_8.out.frozen; have lj := HX4_8.out.lt; have k5 := HX5_8.out.cell; have f5 := HX5_8.out.frozen; have l5 := HX5_8.out.lt
      go_wp2_with fail
      refine CE.out.mono ?_
      rintro e w9 ⟨rfl, hb9⟩
      clear kj fj lj k5 f5 l5 CE
      have HB9 := Lib.hid (Below.next HB8.out hb9)
      have HX2_9 := Lib.hid (HX2_8.out.keep hb9); have HR2_9 := Lib.hid (HR2_8.out.keep hb9)
      have HX3_9 := Lib.hid (HX3_8.out.keep hb9); have HR3_9 := Lib.hid (HR3_8.out.keep hb9)
      have HX4_9 := Lib.hid (HX4_8.out.keep hb9); have HR4_9 := Lib.hid (HR4_8.out.keep hb9)
      have HX5_9 := Lib.hid (HX5_8.out.keep hb9); have HR5_9 := Lib.hid (HR5_8.out.keep hb9)
      clear hb9 HB8 HX2_8 HR2_8 HX3_8 HR3_8 HX4_8 HR4_8 HX5_8 HR5_8
      have hargs := HR5_9.out.parts.args
      rw [HG.out] at hargs
      obtain ⟨b9, o9, cs9, rfl, -, hc9, hx9⟩ := hargs 0 (by show 0 < 1; omega)
      obtain ⟨la9, lc9, ma9, mc9, sa9, sc9, aa9, ac9, rfl, -⟩ := hx9.inv
      have c99 : w9.cell? ⟨b9, o9 + 9, none⟩ = some (.slice aa9 2 ac9) := by have h9 := hc9 9 _ rfl; rw [Nat.zero_mul, Nat.add_zero] at h9; exact h9
      have k5 := HX5_9.out.cell; have f5 := HX5_9.out.frozen; have l5 := HX5_9.out.lt
      have gl : ((G.args.length : Int) == 1) = true := by rw [HG.out]; rfl
      have gi : (0 : Int) < (G.args.length : Int) := by rw [HG.out]; show (0 : Int) < 1; omega
      clear hargs hc9 hx9
      go_wp2_with fail
      go_ret
      exact ⟨rfl, HB9.out⟩
end Go.Proofs.YtnblmhfgmehnnaaGreatDoor
