/- The reference's parts, and its Check. -/
import Derived.Test.YtgbbojnigicnoaaDoorText
import Derived.Test.YtgbbojnigicnoaaDoorParts
import Derived.Deep.RegionHeld3
import Derived.Deep.DrawnRows
import Derived.Deep.DeepCutAuto
import Derived.BigQuiet
import Derived.Deep.QuietTactic
namespace Go.Proofs.YtgbbojnigicnoaaDoor
open Go.RowKit
attribute [local go_sem ↓] Go.wp_at_zero Go.wp_at_succ

def PartsOk (f : Nat) (t : T) : Prop := ∀ (w : World) (S : Nat → Prop) (v : Value), RepT w S v t →
    Calls Tryd.prog f #[v] w fun e w' => e = .returned (.int .i64 t.parts) ∧ Below w.heap.size w w'

theorem str_empty {s : ByteArray} : (s.toList == []) = s.toList.isEmpty := by cases s.toList <;> rfl

theorem len_pos {α : Type} (l : List α) : decide (0 < l.length) = !l.isEmpty := by cases l <;> simp

set_option maxRecDepth 100000 in
set_option maxHeartbeats 4000000 in
theorem rparts (t : T) : PartsOk 28 t := by
  have hnot : ∀ (x : Bool) (w : World), (Op.unary .not (.bool x)).run Tryd.prog w = .ok (.bool (!x)) w := fun _ _ => rfl
  induction t using T.ind' with
  | h t ihl ihm =>
  intro w S v h
  obtain ⟨la, lc, ma, mc, rfl, hp⟩ := h.inv
  obtain ⟨hk, hn, hs, hl, hm, hlc, hmc, hlx, hmx', hL, hM⟩ := hp
  have HTX := Lib.hid (rtext t.str)
  clear hk hn hlc hmc hlx hmx' h
  go_enter Tryd.func28, Tryd.ntmps28
  go_upto_region 1 with fail
  have hbl := Blk.new w 25 (tcells t la lc ma mc)
  have hbw := Below.new w (.cells (tcells t la lc ma mc) 25)
  simp only [tcells] at hbl hbw
  generalize w.alloc (.cells #[.int .i64 t.kind, .bool t.bool, .int .i64 t.int, .string t.str, .slice la t.list.length lc, .slice ma t.map.length mc] 25) = W0 at hbl hbw ⊢
  generalize Value.agg #[.int .i64 t.kind, .bool t.bool, .int .i64 t.int, .string t.str, .slice la t.list.length lc, .slice ma t.map.length mc] = V0
  have b0 : W0.cell? ⟨w.heap.size, 0, none⟩ = some (.int .i64 t.kind) := hbl.cell 0
  have b1 : W0.cell? ⟨w.heap.size, 1, none⟩ = some (.bool t.bool) := hbl.cell 1
  have b2 : W0.cell? ⟨w.heap.size, 2, none⟩ = some (.int .i64 t.int) := hbl.cell 2
  have b3 : W0.cell? ⟨w.heap.size, 3, none⟩ = some (.string t.str) := hbl.cell 3
  have b4 : W0.cell? ⟨w.heap.size, 4, none⟩ = some (.slice la t.list.length lc) := hbl.cell 4
  have b5 : W0.cell? ⟨w.heap.size, 5, none⟩ = some (.slice ma t.map.length mc) := hbl.cell 5
  have HBL := Lib.hid hbl
  clear hbl
  go_cut [65] (fun s wx => s = .bool (!t.bareB) ∧ wx = W0)
  case first =>
    clear ihl ihm hL hM HTX hs hl hm hnot HBL hbw
    go_wp2_with fail
    all_goals go_meet
    all_goals refine ⟨?_, rfl⟩
    all_goals clear b0 b1 b2 b3 b4 b5
    all_goals simp_all [T.bareB, len_pos]
    all_goals (rw [show decide (t.kind < 0) = false from decide_eq_false (by omega), show decide (5 < t.kind) = false from decide_eq_false (by omega), show (t.kind != 5) = true from bne_iff_ne.2 (by assumption)]; simp)
  case rest =>
    obtain ⟨rfl, rfl⟩ := hcut
    by_cases hbare : t.bareB = false
    · have HP := Lib.hid (parts_bare hbare)
      rw [hbare]
      clear hbare
      go_wp2_with fail
      go_ret
      exact ⟨by rw [HP.out]; rfl, hbw⟩
    have hbare : t.bareB = true := by simpa using hbare
    rw [hbare]
    have HB := Lib.hid hbare
    clear hbare b0 b1 b2
    by_cases htx : textB t.str = false
    · have HP := Lib.hid (parts_text HB.out htx)
      have H1 := HTX
      rw [htx] at H1
      clear htx
      go_wp2_with fail
      refine (H1.out _ hs).mono ?_
      rintro e w' ⟨rfl, rfl⟩
      go_wp2_with fail
      go_ret
      exact ⟨by rw [HP.out]; rfl, hbw⟩
    have htx : textB t.str = true := by simpa using htx
    rw [htx] at HTX
    have HT := Lib.hid htx
    clear htx
    go_wp2_with fail
    refine (HTX.out _ hs).mono ?_
    rintro e w' ⟨rfl, rfl⟩
    go_wp2_with fail
    go_loopw [3] (fun i wr => ∃ q : Nat, q ≤ t.list.length ∧ i = .int .i64 q ∧ Hid (∀ j (hj : j < t.list.length), j < q → t.list[j].parts = 0) ∧ Below w.heap.size w wr ∧ Blk wr w.heap.size 25 (tcells t la lc ma mc)) (fun i _ => t.list.length - (intOf i).toNat)
    case atStart => exact ⟨0, Nat.zero_le _, rfl, fun j _ h => by omega, hbw, HBL.out⟩
    case round =>
      clear hbw HBL b3 b4 b5
      obtain ⟨j, hj, rfl, hall, hbw, hbl⟩ := hrel
      have b4 : wr.cell? ⟨w.heap.size, 4, none⟩ = some (.slice la t.list.length lc) := hbl.cell 4
      have b5 : wr.cell? ⟨w.heap.size, 5, none⟩ = some (.slice ma t.map.length mc) := hbl.cell 5
      by_cases hlt : j < t.list.length
      · obtain ⟨bl, ol, la', lc', ma', mc', rfl, -, -, ⟨c0, c1, c2, c3, c4, c5⟩, hr⟩ := (hL.keep hbw).at_ hlt
        have HIH := Lib.hid (ihl _ (List.getElem_mem hlt) _ S _ hr)
        by_cases he : t.list[j].parts = 0
        · have HA : Hid (∀ i (hi : i < t.list.length), i < j + 1 → t.list[i].parts = 0) := fun i hi hj2 => by
            rcases Nat.lt_or_ge i j with h | h
            · exact hall.out i hi h
            · obtain rfl : i = j := by omega
              exact he
          rw [he] at HIH
          clear he hr
          go_wp2_with fail
          refine HIH.out.mono ?_
          rintro e w' ⟨rfl, hb'⟩
          go_wp2_with fail
          go_roundw
          case rel => exact ⟨j + 1, by omega, by go_num, HA, Below.next hbw hb', hbl.keep hb'⟩
          case measure => simp [intOf]; omega
        · have HP := Lib.hid ((parts_list HB.out HT.out (by rw [partsL_stop hall.out hlt he]; exact he)).trans (partsL_stop hall.out hlt he))
          have hne : (t.list[j].parts != 0) = true := by rw [bne_iff_ne]; exact he
          generalize t.list[j].parts = pe at HIH HP hne
          clear he hr
          go_wp2_with fail
          refine HIH.out.mono ?_
          rintro e w' ⟨rfl, hb'⟩
          go_wp2_with fail
          go_ret
          exact ⟨by rw [HP.out]; rfl, Below.next hbw hb'⟩
      · have HP := Lib.hid (parts_map HB.out HT.out (partsL_all fun i hi => hall.out i hi (by omega)))
        clear hall
        go_wp2_with fail
        go_loopw [5] (fun i wr => ∃ q : Nat, q ≤ t.map.length ∧ i = .int .i64 q ∧ Hid (∀ j, j < q → okAt t.map j) ∧ Below w.heap.size w wr ∧ Blk wr w.heap.size 25 (tcells t la lc ma mc)) (fun i _ => t.map.length - (intOf i).toNat)
        case atStart => exact ⟨0, Nat.zero_le _, rfl, fun j h => by omega, hbw, hbl⟩
        case round =>
          clear hbw hbl b4 b5 hlt hj
          obtain ⟨q, hq, rfl, hall, hbw, hbl⟩ := hrel
          have b5 : wr.cell? ⟨w.heap.size, 5, none⟩ = some (.slice ma t.map.length mc) := hbl.cell 5
          by_cases hlt : q < t.map.length
          · have hMk := hM.keep hbw
            obtain ⟨bl, ol, la', lc', ma', mc', hma, -, -, hkz, ⟨c0, c1, c2, c3, c4, c5, c6⟩, hr⟩ := hMk.at_ hlt
            subst hma
            have HK := Lib.hid (rkey t.map[q].1 wr hkz)
            have HREP := Lib.hid hr
            have HIH := Lib.hid (fun w v h => ihm _ (List.getElem_mem hlt) w S v h)
            by_cases hkey : keyB t.map[q].1 = false
            · have HP3 := Lib.hid (HP.out.trans (partsM_key hall.out hlt hkey))
              rw [hkey] at HK
              clear hkey hall hr
              go_wp2_with fail
              refine HK.out.mono ?_
              rintro e w' ⟨rfl, rfl⟩
              go_wp2_with fail
              go_ret
              exact ⟨by rw [HP3.out]; rfl, hbw⟩
            have hkey : keyB t.map[q].1 = true := by simpa using hkey
            have HKY := Lib.hid hkey
            rw [hkey] at HK
            clear hkey hr
            by_cases h0 : 0 < q
            · obtain ⟨p, rfl⟩ : ∃ p, q = p + 1 := ⟨q - 1, by omega⟩
              obtain ⟨bl2, ol2, la2, lc2, ma2, mc2, hma2, -, -, -, ⟨d0, -⟩, -⟩ := hMk.at_ (show p < t.map.length by omega)
              injection hma2 with hma2
              injection hma2 with e1 e2
              subst e1 e2
              have hip1 : (0 : Int) ≤ (p : Int) := by omega
              have hip2 : (p : Int) + 1 < (t.map.length : Int) := by omega
              have hip3 : (p : Int) < (t.map.length : Int) := by omega
              have ew : IntKind.i64.wrap ((p : Int) + 1 - 1) = (p : Int) := by rw [wrap_fit (by omega) (by omega)]; omega
              go_wp2_with fail
              refine HK.out.mono ?_
              rintro e w' ⟨rfl, rfl⟩
              by_cases hl : klt t.map[p].1 t.map[p + 1].1 = true
              · have HL := Lib.hid hl
                have g1 : Op.bytesLess t.map[p + 1].1.toList t.map[p].1.toList = false := klt_asymm hl
                have g2 : (t.map[p + 1].1.toList == t.map[p].1.toList) = false := by rw [keq_iff]; simpa using Ne.symm (klt_ne hl)
                clear hl
                go_wp2_with fail
                go_quiet (fail)
                clear g1 g2 ew
                by_cases he : t.map[(p + 1)].2.parts = 0
                · have HA : Hid (∀ j, j < (p + 1) + 1 → okAt t.map j) := fun j hj2 => by
                    rcases Nat.lt_or_ge j ((p + 1)) with h | h
                    · exact hall.out j h
                    · obtain rfl : j = (p + 1) := by omega
                      exact fun _ => ⟨HKY.out, (fun _ => HL.out), he⟩
                  rw [he] at HIH
                  clear he
                  go_wp2_with fail
                  refine (HIH.out _ _ (HREP.out.keep (by exact Below.drewN (Below.refl _ _) _))).mono ?_
                  rintro e w' ⟨rfl, hb'⟩
                  go_wp2_with fail
                  go_roundw
                  case rel => exact ⟨(p + 1) + 1, by omega, by go_num, HA, Below.next (Below.drewN hbw _) hb', (hbl.drewN _).keep hb'⟩
                  case measure => simp [intOf]; omega
                · have HPV := Lib.hid (HP.out.trans (partsM_val hall.out hlt HKY.out (fun _ => HL.out) he))
                  have hne : (t.map[(p + 1)].2.parts != 0) = true := by rw [bne_iff_ne]; exact he
                  generalize t.map[(p + 1)].2.parts = pe at HIH HPV hne
                  clear he
                  go_wp2_with fail
                  refine (HIH.out _ _ (HREP.out.keep (by exact Below.drewN (Below.refl _ _) _))).mono ?_
                  rintro e w' ⟨rfl, hb'⟩
                  go_wp2_with fail
                  go_ret
                  exact ⟨by rw [HPV.out]; rfl, Below.next (Below.drewN hbw _) hb'⟩
              · have HP3 := Lib.hid (HP.out.trans (partsM_twice hall.out hlt HKY.out h0 (by simpa using hl)))
                have g1 : (Op.bytesLess t.map[p + 1].1.toList t.map[p].1.toList || t.map[p + 1].1.toList == t.map[p].1.toList) = true := by
                  rcases klt_total t.map[p].1 t.map[p + 1].1 with h | h | h
                  · exact absurd h hl
                  · rw [h]; simp
                  · simp [klt] at h; simp [h]
                clear hl
                go_wp2_with fail
                go_quiet (fail)
                go_wp2_with fail
                go_ret
                exact ⟨by rw [HP3.out]; rfl, Below.drewN hbw _⟩
            · have hg0 : decide ((0 : Int) < (q : Int)) = false := by simp; omega
              go_wp2_with fail
              refine HK.out.mono ?_
              rintro e w' ⟨rfl, rfl⟩
              go_wp2_with fail
              go_quiet (fail)
              clear hg0
              by_cases he : t.map[q].2.parts = 0
              · have HA : Hid (∀ j, j < q + 1 → okAt t.map j) := fun j hj2 => by
                  rcases Nat.lt_or_ge j q with h | h
                  · exact hall.out j h
                  · obtain rfl : j = q := by omega
                    exact fun _ => ⟨HKY.out, (fun h => absurd h h0), he⟩
                rw [he] at HIH
                clear he
                go_wp2_with fail
                refine (HIH.out _ _ (HREP.out.keep (by exact Below.drewN (Below.refl _ _) _))).mono ?_
                rintro e w' ⟨rfl, hb'⟩
                go_wp2_with fail
                go_roundw
                case rel => exact ⟨q + 1, by omega, by go_num, HA, Below.next (Below.drewN hbw _) hb', (hbl.drewN _).keep hb'⟩
                case measure => simp [intOf]; omega
              · have HPV := Lib.hid (HP.out.trans (partsM_val hall.out hlt HKY.out (fun h => absurd h h0) he))
                have hne : (t.map[q].2.parts != 0) = true := by rw [bne_iff_ne]; exact he
                generalize t.map[q].2.parts = pe at HIH HPV hne
                clear he
                go_wp2_with fail
                refine (HIH.out _ _ (HREP.out.keep (by exact Below.drewN (Below.refl _ _) _))).mono ?_
                rintro e w' ⟨rfl, hb'⟩
                go_wp2_with fail
                go_ret
                exact ⟨by rw [HPV.out]; rfl, Below.next (Below.drewN hbw _) hb'⟩
          · have HP2 := Lib.hid (HP.out.trans (partsM_all fun i hi => hall.out i (by omega)))
            clear hall
            go_wp2_with fail
            go_ret
            exact ⟨by rw [HP2.out]; rfl, hbw⟩
end Go.Proofs.YtgbbojnigicnoaaDoor
