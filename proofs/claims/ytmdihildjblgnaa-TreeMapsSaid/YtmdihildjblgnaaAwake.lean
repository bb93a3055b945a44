/- The first document's example answers true. -/
import Derived.Test.YtmdihildjblgnaaLaw
import Derived.Test.YtmdihildjblgnaaGetW
namespace Go.Proofs.Ytmdihildjblgnaa
open Go.RowKit

theorem awake_map : mapT [(⟨#[98]⟩, tI 1), (⟨#[97]⟩, tI 2), (⟨#[98]⟩, tI 3)] = [(⟨#[97]⟩, tI 2), (⟨#[98]⟩, tI 3)] := by
  simp [mapT, ins, klt, ByteArray.toList_eq, Op.bytesLess]
theorem awake_a : getT (mkMap [(⟨#[97]⟩, tI 2), (⟨#[98]⟩, tI 3)]) ⟨#[97]⟩ = some (tI 2) := by simp [getT, mkMap, T.kind, T.map, look]
theorem awake_b : getT (mkMap [(⟨#[97]⟩, tI 2), (⟨#[98]⟩, tI 3)]) ⟨#[98]⟩ = some (tI 3) := by simp [getT, mkMap, T.kind, T.map, look]

set_option maxRecDepth 100000 in
set_option maxHeartbeats 4000000 in
theorem awake1 (w : World) : Calls Try.prog 24 #[] w fun e w' => e = .returned (.bool true) ∧ Below w.heap.size w w' := by
  go_enter Try.func24, Try.ntmps24
  go_wp2_with fail
  refine (tint' 1 (by unfold i64ok; omega) _).mono ?_
  rintro e w1 ⟨v1, rfl, hr1, hb1⟩
  obtain ⟨la1, lc1, ma1, mc1, rfl, -⟩ := hr1.inv
  have HR1 := Lib.hid hr1
  have HB1 := Lib.hid hb1
  clear hr1 hb1
  go_wp2_with fail
  refine (tint' 2 (by unfold i64ok; omega) _).mono ?_
  rintro e w2 ⟨v2, rfl, hr2, hb2⟩
  obtain ⟨la2, lc2, ma2, mc2, rfl, -⟩ := hr2.inv
  have HR2 := Lib.hid hr2
  have HB2 := Lib.hid hb2
  clear hr2 hb2
  go_wp2_with fail
  refine (tint' 3 (by unfold i64ok; omega) _).mono ?_
  rintro e w3 ⟨v3, rfl, hr3, hb3⟩
  obtain ⟨la3, lc3, ma3, mc3, rfl, -⟩ := hr3.inv
  have HR3 := Lib.hid hr3
  have HB3 := Lib.hid hb3
  clear hr3 hb3
  go_wp2_with fail
  have HM3 : RepM (w3.alloc (.cells #[.string ⟨#[98]⟩, .int .i64 (tI 1).kind, .bool (tI 1).bool, .int .i64 (tI 1).int, .string (tI 1).str, .slice la1 (tI 1).list.length lc1, .slice ma1 (tI 1).map.length mc1, .string ⟨#[97]⟩, .int .i64 (tI 2).kind, .bool (tI 2).bool, .int .i64 (tI 2).int, .string (tI 2).str, .slice la2 (tI 2).list.length lc2, .slice ma2 (tI 2).map.length mc2, .string ⟨#[98]⟩, .int .i64 (tI 3).kind, .bool (tI 3).bool, .int .i64 (tI 3).int, .string (tI 3).str, .slice la3 (tI 3).list.length lc3, .slice ma3 (tI 3).map.length mc3] 43)) (fun _ => True) (some ⟨w3.heap.size, 0, none⟩) [(⟨#[98]⟩, tI 1), (⟨#[97]⟩, tI 2), (⟨#[98]⟩, tI 3)] :=
    repE_M.1 (rep_block (E := eltP) [[.string ⟨#[98]⟩, .int .i64 (tI 1).kind, .bool (tI 1).bool, .int .i64 (tI 1).int, .string (tI 1).str, .slice la1 (tI 1).list.length lc1, .slice ma1 (tI 1).map.length mc1], [.string ⟨#[97]⟩, .int .i64 (tI 2).kind, .bool (tI 2).bool, .int .i64 (tI 2).int, .string (tI 2).str, .slice la2 (tI 2).list.length lc2, .slice ma2 (tI 2).map.length mc2], [.string ⟨#[98]⟩, .int .i64 (tI 3).kind, .bool (tI 3).bool, .int .i64 (tI 3).int, .string (tI 3).str, .slice la3 (tI 3).list.length lc3, .slice ma3 (tI 3).map.length mc3]] (Blk.new _ _ _) rfl trivial
      ⟨⟨_, rfl, by decide, (((HR1.out.keep HB2.out).keep HB3.out).keep (Below.new _ _)).any⟩, ⟨_, rfl, by decide, ((HR2.out.keep HB3.out).keep (Below.new _ _)).any⟩, ⟨_, rfl, by decide, (HR3.out.keep (Below.new _ _)).any⟩, trivial⟩)
  have HBW := Lib.hid (Below.next (Below.next HB1.out HB2.out) HB3.out)
  refine (tmap [(⟨#[98]⟩, tI 1), (⟨#[97]⟩, tI 2), (⟨#[98]⟩, tI 3)] (some ⟨w3.heap.size, 0, none⟩) 3 _ (fun _ => True) HM3 (by simp)).mono ?_
  rw [awake_map]
  rintro e w4 ⟨v4, rfl, hr4, hb4⟩
  obtain ⟨la4, lc4, ma4, mc4, hv4, -⟩ := hr4.inv
  rw [show (mkMap [(⟨#[97]⟩, tI 2), (⟨#[98]⟩, tI 3)]).map.length = 2 from rfl] at hv4
  subst hv4
  have HR4 := Lib.hid hr4
  have HBW4 := Lib.hid (Below.next HBW.out (Below.next (Below.new _ _) hb4))
  clear hr4 hb4 HM3 HBW
  have HKS : Hid (KS (mkMap [(⟨#[97]⟩, tI 2), (⟨#[98]⟩, tI 3)]).map) := by
    show KS [(⟨#[97]⟩, tI 2), (⟨#[98]⟩, tI 3)]
    rw [← awake_map]; exact mapT_KS _
  have HGA := Lib.hid awake_a
  have HGB := Lib.hid awake_b
  generalize mkMap [(⟨#[97]⟩, tI 2), (⟨#[98]⟩, tI 3)] = m at *
  go_wp2_with fail
  refine (tget_some HGA.out _ _ _ (HR4.out.keep (by exact Below.new _ _)) HKS.out).mono ?_
  rintro e w5 ⟨v5, rfl, hr5, hb5⟩
  obtain ⟨la5, lc5, ma5, mc5, hv5, -⟩ := hr5.inv
  rw [show (tI 2).int = 2 from rfl] at hv5
  subst hv5
  have hk5 := ((Blk.new w4 25 #[.int .i64 m.kind, .bool m.bool, .int .i64 m.int, .string m.str, .slice la4 m.list.length lc4, .slice ma4 2 mc4]).keep hb5).cell
  have hl5 := ((Blk.new w4 25 #[.int .i64 m.kind, .bool m.bool, .int .i64 m.int, .string m.str, .slice la4 m.list.length lc4, .slice ma4 2 mc4]).keep hb5).lt
  have HK5 := Lib.hid ((Blk.new w4 25 #[.int .i64 m.kind, .bool m.bool, .int .i64 m.int, .string m.str, .slice la4 m.list.length lc4, .slice ma4 2 mc4]).keep hb5)
  have HR45 := Lib.hid ((HR4.out.keep (Below.new _ _)).keep hb5)
  have HBW5 := Lib.hid (Below.next HBW4.out (Below.next (Below.new _ _) hb5))
  clear hr5 hb5
  go_wp2_with fail
  refine (tget_some HGB.out _ _ _ (HR45.out.keep (by exact Below.new _ _)) HKS.out).mono ?_
  rintro e w6 ⟨v6, rfl, hr6, hb6⟩
  obtain ⟨la6, lc6, ma6, mc6, hv6, -⟩ := hr6.inv
  rw [show (tI 3).int = 3 from rfl] at hv6
  subst hv6
  have hk6 := ((HK5.out.alloc (.cells #[.int .i64 (tI 2).kind, .bool (tI 2).bool, .int .i64 2, .string (tI 2).str, .slice la5 (tI 2).list.length lc5, .slice ma5 (tI 2).map.length mc5] 25)).keep hb6).cell
  have hl6 := ((HK5.out.alloc (.cells #[.int .i64 (tI 2).kind, .bool (tI 2).bool, .int .i64 2, .string (tI 2).str, .slice la5 (tI 2).list.length lc5, .slice ma5 (tI 2).map.length mc5] 25)).keep hb6).lt
  have hj6 := ((Blk.new w5 25 #[.int .i64 (tI 2).kind, .bool (tI 2).bool, .int .i64 2, .string (tI 2).str, .slice la5 (tI 2).list.length lc5, .slice ma5 (tI 2).map.length mc5]).keep hb6).cell
  have hjl6 := ((Blk.new w5 25 #[.int .i64 (tI 2).kind, .bool (tI 2).bool, .int .i64 2, .string (tI 2).str, .slice la5 (tI 2).list.length lc5, .slice ma5 (tI 2).map.length mc5]).keep hb6).lt
  have HBW6 := Lib.hid (Below.next HBW5.out (Below.next (Below.new _ _) hb6))
  clear hr6 hb6 hk5
  go_wp2_with fail
  go_ret
  exact ⟨rfl, Below.next HBW6.out (Below.new _ _)⟩

end Go.Proofs.Ytmdihildjblgnaa
