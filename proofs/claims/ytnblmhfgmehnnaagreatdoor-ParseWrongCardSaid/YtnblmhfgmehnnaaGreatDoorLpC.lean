/- parse's laws: ParseWrong. -/
import Derived.Test.YtnblmhfgmehnnaaGreatDoorBdAT
namespace Go.Proofs.YtnblmhfgmehnnaaGreatDoor
open Go.RowKit Go.Lib
attribute [local go_sem ↓] Go.wp_at_zero Go.wp_at_succ

/-- Templates that aren't written so, and what is wrong. -/
def wrongs : List (List UInt8 × Int) := [([123, 123, 32, 105, 102, 32, 46, 97, 32, 125, 125], 21), ([123, 123, 32, 101, 110, 100, 32, 125, 125], 21), ([123, 123, 32, 101, 108, 115, 101, 32, 125, 125], 21), ([123, 123, 32, 105, 102, 32, 46, 97, 32, 125, 125, 123, 123, 32, 101, 110, 100, 32, 120, 32, 125, 125], 21), ([123, 123, 32, 46, 97], 21), ([123, 123, 32, 125, 125], 20), ([123, 123, 32, 40, 32, 46, 97, 32, 125, 125], 20), ([123, 123, 32, 46, 97, 32, 124, 32, 46, 98, 32, 125, 125], 20), ([123, 123, 32, 36, 32, 125, 125], 20), ([123, 123, 32, 34, 120, 32, 125, 125], 21), ([123, 123, 32, 57, 50, 50, 51, 51, 55, 50, 48, 51, 54, 56, 53, 52, 55, 55, 53, 56, 48, 56, 32, 125, 125], 9), ([123, 123, 32, 100, 101, 102, 105, 110, 101, 32, 46, 120, 32, 125, 125, 123, 123, 32, 101, 110, 100, 32, 125, 125], 22), ([123, 123, 32, 105, 102, 32, 46, 97, 32, 125, 125, 123, 123, 32, 100, 101, 102, 105, 110, 101, 32, 34, 120, 34, 32, 125, 125, 123, 123, 32, 101, 110, 100, 32, 125, 125, 123, 123, 32, 101, 110, 100, 32, 125, 125], 22), ([123, 123, 32, 34, 92, 113, 34, 32, 125, 125], 11), ([123, 123, 32, 40, 40, 40, 40, 40, 40, 40, 40, 40, 40, 40, 40, 40, 40, 40, 40, 40, 32, 46, 97, 32, 41, 41, 41, 41, 41, 41, 41, 41, 41, 41, 41, 41, 41, 41, 41, 41, 41, 32, 125, 125], 5), ([123, 123, 32, 46, 97, 32, 46, 98, 32, 125, 125], 20), ([123, 123, 32, 45, 32, 125, 125], 20)]
theorem wrongs_all : wrongs.map (fun p => parseG p.1) = wrongs.map (fun p => (([] : List Nd), p.2)) := by kernel_rfl
theorem wrongs_small : wrongs.all (fun p => decide (p.1.length ≤ 65536) && decide (p.2 ≠ 0)) = true := by decide +kernel
theorem wrongs_at {k : Nat} {p : List UInt8 × Int} (h : wrongs[k]? = some p) : parseF p.1 = ([], p.2) ∧ p.1.length ≤ 65536 ∧ p.2 ≠ 0 := by
  have h1 := congrArg (fun l => l[k]?) wrongs_all
  simp only [List.getElem?_map, h, Option.map_some, Option.some.injEq] at h1
  have h2 := List.all_eq_true.1 wrongs_small p (List.mem_of_getElem? h)
  simp only [Bool.and_eq_true, decide_eq_true_eq] at h2
  exact ⟨by rw [parse_fuel, h1], h2⟩
def wrongRow : Array Value := #[.string ⟨#[123, 123, 32, 105, 102, 32, 46, 97, 32, 125, 125]⟩, .int .i64 21, .string ⟨#[123, 123, 32, 101, 110, 100, 32, 125, 125]⟩, .int .i64 21, .string ⟨#[123, 123, 32, 101, 108, 115, 101, 32, 125, 125]⟩, .int .i64 21, .string ⟨#[123, 123, 32, 105, 102, 32, 46, 97, 32, 125, 125, 123, 123, 32, 101, 110, 100, 32, 120, 32, 125, 125]⟩, .int .i64 21, .string ⟨#[123, 123, 32, 46, 97]⟩, .int .i64 21, .string ⟨#[123, 123, 32, 125, 125]⟩, .int .i64 20, .string ⟨#[123, 123, 32, 40, 32, 46, 97, 32, 125, 125]⟩, .int .i64 20, .string ⟨#[123, 123, 32, 46, 97, 32, 124, 32, 46, 98, 32, 125, 125]⟩, .int .i64 20, .string ⟨#[123, 123, 32, 36, 32, 125, 125]⟩, .int .i64 20, .string ⟨#[123, 123, 32, 34, 120, 32, 125, 125]⟩, .int .i64 21, .string ⟨#[123, 123, 32, 57, 50, 50, 51, 51, 55, 50, 48, 51, 54, 56, 53, 52, 55, 55, 53, 56, 48, 56, 32, 125, 125]⟩, .int .i64 9, .string ⟨#[123, 123, 32, 100, 101, 102, 105, 110, 101, 32, 46, 120, 32, 125, 125, 123, 123, 32, 101, 110, 100, 32, 125, 125]⟩, .int .i64 22, .string ⟨#[123, 123, 32, 105, 102, 32, 46, 97, 32, 125, 125, 123, 123, 32, 100, 101, 102, 105, 110, 101, 32, 34, 120, 34, 32, 125, 125, 123, 123, 32, 101, 110, 100, 32, 125, 125, 123, 123, 32, 101, 110, 100, 32, 125, 125]⟩, .int .i64 22, .string ⟨#[123, 123, 32, 34, 92, 113, 34, 32, 125, 125]⟩, .int .i64 11, .string ⟨#[123, 123, 32, 40, 40, 40, 40, 40, 40, 40, 40, 40, 40, 40, 40, 40, 40, 40, 40, 40, 32, 46, 97, 32, 41, 41, 41, 41, 41, 41, 41, 41, 41, 41, 41, 41, 41, 41, 41, 41, 41, 32, 125, 125]⟩, .int .i64 5, .string ⟨#[123, 123, 32, 46, 97, 32, 46, 98, 32, 125, 125]⟩, .int .i64 20, .string ⟨#[123, 123, 32, 45, 32, 125, 125]⟩, .int .i64 20]
theorem wrongs_row : wrongRow.toList = wrongs.flatMap (fun p => [Value.string (bs p.1), Value.int .i64 p.2]) := by kernel_rfl
theorem flat_two {α β : Type} (f g : α → β) : ∀ (l : List α) (k : Nat) (p : α), l[k]? = some p → (l.flatMap (fun p => [f p, g p]))[k * 2]? = some (f p) ∧ (l.flatMap (fun p => [f p, g p]))[k * 2 + 1]? = some (g p)
  | [], k, p, h => by simp at h
  | a :: l, 0, p, h => by
    simp only [List.getElem?_cons_zero, Option.some.injEq] at h
    subst h
    simp
  | a :: l, k + 1, p, h => by
    rw [List.getElem?_cons_succ] at h
    have ih := flat_two f g l k p h
    rw [List.flatMap_cons]
    have e1 : (k + 1) * 2 = k * 2 + 1 + 1 := by omega
    have e2 : (k + 1) * 2 + 1 = k * 2 + 1 + 1 + 1 := by omega
    rw [e1]
    simpa using ih
theorem wrong_cells {k : Nat} {p : List UInt8 × Int} (h : wrongs[k]? = some p) : wrongRow[k * 2]? = some (Value.string (bs p.1)) ∧ wrongRow[k * 2 + 1]? = some (Value.int .i64 p.2) := by
  have h1 := flat_two (fun p : List UInt8 × Int => Value.string (bs p.1)) (fun p => Value.int .i64 p.2) wrongs k p h
  rw [← wrongs_row, Array.getElem?_toList, Array.getElem?_toList] at h1
  exact h1
theorem ex_empty : allF [] = (Ex.zero, 20) := by kernel_rfl

set_option maxRecDepth 100000 in
set_option maxHeartbeats 8000000 in
theorem wrong07 (n : Int) (w : World) (hm : MaxL w) (hv : ScalV w) : Calls Tryz.prog 6 #[.int .i64 n] w fun e w' => e = .returned (.bool true) ∧ Below w.heap.size w w' := by
  have HM := Lib.hid hm; have HV := Lib.hid hv
  clear hm hv
  go_enter Tryz.func6, Tryz.ntmps6
  go_upto_region 2 with fail
  have hr0 : Blk (w.alloc (.cells wrongRow 57)) w.heap.size 57 wrongRow := Blk.new _ _ _
  have hb0 := Below.new w (.cells wrongRow 57)
  obtain ⟨W0, e0⟩ : ∃ z, z = w.alloc (.cells wrongRow 57) := ⟨_, rfl⟩
  obtain ⟨g, eg⟩ : ∃ z, z = w.heap.size := ⟨_, rfl⟩
  rw [← e0] at hr0 hb0
  rw [← eg] at hr0
  unfold wrongRow at e0
  dsimp only at e0
  rw [← e0, ← eg]
  have HR0 := Lib.hid hr0; have HB0 := Lib.hid hb0
  clear e0 eg hr0 hb0
  go_loopg [28] 17 (fun gg x28 wr => ∃ k : Nat, x28 = .int .i64 k ∧ gg + k = 17 ∧ Hid (Below w.heap.size w wr) ∧ Hid (Blk wr g 57 wrongRow))
  case atStart => exact ⟨0, rfl, rfl, HB0, HR0⟩
  case round =>
    obtain ⟨k, rfl, hk, HB, HR⟩ := hrel
    by_cases hlt : k < 17
    · obtain ⟨⟨s, b⟩, hp⟩ : ∃ p, wrongs[k]? = some p := ⟨wrongs[k]'(by rw [show wrongs.length = 17 from rfl]; exact hlt), List.getElem?_eq_getElem _⟩
      obtain ⟨hq, hz, hbz⟩ := wrongs_at hp
      obtain ⟨c0, c1⟩ := wrong_cells hp
      rw [← HR.out.cell] at c0 c1
      simp only at hq hz hbz c0 c1
      have hgl := HR.out.lt; have fg := HR.out.frozen
      have hqs : parseF (bs s).data.toList = ([], b) := hq
      have CPR := Lib.hid (fun (W : World) (hmW : MaxL W) (hvW : ScalV W) => show Calls Tryz.prog 12 #[.string (bs s)] W (fun e w' => ∃ a k, e = .returned (.tuple #[.slice a 0 k, .int .i64 b]) ∧ Below W.heap.size W w') from (tParse (bs s) W (by rw [bs_size]; exact hz) hmW hvW).mono (fun e w' ⟨a, k, h1, _, _, h4⟩ => ⟨a, k, by rw [hqs] at h1; exact h1, h4⟩))
      obtain ⟨S0, hS0⟩ : ∃ z, z = bs s := ⟨_, rfl⟩
      rw [← hS0] at CPR c0
      have HS0 := Lib.hid hS0
      clear hp hq hz hbz hS0 hqs
      have hlt2 : (k : Int) < 17 := by omega
      have hwk : IntKind.i64.wrap ((k : Int) + 1) = (k : Int) + 1 := wrap_fit (by omega) (by omega)
      go_upto_region 4 with fail
      have hba := Below.new wr (.cells #[.string S0, .int .i64 b] 57)
      have HB1 := Lib.hid (Below.next HB.out hba); have HR1 := Lib.hid (HR.out.keep hba); have HX1 := Lib.hid (Blk.new wr 57 #[.string S0, .int .i64 b])
      obtain ⟨W1, e1⟩ : ∃ z, z = wr.alloc (.cells #[.string S0, .int .i64 b] 57) := ⟨_, rfl⟩
      obtain ⟨n4, e4⟩ : ∃ z, z = wr.heap.size := ⟨_, rfl⟩
      rw [← e1] at HB1 HR1 HX1
      rw [← e4] at HX1
      rw [← e1, ← e4]
      clear e1 e4 hba c0 c1 fg hgl
      have k4 := HX1.out.cell; have f4 := HX1.out.frozen; have l4 := HX1.out.lt
      go_wp2_with fail
      refine (CPR.out _ (HM.out.keep HB1.out) (HV.out.keep HB1.out)).mono ?_
      rintro e w2 ⟨a, c, rfl, hb2⟩
      have HB2 := Lib.hid (Below.next HB1.out hb2); have HR2 := Lib.hid (HR1.out.keep hb2); have HX2 := Lib.hid (HX1.out.keep hb2)
      clear hb2 k4 f4 l4
      have k4 := HX2.out.cell; have f4 := HX2.out.frozen; have l4 := HX2.out.lt
      go_wp2_with fail
      go_roundg (16 - k)
      case measure => omega
      case rel => exact ⟨k + 1, by go_num, by omega, HB2, HR2⟩
    · have hge : ¬ (k : Int) < 17 := by omega
      have CP := Lib.hid (tPipe ⟨#[]⟩ wr (by decide) (HV.out.keep HB.out))
      unfold AllPost at CP
      rw [show (⟨#[]⟩ : ByteArray).data.toList = [] from rfl, ex_empty] at CP
      simp only at CP
      go_wp2_with fail
      refine CP.out.mono ?_
      rintro e w2 ⟨cs, rfl, hx2, hb2⟩
      obtain ⟨la, lc, ma, mc, sa, sc, aa, ac, rfl, -⟩ := hx2.1.inv
      have hba := Below.new w2 (.cells #[.int .i64 Ex.zero.kind, .int .i64 Ex.zero.val.kind, .bool Ex.zero.val.bool, .int .i64 Ex.zero.val.int, .string Ex.zero.val.str, .slice la Ex.zero.val.list.length lc, .slice ma Ex.zero.val.map.length mc, .string Ex.zero.name, .slice sa Ex.zero.steps.length sc, .slice aa Ex.zero.args.length ac] 50)
      have HB2 := Lib.hid (Below.next (Below.next HB.out hb2) hba)
      have CW := Lib.hid (tawake7 (w2.alloc (.cells #[.int .i64 Ex.zero.kind, .int .i64 Ex.zero.val.kind, .bool Ex.zero.val.bool, .int .i64 Ex.zero.val.int, .string Ex.zero.val.str, .slice la Ex.zero.val.list.length lc, .slice ma Ex.zero.val.map.length mc, .string Ex.zero.name, .slice sa Ex.zero.steps.length sc, .slice aa Ex.zero.args.length ac] 50)) (HM.out.keep HB2.out) (HV.out.keep HB2.out))
      have CN := Lib.hid (fun (W : World) => tnameL ⟨#[]⟩ W (by decide))
      rw [show nameL (⟨#[]⟩ : ByteArray).data.toList = false from by decide] at CN
      clear hx2 hb2 hba CP
      simp only [Ex.zero, Ex.kind, Ex.val, Ex.name, Ex.steps, Ex.args, T.zero, T.kind, T.bool, T.int, T.str, T.list, T.map, List.length_nil] at HB2 CW ⊢
      go_wp2_with fail
      refine CW.out.mono ?_
      rintro e w3 ⟨rfl, hb3⟩
      have HB3 := Lib.hid (Below.next HB2.out hb3)
      clear hb3
      go_wp2_with fail
      refine (CN.out _).mono ?_
      rintro e w4 ⟨rfl, rfl⟩
      go_wp2_with fail
      go_ret
      exact ⟨rfl, HB3.out⟩
  
end Go.Proofs.YtnblmhfgmehnnaaGreatDoor
