/- parse's laws: ParseNests. -/
import Derived.Test.YtnblmhfgmehnnaaGreatDoorBdAT
import Derived.Lib.Repeat
namespace Go.Proofs.YtnblmhfgmehnnaaGreatDoor
open Go.RowKit Go.Lib
attribute [local go_sem ↓] Go.wp_at_zero Go.wp_at_succ

theorem trepeat (s : ByteArray) (k : Nat) (w : World) (h0 : 0 < s.size) (hs : s.size ≤ 100) (hk : k ≤ 1000) : Calls Tryz.prog 23 #[.string s, .int .i64 k] w fun e w' => e = .returned (.string (bs (Lib.repeatL s.data.toList k))) ∧ Below w.heap.size w w' := by
  match k, hk with
  | 0, _ => exact (Tryz.strings_Repeat_zero s w).mono fun e w' h => ⟨h.1, by rw [h.2]; exact Below.refl _ _⟩
  | 1, _ => exact (Tryz.strings_Repeat_one s w).mono fun e w' h => ⟨by rw [h.1]; congr 2; simp [Lib.repeatL], by rw [h.2]; exact Below.refl _ _⟩
  | k + 2, hk => exact Tryz.strings_Repeat_main s (k + 2) w (by omega) (by omega) (Nat.le_trans (Nat.mul_le_mul hs hk) (by omega)) h0
def openB : List UInt8 := [40]
def closeB : List UInt8 := [41]
def openI : List UInt8 := [123, 123, 32, 105, 102, 32, 46, 97, 32, 125, 125]
def closeI : List UInt8 := [123, 123, 32, 101, 110, 100, 32, 125, 125]
def nestS (k : Nat) : List UInt8 := Lib.repeatL openB k ++ [46, 97] ++ Lib.repeatL closeB k
def nestT (k : Nat) : List UInt8 := Lib.repeatL openI k ++ [120] ++ Lib.repeatL closeI k
def nest : Nat → List Nd
  | 0 => [.mk 0 ⟨#[120]⟩ Ex.zero ⟨#[]⟩ ⟨#[]⟩ [] []]
  | k + 1 => [.mk 2 ⟨#[]⟩ xA ⟨#[]⟩ ⟨#[]⟩ (nest k) []]
theorem nest_len (k : Nat) : (nest k).length = 1 := by cases k <;> rfl
theorem nests_x : (List.range 40).map (fun k => allF (nestS k)) = (List.range 40).map (fun k => if k ≤ 16 then (xA, 0) else (Ex.zero, 5)) := by kernel_rfl
theorem nests_l : (List.range 40).map (fun k => parseG (nestT k)) = (List.range 40).map (fun k => if k ≤ 16 then (nest k, 0) else ([], 5)) := by kernel_rfl
theorem nests_z : (List.range 40).all (fun k => decide ((nestS k).length ≤ 1000) && decide ((nestT k).length ≤ 1000)) = true := by decide +kernel
theorem nest_at {k : Nat} (h : k < 40) : allF (nestS k) = (if k ≤ 16 then (xA, 0) else (Ex.zero, 5)) ∧ parseF (nestT k) = (if k ≤ 16 then (nest k, 0) else ([], 5)) ∧ (nestS k).length ≤ 1000 ∧ (nestT k).length ≤ 1000 := by
  have hr : (List.range 40)[k]? = some k := by rw [List.getElem?_range h]
  have h1 := congrArg (fun l => l[k]?) nests_x
  have h2 := congrArg (fun l => l[k]?) nests_l
  simp only [List.getElem?_map, hr, Option.map_some, Option.some.injEq] at h1 h2
  have h3 := List.all_eq_true.1 nests_z k (List.mem_of_getElem? hr)
  simp only [Bool.and_eq_true, decide_eq_true_eq] at h3
  exact ⟨h1, by rw [parse_fuel, h2], h3⟩

set_option maxRecDepth 100000 in
set_option maxHeartbeats 8000000 in
theorem nests07 (c : UInt8) (w : World) (hm : MaxL w) (hv : ScalV w) : Calls Tryz.prog 8 #[.int .u8 c.toNat] w fun e w' => e = .returned (.bool true) ∧ Below w.heap.size w w' := by
  have HM := Lib.hid hm; have HV := Lib.hid hv
  have hc := UInt8.toNat_lt c
  clear hm hv
  go_enter Tryz.func8, Tryz.ntmps8
  go_upto_region 2 with fail
  obtain ⟨k, hk⟩ : ∃ z : Nat, z = c.toNat % 40 := ⟨_, rfl⟩
  have hkc : ((c.toNat : Int) % 40) = (k : Int) := by omega
  rw [hkc]
  have hk40 : k < 40 := by omega
  obtain ⟨pu, ps, zu, zs⟩ := nest_at hk40
  have HPU := Lib.hid pu; have HPS := Lib.hid ps
  have cr := fun (s : ByteArray) (W : World) (h0 : 0 < s.size) (hs : s.size ≤ 100) => trepeat s k W h0 hs (by omega)
  obtain ⟨o1, ho1⟩ : ∃ z, z = bs (Lib.repeatL openB k) := ⟨_, rfl⟩
  obtain ⟨c1, hc1⟩ : ∃ z, z = bs (Lib.repeatL closeB k) := ⟨_, rfl⟩
  obtain ⟨o2, ho2⟩ : ∃ z, z = bs (Lib.repeatL openI k) := ⟨_, rfl⟩
  obtain ⟨c2, hc2⟩ : ∃ z, z = bs (Lib.repeatL closeI k) := ⟨_, rfl⟩
  have C1 := Lib.hid (fun (W : World) => show Calls Tryz.prog 23 #[.string ⟨#[40]⟩, .int .i64 k] W (fun e w' => e = .returned (.string o1) ∧ Below W.heap.size W w') from by rw [ho1]; exact cr ⟨#[40]⟩ W (by decide) (by decide))
  have C2 := Lib.hid (fun (W : World) => show Calls Tryz.prog 23 #[.string ⟨#[41]⟩, .int .i64 k] W (fun e w' => e = .returned (.string c1) ∧ Below W.heap.size W w') from by rw [hc1]; exact cr ⟨#[41]⟩ W (by decide) (by decide))
  have C3 := Lib.hid (fun (W : World) => show Calls Tryz.prog 23 #[.string ⟨#[123, 123, 32, 105, 102, 32, 46, 97, 32, 125, 125]⟩, .int .i64 k] W (fun e w' => e = .returned (.string o2) ∧ Below W.heap.size W w') from by rw [ho2]; exact cr ⟨#[123, 123, 32, 105, 102, 32, 46, 97, 32, 125, 125]⟩ W (by decide) (by decide))
  have C4 := Lib.hid (fun (W : World) => show Calls Tryz.prog 23 #[.string ⟨#[123, 123, 32, 101, 110, 100, 32, 125, 125]⟩, .int .i64 k] W (fun e w' => e = .returned (.string c2) ∧ Below W.heap.size W w') from by rw [hc2]; exact cr ⟨#[123, 123, 32, 101, 110, 100, 32, 125, 125]⟩ W (by decide) (by decide))
  have z1 : o1.size ≤ 1000 := by rw [ho1, bs_size, Lib.repeatL_length]; simp only [openB, List.length_cons, List.length_nil]; omega
  have z2 : c1.size ≤ 1000 := by rw [hc1, bs_size, Lib.repeatL_length]; simp only [closeB, List.length_cons, List.length_nil]; omega
  have z3 : o2.size ≤ 1000 := by rw [ho2, bs_size, Lib.repeatL_length]; simp only [openI, List.length_cons, List.length_nil]; omega
  have z4 : c2.size ≤ 1000 := by rw [hc2, bs_size, Lib.repeatL_length]; simp only [closeI, List.length_cons, List.length_nil]; omega
  have ES := Lib.hid (show (o1 ++ ⟨#[46, 97]⟩ ++ c1).data.toList = nestS k from by rw [ho1, hc1]; simp [nestS])
  have ET := Lib.hid (show (o2 ++ ⟨#[120]⟩ ++ c2).data.toList = nestT k from by rw [ho2, hc2]; simp [nestT])
  clear hk hkc pu ps cr ho1 hc1 ho2 hc2
  go_wp2_with fail
  refine (C1.out _).mono ?_
  rintro e w1 ⟨rfl, hb1⟩
  have HB1 := Lib.hid hb1
  clear hb1
  go_wp2_with fail
  refine (C2.out _).mono ?_
  rintro e w2 ⟨rfl, hb2⟩
  have HB2 := Lib.hid (Below.next HB1.out hb2)
  clear hb2 HB1
  go_wp2_with fail
  have sz1 : (o1 ++ ⟨#[46, 97]⟩ ++ c1).size ≤ 1000000 := by rw [ByteArray.size_append, ByteArray.size_append]; have : (⟨#[46, 97]⟩ : ByteArray).size = 2 := rfl; omega
  have sz2 : (o2 ++ ⟨#[120]⟩ ++ c2).size ≤ 65536 := by rw [ByteArray.size_append, ByteArray.size_append]; have : (⟨#[120]⟩ : ByteArray).size = 1 := rfl; omega
  by_cases h16 : k ≤ 16
  · have CPI := Lib.hid (fun (W : World) (hvW : ScalV W) => show Calls Tryz.prog 17 #[.string (o1 ++ ⟨#[46, 97]⟩ ++ c1)] W (fun e w' => ∃ cs, e = .returned (.tuple #[.agg (List.toArray cs), .int .i64 0]) ∧ RepO w' W.heap.size cs xA ∧ Below W.heap.size W w') from by
      have h9 := tPipe _ W sz1 hvW
      unfold AllPost at h9
      rw [ES.out, HPU.out, if_pos h16] at h9
      exact h9)
    have CPR := Lib.hid (fun (W : World) (hmW : MaxL W) (hvW : ScalV W) => show Calls Tryz.prog 12 #[.string (o2 ++ ⟨#[120]⟩ ++ c2)] W (fun e w' => ∃ a c, e = .returned (.tuple #[.slice a 1 c, .int .i64 0]) ∧ RepNs w' (fun b => W.heap.size ≤ b) a (nest k) ∧ Below W.heap.size W w') from by
      have h9 := tParse _ W sz2 hmW hvW
      refine h9.mono ?_
      rintro e w' ⟨a, c, h1, h2, -, h3⟩
      rw [ET.out, HPS.out, if_pos h16] at h1 h2
      rw [nest_len] at h1
      exact ⟨a, c, h1, h2, h3⟩)
    have gk : decide ((k : Int) > 16) = false := decide_eq_false (by omega)
    clear sz1 sz2 ES ET HPU HPS zu zs
    refine (CPI.out _ (HV.out.keep HB2.out)).mono ?_
    rintro e w3 ⟨cs, rfl, hx3, hb3⟩
    obtain ⟨la, lc, ma, mc, sa, sc, aa, ac, rfl, -⟩ := hx3.1.inv
    have hba := Below.new w3 (.cells #[.int .i64 xA.kind, .int .i64 xA.val.kind, .bool xA.val.bool, .int .i64 xA.val.int, .string xA.val.str, .slice la xA.val.list.length lc, .slice ma xA.val.map.length mc, .string xA.name, .slice sa xA.steps.length sc, .slice aa xA.args.length ac] 50)
    have hX3 := Blk.new w3 50 #[.int .i64 xA.kind, .int .i64 xA.val.kind, .bool xA.val.bool, .int .i64 xA.val.int, .string xA.val.str, .slice la xA.val.list.length lc, .slice ma xA.val.map.length mc, .string xA.name, .slice sa xA.steps.length sc, .slice aa xA.args.length ac]
    have hB3 := Below.next (Below.next HB2.out hb3) hba
    simp only [xA, Ex.kind, Ex.val, Ex.name, Ex.steps, Ex.args, T.zero, T.kind, T.bool, T.int, T.str, T.list, T.map, List.length_nil, List.length_singleton] at hX3 hB3 ⊢
    go_upto_region 3 with fail
    obtain ⟨W3, e3⟩ : ∃ z, z = w3.alloc (.cells #[.int .i64 1, .int .i64 0, .bool false, .int .i64 0, .string ⟨#[]⟩, .slice la 0 lc, .slice ma 0 mc, .string ⟨#[]⟩, .slice sa 1 sc, .slice aa 0 ac] 50) := ⟨_, rfl⟩
    obtain ⟨n4, e4⟩ : ∃ z, z = w3.heap.size := ⟨_, rfl⟩
    rw [← e3] at hX3 hB3
    rw [← e4] at hX3
    rw [← e3, ← e4]
    have HX3 := Lib.hid hX3; have HB3 := Lib.hid hB3
    clear e3 e4 hX3 hB3 hba hb3 hx3 HB2
    go_wp2_with fail
    refine (C3.out _).mono ?_
    rintro e w4 ⟨rfl, hb4⟩
    have HX4 := Lib.hid (HX3.out.keep hb4); have HB4 := Lib.hid (Below.next HB3.out hb4)
    clear hb4
    go_wp2_with fail
    refine (C4.out _).mono ?_
    rintro e w5 ⟨rfl, hb5⟩
    have HX5 := Lib.hid (HX4.out.keep hb5); have HB5 := Lib.hid (Below.next HB4.out hb5)
    clear hb5
    go_wp2_with fail
    refine (CPR.out _ (HM.out.keep HB5.out) (HV.out.keep HB5.out)).mono ?_
    rintro e w6 ⟨a6, c6, rfl, hr6, hb6⟩
    have HX6 := Lib.hid (HX5.out.keep hb6); have HB6 := Lib.hid (Below.next HB5.out hb6); have HR6 := Lib.hid (hr6.mono (S' := fun _ => True) (fun _ _ _ => trivial) (fun _ _ _ _ => rfl))
    clear hb6 hr6
    have k4 := HX6.out.cell; have f4 := HX6.out.frozen; have l4 := HX6.out.lt
    go_wp2_with fail
    go_loopg [6, 64] k (fun gg x6 x64 wr => ∃ (i : Nat) (a : Option Addr) (c : Nat), x64 = .int .i64 i ∧ gg + i = k ∧ x6 = .slice a 1 c ∧ wr = w6 ∧ Hid (RepNs w6 (fun _ => True) a (nest gg)))
    case atStart => exact ⟨0, a6, c6, rfl, rfl, rfl, rfl, HR6⟩
    case round =>
      obtain ⟨i, a, c', rfl, hi, rfl, rfl, HR⟩ := hrel
      cases gk with
      | succ j =>
        have hlt : (i : Int) < k := by omega
        have hwk : IntKind.i64.wrap ((i : Int) + 1) = (i : Int) + 1 := wrap_fit (by omega) (by omega)
        have hr := HR.out
        rw [nest] at hr
        obtain ⟨b, o, la1, lc1, ma1, mc1, sa1, sc1, aa1, ac1, ba, bc, ea, ec, rfl, hcl, hp⟩ := repNs_one hr
        have c0 : wr.cell? ⟨b, o, none⟩ = some (.int .i64 2) := hcl 0 _ rfl
        have c14 : wr.cell? ⟨b, o + 14, none⟩ = some (.slice ba 1 bc) := by have h9 := hcl 14 _ rfl; rw [show (Nd.mk 2 ⟨#[]⟩ xA ⟨#[]⟩ ⟨#[]⟩ (nest j) []).body.length = 1 from nest_len j] at h9; exact h9
        have HRB := Lib.hid (show RepNs wr (fun _ => True) ba (nest j) from hp.body)
        clear hr hcl hp
        go_wp2_with fail
        go_roundg j
        case measure => omega
        case rel => exact ⟨i + 1, ba, bc, by go_num, by omega, rfl, rfl, HRB⟩
      | zero =>
        have hge : ¬ (i : Int) < k := by omega
        have hr := HR.out
        rw [nest] at hr
        obtain ⟨b, o, la1, lc1, ma1, mc1, sa1, sc1, aa1, ac1, ba, bc, ea, ec, rfl, hcl, hp⟩ := repNs_one hr
        have c1' : wr.cell? ⟨b, o + 1, none⟩ = some (.string ⟨#[120]⟩) := hcl 1 _ rfl
        have hbl := block_lt_of_cell c1'
        have CW := Lib.hid (tawake7 wr (HM.out.keep HB6.out) (HV.out.keep HB6.out))
        have C1H := Lib.hid c1'
        clear hr hcl hp c1' k4 f4 l4
        go_wp2_with fail
        refine CW.out.mono ?_
        rintro e w7 ⟨rfl, hb7⟩
        have c1' : w7.cell? ⟨b, o + 1, none⟩ = some (.string ⟨#[120]⟩) := (hb7.cell (p := ⟨b, o + 1, none⟩) hbl).trans C1H.out
        have HB7 := Lib.hid (Below.next HB6.out hb7)
        clear hb7
        go_wp2_with fail
        go_ret
        exact ⟨rfl, HB7.out⟩
  · have CPI := Lib.hid (fun (W : World) (hvW : ScalV W) => show Calls Tryz.prog 17 #[.string (o1 ++ ⟨#[46, 97]⟩ ++ c1)] W (fun e w' => ∃ cs, e = .returned (.tuple #[.agg (List.toArray cs), .int .i64 5]) ∧ RepO w' W.heap.size cs Ex.zero ∧ Below W.heap.size W w') from by
      have h9 := tPipe _ W sz1 hvW
      unfold AllPost at h9
      rw [ES.out, HPU.out, if_neg h16] at h9
      exact h9)
    have CPR := Lib.hid (fun (W : World) (hmW : MaxL W) (hvW : ScalV W) => show Calls Tryz.prog 12 #[.string (o2 ++ ⟨#[120]⟩ ++ c2)] W (fun e w' => ∃ a c, e = .returned (.tuple #[.slice a 0 c, .int .i64 5]) ∧ Below W.heap.size W w') from by
      have h9 := tParse _ W sz2 hmW hvW
      refine h9.mono ?_
      rintro e w' ⟨a, c, h1, -, -, h3⟩
      rw [ET.out, HPS.out, if_neg h16] at h1
      exact ⟨a, c, h1, h3⟩)
    have gk : decide ((k : Int) > 16) = true := decide_eq_true (by omega)
    clear sz1 sz2 ES ET HPU HPS zu zs h16
    refine (CPI.out _ (HV.out.keep HB2.out)).mono ?_
    rintro e w3 ⟨cs, rfl, hx3, hb3⟩
    obtain ⟨la, lc, ma, mc, sa, sc, aa, ac, rfl, -⟩ := hx3.1.inv
    have hba := Below.new w3 (.cells #[.int .i64 Ex.zero.kind, .int .i64 Ex.zero.val.kind, .bool Ex.zero.val.bool, .int .i64 Ex.zero.val.int, .string Ex.zero.val.str, .slice la Ex.zero.val.list.length lc, .slice ma Ex.zero.val.map.length mc, .string Ex.zero.name, .slice sa Ex.zero.steps.length sc, .slice aa Ex.zero.args.length ac] 50)
    have hB3 := Below.next (Below.next HB2.out hb3) hba
    simp only [Ex.zero, Ex.kind, Ex.val, Ex.name, Ex.steps, Ex.args, T.zero, T.kind, T.bool, T.int, T.str, T.list, T.map, List.length_nil] at hB3 ⊢
    go_upto_region 3 with fail
    obtain ⟨W3, e3⟩ : ∃ z, z = w3.alloc (.cells #[.int .i64 0, .int .i64 0, .bool false, .int .i64 0, .string ⟨#[]⟩, .slice la 0 lc, .slice ma 0 mc, .string ⟨#[]⟩, .slice sa 0 sc, .slice aa 0 ac] 50) := ⟨_, rfl⟩
    rw [← e3] at hB3
    rw [← e3]
    have HB3 := Lib.hid hB3
    clear e3 hB3 hba hb3 hx3 HB2
    go_wp2_with fail
    refine (C3.out _).mono ?_
    rintro e w4 ⟨rfl, hb4⟩
    have HB4 := Lib.hid (Below.next HB3.out hb4)
    clear hb4
    go_wp2_with fail
    refine (C4.out _).mono ?_
    rintro e w5 ⟨rfl, hb5⟩
    have HB5 := Lib.hid (Below.next HB4.out hb5)
    clear hb5
    go_wp2_with fail
    refine (CPR.out _ (HM.out.keep HB5.out) (HV.out.keep HB5.out)).mono ?_
    rintro e w6 ⟨a6, c6, rfl, hb6⟩
    have HB6 := Lib.hid (Below.next HB5.out hb6)
    have CW := Lib.hid (tawake7 w6 (HM.out.keep HB6.out) (HV.out.keep HB6.out))
    clear hb6
    go_wp2_with fail
    refine CW.out.mono ?_
    rintro e w7 ⟨rfl, hb7⟩
    have HB7 := Lib.hid (Below.next HB6.out hb7)
    clear hb7
    go_wp2_with fail
    go_ret
    exact ⟨rfl, HB7.out⟩
end Go.Proofs.YtnblmhfgmehnnaaGreatDoor
