/- MeterMany answers true for every input: the law. -/
import Derived.Test.YtkndnoccenlngaaMany
import Derived.Laws.MakeOwn
import Derived.Deep.DrawnRows
import Derived.BigQuiet
import Derived.Deep.QuietTactic
namespace Go.Proofs.Ytkndnoccenlngaa
open Go.RowKit
attribute [local go_sem ↓] Go.wp_at_zero Go.wp_at_succ

theorem int_info : (Try.prog.info? 3).map (fun i => (i.zero, i.size, i.bytes)) = some (some (.int .i64 0), 1, 8) := by kernel_rfl
theorem make_at (n : Nat) (hn : n ≤ 1000) (w : World) : (Instr.makeSlice 37 (.int .i64 (n : Int)) (.int .i64 (n : Int))).run Try.prog w = .ok (.slice (some ⟨w.heap.size, 0, none⟩) n n) (w.alloc (.cells (atc (List.replicate n 0)) 3)) := by
  have hi := int_info
  cases hq : Try.prog.info? 3 with
  | none => rw [hq] at hi; cases hi
  | some i =>
    rw [hq] at hi
    simp only [Option.map_some, Option.some.injEq, Prod.mk.injEq] at hi
    obtain ⟨hz, hs, hb⟩ := hi
    have h := run_makeSlice (P := Try.prog) w 37 3 i (.int .i64 0) Try.underlying37 hq hz .i64 .i64 n n (by omega) (Int.le_refl _) (by rw [hs]; simp; omega) (by rw [hb]; omega) (by omega)
    rw [h, hs]
    congr 3
    unfold madeCells atc
    apply Array.ext
    · simp
    · intro i h1 h2
      simp [Value.cells, Nat.mod_one]
/-- While the reference counts. -/
structure QP (W w : World) (a : Option Addr) (c : Nat) (LL : List (List Int)) (xs : List Int) : Prop where
  b0 : Blk w W.heap.size 22 #[.slice a LL.length c]
  bm : Blk w (W.heap.size + 1) 32 (mcells zeros)
  bq : Blk w (W.heap.size + 1 + 1) 36 (mcells (stat xs))
  bel : Below W.heap.size W w
  top : W.heap.size + 3 ≤ w.heap.size
theorem QP.two {W w w1 w2 : World} {a : Option Addr} {c : Nat} {LL : List (List Int)} {xs : List Int} (h : QP W w a c LL xs) (x : Int) (hx : xs.length ≤ 1000000) (h1 : w.grownBy w1 (some (W.heap.size + 1 + 1))) (h2 : w1.grownBy w2 (some (W.heap.size + 1 + 1)))
    (hb : Blk w2 (W.heap.size + 1 + 1) 36 (mcells (seeF (addF (stat xs) x) x))) : QP W w2 a c LL (xs ++ [x]) := by
  have hg := h1.trans h2
  refine ⟨(hg.block _ h.b0.lt (by simp; omega)).trans h.b0, (hg.block _ h.bm.lt (by simp)).trans h.bm, by rw [← stat_snoc xs x hx]; exact hb, below_met h.bel hg (by omega), Nat.le_trans h.top hg.size⟩

set_option maxRecDepth 100000 in
set_option maxHeartbeats 16000000 in
theorem manyL (LL : List (List Int)) (TT : List Int) (a ta : Option Addr) (c tc : Nat) (w : World) (h : RepLL w.heap.size w a LL) (ht : RepI w (fun _ => True) .u8 ta TT) (hT : ∀ t ∈ TT, 0 ≤ t ∧ t ≤ 255) (hl63 : LL.length ≤ 9223372036854775807) (ht63 : TT.length ≤ 9223372036854775807) :
    Calls Try.prog 3 #[.slice a LL.length c, .slice ta TT.length tc] w fun e w' => e = .returned (.bool true) ∧ Below w.heap.size w w' := by
  by_cases h8 : LL.length ≤ 8
  case neg =>
    have g : (8 : Int) < (LL.length : Int) := by omega
    clear h8
    go_enter Try.func3, Try.ntmps3
    go_wp2_with (go_at_call 6; refine (awake _).mono ?_; rintro e w' ⟨rfl, hb⟩)
    go_ret
    exact ⟨rfl, Below.next (Below.new _ _) hb⟩
  have g8 : ¬ (8 : Int) < (LL.length : Int) := by omega
  by_cases h0 : 0 < LL.length
  case neg =>
    have g : ((LL.length : Int) == 0) = true := by have : LL.length = 0 := by omega
                                                   rw [this]; rfl
    clear h8 h0
    go_enter Try.func3, Try.ntmps3
    go_wp2_with (go_at_call 6; refine (awake _).mono ?_; rintro e w' ⟨rfl, hb⟩)
    go_ret
    exact ⟨rfl, Below.next (Below.new _ _) hb⟩
  have g0 : ((LL.length : Int) == 0) = false := beq_eq_false_iff_ne.2 (by omega)
  by_cases h5 : TT.length ≤ 500
  case neg =>
    have g : (500 : Int) < (TT.length : Int) := by omega
    clear h8 h5 h0
    go_enter Try.func3, Try.ntmps3
    go_wp2_with (go_at_call 6; refine (awake _).mono ?_; rintro e w' ⟨rfl, hb⟩)
    go_ret
    exact ⟨rfl, Below.next (Below.new _ _) hb⟩
  have g5 : ¬ (500 : Int) < (TT.length : Int) := by omega
  have HL := Lib.hid h
  have HT := Lib.hid ht
  have HTB := Lib.hid hT
  have H80 := Lib.hid (And.intro h8 (And.intro h0 h5))
  clear h ht hT h8 h0 h5
  go_enter Try.func3, Try.ntmps3
  go_wp2_with fail
  go_loopw [35] (fun y wr => ∃ q : Nat, q ≤ LL.length ∧ y = .int .i64 q ∧ Hid (∀ l ∈ LL.take q, l.length ≤ 200) ∧ Hid (QP w wr a c LL (LL.take q).flatten)) (fun y _ => LL.length - (intOf y).toNat)
  case atStart => exact ⟨0, Nat.zero_le _, rfl, Lib.hid (by simp), Lib.hid ⟨((Blk.new _ _ _).alloc _).alloc _, (Blk.new_at _ _ _ (by simp)).alloc _, Blk.new_at _ _ _ (by simp), ((Below.new _ _).alloc (by simp) _).alloc (by simp; omega) _, by simp⟩⟩
  case round =>
    obtain ⟨q, hq, rfl, h200, HQ⟩ := hrel
    by_cases hlt : q < LL.length
    · obtain ⟨b, o, ai, ci, rfl, hbn, hbl, hc, hr, hm⟩ := (HL.out.keep HQ.out.bel) q hlt
      have HR := Lib.hid hr
      have HFT := Lib.hid (flat_take LL hlt)
      have HTK := Lib.hid (show ∀ l ∈ LL.take (q + 1), l ∈ LL.take q ∨ l = LL[q] from fun p hp => by
        rw [List.take_succ_eq_append_getElem hlt] at hp
        rcases List.mem_append.1 hp with h | h
        · exact .inl h
        · exact .inr (List.mem_singleton.1 h))
      have HXL := Lib.hid (show (LL.take q).flatten.length ≤ 1600 from Nat.le_trans (flat_len _ 200 h200.out) (by have := H80.out.1; rw [List.length_take]; omega))
      have gi1 : (0 : Int) ≤ (q : Int) := by omega
      have gi2 : (q : Int) < (LL.length : Int) := by omega
      clear hr
      generalize LL[q] = l at *
      by_cases hl2 : l.length ≤ 200
      case neg =>
        have g2 : (200 : Int) < (l.length : Int) := by omega
        clear hl2
        go_wp2_with (go_at_call 6; refine (awake _).mono ?_; rintro e w' ⟨rfl, hb⟩)
        go_ret
        exact ⟨rfl, Below.next HQ.out.bel hb⟩
      have g2 : ¬ (200 : Int) < (l.length : Int) := by omega
      have H2 := Lib.hid hl2
      clear hl2
      go_wp2_with fail
      rename World => wr0
      go_loopw [45] (fun y wr => ∃ j : Nat, j ≤ l.length ∧ y = .int .i64 j ∧ Hid (QP w wr (some ⟨b, o, none⟩) c LL ((LL.take q).flatten ++ l.take j)) ∧ Hid (Below w.heap.size w wr)) (fun y _ => l.length - (intOf y).toNat)
      case atStart => exact ⟨0, Nat.zero_le _, rfl, by show QP _ _ _ _ _ _; rw [List.take_zero, List.append_nil]; exact HQ.out, Lib.hid HQ.out.bel⟩
      case round =>
        obtain ⟨j, hj, rfl, HQ2, HB2⟩ := hrel
        by_cases hjl : j < l.length
        · obtain ⟨bi, oi, rfl, hbn2, hbil, hci0⟩ := HR.out j hjl
          have hci := (HQ2.out.bel.cell (p := ⟨bi, oi + j, none⟩) hbn2).trans ((HQ.out.bel.cell (p := ⟨bi, oi + j, none⟩) hbn2).symm.trans hci0)
          have hbil2 := Nat.lt_of_lt_of_le hbn2 HQ2.out.bel.size
          have HTJ := Lib.hid (show (LL.take q).flatten ++ l.take (j + 1) = ((LL.take q).flatten ++ l.take j) ++ [l[j]] from by rw [List.take_succ_eq_append_getElem hjl, List.append_assoc])
          have HX2 := Lib.hid (show ((LL.take q).flatten ++ l.take j).length ≤ 1000000 from by have h1 := HXL.out; have h2 := H2.out; rw [List.length_append, List.length_take]; omega)
          have gj1 : (0 : Int) ≤ (j : Int) := by omega
          have gj2 : (j : Int) < (l.length : Int) := by omega
          clear hci0
          generalize (LL.take q).flatten ++ l.take j = xs at *
          obtain ⟨x, hx⟩ : ∃ x, x = l[j] := ⟨_, rfl⟩
          have hcx : wr.cell? ⟨bi, oi + j, none⟩ = some (.int .i64 x) := by rw [hx]; exact hci
          have HTX := Lib.hid (show (LL.take q).flatten ++ l.take (j + 1) = xs ++ [x] from by rw [hx]; exact HTJ.out)
          clear hx hci HTJ
          go_wp2_with fail
          refine (r_add x rfl HQ2.out.bq).mono ?_
          rintro e w1 ⟨rfl, hb1, hg1⟩
          have HG1 := Lib.hid hg1
          have HBQ := Lib.hid hb1
          have hc1 := cell_grown hcx hg1 (by omega)
          clear hg1 hb1 hcx
          go_wp2_with fail
          refine (r_see x (by rw [addF_len]; rfl) HBQ.out).mono ?_
          rintro e w2 ⟨rfl, hb2, hg2⟩
          have HQ3 := Lib.hid (HQ2.out.two x HX2.out HG1.out hg2 hb2)
          clear hb2 hg2 hc1
          go_wp2_with fail
          go_roundw
          case rel => exact ⟨j + 1, by omega, by go_num, by show QP _ _ _ _ _ _; rw [HTX.out]; exact HQ3.out, Lib.hid HQ3.out.bel⟩
          case measure => simp [intOf]; omega
        · obtain rfl : j = l.length := by omega
          have HQ3 := Lib.hid (show QP w wr (some ⟨b, o, none⟩) c LL (LL.take (q + 1)).flatten from by rw [HFT.out]; have h9 := HQ2.out; rw [List.take_length] at h9; exact h9)
          go_wp2_with fail
          go_roundw
          case rel => exact ⟨q + 1, by omega, by go_num, Lib.hid (fun p hp => by rcases HTK.out p hp with h | h; exact h200.out p h; rw [h]; exact H2.out), HQ3⟩
          case measure => simp [intOf]; omega
    · obtain rfl : q = LL.length := by omega
      have HQ3 := Lib.hid (show QP w wr a c LL LL.flatten from by have h9 := HQ.out; rw [List.take_length] at h9; exact h9)
      have H2 := Lib.hid (show ∀ l ∈ LL, l.length ≤ 200 from fun l hl => h200.out l (by rw [List.take_length]; exact hl))
      have HFL := Lib.hid (show LL.flatten.length ≤ 1600 from Nat.le_trans (flat_len _ 200 H2.out) (by have := H80.out.1; omega))
      clear HQ h200
      have k0 := HQ3.out.b0.cell
      have l0 := HQ3.out.b0.lt
      have hmk := make_at LL.length (by have := H80.out.1; omega)
      go_upto_region 19 with fail
      have hpl : Play w ((wr.alloc (.cells (atc (List.replicate LL.length 0)) 3)).alloc (.cells #[.slice (some ⟨wr.heap.size, 0, none⟩) LL.length LL.length] 37)) a c LL wr.heap.size (List.replicate LL.length 0) :=
        ⟨⟨by simp, fun i => by simp only [List.getD_eq_getElem?_getD, List.getElem?_replicate]; split <;> simp⟩, (HQ3.out.b0.alloc _).alloc _, by rw [taken_zero, stat_nil]; exact (HQ3.out.bm.alloc _).alloc _, (HQ3.out.bq.alloc _).alloc _, Blk.new_at _ _ _ (by simp), (Blk.new _ _ _).alloc _, (HQ3.out.bel.alloc HQ3.out.bel.size _).alloc (by have := HQ3.out.bel.size; simp; omega) _, HQ3.out.top⟩
      obtain ⟨Wm, e1⟩ : ∃ z, z = ((wr.alloc (.cells (atc (List.replicate LL.length 0)) 3)).alloc (.cells #[.slice (some ⟨wr.heap.size, 0, none⟩) LL.length LL.length] 37)) := ⟨_, rfl⟩
      rw [← e1] at hpl
      rw [← e1]
      have HPL := Lib.hid hpl
      clear e1 hpl hmk k0 l0 HQ3
      generalize wr.heap.size = gA at *
      go_wp2_with fail
      go_loopw [63] (fun y wr => ∃ (q : Nat) (ns : List Nat), q ≤ TT.length ∧ y = .int .i64 q ∧ Hid (Play w wr a c LL gA ns)) (fun y _ => TT.length - (intOf y).toNat)
      case atStart => exact ⟨0, _, Nat.zero_le _, rfl, HPL⟩
      case round =>
        obtain ⟨q, ns, hq, rfl, HP⟩ := hrel
        have k0 := HP.out.b0.cell
        have l0 := HP.out.b0.lt
        by_cases hlt : q < TT.length
        · obtain ⟨bt, ot, rfl, -, hbt, hct⟩ := (HT.out.keep HP.out.bel) q hlt
          have ht := HTB.out _ (List.getElem_mem hlt)
          generalize TT[q] = tt at *
          obtain ⟨tn, rfl⟩ := Int.eq_ofNat_of_zero_le ht.1
          have gi1 : (0 : Int) ≤ (q : Int) := by omega
          have gi2 : (q : Int) < (TT.length : Int) := by omega
          have gz : ¬ ((LL.length : Int) = 0) := by have := H80.out.2.1; omega
          have CK := Lib.hid (count_ok HP.out HL.out (tn % LL.length) (Nat.mod_lt _ H80.out.2.1) H80.out.1 (by have := HFL.out; omega))
          go_wp2_with fail
          rw [show ((tn : Int) % (LL.length : Int)) = ((tn % LL.length : Nat) : Int) from by simp]
          refine CK.out.mono ?_
          rintro e w1 ⟨rfl, hp1⟩
          have HP1 := Lib.hid hp1
          clear hp1 k0 l0 hct
          go_wp2_with fail
          go_roundw
          case rel => exact ⟨q + 1, _, by omega, by go_num, HP1⟩
          case measure => simp [intOf]; omega
        · obtain rfl : q = TT.length := by omega
          go_wp2_with fail
          rename World => wr1
          go_loopw [77] (fun y wr => ∃ (i : Nat) (ns : List Nat), i ≤ LL.length ∧ y = .int .i64 i ∧ Hid (Play w wr a c LL gA ns) ∧ Hid (∀ j, j < i → ns.getD j 0 = (LL.getD j []).length)) (fun y _ => LL.length - (intOf y).toNat)
          case atStart => exact ⟨0, _, Nat.zero_le _, rfl, HP, Lib.hid (fun j h => by omega)⟩
          case round =>
            clear k0 l0 HP HPL
            obtain ⟨i, ns, hi, rfl, HP, HF⟩ := hrel
            have k0 := HP.out.b0.cell
            have l0 := HP.out.b0.lt
            by_cases hlt : i < LL.length
            · obtain ⟨b, o, ai, ci, rfl, hbn, hbl, hc, hr, hm⟩ := (HL.out.keep HP.out.bel) i hlt
              have gi1 : (0 : Int) ≤ (i : Int) := by omega
              have gi2 : (i : Int) < (LL.length : Int) := by omega
              have HGD := Lib.hid (show (LL.getD i []).length = LL[i].length from by rw [getD_lt LL [] hlt])
              clear hr
              generalize LL[i].length = ll at *
              go_wp2_with fail
              rename World => wr2
              go_loopw [85] (fun y wr => ∃ (j : Nat) (ns : List Nat), j ≤ ll ∧ y = .int .i64 j ∧ Hid (Play w wr (some ⟨b, o, none⟩) c LL gA ns) ∧ Hid (∀ j, j < i → ns.getD j 0 = (LL.getD j []).length) ∧ Hid (j ≤ ns.getD i 0)) (fun y _ => ll - (intOf y).toNat)
              case atStart => exact ⟨0, _, Nat.zero_le _, rfl, HP, HF, Lib.hid (Nat.zero_le _)⟩
              case round =>
                clear k0 l0 HP HF hc
                obtain ⟨j, ns, hj, rfl, HP, HF, HJ⟩ := hrel
                by_cases hjl : j < ll
                · have CK := Lib.hid (count_ok HP.out HL.out i hlt H80.out.1 (by have := HFL.out; omega))
                  have hin : i < ns.length := by rw [HP.out.fit.1]; exact hlt
                  have HJ2 := Lib.hid (show j + 1 ≤ (bump ns LL i).getD i 0 from by
                    rw [bump_get hin]
                    have h1 := HJ.out
                    have h2 := HGD.out
                    split
                    · omega
                    · next h => have : ¬ ns.getD i 0 < (LL.getD i []).length := fun e => h ⟨rfl, e⟩
                                omega)
                  have HF2 := Lib.hid (show ∀ j, j < i → (bump ns LL i).getD j 0 = (LL.getD j []).length from fun j' h' => by
                    rw [bump_get hin, if_neg (by omega)]; exact HF.out j' h')
                  clear hin
                  go_wp2_with fail
                  refine CK.out.mono ?_
                  rintro e w1 ⟨rfl, hp1⟩
                  have HP1 := Lib.hid hp1
                  clear hp1
                  go_wp2_with fail
                  go_roundw
                  case rel => exact ⟨j + 1, _, by omega, by go_num, HP1, HF2, HJ2⟩
                  case measure => simp [intOf]; omega
                · obtain rfl : j = ll := by omega
                  have HF2 := Lib.hid (show ∀ j', j' < i + 1 → ns.getD j' 0 = (LL.getD j' []).length from fun j' h' => by
                    by_cases e : j' = i
                    · subst e
                      have h1 := HP.out.fit.2 j'
                      have h2 := HJ.out
                      have h3 := HGD.out
                      omega
                    · exact HF.out j' (by omega))
                  go_wp2_with fail
                  go_roundw
                  case rel => exact ⟨i + 1, _, by omega, by go_num, HP, HF2⟩
                  case measure => simp [intOf]; omega
            · obtain rfl : i = LL.length := by omega
              have HST := Lib.hid (show stat (taken ns LL) = stat LL.flatten from by
                rw [taken_full ns LL HP.out.fit.1 fun i h1 h2 => by
                  have h3 := HF.out i (by omega)
                  rw [getD_lt ns 0 h1, getD_lt LL [] h2] at h3
                  exact h3])
              clear HF
              have HBM := Lib.hid (show Blk wr (w.heap.size + 1) 32 (mcells (stat LL.flatten)) from by rw [← HST.out]; exact HP.out.bm)
              have HBQ := Lib.hid HP.out.bq
              have HBL := Lib.hid HP.out.bel
              clear HP HST
              have HMP := Lib.hid (show 0 ≤ (stat LL.flatten).getD 5 0 from maxOf_pos _)
              have HSL := Lib.hid (stat_len LL.flatten)
              generalize stat LL.flatten = xs at *
              go_wp2_with fail
              rename World => wr2
              go_loopw [92] (fun y wr => ∃ j : Nat, j ≤ 5 ∧ y = .int .i64 j ∧ Blk wr (w.heap.size + 1) 32 (mcells xs) ∧ Blk wr (w.heap.size + 1 + 1) 36 (mcells xs) ∧ Below w.heap.size w wr) (fun y _ => 5 - (intOf y).toNat)
              case atStart => exact ⟨0, by omega, rfl, HBM.out, HBQ.out, HBL.out⟩
              case round =>
                clear HBM HBQ HBL k0 l0
                obtain ⟨j, hj, rfl, hbm, hbq, hbw⟩ := hrel
                have HBM := Lib.hid hbm
                have HBQ := Lib.hid hbq
                have HBL := Lib.hid hbw
                clear hbm hbq hbw
                by_cases hj5 : j < 5
                · have hc := cel HBQ.out j (by have := HSL.out; omega)
                  have H := fun W (h : Blk W (w.heap.size + 1) 32 (mcells xs)) => Lib.hid (count_at j hj5 HSL.out h)
                  generalize xs.getD j 0 = y at hc H
                  have HH := Lib.hid H
                  clear H
                  have h0j : (0 : Int) ≤ (j : Int) := by omega
                  have hj5' : (j : Int) < 5 := by omega
                  go_wp2_with fail
                  go_region_held3 (fun w' => w'.cell? ⟨w.heap.size + 1 + 1, j, none⟩ = some (.int .i64 y)) (go_keep) (first
                    | (go_at_call 12; refine ((HH.out _ (HBM.out.drew)).out).mono ?_; rintro e w' ⟨rfl, rfl⟩))
                  go_wp2_with fail
                  go_roundw
                  case rel => exact ⟨j + 1, by omega, by go_num, HBM.out.drew, HBQ.out.drew, HBL.out.drew⟩
                  case measure => simp [intOf]; omega
                · obtain rfl : j = 5 := by omega
                  clear hj hj5
                  have hc := cel HBQ.out 5 (by have := HSL.out; omega)
                  have HMO := Lib.hid (fun W (h : Blk W (w.heap.size + 1) 32 (mcells xs)) => m_most HMP.out HSL.out h)
                  generalize xs.getD 5 0 = y at *
                  have hql := HBQ.out.lt
                  go_upto_region 38 with fail
                  refine wp_region_held_drew (S := (fun w' => w'.cell? ⟨w.heap.size + 1 + 1, 5, none⟩ = some (.int .i64 y))) (by kernel_rfl) (by exact hc) (fun hHeld => ?_)
                  refine wpAnyH_ready (rs := [0]) (by kernel_rfl) (by simp) ?_
                  refine AllReadyH.cons (by conv => lhs; simp only [List.getElem?_toArray, List.getElem?_cons_succ, List.getElem?_cons_zero]) (fun K hK => ?_) AllReadyH.nil
                  go_simp
                  refine (awake _).mono ?_
                  rintro e w5 ⟨rfl, hb5⟩
                  have HB5 := Lib.hid (Below.next ((Below.refl wr.heap.size wr).drew) hb5)
                  clear hb5
                  have hc5 := (HB5.out.cell (p := ⟨w.heap.size + 1 + 1, 5, none⟩) hql).trans hc
                  go_wp2_with fail
                  refine hK.out _ _ (by exact hc5) (fun hHeld => ?_)
                  clear hK K
                  try simp only [Act.put, List.setIfInBounds_toArray, List.set_cons_zero, List.set_cons_succ]
                  refine wpAnyH_take (i := 1) (v := ?vm6_1) (by conv => lhs; simp only [List.getElem?_toArray, List.getElem?_cons_succ, List.getElem?_cons_zero]) (by kernel_rfl) (by kernel_rfl) (by kernel_rfl) (by exact fun _ _ _ h => h) (Or.inl ⟨by rfl, ?hym6_1⟩) (by assumption) ?_
                  case hym6_1 => (intro w0 hSw; (try dsimp only at hSw); go_simp; try with_reducible rfl)
                  try simp only [Act.put, List.setIfInBounds_toArray, List.set_cons_zero, List.set_cons_succ]
                  refine wpAnyH_take (i := 3) (v := ?vm6_3) (by conv => lhs; simp only [List.getElem?_toArray, List.getElem?_cons_succ, List.getElem?_cons_zero]) (by kernel_rfl) (by kernel_rfl) (by kernel_rfl) (by exact fun _ _ _ h => h) (Or.inl ⟨by rfl, ?hym6_3⟩) (by assumption) ?_
                  case hym6_3 => (intro w0 hSw; (try dsimp only at hSw); go_simp; try with_reducible rfl)
                  try simp only [Act.put, List.setIfInBounds_toArray, List.set_cons_zero, List.set_cons_succ]
                  refine wpAnyH_take (i := 4) (v := ?vm6_4) (by conv => lhs; simp only [List.getElem?_toArray, List.getElem?_cons_succ, List.getElem?_cons_zero]) (by kernel_rfl) (by kernel_rfl) (by kernel_rfl) (by exact fun _ _ _ h => h) (Or.inl ⟨by rfl, ?hym6_4⟩) (by assumption) ?_
                  case hym6_4 => (intro w0 hSw; (try dsimp only at hSw); go_simp; try with_reducible rfl)
                  try simp only [Act.put, List.setIfInBounds_toArray, List.set_cons_zero, List.set_cons_succ]
                  refine wpAnyH_take (i := 5) (v := ?vm6_5) (by conv => lhs; simp only [List.getElem?_toArray, List.getElem?_cons_succ, List.getElem?_cons_zero]) (by kernel_rfl) (by kernel_rfl) (by kernel_rfl) (by exact fun _ _ _ h => h) (Or.inl ⟨by rfl, ?hym6_5⟩) (by assumption) ?_
                  case hym6_5 => (intro w0 hSw; (try dsimp only at hSw); go_simp; try with_reducible rfl)
                  try simp only [Act.put, List.setIfInBounds_toArray, List.set_cons_zero, List.set_cons_succ]
                  refine wpAnyH_take (i := 6) (v := ?vm6_6) (by conv => lhs; simp only [List.getElem?_toArray, List.getElem?_cons_succ, List.getElem?_cons_zero]) (by kernel_rfl) (by kernel_rfl) (by kernel_rfl) (by exact fun _ _ _ h => h) (Or.inl ⟨by rfl, ?hym6_6⟩) (by assumption) ?_
                  case hym6_6 => (intro w0 hSw; (try dsimp only at hSw); go_simp; try with_reducible rfl)
                  try simp only [Act.put, List.setIfInBounds_toArray, List.set_cons_zero, List.set_cons_succ]
                  refine wpAnyH_ready (rs := [2]) (by kernel_rfl) (by simp) ?_
                  refine AllReadyH.cons (by conv => lhs; simp only [List.getElem?_toArray, List.getElem?_cons_succ, List.getElem?_cons_zero]) (fun K hK => ?_) AllReadyH.nil
                  go_simp
                  refine (HMO.out _ (HBM.out.keep HB5.out)).mono ?_
                  rintro e w6 ⟨rfl, hb6, hg6⟩
                  have HG6 := Lib.hid hg6
                  have hc6 := cell_grown hc5 hg6 (by omega)
                  clear hb6 hg6
                  go_wp2_with fail
                  refine hK.out _ _ (by exact hc6) (fun hHeld => ?_)
                  clear hK K
                  try simp only [Act.put, List.setIfInBounds_toArray, List.set_cons_zero, List.set_cons_succ]
                  refine wpAnyH_take (i := 7) (v := ?vm7_7) (by conv => lhs; simp only [List.getElem?_toArray, List.getElem?_cons_succ, List.getElem?_cons_zero]) (by kernel_rfl) (by kernel_rfl) (by kernel_rfl) (by exact fun _ _ _ h => h) (Or.inl ⟨by rfl, ?hym7_7⟩) (by assumption) ?_
                  case hym7_7 => (intro w0 hSw; (try dsimp only at hSw); go_simp; try with_reducible rfl)
                  try simp only [Act.put, List.setIfInBounds_toArray, List.set_cons_zero, List.set_cons_succ]
                  refine wpAnyH_take (i := 8) (v := ?vm7_8) (by conv => lhs; simp only [List.getElem?_toArray, List.getElem?_cons_succ, List.getElem?_cons_zero]) (by kernel_rfl) (by kernel_rfl) (by kernel_rfl) (by exact fun _ _ _ h => h) (Or.inl ⟨by rfl, ?hym7_8⟩) (by assumption) ?_
                  case hym7_8 => (intro w0 hSw; (try dsimp only at hSw); go_simp; try with_reducible rfl)
                  try simp only [Act.put, List.setIfInBounds_toArray, List.set_cons_zero, List.set_cons_succ]
                  refine wpAnyH_take (i := 9) (v := ?vm7_9) (by conv => lhs; simp only [List.getElem?_toArray, List.getElem?_cons_succ, List.getElem?_cons_zero]) (by kernel_rfl) (by kernel_rfl) (by kernel_rfl) (by exact fun _ _ _ h => h) (Or.inl ⟨by rfl, ?hym7_9⟩) (by assumption) ?_
                  case hym7_9 => (intro w0 hSw; (try dsimp only at hSw); go_simp; try with_reducible rfl)
                  try simp only [Act.put, List.setIfInBounds_toArray, List.set_cons_zero, List.set_cons_succ]
                  refine wpAnyH_done (by kernel_rfl) ?_ _
                  go_wp2_with fail
                  go_ret
                  exact ⟨by first | rfl | simp, below_met (Below.next HBL.out HB5.out) HG6.out (by omega)⟩
end Go.Proofs.Ytkndnoccenlngaa
