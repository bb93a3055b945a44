/- mizzenref03.Over and All. -/
import Derived.Test.YthkkmnmejciomaaRStrip
import Derived.Test.YthkkmnmejciomaaLayF
import Derived.Deep.QuietTactic
import Derived.BigQuiet
namespace Go.Proofs.Ythkkmnmejciomaa
open Go.RowKit
attribute [local go_sem ↓] Go.wp_at_zero Go.wp_at_succ

set_option maxRecDepth 100000 in
set_option maxHeartbeats 16000000 in
theorem rover {na nb : Nat} (hn1 : na + nb ≤ 1000000) (t : T) : ∀ (a : T) (_ : Neat na a) (_ : Neat nb t) (va v : Value) (w : World) (S : Nat → Prop), RepT w S va a → RepT w S v t → Calls Try.prog 8 #[va, v] w (ValPostS S w (t.over a)) := by
  induction t using T.ind' with
  | h t ihl ihm =>
  intro a hna hnt va v w S ha h
  clear ihl
  obtain ⟨la, lc, ma, mc, rfl, hpt⟩ := h.inv
  obtain ⟨la0, lc0, ma0, mc0, rfl, hpa⟩ := ha.inv
  obtain ⟨-, -, -, -, -, -, -, -, -, -, hMt⟩ := hpt
  obtain ⟨-, -, -, -, -, -, -, -, -, -, hMa⟩ := hpa
  have HMT := Lib.hid (hMt.mono (w' := w) (S' := fun b => S b ∧ b < w.heap.size) (fun _ h1 h => ⟨h1, h⟩) (fun _ _ _ _ => rfl)); clear hMt
  have HMA := Lib.hid (hMa.mono (w' := w) (S' := fun b => S b ∧ b < w.heap.size) (fun _ h1 h => ⟨h1, h⟩) (fun _ _ _ _ => rfl)); clear hMa
  have HT := Lib.hid (h.mono (w' := w) (S' := fun b => S b ∧ b < w.heap.size) (fun _ h1 h => ⟨h1, h⟩) (fun _ _ _ _ => rfl)); clear h ha
  obtain ⟨res, hres⟩ : ∃ r, r = t.over a := ⟨_, rfl⟩
  rw [← hres]
  by_cases h55 : a.kind = 5 ∧ t.kind = 5
  case neg =>
    have HE := Lib.hid (show res = t.strip from by rw [hres, over_strip h55])
    have hg : (a.kind != 5) = true ∨ ((a.kind != 5) = false ∧ (t.kind != 5) = true) := by
      by_cases h5 : a.kind = 5
      · exact .inr ⟨by rw [h5]; rfl, bne_iff_ne.2 fun e => h55 ⟨h5, e⟩⟩
      · exact .inl (bne_iff_ne.2 h5)
    have CS := Lib.hid (fun v2 w2 S2 h2 => rstrip (n := nb) (by omega) t hnt v2 w2 S2 h2)
    clear h55 ihm hna hnt HMT HMA hres
    have hB1 : Blk (((w.alloc (.cells #[.int .i64 a.kind, .bool a.bool, .int .i64 a.int, .string a.str, .slice la0 a.list.length lc0, .slice ma0 a.map.length mc0] 25)).alloc (.cells #[.int .i64 t.kind, .bool t.bool, .int .i64 t.int, .string t.str, .slice la t.list.length lc, .slice ma t.map.length mc] 25)).alloc (.cells #[.int .i64 0, .bool false, .int .i64 0, .string ⟨#[]⟩, .slice none 0 0, .slice none 0 0] 25)) (w.heap.size) 25 #[.int .i64 a.kind, .bool a.bool, .int .i64 a.int, .string a.str, .slice la0 a.list.length lc0, .slice ma0 a.map.length mc0] := (((Blk.new _ _ _).alloc _).alloc _)
    have hB2 : Blk (((w.alloc (.cells #[.int .i64 a.kind, .bool a.bool, .int .i64 a.int, .string a.str, .slice la0 a.list.length lc0, .slice ma0 a.map.length mc0] 25)).alloc (.cells #[.int .i64 t.kind, .bool t.bool, .int .i64 t.int, .string t.str, .slice la t.list.length lc, .slice ma t.map.length mc] 25)).alloc (.cells #[.int .i64 0, .bool false, .int .i64 0, .string ⟨#[]⟩, .slice none 0 0, .slice none 0 0] 25)) (w.heap.size + 1) 25 #[.int .i64 t.kind, .bool t.bool, .int .i64 t.int, .string t.str, .slice la t.list.length lc, .slice ma t.map.length mc] := ((Blk.new_at _ _ _ (by simp)).alloc _)
    have hB3 : Blk (((w.alloc (.cells #[.int .i64 a.kind, .bool a.bool, .int .i64 a.int, .string a.str, .slice la0 a.list.length lc0, .slice ma0 a.map.length mc0] 25)).alloc (.cells #[.int .i64 t.kind, .bool t.bool, .int .i64 t.int, .string t.str, .slice la t.list.length lc, .slice ma t.map.length mc] 25)).alloc (.cells #[.int .i64 0, .bool false, .int .i64 0, .string ⟨#[]⟩, .slice none 0 0, .slice none 0 0] 25)) (w.heap.size + 1 + 1) 25 #[.int .i64 0, .bool false, .int .i64 0, .string ⟨#[]⟩, .slice none 0 0, .slice none 0 0] := (Blk.new_at _ _ _ (by simp))
    have hBW : Below w.heap.size w (((w.alloc (.cells #[.int .i64 a.kind, .bool a.bool, .int .i64 a.int, .string a.str, .slice la0 a.list.length lc0, .slice ma0 a.map.length mc0] 25)).alloc (.cells #[.int .i64 t.kind, .bool t.bool, .int .i64 t.int, .string t.str, .slice la t.list.length lc, .slice ma t.map.length mc] 25)).alloc (.cells #[.int .i64 0, .bool false, .int .i64 0, .string ⟨#[]⟩, .slice none 0 0, .slice none 0 0] 25)) := ((Below.new _ _).alloc (by simp) _).alloc (by simp; omega) _
    obtain ⟨W0, e0⟩ : ∃ x, x = (((w.alloc (.cells #[.int .i64 a.kind, .bool a.bool, .int .i64 a.int, .string a.str, .slice la0 a.list.length lc0, .slice ma0 a.map.length mc0] 25)).alloc (.cells #[.int .i64 t.kind, .bool t.bool, .int .i64 t.int, .string t.str, .slice la t.list.length lc, .slice ma t.map.length mc] 25)).alloc (.cells #[.int .i64 0, .bool false, .int .i64 0, .string ⟨#[]⟩, .slice none 0 0, .slice none 0 0] 25)) := ⟨_, rfl⟩
    rw [← e0] at hB1 hB2 hB3 hBW
    have hs0 : W0.heap.size = w.heap.size + 3 := by rw [e0]; simp
    have E0 := Lib.hid e0; have L1 := Lib.hid hB1; have L2 := Lib.hid hB2; have L3 := Lib.hid hB3; have HW0 := Lib.hid hBW
    clear e0 hB1 hB2 hB3 hBW
    have HTW := Lib.hid (HT.out.keep HW0.out)
    have tk := L2.out.cell; have tl := L2.out.lt; have ak := L1.out.cell; have al := L1.out.lt
    rcases hg with hg1 | ⟨hg1, hg2⟩
    all_goals
      go_enter Try.func8, Try.ntmps8
      go_wp2_with fail
      rw [← E0.out]
      refine (CS.out _ _ _ HTW.out).mono ?_
      rintro e w1 ⟨v1, rfl, hr, hb⟩
      obtain ⟨qa, qc, qm, qn, rfl, -⟩ := hr.inv
      have M3 := Lib.hid (L3.out.keep hb); have HW1 := Lib.hid (Below.next HW0.out hb); have HR1 := Lib.hid hr; clear hr hb tk tl ak al
      have zk := M3.out.cell; have zf := M3.out.frozen; have zl := M3.out.lt
      go_wp2_with fail
      exact ret_cell rfl rfl ((((((M3.out.set_ 0 _).set_ 1 _).set_ 2 _).set_ 3 _).set_ 4 _).set_ 5 _) Try.underlying25 val_size rfl ⟨_, rfl, by rw [HE.out]; exact HR1.out.mono (fun b h _ => by rcases h with h | h; exact .inl h.1; exact .inr (by omega)) (fun b o h _ => World.cell?_of_block (set6_heap (o := 0) (show b ≠ w.heap.size + 1 + 1 by rcases h with h | h; have := h.2; omega; omega))), set6_below (o := 0) HW1.out (by omega)⟩
  have hg1 : (a.kind != 5) = false := by rw [h55.1]; rfl
  have hg2 : (t.kind != 5) = false := by rw [h55.2]; rfl
  have HE := Lib.hid (show res = mkMap (mrg a.map t.map) from by rw [hres]; exact (mrg_over hna hnt h55.1 h55.2).symm)
  have HIH := Lib.hid (fun i (hi : i < t.map.length) was (hw : Neat na was) => ihm _ (List.getElem_mem hi) was hw (hnt.mem _ (List.getElem_mem hi)))
  have HAM := Lib.hid (fun i (hi : i < a.map.length) => hna.mem _ (List.getElem_mem hi))
  have hlt0 := hnt.len; have hla0 := hna.len; have hml := mrg_len a.map t.map
  clear ihm hnt hna hres h55
  have hB1 : Blk ((((w.alloc (.cells #[.int .i64 a.kind, .bool a.bool, .int .i64 a.int, .string a.str, .slice la0 a.list.length lc0, .slice ma0 a.map.length mc0] 25)).alloc (.cells #[.int .i64 t.kind, .bool t.bool, .int .i64 t.int, .string t.str, .slice la t.list.length lc, .slice ma t.map.length mc] 25)).alloc (.cells #[.int .i64 0, .bool false, .int .i64 0, .string ⟨#[]⟩, .slice none 0 0, .slice none 0 0] 25)).alloc (.cells #[.int .i64 5, .bool false, .int .i64 0, .string ⟨#[]⟩, .slice none 0 0, .slice none 0 0] 25)) (w.heap.size) 25 #[.int .i64 a.kind, .bool a.bool, .int .i64 a.int, .string a.str, .slice la0 a.list.length lc0, .slice ma0 a.map.length mc0] := ((((Blk.new _ _ _).alloc _).alloc _).alloc _)
  have hB2 : Blk ((((w.alloc (.cells #[.int .i64 a.kind, .bool a.bool, .int .i64 a.int, .string a.str, .slice la0 a.list.length lc0, .slice ma0 a.map.length mc0] 25)).alloc (.cells #[.int .i64 t.kind, .bool t.bool, .int .i64 t.int, .string t.str, .slice la t.list.length lc, .slice ma t.map.length mc] 25)).alloc (.cells #[.int .i64 0, .bool false, .int .i64 0, .string ⟨#[]⟩, .slice none 0 0, .slice none 0 0] 25)).alloc (.cells #[.int .i64 5, .bool false, .int .i64 0, .string ⟨#[]⟩, .slice none 0 0, .slice none 0 0] 25)) (w.heap.size + 1) 25 #[.int .i64 t.kind, .bool t.bool, .int .i64 t.int, .string t.str, .slice la t.list.length lc, .slice ma t.map.length mc] := (((Blk.new_at _ _ _ (by simp)).alloc _).alloc _)
  have hB3 : Blk ((((w.alloc (.cells #[.int .i64 a.kind, .bool a.bool, .int .i64 a.int, .string a.str, .slice la0 a.list.length lc0, .slice ma0 a.map.length mc0] 25)).alloc (.cells #[.int .i64 t.kind, .bool t.bool, .int .i64 t.int, .string t.str, .slice la t.list.length lc, .slice ma t.map.length mc] 25)).alloc (.cells #[.int .i64 0, .bool false, .int .i64 0, .string ⟨#[]⟩, .slice none 0 0, .slice none 0 0] 25)).alloc (.cells #[.int .i64 5, .bool false, .int .i64 0, .string ⟨#[]⟩, .slice none 0 0, .slice none 0 0] 25)) (w.heap.size + 1 + 1) 25 #[.int .i64 0, .bool false, .int .i64 0, .string ⟨#[]⟩, .slice none 0 0, .slice none 0 0] := ((Blk.new_at _ _ _ (by simp)).alloc _)
  have hB4 : Blk ((((w.alloc (.cells #[.int .i64 a.kind, .bool a.bool, .int .i64 a.int, .string a.str, .slice la0 a.list.length lc0, .slice ma0 a.map.length mc0] 25)).alloc (.cells #[.int .i64 t.kind, .bool t.bool, .int .i64 t.int, .string t.str, .slice la t.list.length lc, .slice ma t.map.length mc] 25)).alloc (.cells #[.int .i64 0, .bool false, .int .i64 0, .string ⟨#[]⟩, .slice none 0 0, .slice none 0 0] 25)).alloc (.cells #[.int .i64 5, .bool false, .int .i64 0, .string ⟨#[]⟩, .slice none 0 0, .slice none 0 0] 25)) (w.heap.size + 1 + 1 + 1) 25 #[.int .i64 5, .bool false, .int .i64 0, .string ⟨#[]⟩, .slice none 0 0, .slice none 0 0] := (Blk.new_at _ _ _ (by simp))
  have hBW : Below w.heap.size w ((((w.alloc (.cells #[.int .i64 a.kind, .bool a.bool, .int .i64 a.int, .string a.str, .slice la0 a.list.length lc0, .slice ma0 a.map.length mc0] 25)).alloc (.cells #[.int .i64 t.kind, .bool t.bool, .int .i64 t.int, .string t.str, .slice la t.list.length lc, .slice ma t.map.length mc] 25)).alloc (.cells #[.int .i64 0, .bool false, .int .i64 0, .string ⟨#[]⟩, .slice none 0 0, .slice none 0 0] 25)).alloc (.cells #[.int .i64 5, .bool false, .int .i64 0, .string ⟨#[]⟩, .slice none 0 0, .slice none 0 0] 25)) := (((Below.new _ _).alloc (by simp) _).alloc (by simp; omega) _).alloc (by simp; omega) _
  obtain ⟨W0, e0⟩ : ∃ x, x = ((((w.alloc (.cells #[.int .i64 a.kind, .bool a.bool, .int .i64 a.int, .string a.str, .slice la0 a.list.length lc0, .slice ma0 a.map.length mc0] 25)).alloc (.cells #[.int .i64 t.kind, .bool t.bool, .int .i64 t.int, .string t.str, .slice la t.list.length lc, .slice ma t.map.length mc] 25)).alloc (.cells #[.int .i64 0, .bool false, .int .i64 0, .string ⟨#[]⟩, .slice none 0 0, .slice none 0 0] 25)).alloc (.cells #[.int .i64 5, .bool false, .int .i64 0, .string ⟨#[]⟩, .slice none 0 0, .slice none 0 0] 25)) := ⟨_, rfl⟩
  rw [← e0] at hB1 hB2 hB3 hB4 hBW
  have hs0 : W0.heap.size = w.heap.size + 4 := by rw [e0]; simp
  have E0 := Lib.hid e0; have L1 := Lib.hid hB1; have L2 := Lib.hid hB2; have L3 := Lib.hid hB3; have L4 := Lib.hid hB4; have HW0 := Lib.hid hBW
  clear e0 hB1 hB2 hB3 hB4 hBW
  have HR0 := Lib.hid (show RRow S w W0 (w.heap.size + 4) (w.heap.size + 1 + 1 + 1) none 0 [] from ⟨L4.out, OwnE.nil, HW0.out, by omega, by omega, by omega⟩)
  go_enter Try.func8, Try.ntmps8
  go_wp2_with fail
  rw [← E0.out]
  clear E0 L4
  go_loopw [6, 7] (fun x y wr => ∃ (i k : Nat) (l : List (ByteArray × T)) (A : Option Addr) (c : Nat), i ≤ a.map.length ∧ k ≤ t.map.length ∧ x = .int .i64 i ∧ y = .int .i64 k ∧ Hid (l ++ mrg (a.map.drop i) (t.map.drop k) = mrg a.map t.map) ∧ Hid (Below (w.heap.size + 3) W0 wr) ∧ Hid (RRow S w wr (w.heap.size + 4) (w.heap.size + 1 + 1 + 1) A c l)) (fun x y _ => a.map.length - (intOf x).toNat + (t.map.length - (intOf y).toNat))
  case atStart => exact ⟨0, 0, [], none, 0, Nat.zero_le _, Nat.zero_le _, rfl, rfl, by show _ = _; rw [List.drop_zero, List.drop_zero]; rfl, Lib.hid (Below.refl _ _), HR0⟩
  case round =>
    obtain ⟨i, k, l, A, c, hi, hk, rfl, rfl, hl, HBL, HRR⟩ := hrel
    clear HR0
    have L1_0 := Lib.hid (L1.out.below HBL.out (by omega))
    have L1_1 := Lib.hid (L2.out.below HBL.out (by omega))
    have L1_2 := Lib.hid (L3.out.below HBL.out (by omega))
    have V1_MT := Lib.hid (HMT.out.keep HRR.out.bel)
    have V1_MA := Lib.hid (HMA.out.keep HRR.out.bel)
    have HW1 := Lib.hid HRR.out.bel
    have k1_0 := L1_0.out.cell; have l1_0 := L1_0.out.lt
    have k1_1 := L1_1.out.cell; have l1_1 := L1_1.out.lt
    have k1_2 := L1_2.out.cell; have l1_2 := L1_2.out.lt
    have htop := HRR.out.top
    have hll : l.length ≤ a.map.length + t.map.length := by have e := congrArg List.length hl.out; rw [List.length_append] at e; omega
    have hl1 : (l.length + 1) * 104 ≤ 140737488355328 := by omega
    have kO := HRR.out.box.cell; have lO := HRR.out.box.lt
    by_cases hfin : i < a.map.length ∨ k < t.map.length
    case neg =>
      obtain rfl : i = a.map.length := by omega
      obtain rfl : k = t.map.length := by omega
      have HE2 := Lib.hid (show res = mkMap l from by have e := hl.out; rw [List.drop_length, List.drop_length, mrg, List.append_nil] at e; rw [HE.out, e])
      clear hl HE hfin
      have zf := L1_2.out.frozen
      go_wp2_with fail
      exact ret_cell rfl rfl ((((((L1_2.out.set_ 0 _).set_ 1 _).set_ 2 _).set_ 3 _).set_ 4 _).set_ 5 _) Try.underlying25 val_size rfl ⟨_, rfl, by rw [HE2.out]; exact (HRR.out.out (by omega)).fin (by omega) (by omega), set6_below (o := 0) HRR.out.bel (by omega)⟩
    have gi0 : (0 : Int) ≤ (i : Int) := by omega
    have gk0 : (0 : Int) ≤ (k : Int) := by omega
    by_cases hA : ∃ hia : i < a.map.length, k = t.map.length ∨ ∃ h : k < t.map.length, klt a.map[i].1 t.map[k].1 = true
    · obtain ⟨hia, hA⟩ := hA
      clear hfin
      have HMG := Lib.hid (mrg_A (k := k) hia hA)
      obtain ⟨b, bo, ya, yc, ym, yn, hma, hSa, hblk, hkza, ⟨c0, c1, c2, c3, c4, c5, c6⟩, hr⟩ := V1_MA.out.at_ hia
      subst hma
      have HXA := Lib.hid hr; clear hr
      have gi1 : (i : Int) < (a.map.length : Int) := by omega
      rcases hA with hke | ⟨hkt, hlt⟩
      · have gk2 : ((k : Int) == (t.map.length : Int)) = true := by rw [hke]; simp
        clear hke
        obtain ⟨ka, hka⟩ : ∃ z, z = a.map[i].1 := ⟨_, rfl⟩
        obtain ⟨xa, hxa⟩ : ∃ z, z = a.map[i].2 := ⟨_, rfl⟩
        rw [show a.map[i] = (ka, xa) from by rw [hka, hxa]] at HMG
        simp only [← hka, ← hxa] at *
        clear hka hxa
        have HO3 := Lib.hid (fun l3 (e : l3 = l ++ [(ka, xa)]) => show l3 ++ mrg (a.map.drop (i + 1)) (t.map.drop k) = mrg a.map t.map from by rw [e, ← hl.out, HMG.out, List.append_assoc]; rfl)
        go_wp2_with fail
        go_quiet (fail)
        clear kO lO k1_0 l1_0 k1_1 l1_1 k1_2 l1_2
        have HQ0 := Below.drewN (Below.refl wr.heap.size wr) nq
        obtain ⟨wr, hwq⟩ : ∃ z, z = wr.drewN nq := ⟨_, rfl⟩
        rw [← hwq] at HQ0
        rw [← hwq]; clear hwq
        have HQ := Lib.hid HQ0; clear HQ0
        replace HBL := Lib.hid (HBL.out.trans (HQ.out.mono (by omega))); replace HRR := Lib.hid (HRR.out.keep HQ.out); replace htop := HRR.out.top
        replace L1_0 := Lib.hid (L1_0.out.keep HQ.out)
        replace L1_1 := Lib.hid (L1_1.out.keep HQ.out)
        replace L1_2 := Lib.hid (L1_2.out.keep HQ.out)
        clear V1_MT
        clear V1_MA
        replace HXA := Lib.hid (HXA.out.keep HQ.out)
        replace c0 := (HQ.out.cell (p := ⟨b, bo + i * 7, none⟩) (by show b < _; have := hSa.2; omega)).trans c0
        replace c1 := (HQ.out.cell (p := ⟨b, bo + i * 7 + 1, none⟩) (by show b < _; have := hSa.2; omega)).trans c1
        replace c2 := (HQ.out.cell (p := ⟨b, bo + i * 7 + 2, none⟩) (by show b < _; have := hSa.2; omega)).trans c2
        replace c3 := (HQ.out.cell (p := ⟨b, bo + i * 7 + 3, none⟩) (by show b < _; have := hSa.2; omega)).trans c3
        replace c4 := (HQ.out.cell (p := ⟨b, bo + i * 7 + 4, none⟩) (by show b < _; have := hSa.2; omega)).trans c4
        replace c5 := (HQ.out.cell (p := ⟨b, bo + i * 7 + 5, none⟩) (by show b < _; have := hSa.2; omega)).trans c5
        replace c6 := (HQ.out.cell (p := ⟨b, bo + i * 7 + 6, none⟩) (by show b < _; have := hSa.2; omega)).trans c6
        replace hblk := Nat.lt_of_lt_of_le hblk HQ.out.size
        clear HQ
        have kO := HRR.out.box.cell; have lO := HRR.out.box.lt
        have k2_0 := L1_0.out.cell; have l2_0 := L1_0.out.lt
        have k2_1 := L1_1.out.cell; have l2_1 := L1_1.out.lt
        have k2_2 := L1_2.out.cell; have l2_2 := L1_2.out.lt
        have C0 := Lib.hid c0
        have C1 := Lib.hid c1
        have C2 := Lib.hid c2
        have C3 := Lib.hid c3
        have C4 := Lib.hid c4
        have C5 := Lib.hid c5
        have C6 := Lib.hid c6
        clear kO lO c0 c1 c2 c3 c4 c5 c6 k2_0 l2_0 k2_1 l2_1 k2_2 l2_2
        go_upto_region 7 with fail
        have HSS : ∀ wx, Below (w.heap.size + 4) wr wx → (fun w' => (∀ i, w'.cell? ⟨w.heap.size + 1 + 1 + 1, i, none⟩ = (#[.int .i64 5, .bool false, .int .i64 0, .string ⟨#[]⟩, .slice none 0 0, .slice A l.length c] : Array Value)[i]?) ∧ (∀ i, w'.cell? ⟨w.heap.size, i, none⟩ = (#[.int .i64 a.kind, .bool a.bool, .int .i64 a.int, .string a.str, .slice la0 a.list.length lc0, .slice (some ⟨b, bo, none⟩) a.map.length mc0] : Array Value)[i]?) ∧ w'.cell? ⟨b, bo + i * 7, none⟩ = some (.string ka) ∧ w'.cell? ⟨b, bo + i * 7 + 1, none⟩ = some (.int .i64 xa.kind) ∧ w'.cell? ⟨b, bo + i * 7 + 2, none⟩ = some (.bool xa.bool) ∧ w'.cell? ⟨b, bo + i * 7 + 3, none⟩ = some (.int .i64 xa.int) ∧ w'.cell? ⟨b, bo + i * 7 + 4, none⟩ = some (.string xa.str) ∧ w'.cell? ⟨b, bo + i * 7 + 5, none⟩ = some (.slice ya xa.list.length yc) ∧ w'.cell? ⟨b, bo + i * 7 + 6, none⟩ = some (.slice ym xa.map.length yn)) wx := fun wx hx => ⟨(HRR.out.box.below hx (by omega)).cell, (L1_0.out.below hx (by omega)).cell, (hx.cell (p := ⟨b, bo + i * 7, none⟩) (by show b < _; have := hSa.2; omega)).trans C0.out, (hx.cell (p := ⟨b, bo + i * 7 + 1, none⟩) (by show b < _; have := hSa.2; omega)).trans C1.out, (hx.cell (p := ⟨b, bo + i * 7 + 2, none⟩) (by show b < _; have := hSa.2; omega)).trans C2.out, (hx.cell (p := ⟨b, bo + i * 7 + 3, none⟩) (by show b < _; have := hSa.2; omega)).trans C3.out, (hx.cell (p := ⟨b, bo + i * 7 + 4, none⟩) (by show b < _; have := hSa.2; omega)).trans C4.out, (hx.cell (p := ⟨b, bo + i * 7 + 5, none⟩) (by show b < _; have := hSa.2; omega)).trans C5.out, (hx.cell (p := ⟨b, bo + i * 7 + 6, none⟩) (by show b < _; have := hSa.2; omega)).trans C6.out⟩
        have HSS := Lib.hid HSS; have HTOP := Lib.hid htop
        refine wp_region_tail (S := (fun w' => (∀ i, w'.cell? ⟨w.heap.size + 1 + 1 + 1, i, none⟩ = (#[.int .i64 5, .bool false, .int .i64 0, .string ⟨#[]⟩, .slice none 0 0, .slice A l.length c] : Array Value)[i]?) ∧ (∀ i, w'.cell? ⟨w.heap.size, i, none⟩ = (#[.int .i64 a.kind, .bool a.bool, .int .i64 a.int, .string a.str, .slice la0 a.list.length lc0, .slice (some ⟨b, bo, none⟩) a.map.length mc0] : Array Value)[i]?) ∧ w'.cell? ⟨b, bo + i * 7, none⟩ = some (.string ka) ∧ w'.cell? ⟨b, bo + i * 7 + 1, none⟩ = some (.int .i64 xa.kind) ∧ w'.cell? ⟨b, bo + i * 7 + 2, none⟩ = some (.bool xa.bool) ∧ w'.cell? ⟨b, bo + i * 7 + 3, none⟩ = some (.int .i64 xa.int) ∧ w'.cell? ⟨b, bo + i * 7 + 4, none⟩ = some (.string xa.str) ∧ w'.cell? ⟨b, bo + i * 7 + 5, none⟩ = some (.slice ya xa.list.length yc) ∧ w'.cell? ⟨b, bo + i * 7 + 6, none⟩ = some (.slice ym xa.map.length yn))) 10 (by kernel_rfl) (by kernel_rfl) (by exact HSS.out _ (Below.refl _ _).drew) (fun hHeld => ?_)
        simp only [List.dropLast]
        refine wpAnyH_take (i := 0) (v := ?vm1_0) (by conv => lhs; simp only [List.getElem?_toArray, List.getElem?_cons_succ, List.getElem?_cons_zero]) (by kernel_rfl) (by kernel_rfl) (by kernel_rfl) (by exact fun _ _ _ h => h) (Or.inl ⟨by rfl, ?hym1_0⟩) (by assumption) ?_
        case hym1_0 => (intro w0 hSw; (try dsimp only at hSw); go_simp; try with_reducible rfl)
        try simp only [Act.put, List.setIfInBounds_toArray, List.set_cons_zero, List.set_cons_succ]
        refine wpAnyH_take (i := 1) (v := ?vm1_1) (by conv => lhs; simp only [List.getElem?_toArray, List.getElem?_cons_succ, List.getElem?_cons_zero]) (by kernel_rfl) (by kernel_rfl) (by kernel_rfl) (by exact fun _ _ _ h => h) (Or.inl ⟨by rfl, ?hym1_1⟩) (by assumption) ?_
        case hym1_1 => (intro w0 hSw; (try dsimp only at hSw); go_simp; try with_reducible rfl)
        try simp only [Act.put, List.setIfInBounds_toArray, List.set_cons_zero, List.set_cons_succ]
        refine wpAnyH_take (i := 2) (v := ?vm1_2) (by conv => lhs; simp only [List.getElem?_toArray, List.getElem?_cons_succ, List.getElem?_cons_zero]) (by kernel_rfl) (by kernel_rfl) (by kernel_rfl) (by exact fun _ _ _ h => h) (Or.inl ⟨by rfl, ?hym1_2⟩) (by assumption) ?_
        case hym1_2 => (intro w0 hSw; (try dsimp only at hSw); go_simp; try with_reducible rfl)
        try simp only [Act.put, List.setIfInBounds_toArray, List.set_cons_zero, List.set_cons_succ]
        refine wpAnyH_take (i := 3) (v := ?vm1_3) (by conv => lhs; simp only [List.getElem?_toArray, List.getElem?_cons_succ, List.getElem?_cons_zero]) (by kernel_rfl) (by kernel_rfl) (by kernel_rfl) (by exact fun _ _ _ h => h) (Or.inl ⟨by rfl, ?hym1_3⟩) (by assumption) ?_
        case hym1_3 => (intro w0 hSw; (try dsimp only at hSw); go_simp; try with_reducible rfl)
        try simp only [Act.put, List.setIfInBounds_toArray, List.set_cons_zero, List.set_cons_succ]
        refine wpAnyH_take (i := 4) (v := ?vm1_4) (by conv => lhs; simp only [List.getElem?_toArray, List.getElem?_cons_succ, List.getElem?_cons_zero]) (by kernel_rfl) (by kernel_rfl) (by kernel_rfl) (by exact fun _ _ _ h => h) (Or.inl ⟨by rfl, ?hym1_4⟩) (by assumption) ?_
        case hym1_4 => (intro w0 hSw; (try dsimp only at hSw); go_simp; try with_reducible rfl)
        try simp only [Act.put, List.setIfInBounds_toArray, List.set_cons_zero, List.set_cons_succ]
        refine wpAnyH_take (i := 5) (v := ?vm1_5) (by conv => lhs; simp only [List.getElem?_toArray, List.getElem?_cons_succ, List.getElem?_cons_zero]) (by kernel_rfl) (by kernel_rfl) (by kernel_rfl) (by exact fun _ _ _ h => h) (Or.inl ⟨by rfl, ?hym1_5⟩) (by assumption) ?_
        case hym1_5 => (intro w0 hSw; (try dsimp only at hSw); go_simp; try with_reducible rfl)
        try simp only [Act.put, List.setIfInBounds_toArray, List.set_cons_zero, List.set_cons_succ]
        refine wpAnyH_take (i := 6) (v := ?vm1_6) (by conv => lhs; simp only [List.getElem?_toArray, List.getElem?_cons_succ, List.getElem?_cons_zero]) (by kernel_rfl) (by kernel_rfl) (by kernel_rfl) (by exact fun _ _ _ h => h) (Or.inl ⟨by rfl, ?hym1_6⟩) (by assumption) ?_
        case hym1_6 => (intro w0 hSw; (try dsimp only at hSw); go_simp; try with_reducible rfl)
        try simp only [Act.put, List.setIfInBounds_toArray, List.set_cons_zero, List.set_cons_succ]
        refine wpAnyH_ready (rs := [7]) (by kernel_rfl) (by simp) ?_
        refine AllReadyH.cons (by conv => lhs; simp only [List.getElem?_toArray, List.getElem?_cons_succ, List.getElem?_cons_zero]) (fun K hK => ?_) AllReadyH.nil
        go_simp
        refine hK.out _ _ (by exact HSS.out _ ((Below.refl _ _).drew.alloc HTOP.out _)) (fun hHeld => ?_)
        clear hK K
        try simp only [Act.put, List.setIfInBounds_toArray, List.set_cons_zero, List.set_cons_succ]
        refine wpAnyH_ready (rs := [8]) (by kernel_rfl) (by simp) ?_
        refine AllReadyH.cons (by conv => lhs; simp only [List.getElem?_toArray, List.getElem?_cons_succ, List.getElem?_cons_zero]) (fun K hK => ?_) AllReadyH.nil
        obtain ⟨l3, A3, c3, w9, HL3, hrun3, hbx, hb3, hr3⟩ := RRow.next (wr := wr.drew) (n := wr.heap.size) (HRR.out.keep (Below.refl _ _).drew) rfl ((HRR.out.may (Nat.le_refl _) (HXA.out.weak (fun b hb _ => .inl hb))).keep (Below.refl _ _).drew) (k := ka) hkza hl1
        have HRUN := Lib.hid hrun3; have HBX := Lib.hid hbx; have HI3 := Lib.hid hr3; have HB3 := Lib.hid hb3
        clear hbx hb3 hr3 hrun3
        refine step_append_run rfl (.tmp 62) (.tmp 68) 23 rfl HRUN.out rfl rfl ?_
        have ql := HBX.out.lt; have qf := HBX.out.frozen
        refine hK.out _ _ (by exact HSS.out _ (((Below.refl _ _).drew).trans HB3.out)) (fun hHeld => ?_)
        clear hK K
        try simp only [Act.put, List.setIfInBounds_toArray, List.set_cons_zero, List.set_cons_succ]
        refine wpAnyH_take (i := 9) (v := ?vm3_9) (by conv => lhs; simp only [List.getElem?_toArray, List.getElem?_cons_succ, List.getElem?_cons_zero]) (by kernel_rfl) (by kernel_rfl) (by kernel_rfl) (by exact fun _ _ _ h => h) (Or.inl ⟨by rfl, ?hym3_9⟩) (by assumption) ?_
        case hym3_9 => (intro w0 hSw; (try dsimp only at hSw); go_simp; try with_reducible rfl)
        try simp only [Act.put, List.setIfInBounds_toArray, List.set_cons_zero, List.set_cons_succ]
        refine wpAnyH_done (by kernel_rfl) ?_ _
        refine LastQ.step (by conv => lhs; simp only [List.getElem?_toArray, List.getElem?_cons_succ, List.getElem?_cons_zero]) (fun K hK => ?_)
        go_simp
        refine hK.out _ _ ?_
        clear hK K
        try simp only [Act.put, List.setIfInBounds_toArray, List.set_cons_zero, List.set_cons_succ]
        go_wp2_with fail
        go_roundw
        case rel => exact ⟨i + 1, k, l3, A3, c3, by omega, by omega, by go_num, rfl, HO3.out l3 HL3.out, Lib.hid ((HBL.out.trans (((Below.refl _ _).drew).trans (HB3.out.mono (by omega)))).setCell (p := ⟨w.heap.size + 1 + 1 + 1, 5, none⟩) (by show w.heap.size + 3 ≤ w.heap.size + 1 + 1 + 1; omega) _), HI3⟩
        case measure => simp [intOf]; omega
      · obtain ⟨b2, bo2, za, zc, zm, zn, hmt, hSt, hblk2, hkz, ⟨d0, d1, d2, d3, d4, d5, d6⟩, hr⟩ := V1_MT.out.at_ hkt
        subst hmt
        have HX := Lib.hid hr; clear hr
        have gk1 : (k : Int) < (t.map.length : Int) := by omega
        have gk2 : ((k : Int) == (t.map.length : Int)) = false := beq_eq_false_iff_ne.2 (by omega)
        have gop : Op.bytesLess a.map[i].1.toList t.map[k].1.toList = true := hlt
        clear hlt
        obtain ⟨ka, hka⟩ : ∃ z, z = a.map[i].1 := ⟨_, rfl⟩
        obtain ⟨xa, hxa⟩ : ∃ z, z = a.map[i].2 := ⟨_, rfl⟩
        rw [show a.map[i] = (ka, xa) from by rw [hka, hxa]] at HMG
        simp only [← hka, ← hxa] at *
        clear hka hxa
        generalize t.map[k].1 = kt at *
        have HO3 := Lib.hid (fun l3 (e : l3 = l ++ [(ka, xa)]) => show l3 ++ mrg (a.map.drop (i + 1)) (t.map.drop k) = mrg a.map t.map from by rw [e, ← hl.out, HMG.out, List.append_assoc]; rfl)
        go_wp2_with fail
        go_quiet (fail)
        clear kO lO k1_0 l1_0 k1_1 l1_1 k1_2 l1_2
        have HQ0 := Below.drewN (Below.refl wr.heap.size wr) nq
        obtain ⟨wr, hwq⟩ : ∃ z, z = wr.drewN nq := ⟨_, rfl⟩
        rw [← hwq] at HQ0
        rw [← hwq]; clear hwq
        have HQ := Lib.hid HQ0; clear HQ0
        replace HBL := Lib.hid (HBL.out.trans (HQ.out.mono (by omega))); replace HRR := Lib.hid (HRR.out.keep HQ.out); replace htop := HRR.out.top
        replace L1_0 := Lib.hid (L1_0.out.keep HQ.out)
        replace L1_1 := Lib.hid (L1_1.out.keep HQ.out)
        replace L1_2 := Lib.hid (L1_2.out.keep HQ.out)
        clear V1_MT
        clear V1_MA
        replace HXA := Lib.hid (HXA.out.keep HQ.out)
        replace c0 := (HQ.out.cell (p := ⟨b, bo + i * 7, none⟩) (by show b < _; have := hSa.2; omega)).trans c0
        replace c1 := (HQ.out.cell (p := ⟨b, bo + i * 7 + 1, none⟩) (by show b < _; have := hSa.2; omega)).trans c1
        replace c2 := (HQ.out.cell (p := ⟨b, bo + i * 7 + 2, none⟩) (by show b < _; have := hSa.2; omega)).trans c2
        replace c3 := (HQ.out.cell (p := ⟨b, bo + i * 7 + 3, none⟩) (by show b < _; have := hSa.2; omega)).trans c3
        replace c4 := (HQ.out.cell (p := ⟨b, bo + i * 7 + 4, none⟩) (by show b < _; have := hSa.2; omega)).trans c4
        replace c5 := (HQ.out.cell (p := ⟨b, bo + i * 7 + 5, none⟩) (by show b < _; have := hSa.2; omega)).trans c5
        replace c6 := (HQ.out.cell (p := ⟨b, bo + i * 7 + 6, none⟩) (by show b < _; have := hSa.2; omega)).trans c6
        replace hblk := Nat.lt_of_lt_of_le hblk HQ.out.size
        replace HX := Lib.hid (HX.out.keep HQ.out)
        replace d0 := (HQ.out.cell (p := ⟨b2, bo2 + k * 7, none⟩) (by show b2 < _; have := hSt.2; omega)).trans d0
        replace d1 := (HQ.out.cell (p := ⟨b2, bo2 + k * 7 + 1, none⟩) (by show b2 < _; have := hSt.2; omega)).trans d1
        replace d2 := (HQ.out.cell (p := ⟨b2, bo2 + k * 7 + 2, none⟩) (by show b2 < _; have := hSt.2; omega)).trans d2
        replace d3 := (HQ.out.cell (p := ⟨b2, bo2 + k * 7 + 3, none⟩) (by show b2 < _; have := hSt.2; omega)).trans d3
        replace d4 := (HQ.out.cell (p := ⟨b2, bo2 + k * 7 + 4, none⟩) (by show b2 < _; have := hSt.2; omega)).trans d4
        replace d5 := (HQ.out.cell (p := ⟨b2, bo2 + k * 7 + 5, none⟩) (by show b2 < _; have := hSt.2; omega)).trans d5
        replace d6 := (HQ.out.cell (p := ⟨b2, bo2 + k * 7 + 6, none⟩) (by show b2 < _; have := hSt.2; omega)).trans d6
        replace hblk2 := Nat.lt_of_lt_of_le hblk2 HQ.out.size
        clear HQ
        have kO := HRR.out.box.cell; have lO := HRR.out.box.lt
        have k2_0 := L1_0.out.cell; have l2_0 := L1_0.out.lt
        have k2_1 := L1_1.out.cell; have l2_1 := L1_1.out.lt
        have k2_2 := L1_2.out.cell; have l2_2 := L1_2.out.lt
        have C0 := Lib.hid c0
        have C1 := Lib.hid c1
        have C2 := Lib.hid c2
        have C3 := Lib.hid c3
        have C4 := Lib.hid c4
        have C5 := Lib.hid c5
        have C6 := Lib.hid c6
        clear kO lO c0 c1 c2 c3 c4 c5 c6 k2_0 l2_0 k2_1 l2_1 k2_2 l2_2
        go_upto_region 7 with fail
        have HSS : ∀ wx, Below (w.heap.size + 4) wr wx → (fun w' => (∀ i, w'.cell? ⟨w.heap.size + 1 + 1 + 1, i, none⟩ = (#[.int .i64 5, .bool false, .int .i64 0, .string ⟨#[]⟩, .slice none 0 0, .slice A l.length c] : Array Value)[i]?) ∧ (∀ i, w'.cell? ⟨w.heap.size, i, none⟩ = (#[.int .i64 a.kind, .bool a.bool, .int .i64 a.int, .string a.str, .slice la0 a.list.length lc0, .slice (some ⟨b, bo, none⟩) a.map.length mc0] : Array Value)[i]?) ∧ w'.cell? ⟨b, bo + i * 7, none⟩ = some (.string ka) ∧ w'.cell? ⟨b, bo + i * 7 + 1, none⟩ = some (.int .i64 xa.kind) ∧ w'.cell? ⟨b, bo + i * 7 + 2, none⟩ = some (.bool xa.bool) ∧ w'.cell? ⟨b, bo + i * 7 + 3, none⟩ = some (.int .i64 xa.int) ∧ w'.cell? ⟨b, bo + i * 7 + 4, none⟩ = some (.string xa.str) ∧ w'.cell? ⟨b, bo + i * 7 + 5, none⟩ = some (.slice ya xa.list.length yc) ∧ w'.cell? ⟨b, bo + i * 7 + 6, none⟩ = some (.slice ym xa.map.length yn)) wx := fun wx hx => ⟨(HRR.out.box.below hx (by omega)).cell, (L1_0.out.below hx (by omega)).cell, (hx.cell (p := ⟨b, bo + i * 7, none⟩) (by show b < _; have := hSa.2; omega)).trans C0.out, (hx.cell (p := ⟨b, bo + i * 7 + 1, none⟩) (by show b < _; have := hSa.2; omega)).trans C1.out, (hx.cell (p := ⟨b, bo + i * 7 + 2, none⟩) (by show b < _; have := hSa.2; omega)).trans C2.out, (hx.cell (p := ⟨b, bo + i * 7 + 3, none⟩) (by show b < _; have := hSa.2; omega)).trans C3.out, (hx.cell (p := ⟨b, bo + i * 7 + 4, none⟩) (by show b < _; have := hSa.2; omega)).trans C4.out, (hx.cell (p := ⟨b, bo + i * 7 + 5, none⟩) (by show b < _; have := hSa.2; omega)).trans C5.out, (hx.cell (p := ⟨b, bo + i * 7 + 6, none⟩) (by show b < _; have := hSa.2; omega)).trans C6.out⟩
        have HSS := Lib.hid HSS; have HTOP := Lib.hid htop
        refine wp_region_tail (S := (fun w' => (∀ i, w'.cell? ⟨w.heap.size + 1 + 1 + 1, i, none⟩ = (#[.int .i64 5, .bool false, .int .i64 0, .string ⟨#[]⟩, .slice none 0 0, .slice A l.length c] : Array Value)[i]?) ∧ (∀ i, w'.cell? ⟨w.heap.size, i, none⟩ = (#[.int .i64 a.kind, .bool a.bool, .int .i64 a.int, .string a.str, .slice la0 a.list.length lc0, .slice (some ⟨b, bo, none⟩) a.map.length mc0] : Array Value)[i]?) ∧ w'.cell? ⟨b, bo + i * 7, none⟩ = some (.string ka) ∧ w'.cell? ⟨b, bo + i * 7 + 1, none⟩ = some (.int .i64 xa.kind) ∧ w'.cell? ⟨b, bo + i * 7 + 2, none⟩ = some (.bool xa.bool) ∧ w'.cell? ⟨b, bo + i * 7 + 3, none⟩ = some (.int .i64 xa.int) ∧ w'.cell? ⟨b, bo + i * 7 + 4, none⟩ = some (.string xa.str) ∧ w'.cell? ⟨b, bo + i * 7 + 5, none⟩ = some (.slice ya xa.list.length yc) ∧ w'.cell? ⟨b, bo + i * 7 + 6, none⟩ = some (.slice ym xa.map.length yn))) 10 (by kernel_rfl) (by kernel_rfl) (by exact HSS.out _ (Below.refl _ _).drew) (fun hHeld => ?_)
        simp only [List.dropLast]
        refine wpAnyH_take (i := 0) (v := ?vm4_0) (by conv => lhs; simp only [List.getElem?_toArray, List.getElem?_cons_succ, List.getElem?_cons_zero]) (by kernel_rfl) (by kernel_rfl) (by kernel_rfl) (by exact fun _ _ _ h => h) (Or.inl ⟨by rfl, ?hym4_0⟩) (by assumption) ?_
        case hym4_0 => (intro w0 hSw; (try dsimp only at hSw); go_simp; try with_reducible rfl)
        try simp only [Act.put, List.setIfInBounds_toArray, List.set_cons_zero, List.set_cons_succ]
        refine wpAnyH_take (i := 1) (v := ?vm4_1) (by conv => lhs; simp only [List.getElem?_toArray, List.getElem?_cons_succ, List.getElem?_cons_zero]) (by kernel_rfl) (by kernel_rfl) (by kernel_rfl) (by exact fun _ _ _ h => h) (Or.inl ⟨by rfl, ?hym4_1⟩) (by assumption) ?_
        case hym4_1 => (intro w0 hSw; (try dsimp only at hSw); go_simp; try with_reducible rfl)
        try simp only [Act.put, List.setIfInBounds_toArray, List.set_cons_zero, List.set_cons_succ]
        refine wpAnyH_take (i := 2) (v := ?vm4_2) (by conv => lhs; simp only [List.getElem?_toArray, List.getElem?_cons_succ, List.getElem?_cons_zero]) (by kernel_rfl) (by kernel_rfl) (by kernel_rfl) (by exact fun _ _ _ h => h) (Or.inl ⟨by rfl, ?hym4_2⟩) (by assumption) ?_
        case hym4_2 => (intro w0 hSw; (try dsimp only at hSw); go_simp; try with_reducible rfl)
        try simp only [Act.put, List.setIfInBounds_toArray, List.set_cons_zero, List.set_cons_succ]
        refine wpAnyH_take (i := 3) (v := ?vm4_3) (by conv => lhs; simp only [List.getElem?_toArray, List.getElem?_cons_succ, List.getElem?_cons_zero]) (by kernel_rfl) (by kernel_rfl) (by kernel_rfl) (by exact fun _ _ _ h => h) (Or.inl ⟨by rfl, ?hym4_3⟩) (by assumption) ?_
        case hym4_3 => (intro w0 hSw; (try dsimp only at hSw); go_simp; try with_reducible rfl)
        try simp only [Act.put, List.setIfInBounds_toArray, List.set_cons_zero, List.set_cons_succ]
        refine wpAnyH_take (i := 4) (v := ?vm4_4) (by conv => lhs; simp only [List.getElem?_toArray, List.getElem?_cons_succ, List.getElem?_cons_zero]) (by kernel_rfl) (by kernel_rfl) (by kernel_rfl) (by exact fun _ _ _ h => h) (Or.inl ⟨by rfl, ?hym4_4⟩) (by assumption) ?_
        case hym4_4 => (intro w0 hSw; (try dsimp only at hSw); go_simp; try with_reducible rfl)
        try simp only [Act.put, List.setIfInBounds_toArray, List.set_cons_zero, List.set_cons_succ]
        refine wpAnyH_take (i := 5) (v := ?vm4_5) (by conv => lhs; simp only [List.getElem?_toArray, List.getElem?_cons_succ, List.getElem?_cons_zero]) (by kernel_rfl) (by kernel_rfl) (by kernel_rfl) (by exact fun _ _ _ h => h) (Or.inl ⟨by rfl, ?hym4_5⟩) (by assumption) ?_
        case hym4_5 => (intro w0 hSw; (try dsimp only at hSw); go_simp; try with_reducible rfl)
        try simp only [Act.put, List.setIfInBounds_toArray, List.set_cons_zero, List.set_cons_succ]
        refine wpAnyH_take (i := 6) (v := ?vm4_6) (by conv => lhs; simp only [List.getElem?_toArray, List.getElem?_cons_succ, List.getElem?_cons_zero]) (by kernel_rfl) (by kernel_rfl) (by kernel_rfl) (by exact fun _ _ _ h => h) (Or.inl ⟨by rfl, ?hym4_6⟩) (by assumption) ?_
        case hym4_6 => (intro w0 hSw; (try dsimp only at hSw); go_simp; try with_reducible rfl)
        try simp only [Act.put, List.setIfInBounds_toArray, List.set_cons_zero, List.set_cons_succ]
        refine wpAnyH_ready (rs := [7]) (by kernel_rfl) (by simp) ?_
        refine AllReadyH.cons (by conv => lhs; simp only [List.getElem?_toArray, List.getElem?_cons_succ, List.getElem?_cons_zero]) (fun K hK => ?_) AllReadyH.nil
        go_simp
        refine hK.out _ _ (by exact HSS.out _ ((Below.refl _ _).drew.alloc HTOP.out _)) (fun hHeld => ?_)
        clear hK K
        try simp only [Act.put, List.setIfInBounds_toArray, List.set_cons_zero, List.set_cons_succ]
        refine wpAnyH_ready (rs := [8]) (by kernel_rfl) (by simp) ?_
        refine AllReadyH.cons (by conv => lhs; simp only [List.getElem?_toArray, List.getElem?_cons_succ, List.getElem?_cons_zero]) (fun K hK => ?_) AllReadyH.nil
        obtain ⟨l3, A3, c3, w9, HL3, hrun3, hbx, hb3, hr3⟩ := RRow.next (wr := wr.drew) (n := wr.heap.size) (HRR.out.keep (Below.refl _ _).drew) rfl ((HRR.out.may (Nat.le_refl _) (HXA.out.weak (fun b hb _ => .inl hb))).keep (Below.refl _ _).drew) (k := ka) hkza hl1
        have HRUN := Lib.hid hrun3; have HBX := Lib.hid hbx; have HI3 := Lib.hid hr3; have HB3 := Lib.hid hb3
        clear hbx hb3 hr3 hrun3
        refine step_append_run rfl (.tmp 62) (.tmp 68) 23 rfl HRUN.out rfl rfl ?_
        have ql := HBX.out.lt; have qf := HBX.out.frozen
        refine hK.out _ _ (by exact HSS.out _ (((Below.refl _ _).drew).trans HB3.out)) (fun hHeld => ?_)
        clear hK K
        try simp only [Act.put, List.setIfInBounds_toArray, List.set_cons_zero, List.set_cons_succ]
        refine wpAnyH_take (i := 9) (v := ?vm6_9) (by conv => lhs; simp only [List.getElem?_toArray, List.getElem?_cons_succ, List.getElem?_cons_zero]) (by kernel_rfl) (by kernel_rfl) (by kernel_rfl) (by exact fun _ _ _ h => h) (Or.inl ⟨by rfl, ?hym6_9⟩) (by assumption) ?_
        case hym6_9 => (intro w0 hSw; (try dsimp only at hSw); go_simp; try with_reducible rfl)
        try simp only [Act.put, List.setIfInBounds_toArray, List.set_cons_zero, List.set_cons_succ]
        refine wpAnyH_done (by kernel_rfl) ?_ _
        refine LastQ.step (by conv => lhs; simp only [List.getElem?_toArray, List.getElem?_cons_succ, List.getElem?_cons_zero]) (fun K hK => ?_)
        go_simp
        refine hK.out _ _ ?_
        clear hK K
        try simp only [Act.put, List.setIfInBounds_toArray, List.set_cons_zero, List.set_cons_succ]
        go_wp2_with fail
        go_roundw
        case rel => exact ⟨i + 1, k, l3, A3, c3, by omega, by omega, by go_num, rfl, HO3.out l3 HL3.out, Lib.hid ((HBL.out.trans (((Below.refl _ _).drew).trans (HB3.out.mono (by omega)))).setCell (p := ⟨w.heap.size + 1 + 1 + 1, 5, none⟩) (by show w.heap.size + 3 ≤ w.heap.size + 1 + 1 + 1; omega) _), HI3⟩
        case measure => simp [intOf]; omega
    have hkt : k < t.map.length := by
      rcases Nat.lt_or_ge k t.map.length with h | h
      · exact h
      · exact absurd ⟨by omega, .inl (by omega)⟩ hA
    obtain ⟨b2, bo2, za, zc, zm, zn, hmt, hSt, hblk2, hkz, ⟨d0, d1, d2, d3, d4, d5, d6⟩, hr⟩ := V1_MT.out.at_ hkt
    subst hmt
    have HX := Lib.hid hr; clear hr
    have gk1 : (k : Int) < (t.map.length : Int) := by omega
    have gk2 : ((k : Int) == (t.map.length : Int)) = false := beq_eq_false_iff_ne.2 (by omega)
    have HAP : Hid (∀ hia : i < a.map.length, klt a.map[i].1 t.map[k].1 = false) := fun hia => by
      cases e : klt a.map[i].1 t.map[k].1 with
      | false => rfl
      | true => exact absurd ⟨hia, .inr ⟨hkt, e⟩⟩ hA
    clear hA hfin
    have HIK := HIH.out k hkt
    obtain ⟨key, hkey⟩ : ∃ z, z = t.map[k].1 := ⟨_, rfl⟩
    obtain ⟨x, hx⟩ : ∃ z, z = t.map[k].2 := ⟨_, rfl⟩
    by_cases hia : i < a.map.length
    · obtain ⟨b, bo, ya, yc, ym, yn, hma, hSa, hblk, hkza, ⟨c0, c1, c2, c3, c4, c5, c6⟩, hr⟩ := V1_MA.out.at_ hia
      subst hma
      have HXA := Lib.hid hr; clear hr
      have gi1 : (i : Int) < (a.map.length : Int) := by omega
      have gop : Op.bytesLess a.map[i].1.toList key.toList = false := hkey ▸ HAP.out hia
      by_cases hke : a.map[i].1 = key
      · have HMG := Lib.hid (mrg_B (xs := a.map) (ys := t.map) hia hkt (hke.trans hkey))
        have HIC := Lib.hid (HIK a.map[i].2 (HAM.out i hia))
        rw [show t.map[k] = (key, x) from by rw [hkey, hx]] at HMG HIC
        simp only [← hkey, ← hx] at *
        clear hkey hx HAP HIK HIH HAM
        have gne : (a.map[i].1.toList == key.toList) = true := by rw [hke]; simp
        clear hke
        generalize a.map[i].1 = ka at *
        generalize a.map[i].2 = tw at *
        go_wp2_with fail
        go_quiet (fail)
        clear kO lO k1_0 l1_0 k1_1 l1_1 k1_2 l1_2
        have HQ0 := Below.drewN (Below.refl wr.heap.size wr) nq
        obtain ⟨wr, hwq⟩ : ∃ z, z = wr.drewN nq := ⟨_, rfl⟩
        rw [← hwq] at HQ0
        rw [← hwq]; clear hwq
        have HQ := Lib.hid HQ0; clear HQ0
        replace HBL := Lib.hid (HBL.out.trans (HQ.out.mono (by omega))); replace HRR := Lib.hid (HRR.out.keep HQ.out); replace htop := HRR.out.top
        replace L1_0 := Lib.hid (L1_0.out.keep HQ.out)
        replace L1_1 := Lib.hid (L1_1.out.keep HQ.out)
        replace L1_2 := Lib.hid (L1_2.out.keep HQ.out)
        clear V1_MT
        clear V1_MA
        replace HXA := Lib.hid (HXA.out.keep HQ.out)
        replace c0 := (HQ.out.cell (p := ⟨b, bo + i * 7, none⟩) (by show b < _; have := hSa.2; omega)).trans c0
        replace c1 := (HQ.out.cell (p := ⟨b, bo + i * 7 + 1, none⟩) (by show b < _; have := hSa.2; omega)).trans c1
        replace c2 := (HQ.out.cell (p := ⟨b, bo + i * 7 + 2, none⟩) (by show b < _; have := hSa.2; omega)).trans c2
        replace c3 := (HQ.out.cell (p := ⟨b, bo + i * 7 + 3, none⟩) (by show b < _; have := hSa.2; omega)).trans c3
        replace c4 := (HQ.out.cell (p := ⟨b, bo + i * 7 + 4, none⟩) (by show b < _; have := hSa.2; omega)).trans c4
        replace c5 := (HQ.out.cell (p := ⟨b, bo + i * 7 + 5, none⟩) (by show b < _; have := hSa.2; omega)).trans c5
        replace c6 := (HQ.out.cell (p := ⟨b, bo + i * 7 + 6, none⟩) (by show b < _; have := hSa.2; omega)).trans c6
        replace hblk := Nat.lt_of_lt_of_le hblk HQ.out.size
        replace HX := Lib.hid (HX.out.keep HQ.out)
        replace d0 := (HQ.out.cell (p := ⟨b2, bo2 + k * 7, none⟩) (by show b2 < _; have := hSt.2; omega)).trans d0
        replace d1 := (HQ.out.cell (p := ⟨b2, bo2 + k * 7 + 1, none⟩) (by show b2 < _; have := hSt.2; omega)).trans d1
        replace d2 := (HQ.out.cell (p := ⟨b2, bo2 + k * 7 + 2, none⟩) (by show b2 < _; have := hSt.2; omega)).trans d2
        replace d3 := (HQ.out.cell (p := ⟨b2, bo2 + k * 7 + 3, none⟩) (by show b2 < _; have := hSt.2; omega)).trans d3
        replace d4 := (HQ.out.cell (p := ⟨b2, bo2 + k * 7 + 4, none⟩) (by show b2 < _; have := hSt.2; omega)).trans d4
        replace d5 := (HQ.out.cell (p := ⟨b2, bo2 + k * 7 + 5, none⟩) (by show b2 < _; have := hSt.2; omega)).trans d5
        replace d6 := (HQ.out.cell (p := ⟨b2, bo2 + k * 7 + 6, none⟩) (by show b2 < _; have := hSt.2; omega)).trans d6
        replace hblk2 := Nat.lt_of_lt_of_le hblk2 HQ.out.size
        clear HQ
        have kO := HRR.out.box.cell; have lO := HRR.out.box.lt
        have k2_0 := L1_0.out.cell; have l2_0 := L1_0.out.lt
        have k2_1 := L1_1.out.cell; have l2_1 := L1_1.out.lt
        have k2_2 := L1_2.out.cell; have l2_2 := L1_2.out.lt
        have HBN0 : Below wr.heap.size wr ((wr.alloc (.cells #[.int .i64 x.kind, .bool x.bool, .int .i64 x.int, .string x.str, .slice za x.list.length zc, .slice zm x.map.length zn] 25)).alloc (.cells #[.int .i64 tw.kind, .bool tw.bool, .int .i64 tw.int, .string tw.str, .slice ya tw.list.length yc, .slice ym tw.map.length yn] 25)) := (Below.new _ _).alloc (by simp) _
        have LX : Blk ((wr.alloc (.cells #[.int .i64 x.kind, .bool x.bool, .int .i64 x.int, .string x.str, .slice za x.list.length zc, .slice zm x.map.length zn] 25)).alloc (.cells #[.int .i64 tw.kind, .bool tw.bool, .int .i64 tw.int, .string tw.str, .slice ya tw.list.length yc, .slice ym tw.map.length yn] 25)) wr.heap.size 25 #[.int .i64 x.kind, .bool x.bool, .int .i64 x.int, .string x.str, .slice za x.list.length zc, .slice zm x.map.length zn] := (Blk.new _ _ _).alloc _
        have LZ : Blk ((wr.alloc (.cells #[.int .i64 x.kind, .bool x.bool, .int .i64 x.int, .string x.str, .slice za x.list.length zc, .slice zm x.map.length zn] 25)).alloc (.cells #[.int .i64 tw.kind, .bool tw.bool, .int .i64 tw.int, .string tw.str, .slice ya tw.list.length yc, .slice ym tw.map.length yn] 25)) (wr.heap.size + 1) 25 #[.int .i64 tw.kind, .bool tw.bool, .int .i64 tw.int, .string tw.str, .slice ya tw.list.length yc, .slice ym tw.map.length yn] := Blk.new_at _ _ _ (by simp)
        obtain ⟨Wn, eWn⟩ : ∃ z, z = ((wr.alloc (.cells #[.int .i64 x.kind, .bool x.bool, .int .i64 x.int, .string x.str, .slice za x.list.length zc, .slice zm x.map.length zn] 25)).alloc (.cells #[.int .i64 tw.kind, .bool tw.bool, .int .i64 tw.int, .string tw.str, .slice ya tw.list.length yc, .slice ym tw.map.length yn] 25)) := ⟨_, rfl⟩
        rw [← eWn] at HBN0 LX LZ
        have HWN := Lib.hid (HXA.out.keep HBN0)
        have HBN := Lib.hid HBN0; have HXN := Lib.hid (HX.out.keep HBN0); have HRN := Lib.hid (HRR.out.keep HBN0); have EW := Lib.hid eWn
        clear HBN0 eWn
        go_upto_region 16 with fail
        rw [← EW.out]
        clear kO lO k2_0 l2_0 k2_1 l2_1 k2_2 l2_2 EW
        have kO := HRN.out.box.cell; have lO := HRN.out.box.lt; have xk := LX.cell; have xl := LX.lt; have zk := LZ.cell; have zl := LZ.lt
        by_cases hx0 : x.kind = 0
        · have HO3 := Lib.hid (show l ++ mrg (a.map.drop (i + 1)) (t.map.drop (k + 1)) = mrg a.map t.map from by rw [← hl.out, HMG.out]; unfold mrgP; rw [if_pos hx0]; rfl)
          have g0 : (x.kind != 0) = false := by rw [hx0]; rfl
          clear hx0
          go_wp2_with fail
          go_roundw
          case rel => exact ⟨i + 1, k + 1, l, A, c, by omega, by omega, by go_num, by go_num, HO3, Lib.hid (HBL.out.trans (HBN.out.mono (by omega))), HRN⟩
          case measure => simp [intOf]; omega
        · have HO3 := Lib.hid (show ∀ l3, l3 = l ++ [(key, x.over tw)] → l3 ++ mrg (a.map.drop (i + 1)) (t.map.drop (k + 1)) = mrg a.map t.map from fun l3 e => by rw [e, ← hl.out, HMG.out]; unfold mrgP; rw [if_neg hx0, List.append_assoc])
          have g0 : (x.kind != 0) = true := bne_iff_ne.2 hx0
          clear hx0
          go_wp2_with fail
          have HX17 := Lib.hid LX; have HZ17 := Lib.hid LZ; have HNN := Lib.hid HBN.out.size; have HTN := Lib.hid HRN.out.top
          clear LX LZ kO lO xk xl zk zl
          refine wp_region_tail (S := (fun w' => (∀ i, w'.cell? ⟨w.heap.size + 1 + 1 + 1, i, none⟩ = (#[.int .i64 5, .bool false, .int .i64 0, .string ⟨#[]⟩, .slice none 0 0, .slice A l.length c] : Array Value)[i]?) ∧ (∀ i, w'.cell? ⟨wr.heap.size, i, none⟩ = (#[.int .i64 x.kind, .bool x.bool, .int .i64 x.int, .string x.str, .slice za x.list.length zc, .slice zm x.map.length zn] : Array Value)[i]?) ∧ (∀ i, w'.cell? ⟨wr.heap.size + 1, i, none⟩ = (#[.int .i64 tw.kind, .bool tw.bool, .int .i64 tw.int, .string tw.str, .slice ya tw.list.length yc, .slice ym tw.map.length yn] : Array Value)[i]?))) 10 (by kernel_rfl) (by kernel_rfl) (by exact ⟨(HRN.out.box.keep ((Below.refl _ _).drew)).cell, (HX17.out.keep ((Below.refl _ _).drew)).cell, (HZ17.out.keep ((Below.refl _ _).drew)).cell⟩) (fun hHeld => ?_)
          simp only [List.dropLast]
          refine wpAnyH_take (i := 0) (v := ?vm7_0) (by conv => lhs; simp only [List.getElem?_toArray, List.getElem?_cons_succ, List.getElem?_cons_zero]) (by kernel_rfl) (by kernel_rfl) (by kernel_rfl) (by exact fun _ _ _ h => h) (Or.inl ⟨by rfl, ?hym7_0⟩) (by assumption) ?_
          case hym7_0 => (intro w0 hSw; (try dsimp only at hSw); go_simp; try with_reducible rfl)
          try simp only [Act.put, List.setIfInBounds_toArray, List.set_cons_zero, List.set_cons_succ]
          refine wpAnyH_take (i := 1) (v := ?vm7_1) (by conv => lhs; simp only [List.getElem?_toArray, List.getElem?_cons_succ, List.getElem?_cons_zero]) (by kernel_rfl) (by kernel_rfl) (by kernel_rfl) (by exact fun _ _ _ h => h) (Or.inl ⟨by rfl, ?hym7_1⟩) (by assumption) ?_
          case hym7_1 => (intro w0 hSw; (try dsimp only at hSw); go_simp; try with_reducible rfl)
          try simp only [Act.put, List.setIfInBounds_toArray, List.set_cons_zero, List.set_cons_succ]
          refine wpAnyH_take (i := 2) (v := ?vm7_2) (by conv => lhs; simp only [List.getElem?_toArray, List.getElem?_cons_succ, List.getElem?_cons_zero]) (by kernel_rfl) (by kernel_rfl) (by kernel_rfl) (by exact fun _ _ _ h => h) (Or.inl ⟨by rfl, ?hym7_2⟩) (by assumption) ?_
          case hym7_2 => (intro w0 hSw; (try dsimp only at hSw); go_simp; try with_reducible rfl)
          try simp only [Act.put, List.setIfInBounds_toArray, List.set_cons_zero, List.set_cons_succ]
          refine wpAnyH_take (i := 3) (v := ?vm7_3) (by conv => lhs; simp only [List.getElem?_toArray, List.getElem?_cons_succ, List.getElem?_cons_zero]) (by kernel_rfl) (by kernel_rfl) (by kernel_rfl) (by exact fun _ _ _ h => h) (Or.inl ⟨by rfl, ?hym7_3⟩) (by assumption) ?_
          case hym7_3 => (intro w0 hSw; (try dsimp only at hSw); go_simp; try with_reducible rfl)
          try simp only [Act.put, List.setIfInBounds_toArray, List.set_cons_zero, List.set_cons_succ]
          refine wpAnyH_take (i := 4) (v := ?vm7_4) (by conv => lhs; simp only [List.getElem?_toArray, List.getElem?_cons_succ, List.getElem?_cons_zero]) (by kernel_rfl) (by kernel_rfl) (by kernel_rfl) (by exact fun _ _ _ h => h) (Or.inl ⟨by rfl, ?hym7_4⟩) (by assumption) ?_
          case hym7_4 => (intro w0 hSw; (try dsimp only at hSw); go_simp; try with_reducible rfl)
          try simp only [Act.put, List.setIfInBounds_toArray, List.set_cons_zero, List.set_cons_succ]
          refine wpAnyH_ready (rs := [5]) (by kernel_rfl) (by simp) ?_
          refine AllReadyH.cons (by conv => lhs; simp only [List.getElem?_toArray, List.getElem?_cons_succ, List.getElem?_cons_zero]) (fun K hK => ?_) AllReadyH.nil
          go_simp
          refine (HIC.out _ _ _ _ (HWN.out.keep (by exact (Below.refl _ _).drew)) (HXN.out.keep (by exact (Below.refl _ _).drew))).mono ?_
          rintro e w8 ⟨v8, rfl, hr8, hb8⟩
          obtain ⟨qa8, qc8, qm8, qn8, rfl, -⟩ := hr8.inv
          have HW8 := Lib.hid (Below.next ((Below.refl Wn.heap.size Wn).drew) hb8)
          have HR8 := Lib.hid (HRN.out.keep HW8.out)
          have HY8 := Lib.hid (HR8.out.own_may HRN.out hr8 rfl)
          clear hr8 hb8
          obtain ⟨l3, A3, c3, w9, HL3, hrun3, hbx, hb3, hf3, hr3⟩ := RRow.next_full (n := w8.heap.size) HR8.out rfl HY8.out (k := key) hkz hl1
          have HRUN := Lib.hid hrun3; have HBX := Lib.hid hbx; have HI3 := Lib.hid hr3; have HB3 := Lib.hid hb3; have HF3 := Lib.hid hf3
          clear hbx hb3 hr3 hrun3 hf3
          go_wp2_with fail
          refine hK.out _ _ (by exact ⟨(HRN.out.box.keep HW8.out).cell, (HX17.out.keep HW8.out).cell, (HZ17.out.keep HW8.out).cell⟩) (fun hHeld => ?_)
          clear hK K
          try simp only [Act.put, List.setIfInBounds_toArray, List.set_cons_zero, List.set_cons_succ]
          refine wpAnyH_take (i := 6) (v := ?vm8_6) (by conv => lhs; simp only [List.getElem?_toArray, List.getElem?_cons_succ, List.getElem?_cons_zero]) (by kernel_rfl) (by kernel_rfl) (by kernel_rfl) (by exact fun _ _ _ h => h) (Or.inl ⟨by rfl, ?hym8_6⟩) (by assumption) ?_
          case hym8_6 => (intro w0 hSw; (try dsimp only at hSw); go_simp; try with_reducible rfl)
          try simp only [Act.put, List.setIfInBounds_toArray, List.set_cons_zero, List.set_cons_succ]
          refine wpAnyH_ready (rs := [7]) (by kernel_rfl) (by simp) ?_
          refine AllReadyH.cons (by conv => lhs; simp only [List.getElem?_toArray, List.getElem?_cons_succ, List.getElem?_cons_zero]) (fun K hK => ?_) AllReadyH.nil
          go_simp
          refine hK.out _ _ (by exact ⟨(HRN.out.box.keep (HW8.out.alloc HW8.out.size _)).cell, (HX17.out.keep (HW8.out.alloc HW8.out.size _)).cell, (HZ17.out.keep (HW8.out.alloc HW8.out.size _)).cell⟩) (fun hHeld => ?_)
          clear hK K
          try simp only [Act.put, List.setIfInBounds_toArray, List.set_cons_zero, List.set_cons_succ]
          refine wpAnyH_ready (rs := [8]) (by kernel_rfl) (by simp) ?_
          refine AllReadyH.cons (by conv => lhs; simp only [List.getElem?_toArray, List.getElem?_cons_succ, List.getElem?_cons_zero]) (fun K hK => ?_) AllReadyH.nil
          refine step_append_run rfl (.tmp 115) (.tmp 121) 23 rfl HRUN.out rfl rfl ?_
          have ql := HBX.out.lt; have qf := HBX.out.frozen
          refine hK.out _ _ (by exact ⟨HBX.out.cell, Blk.cell ((HF3.out _ (HX17.out.keep HW8.out).lt (HRN.out.older8 HW8.out HRR.out (Nat.le_refl _))).trans (HX17.out.keep HW8.out)), Blk.cell ((HF3.out _ (HZ17.out.keep HW8.out).lt (HRN.out.older8 HW8.out HRR.out (Nat.le_succ _))).trans (HZ17.out.keep HW8.out))⟩) (fun hHeld => ?_)
          clear hK K
          try simp only [Act.put, List.setIfInBounds_toArray, List.set_cons_zero, List.set_cons_succ]
          refine wpAnyH_take (i := 9) (v := ?vm10_9) (by conv => lhs; simp only [List.getElem?_toArray, List.getElem?_cons_succ, List.getElem?_cons_zero]) (by kernel_rfl) (by kernel_rfl) (by kernel_rfl) (by exact fun _ _ _ h => h) (Or.inl ⟨by rfl, ?hym10_9⟩) (by assumption) ?_
          case hym10_9 => (intro w0 hSw; (try dsimp only at hSw); go_simp; try with_reducible rfl)
          try simp only [Act.put, List.setIfInBounds_toArray, List.set_cons_zero, List.set_cons_succ]
          refine wpAnyH_done (by kernel_rfl) ?_ _
          refine LastQ.step (by conv => lhs; simp only [List.getElem?_toArray, List.getElem?_cons_succ, List.getElem?_cons_zero]) (fun K hK => ?_)
          go_simp
          refine hK.out _ _ ?_
          clear hK K
          try simp only [Act.put, List.setIfInBounds_toArray, List.set_cons_zero, List.set_cons_succ]
          go_wp2_with fail
          go_roundw
          case rel => exact ⟨i + 1, k + 1, l3, A3, c3, by omega, by omega, by go_num, by go_num, Lib.hid (HO3.out l3 HL3.out), Lib.hid ((((HBL.out.trans (HBN.out.mono (by omega))).trans (HW8.out.mono (by have := HNN.out; omega))).trans (HB3.out.mono (by omega))).setCell (p := ⟨w.heap.size + 1 + 1 + 1, 5, none⟩) (by show w.heap.size + 3 ≤ w.heap.size + 1 + 1 + 1; omega) _), HI3⟩
          case measure => simp [intOf]; omega
      · have HMG := Lib.hid (mrg_C (xs := a.map) (i := i) hkt (.inr ⟨hia, HAP.out hia, hkey ▸ hke⟩))
        rw [show t.map[k] = (key, x) from by rw [hkey, hx]] at HMG
        simp only [← hkey, ← hx] at *
        clear hkey hx HAP
        have gne : (a.map[i].1.toList == key.toList) = false := by rw [keq_iff]; exact decide_eq_false hke
        clear hke
        generalize a.map[i].1 = ka at *
        have HIC := Lib.hid (HIK T.zero Neat.zero)
        clear HIK HIH
        obtain ⟨tw, htw⟩ : ∃ z, z = T.zero := ⟨_, rfl⟩
        rw [← htw] at HIC HMG
        go_wp2_with fail
        go_quiet (fail)
        clear kO lO k1_0 l1_0 k1_1 l1_1 k1_2 l1_2
        have HQ0 := Below.drewN (Below.refl wr.heap.size wr) nq
        obtain ⟨wr, hwq⟩ : ∃ z, z = wr.drewN nq := ⟨_, rfl⟩
        rw [← hwq] at HQ0
        rw [← hwq]; clear hwq
        have HQ := Lib.hid HQ0; clear HQ0
        replace HBL := Lib.hid (HBL.out.trans (HQ.out.mono (by omega))); replace HRR := Lib.hid (HRR.out.keep HQ.out); replace htop := HRR.out.top
        replace L1_0 := Lib.hid (L1_0.out.keep HQ.out)
        replace L1_1 := Lib.hid (L1_1.out.keep HQ.out)
        replace L1_2 := Lib.hid (L1_2.out.keep HQ.out)
        clear V1_MT
        clear V1_MA
        replace HXA := Lib.hid (HXA.out.keep HQ.out)
        replace c0 := (HQ.out.cell (p := ⟨b, bo + i * 7, none⟩) (by show b < _; have := hSa.2; omega)).trans c0
        replace c1 := (HQ.out.cell (p := ⟨b, bo + i * 7 + 1, none⟩) (by show b < _; have := hSa.2; omega)).trans c1
        replace c2 := (HQ.out.cell (p := ⟨b, bo + i * 7 + 2, none⟩) (by show b < _; have := hSa.2; omega)).trans c2
        replace c3 := (HQ.out.cell (p := ⟨b, bo + i * 7 + 3, none⟩) (by show b < _; have := hSa.2; omega)).trans c3
        replace c4 := (HQ.out.cell (p := ⟨b, bo + i * 7 + 4, none⟩) (by show b < _; have := hSa.2; omega)).trans c4
        replace c5 := (HQ.out.cell (p := ⟨b, bo + i * 7 + 5, none⟩) (by show b < _; have := hSa.2; omega)).trans c5
        replace c6 := (HQ.out.cell (p := ⟨b, bo + i * 7 + 6, none⟩) (by show b < _; have := hSa.2; omega)).trans c6
        replace hblk := Nat.lt_of_lt_of_le hblk HQ.out.size
        replace HX := Lib.hid (HX.out.keep HQ.out)
        replace d0 := (HQ.out.cell (p := ⟨b2, bo2 + k * 7, none⟩) (by show b2 < _; have := hSt.2; omega)).trans d0
        replace d1 := (HQ.out.cell (p := ⟨b2, bo2 + k * 7 + 1, none⟩) (by show b2 < _; have := hSt.2; omega)).trans d1
        replace d2 := (HQ.out.cell (p := ⟨b2, bo2 + k * 7 + 2, none⟩) (by show b2 < _; have := hSt.2; omega)).trans d2
        replace d3 := (HQ.out.cell (p := ⟨b2, bo2 + k * 7 + 3, none⟩) (by show b2 < _; have := hSt.2; omega)).trans d3
        replace d4 := (HQ.out.cell (p := ⟨b2, bo2 + k * 7 + 4, none⟩) (by show b2 < _; have := hSt.2; omega)).trans d4
        replace d5 := (HQ.out.cell (p := ⟨b2, bo2 + k * 7 + 5, none⟩) (by show b2 < _; have := hSt.2; omega)).trans d5
        replace d6 := (HQ.out.cell (p := ⟨b2, bo2 + k * 7 + 6, none⟩) (by show b2 < _; have := hSt.2; omega)).trans d6
        replace hblk2 := Nat.lt_of_lt_of_le hblk2 HQ.out.size
        clear HQ
        have kO := HRR.out.box.cell; have lO := HRR.out.box.lt
        have k2_0 := L1_0.out.cell; have l2_0 := L1_0.out.lt
        have k2_1 := L1_1.out.cell; have l2_1 := L1_1.out.lt
        have k2_2 := L1_2.out.cell; have l2_2 := L1_2.out.lt
        have HBN0 : Below wr.heap.size wr ((wr.alloc (.cells #[.int .i64 x.kind, .bool x.bool, .int .i64 x.int, .string x.str, .slice za x.list.length zc, .slice zm x.map.length zn] 25)).alloc (.cells #[.int .i64 0, .bool false, .int .i64 0, .string ⟨#[]⟩, .slice none 0 0, .slice none 0 0] 25)) := (Below.new _ _).alloc (by simp) _
        obtain ⟨Wn, eWn⟩ : ∃ z, z = ((wr.alloc (.cells #[.int .i64 x.kind, .bool x.bool, .int .i64 x.int, .string x.str, .slice za x.list.length zc, .slice zm x.map.length zn] 25)).alloc (.cells #[.int .i64 0, .bool false, .int .i64 0, .string ⟨#[]⟩, .slice none 0 0, .slice none 0 0] 25)) := ⟨_, rfl⟩
        have LX : Blk ((wr.alloc (.cells #[.int .i64 x.kind, .bool x.bool, .int .i64 x.int, .string x.str, .slice za x.list.length zc, .slice zm x.map.length zn] 25)).alloc (.cells #[.int .i64 0, .bool false, .int .i64 0, .string ⟨#[]⟩, .slice none 0 0, .slice none 0 0] 25)) wr.heap.size 25 #[.int .i64 x.kind, .bool x.bool, .int .i64 x.int, .string x.str, .slice za x.list.length zc, .slice zm x.map.length zn] := (Blk.new _ _ _).alloc _
        have LZ : Blk ((wr.alloc (.cells #[.int .i64 x.kind, .bool x.bool, .int .i64 x.int, .string x.str, .slice za x.list.length zc, .slice zm x.map.length zn] 25)).alloc (.cells #[.int .i64 0, .bool false, .int .i64 0, .string ⟨#[]⟩, .slice none 0 0, .slice none 0 0] 25)) (wr.heap.size + 1) 25 #[.int .i64 0, .bool false, .int .i64 0, .string ⟨#[]⟩, .slice none 0 0, .slice none 0 0] := Blk.new_at _ _ _ (by simp)
        rw [← eWn] at HBN0 LX LZ
        have HWN := Lib.hid (show RepT Wn (fun b => S b ∧ b < w.heap.size) (.agg #[.int .i64 0, .bool false, .int .i64 0, .string ⟨#[]⟩, .slice none 0 0, .slice none 0 0]) tw from htw ▸ rep_zero _ _)
        have HBN := Lib.hid HBN0; have HXN := Lib.hid (HX.out.keep HBN0); have HRN := Lib.hid (HRR.out.keep HBN0); have EW := Lib.hid eWn
        clear HBN0 eWn htw
        go_upto_region 16 with fail
        rw [← EW.out]
        clear kO lO k2_0 l2_0 k2_1 l2_1 k2_2 l2_2 EW
        have kO := HRN.out.box.cell; have lO := HRN.out.box.lt; have xk := LX.cell; have xl := LX.lt; have zk := LZ.cell; have zl := LZ.lt
        by_cases hx0 : x.kind = 0
        · have HO3 := Lib.hid (show l ++ mrg (a.map.drop (i)) (t.map.drop (k + 1)) = mrg a.map t.map from by rw [← hl.out, HMG.out]; unfold mrgP; rw [if_pos hx0]; rfl)
          have g0 : (x.kind != 0) = false := by rw [hx0]; rfl
          clear hx0
          go_wp2_with fail
          go_roundw
          case rel => exact ⟨i, k + 1, l, A, c, by omega, by omega, by go_num, by go_num, HO3, Lib.hid (HBL.out.trans (HBN.out.mono (by omega))), HRN⟩
          case measure => simp [intOf]; omega
        · have HO3 := Lib.hid (show ∀ l3, l3 = l ++ [(key, x.over tw)] → l3 ++ mrg (a.map.drop (i)) (t.map.drop (k + 1)) = mrg a.map t.map from fun l3 e => by rw [e, ← hl.out, HMG.out]; unfold mrgP; rw [if_neg hx0, List.append_assoc])
          have g0 : (x.kind != 0) = true := bne_iff_ne.2 hx0
          clear hx0
          go_wp2_with fail
          have HX17 := Lib.hid LX; have HZ17 := Lib.hid LZ; have HNN := Lib.hid HBN.out.size; have HTN := Lib.hid HRN.out.top
          clear LX LZ kO lO xk xl zk zl
          refine wp_region_tail (S := (fun w' => (∀ i, w'.cell? ⟨w.heap.size + 1 + 1 + 1, i, none⟩ = (#[.int .i64 5, .bool false, .int .i64 0, .string ⟨#[]⟩, .slice none 0 0, .slice A l.length c] : Array Value)[i]?) ∧ (∀ i, w'.cell? ⟨wr.heap.size, i, none⟩ = (#[.int .i64 x.kind, .bool x.bool, .int .i64 x.int, .string x.str, .slice za x.list.length zc, .slice zm x.map.length zn] : Array Value)[i]?) ∧ (∀ i, w'.cell? ⟨wr.heap.size + 1, i, none⟩ = (#[.int .i64 0, .bool false, .int .i64 0, .string ⟨#[]⟩, .slice none 0 0, .slice none 0 0] : Array Value)[i]?))) 10 (by kernel_rfl) (by kernel_rfl) (by exact ⟨(HRN.out.box.keep ((Below.refl _ _).drew)).cell, (HX17.out.keep ((Below.refl _ _).drew)).cell, (HZ17.out.keep ((Below.refl _ _).drew)).cell⟩) (fun hHeld => ?_)
          simp only [List.dropLast]
          refine wpAnyH_take (i := 0) (v := ?vm11_0) (by conv => lhs; simp only [List.getElem?_toArray, List.getElem?_cons_succ, List.getElem?_cons_zero]) (by kernel_rfl) (by kernel_rfl) (by kernel_rfl) (by exact fun _ _ _ h => h) (Or.inl ⟨by rfl, ?hym11_0⟩) (by assumption) ?_
          case hym11_0 => (intro w0 hSw; (try dsimp only at hSw); go_simp; try with_reducible rfl)
          try simp only [Act.put, List.setIfInBounds_toArray, List.set_cons_zero, List.set_cons_succ]
          refine wpAnyH_take (i := 1) (v := ?vm11_1) (by conv => lhs; simp only [List.getElem?_toArray, List.getElem?_cons_succ, List.getElem?_cons_zero]) (by kernel_rfl) (by kernel_rfl) (by kernel_rfl) (by exact fun _ _ _ h => h) (Or.inl ⟨by rfl, ?hym11_1⟩) (by assumption) ?_
          case hym11_1 => (intro w0 hSw; (try dsimp only at hSw); go_simp; try with_reducible rfl)
          try simp only [Act.put, List.setIfInBounds_toArray, List.set_cons_zero, List.set_cons_succ]
          refine wpAnyH_take (i := 2) (v := ?vm11_2) (by conv => lhs; simp only [List.getElem?_toArray, List.getElem?_cons_succ, List.getElem?_cons_zero]) (by kernel_rfl) (by kernel_rfl) (by kernel_rfl) (by exact fun _ _ _ h => h) (Or.inl ⟨by rfl, ?hym11_2⟩) (by assumption) ?_
          case hym11_2 => (intro w0 hSw; (try dsimp only at hSw); go_simp; try with_reducible rfl)
          try simp only [Act.put, List.setIfInBounds_toArray, List.set_cons_zero, List.set_cons_succ]
          refine wpAnyH_take (i := 3) (v := ?vm11_3) (by conv => lhs; simp only [List.getElem?_toArray, List.getElem?_cons_succ, List.getElem?_cons_zero]) (by kernel_rfl) (by kernel_rfl) (by kernel_rfl) (by exact fun _ _ _ h => h) (Or.inl ⟨by rfl, ?hym11_3⟩) (by assumption) ?_
          case hym11_3 => (intro w0 hSw; (try dsimp only at hSw); go_simp; try with_reducible rfl)
          try simp only [Act.put, List.setIfInBounds_toArray, List.set_cons_zero, List.set_cons_succ]
          refine wpAnyH_take (i := 4) (v := ?vm11_4) (by conv => lhs; simp only [List.getElem?_toArray, List.getElem?_cons_succ, List.getElem?_cons_zero]) (by kernel_rfl) (by kernel_rfl) (by kernel_rfl) (by exact fun _ _ _ h => h) (Or.inl ⟨by rfl, ?hym11_4⟩) (by assumption) ?_
          case hym11_4 => (intro w0 hSw; (try dsimp only at hSw); go_simp; try with_reducible rfl)
          try simp only [Act.put, List.setIfInBounds_toArray, List.set_cons_zero, List.set_cons_succ]
          refine wpAnyH_ready (rs := [5]) (by kernel_rfl) (by simp) ?_
          refine AllReadyH.cons (by conv => lhs; simp only [List.getElem?_toArray, List.getElem?_cons_succ, List.getElem?_cons_zero]) (fun K hK => ?_) AllReadyH.nil
          go_simp
          refine (HIC.out _ _ _ _ (HWN.out.keep (by exact (Below.refl _ _).drew)) (HXN.out.keep (by exact (Below.refl _ _).drew))).mono ?_
          rintro e w8 ⟨v8, rfl, hr8, hb8⟩
          obtain ⟨qa8, qc8, qm8, qn8, rfl, -⟩ := hr8.inv
          have HW8 := Lib.hid (Below.next ((Below.refl Wn.heap.size Wn).drew) hb8)
          have HR8 := Lib.hid (HRN.out.keep HW8.out)
          have HY8 := Lib.hid (HR8.out.own_may HRN.out hr8 rfl)
          clear hr8 hb8
          obtain ⟨l3, A3, c3, w9, HL3, hrun3, hbx, hb3, hf3, hr3⟩ := RRow.next_full (n := w8.heap.size) HR8.out rfl HY8.out (k := key) hkz hl1
          have HRUN := Lib.hid hrun3; have HBX := Lib.hid hbx; have HI3 := Lib.hid hr3; have HB3 := Lib.hid hb3; have HF3 := Lib.hid hf3
          clear hbx hb3 hr3 hrun3 hf3
          go_wp2_with fail
          refine hK.out _ _ (by exact ⟨(HRN.out.box.keep HW8.out).cell, (HX17.out.keep HW8.out).cell, (HZ17.out.keep HW8.out).cell⟩) (fun hHeld => ?_)
          clear hK K
          try simp only [Act.put, List.setIfInBounds_toArray, List.set_cons_zero, List.set_cons_succ]
          refine wpAnyH_take (i := 6) (v := ?vm12_6) (by conv => lhs; simp only [List.getElem?_toArray, List.getElem?_cons_succ, List.getElem?_cons_zero]) (by kernel_rfl) (by kernel_rfl) (by kernel_rfl) (by exact fun _ _ _ h => h) (Or.inl ⟨by rfl, ?hym12_6⟩) (by assumption) ?_
          case hym12_6 => (intro w0 hSw; (try dsimp only at hSw); go_simp; try with_reducible rfl)
          try simp only [Act.put, List.setIfInBounds_toArray, List.set_cons_zero, List.set_cons_succ]
          refine wpAnyH_ready (rs := [7]) (by kernel_rfl) (by simp) ?_
          refine AllReadyH.cons (by conv => lhs; simp only [List.getElem?_toArray, List.getElem?_cons_succ, List.getElem?_cons_zero]) (fun K hK => ?_) AllReadyH.nil
          go_simp
          refine hK.out _ _ (by exact ⟨(HRN.out.box.keep (HW8.out.alloc HW8.out.size _)).cell, (HX17.out.keep (HW8.out.alloc HW8.out.size _)).cell, (HZ17.out.keep (HW8.out.alloc HW8.out.size _)).cell⟩) (fun hHeld => ?_)
          clear hK K
          try simp only [Act.put, List.setIfInBounds_toArray, List.set_cons_zero, List.set_cons_succ]
          refine wpAnyH_ready (rs := [8]) (by kernel_rfl) (by simp) ?_
          refine AllReadyH.cons (by conv => lhs; simp only [List.getElem?_toArray, List.getElem?_cons_succ, List.getElem?_cons_zero]) (fun K hK => ?_) AllReadyH.nil
          refine step_append_run rfl (.tmp 115) (.tmp 121) 23 rfl HRUN.out rfl rfl ?_
          have ql := HBX.out.lt; have qf := HBX.out.frozen
          refine hK.out _ _ (by exact ⟨HBX.out.cell, Blk.cell ((HF3.out _ (HX17.out.keep HW8.out).lt (HRN.out.older8 HW8.out HRR.out (Nat.le_refl _))).trans (HX17.out.keep HW8.out)), Blk.cell ((HF3.out _ (HZ17.out.keep HW8.out).lt (HRN.out.older8 HW8.out HRR.out (Nat.le_succ _))).trans (HZ17.out.keep HW8.out))⟩) (fun hHeld => ?_)
          clear hK K
          try simp only [Act.put, List.setIfInBounds_toArray, List.set_cons_zero, List.set_cons_succ]
          refine wpAnyH_take (i := 9) (v := ?vm14_9) (by conv => lhs; simp only [List.getElem?_toArray, List.getElem?_cons_succ, List.getElem?_cons_zero]) (by kernel_rfl) (by kernel_rfl) (by kernel_rfl) (by exact fun _ _ _ h => h) (Or.inl ⟨by rfl, ?hym14_9⟩) (by assumption) ?_
          case hym14_9 => (intro w0 hSw; (try dsimp only at hSw); go_simp; try with_reducible rfl)
          try simp only [Act.put, List.setIfInBounds_toArray, List.set_cons_zero, List.set_cons_succ]
          refine wpAnyH_done (by kernel_rfl) ?_ _
          refine LastQ.step (by conv => lhs; simp only [List.getElem?_toArray, List.getElem?_cons_succ, List.getElem?_cons_zero]) (fun K hK => ?_)
          go_simp
          refine hK.out _ _ ?_
          clear hK K
          try simp only [Act.put, List.setIfInBounds_toArray, List.set_cons_zero, List.set_cons_succ]
          go_wp2_with fail
          go_roundw
          case rel => exact ⟨i, k + 1, l3, A3, c3, by omega, by omega, by go_num, by go_num, Lib.hid (HO3.out l3 HL3.out), Lib.hid ((((HBL.out.trans (HBN.out.mono (by omega))).trans (HW8.out.mono (by have := HNN.out; omega))).trans (HB3.out.mono (by omega))).setCell (p := ⟨w.heap.size + 1 + 1 + 1, 5, none⟩) (by show w.heap.size + 3 ≤ w.heap.size + 1 + 1 + 1; omega) _), HI3⟩
          case measure => simp [intOf]; omega
    · have HMG := Lib.hid (mrg_C (xs := a.map) (i := i) hkt (.inl (by omega)))
      rw [show t.map[k] = (key, x) from by rw [hkey, hx]] at HMG
      simp only [← hkey, ← hx] at *
      clear hkey hx HAP
      have gi1 : ¬ (i : Int) < (a.map.length : Int) := by omega
      have HIC := Lib.hid (HIK T.zero Neat.zero)
      clear HIK HIH
      obtain ⟨tw, htw⟩ : ∃ z, z = T.zero := ⟨_, rfl⟩
      rw [← htw] at HIC HMG
      go_wp2_with fail
      go_quiet (fail)
      clear kO lO k1_0 l1_0 k1_1 l1_1 k1_2 l1_2
      have HQ0 := Below.drewN (Below.refl wr.heap.size wr) nq
      obtain ⟨wr, hwq⟩ : ∃ z, z = wr.drewN nq := ⟨_, rfl⟩
      rw [← hwq] at HQ0
      rw [← hwq]; clear hwq
      have HQ := Lib.hid HQ0; clear HQ0
      replace HBL := Lib.hid (HBL.out.trans (HQ.out.mono (by omega))); replace HRR := Lib.hid (HRR.out.keep HQ.out); replace htop := HRR.out.top
      replace L1_0 := Lib.hid (L1_0.out.keep HQ.out)
      replace L1_1 := Lib.hid (L1_1.out.keep HQ.out)
      replace L1_2 := Lib.hid (L1_2.out.keep HQ.out)
      clear V1_MT
      clear V1_MA
      replace HX := Lib.hid (HX.out.keep HQ.out)
      replace d0 := (HQ.out.cell (p := ⟨b2, bo2 + k * 7, none⟩) (by show b2 < _; have := hSt.2; omega)).trans d0
      replace d1 := (HQ.out.cell (p := ⟨b2, bo2 + k * 7 + 1, none⟩) (by show b2 < _; have := hSt.2; omega)).trans d1
      replace d2 := (HQ.out.cell (p := ⟨b2, bo2 + k * 7 + 2, none⟩) (by show b2 < _; have := hSt.2; omega)).trans d2
      replace d3 := (HQ.out.cell (p := ⟨b2, bo2 + k * 7 + 3, none⟩) (by show b2 < _; have := hSt.2; omega)).trans d3
      replace d4 := (HQ.out.cell (p := ⟨b2, bo2 + k * 7 + 4, none⟩) (by show b2 < _; have := hSt.2; omega)).trans d4
      replace d5 := (HQ.out.cell (p := ⟨b2, bo2 + k * 7 + 5, none⟩) (by show b2 < _; have := hSt.2; omega)).trans d5
      replace d6 := (HQ.out.cell (p := ⟨b2, bo2 + k * 7 + 6, none⟩) (by show b2 < _; have := hSt.2; omega)).trans d6
      replace hblk2 := Nat.lt_of_lt_of_le hblk2 HQ.out.size
      clear HQ
      have kO := HRR.out.box.cell; have lO := HRR.out.box.lt
      have k2_0 := L1_0.out.cell; have l2_0 := L1_0.out.lt
      have k2_1 := L1_1.out.cell; have l2_1 := L1_1.out.lt
      have k2_2 := L1_2.out.cell; have l2_2 := L1_2.out.lt
      have HBN0 : Below wr.heap.size wr ((wr.alloc (.cells #[.int .i64 x.kind, .bool x.bool, .int .i64 x.int, .string x.str, .slice za x.list.length zc, .slice zm x.map.length zn] 25)).alloc (.cells #[.int .i64 0, .bool false, .int .i64 0, .string ⟨#[]⟩, .slice none 0 0, .slice none 0 0] 25)) := (Below.new _ _).alloc (by simp) _
      obtain ⟨Wn, eWn⟩ : ∃ z, z = ((wr.alloc (.cells #[.int .i64 x.kind, .bool x.bool, .int .i64 x.int, .string x.str, .slice za x.list.length zc, .slice zm x.map.length zn] 25)).alloc (.cells #[.int .i64 0, .bool false, .int .i64 0, .string ⟨#[]⟩, .slice none 0 0, .slice none 0 0] 25)) := ⟨_, rfl⟩
      have LX : Blk ((wr.alloc (.cells #[.int .i64 x.kind, .bool x.bool, .int .i64 x.int, .string x.str, .slice za x.list.length zc, .slice zm x.map.length zn] 25)).alloc (.cells #[.int .i64 0, .bool false, .int .i64 0, .string ⟨#[]⟩, .slice none 0 0, .slice none 0 0] 25)) wr.heap.size 25 #[.int .i64 x.kind, .bool x.bool, .int .i64 x.int, .string x.str, .slice za x.list.length zc, .slice zm x.map.length zn] := (Blk.new _ _ _).alloc _
      have LZ : Blk ((wr.alloc (.cells #[.int .i64 x.kind, .bool x.bool, .int .i64 x.int, .string x.str, .slice za x.list.length zc, .slice zm x.map.length zn] 25)).alloc (.cells #[.int .i64 0, .bool false, .int .i64 0, .string ⟨#[]⟩, .slice none 0 0, .slice none 0 0] 25)) (wr.heap.size + 1) 25 #[.int .i64 0, .bool false, .int .i64 0, .string ⟨#[]⟩, .slice none 0 0, .slice none 0 0] := Blk.new_at _ _ _ (by simp)
      rw [← eWn] at HBN0 LX LZ
      have HWN := Lib.hid (show RepT Wn (fun b => S b ∧ b < w.heap.size) (.agg #[.int .i64 0, .bool false, .int .i64 0, .string ⟨#[]⟩, .slice none 0 0, .slice none 0 0]) tw from htw ▸ rep_zero _ _)
      have HBN := Lib.hid HBN0; have HXN := Lib.hid (HX.out.keep HBN0); have HRN := Lib.hid (HRR.out.keep HBN0); have EW := Lib.hid eWn
      clear HBN0 eWn htw
      go_upto_region 16 with fail
      rw [← EW.out]
      clear kO lO k2_0 l2_0 k2_1 l2_1 k2_2 l2_2 EW
      have kO := HRN.out.box.cell; have lO := HRN.out.box.lt; have xk := LX.cell; have xl := LX.lt; have zk := LZ.cell; have zl := LZ.lt
      by_cases hx0 : x.kind = 0
      · have HO3 := Lib.hid (show l ++ mrg (a.map.drop (i)) (t.map.drop (k + 1)) = mrg a.map t.map from by rw [← hl.out, HMG.out]; unfold mrgP; rw [if_pos hx0]; rfl)
        have g0 : (x.kind != 0) = false := by rw [hx0]; rfl
        clear hx0
        go_wp2_with fail
        go_roundw
        case rel => exact ⟨i, k + 1, l, A, c, by omega, by omega, by go_num, by go_num, HO3, Lib.hid (HBL.out.trans (HBN.out.mono (by omega))), HRN⟩
        case measure => simp [intOf]; omega
      · have HO3 := Lib.hid (show ∀ l3, l3 = l ++ [(key, x.over tw)] → l3 ++ mrg (a.map.drop (i)) (t.map.drop (k + 1)) = mrg a.map t.map from fun l3 e => by rw [e, ← hl.out, HMG.out]; unfold mrgP; rw [if_neg hx0, List.append_assoc])
        have g0 : (x.kind != 0) = true := bne_iff_ne.2 hx0
        clear hx0
        go_wp2_with fail
        have HX17 := Lib.hid LX; have HZ17 := Lib.hid LZ; have HNN := Lib.hid HBN.out.size; have HTN := Lib.hid HRN.out.top
        clear LX LZ kO lO xk xl zk zl
        refine wp_region_tail (S := (fun w' => (∀ i, w'.cell? ⟨w.heap.size + 1 + 1 + 1, i, none⟩ = (#[.int .i64 5, .bool false, .int .i64 0, .string ⟨#[]⟩, .slice none 0 0, .slice A l.length c] : Array Value)[i]?) ∧ (∀ i, w'.cell? ⟨wr.heap.size, i, none⟩ = (#[.int .i64 x.kind, .bool x.bool, .int .i64 x.int, .string x.str, .slice za x.list.length zc, .slice zm x.map.length zn] : Array Value)[i]?) ∧ (∀ i, w'.cell? ⟨wr.heap.size + 1, i, none⟩ = (#[.int .i64 0, .bool false, .int .i64 0, .string ⟨#[]⟩, .slice none 0 0, .slice none 0 0] : Array Value)[i]?))) 10 (by kernel_rfl) (by kernel_rfl) (by exact ⟨(HRN.out.box.keep ((Below.refl _ _).drew)).cell, (HX17.out.keep ((Below.refl _ _).drew)).cell, (HZ17.out.keep ((Below.refl _ _).drew)).cell⟩) (fun hHeld => ?_)
        simp only [List.dropLast]
        refine wpAnyH_take (i := 0) (v := ?vm15_0) (by conv => lhs; simp only [List.getElem?_toArray, List.getElem?_cons_succ, List.getElem?_cons_zero]) (by kernel_rfl) (by kernel_rfl) (by kernel_rfl) (by exact fun _ _ _ h => h) (Or.inl ⟨by rfl, ?hym15_0⟩) (by assumption) ?_
        case hym15_0 => (intro w0 hSw; (try dsimp only at hSw); go_simp; try with_reducible rfl)
        try simp only [Act.put, List.setIfInBounds_toArray, List.set_cons_zero, List.set_cons_succ]
        refine wpAnyH_take (i := 1) (v := ?vm15_1) (by conv => lhs; simp only [List.getElem?_toArray, List.getElem?_cons_succ, List.getElem?_cons_zero]) (by kernel_rfl) (by kernel_rfl) (by kernel_rfl) (by exact fun _ _ _ h => h) (Or.inl ⟨by rfl, ?hym15_1⟩) (by assumption) ?_
        case hym15_1 => (intro w0 hSw; (try dsimp only at hSw); go_simp; try with_reducible rfl)
        try simp only [Act.put, List.setIfInBounds_toArray, List.set_cons_zero, List.set_cons_succ]
        refine wpAnyH_take (i := 2) (v := ?vm15_2) (by conv => lhs; simp only [List.getElem?_toArray, List.getElem?_cons_succ, List.getElem?_cons_zero]) (by kernel_rfl) (by kernel_rfl) (by kernel_rfl) (by exact fun _ _ _ h => h) (Or.inl ⟨by rfl, ?hym15_2⟩) (by assumption) ?_
        case hym15_2 => (intro w0 hSw; (try dsimp only at hSw); go_simp; try with_reducible rfl)
        try simp only [Act.put, List.setIfInBounds_toArray, List.set_cons_zero, List.set_cons_succ]
        refine wpAnyH_take (i := 3) (v := ?vm15_3) (by conv => lhs; simp only [List.getElem?_toArray, List.getElem?_cons_succ, List.getElem?_cons_zero]) (by kernel_rfl) (by kernel_rfl) (by kernel_rfl) (by exact fun _ _ _ h => h) (Or.inl ⟨by rfl, ?hym15_3⟩) (by assumption) ?_
        case hym15_3 => (intro w0 hSw; (try dsimp only at hSw); go_simp; try with_reducible rfl)
        try simp only [Act.put, List.setIfInBounds_toArray, List.set_cons_zero, List.set_cons_succ]
        refine wpAnyH_take (i := 4) (v := ?vm15_4) (by conv => lhs; simp only [List.getElem?_toArray, List.getElem?_cons_succ, List.getElem?_cons_zero]) (by kernel_rfl) (by kernel_rfl) (by kernel_rfl) (by exact fun _ _ _ h => h) (Or.inl ⟨by rfl, ?hym15_4⟩) (by assumption) ?_
        case hym15_4 => (intro w0 hSw; (try dsimp only at hSw); go_simp; try with_reducible rfl)
        try simp only [Act.put, List.setIfInBounds_toArray, List.set_cons_zero, List.set_cons_succ]
        refine wpAnyH_ready (rs := [5]) (by kernel_rfl) (by simp) ?_
        refine AllReadyH.cons (by conv => lhs; simp only [List.getElem?_toArray, List.getElem?_cons_succ, List.getElem?_cons_zero]) (fun K hK => ?_) AllReadyH.nil
        go_simp
        refine (HIC.out _ _ _ _ (HWN.out.keep (by exact (Below.refl _ _).drew)) (HXN.out.keep (by exact (Below.refl _ _).drew))).mono ?_
        rintro e w8 ⟨v8, rfl, hr8, hb8⟩
        obtain ⟨qa8, qc8, qm8, qn8, rfl, -⟩ := hr8.inv
        have HW8 := Lib.hid (Below.next ((Below.refl Wn.heap.size Wn).drew) hb8)
        have HR8 := Lib.hid (HRN.out.keep HW8.out)
        have HY8 := Lib.hid (HR8.out.own_may HRN.out hr8 rfl)
        clear hr8 hb8
        obtain ⟨l3, A3, c3, w9, HL3, hrun3, hbx, hb3, hf3, hr3⟩ := RRow.next_full (n := w8.heap.size) HR8.out rfl HY8.out (k := key) hkz hl1
        have HRUN := Lib.hid hrun3; have HBX := Lib.hid hbx; have HI3 := Lib.hid hr3; have HB3 := Lib.hid hb3; have HF3 := Lib.hid hf3
        clear hbx hb3 hr3 hrun3 hf3
        go_wp2_with fail
        refine hK.out _ _ (by exact ⟨(HRN.out.box.keep HW8.out).cell, (HX17.out.keep HW8.out).cell, (HZ17.out.keep HW8.out).cell⟩) (fun hHeld => ?_)
        clear hK K
        try simp only [Act.put, List.setIfInBounds_toArray, List.set_cons_zero, List.set_cons_succ]
        refine wpAnyH_take (i := 6) (v := ?vm16_6) (by conv => lhs; simp only [List.getElem?_toArray, List.getElem?_cons_succ, List.getElem?_cons_zero]) (by kernel_rfl) (by kernel_rfl) (by kernel_rfl) (by exact fun _ _ _ h => h) (Or.inl ⟨by rfl, ?hym16_6⟩) (by assumption) ?_
        case hym16_6 => (intro w0 hSw; (try dsimp only at hSw); go_simp; try with_reducible rfl)
        try simp only [Act.put, List.setIfInBounds_toArray, List.set_cons_zero, List.set_cons_succ]
        refine wpAnyH_ready (rs := [7]) (by kernel_rfl) (by simp) ?_
        refine AllReadyH.cons (by conv => lhs; simp only [List.getElem?_toArray, List.getElem?_cons_succ, List.getElem?_cons_zero]) (fun K hK => ?_) AllReadyH.nil
        go_simp
        refine hK.out _ _ (by exact ⟨(HRN.out.box.keep (HW8.out.alloc HW8.out.size _)).cell, (HX17.out.keep (HW8.out.alloc HW8.out.size _)).cell, (HZ17.out.keep (HW8.out.alloc HW8.out.size _)).cell⟩) (fun hHeld => ?_)
        clear hK K
        try simp only [Act.put, List.setIfInBounds_toArray, List.set_cons_zero, List.set_cons_succ]
        refine wpAnyH_ready (rs := [8]) (by kernel_rfl) (by simp) ?_
        refine AllReadyH.cons (by conv => lhs; simp only [List.getElem?_toArray, List.getElem?_cons_succ, List.getElem?_cons_zero]) (fun K hK => ?_) AllReadyH.nil
        refine step_append_run rfl (.tmp 115) (.tmp 121) 23 rfl HRUN.out rfl rfl ?_
        have ql := HBX.out.lt; have qf := HBX.out.frozen
        refine hK.out _ _ (by exact ⟨HBX.out.cell, Blk.cell ((HF3.out _ (HX17.out.keep HW8.out).lt (HRN.out.older8 HW8.out HRR.out (Nat.le_refl _))).trans (HX17.out.keep HW8.out)), Blk.cell ((HF3.out _ (HZ17.out.keep HW8.out).lt (HRN.out.older8 HW8.out HRR.out (Nat.le_succ _))).trans (HZ17.out.keep HW8.out))⟩) (fun hHeld => ?_)
        clear hK K
        try simp only [Act.put, List.setIfInBounds_toArray, List.set_cons_zero, List.set_cons_succ]
        refine wpAnyH_take (i := 9) (v := ?vm18_9) (by conv => lhs; simp only [List.getElem?_toArray, List.getElem?_cons_succ, List.getElem?_cons_zero]) (by kernel_rfl) (by kernel_rfl) (by kernel_rfl) (by exact fun _ _ _ h => h) (Or.inl ⟨by rfl, ?hym18_9⟩) (by assumption) ?_
        case hym18_9 => (intro w0 hSw; (try dsimp only at hSw); go_simp; try with_reducible rfl)
        try simp only [Act.put, List.setIfInBounds_toArray, List.set_cons_zero, List.set_cons_succ]
        refine wpAnyH_done (by kernel_rfl) ?_ _
        refine LastQ.step (by conv => lhs; simp only [List.getElem?_toArray, List.getElem?_cons_succ, List.getElem?_cons_zero]) (fun K hK => ?_)
        go_simp
        refine hK.out _ _ ?_
        clear hK K
        try simp only [Act.put, List.setIfInBounds_toArray, List.set_cons_zero, List.set_cons_succ]
        go_wp2_with fail
        go_roundw
        case rel => exact ⟨i, k + 1, l3, A3, c3, by omega, by omega, by go_num, by go_num, Lib.hid (HO3.out l3 HL3.out), Lib.hid ((((HBL.out.trans (HBN.out.mono (by omega))).trans (HW8.out.mono (by have := HNN.out; omega))).trans (HB3.out.mono (by omega))).setCell (p := ⟨w.heap.size + 1 + 1 + 1, 5, none⟩) (by show w.heap.size + 3 ≤ w.heap.size + 1 + 1 + 1; omega) _), HI3⟩
        case measure => simp [intOf]; omega
end Go.Proofs.Ythkkmnmejciomaa
