/- mizzenref03.Strip. -/
import Derived.Test.YthkkmnmejciomaaInvB
import Derived.Deep.Cut
import Derived.Test.YthkkmnmejciomaaStrip
namespace Go.Proofs.Ythkkmnmejciomaa
open Go.RowKit
attribute [local go_sem ↓] Go.wp_at_zero Go.wp_at_succ

set_option maxRecDepth 100000 in
set_option maxHeartbeats 16000000 in
theorem rstrip {n : Nat} (hn1 : n ≤ 1000000) (t : T) : ∀ (_ : Neat n t) (v : Value) (w : World) (S : Nat → Prop), RepT w S v t → Calls Try.prog 12 #[v] w (ValPostS S w t.strip) := by
  induction t using T.ind' with
  | h t ihl ihm =>
  intro hnt v w S h
  clear ihl
  obtain ⟨la, lc, ma, mc, rfl, hpt⟩ := h.inv
  obtain ⟨-, -, -, -, -, -, -, -, -, -, hMt⟩ := hpt
  have HMT := Lib.hid (hMt.mono (w' := w) (S' := fun b => S b ∧ b < w.heap.size) (fun _ h1 h => ⟨h1, h⟩) (fun _ _ _ _ => rfl)); clear hMt
  have HT := Lib.hid (h.mono (w' := w) (S' := fun b => S b ∧ b < w.heap.size) (fun _ h1 h => ⟨h1, h⟩) (fun _ _ _ _ => rfl)); clear h
  by_cases h5 : t.kind = 5
  case neg =>
    have HE := Lib.hid (show t.strip = t from by rw [strip_eq, if_neg h5])
    have hg1 : (t.kind != 5) = true := bne_iff_ne.2 h5
    clear h5 ihm hnt HMT
    have hB1 : Blk ((w.alloc (.cells #[.int .i64 t.kind, .bool t.bool, .int .i64 t.int, .string t.str, .slice la t.list.length lc, .slice ma t.map.length mc] 25)).alloc (.cells #[.int .i64 0, .bool false, .int .i64 0, .string ⟨#[]⟩, .slice none 0 0, .slice none 0 0] 25)) (w.heap.size) 25 #[.int .i64 t.kind, .bool t.bool, .int .i64 t.int, .string t.str, .slice la t.list.length lc, .slice ma t.map.length mc] := ((Blk.new _ _ _).alloc _)
    have hB2 : Blk ((w.alloc (.cells #[.int .i64 t.kind, .bool t.bool, .int .i64 t.int, .string t.str, .slice la t.list.length lc, .slice ma t.map.length mc] 25)).alloc (.cells #[.int .i64 0, .bool false, .int .i64 0, .string ⟨#[]⟩, .slice none 0 0, .slice none 0 0] 25)) (w.heap.size + 1) 25 #[.int .i64 0, .bool false, .int .i64 0, .string ⟨#[]⟩, .slice none 0 0, .slice none 0 0] := (Blk.new_at _ _ _ (by simp))
    have hBW : Below w.heap.size w ((w.alloc (.cells #[.int .i64 t.kind, .bool t.bool, .int .i64 t.int, .string t.str, .slice la t.list.length lc, .slice ma t.map.length mc] 25)).alloc (.cells #[.int .i64 0, .bool false, .int .i64 0, .string ⟨#[]⟩, .slice none 0 0, .slice none 0 0] 25)) := (Below.new _ _).alloc (by simp) _
    obtain ⟨W0, e0⟩ : ∃ x, x = ((w.alloc (.cells #[.int .i64 t.kind, .bool t.bool, .int .i64 t.int, .string t.str, .slice la t.list.length lc, .slice ma t.map.length mc] 25)).alloc (.cells #[.int .i64 0, .bool false, .int .i64 0, .string ⟨#[]⟩, .slice none 0 0, .slice none 0 0] 25)) := ⟨_, rfl⟩
    rw [← e0] at hB1 hB2 hBW
    have hs0 : W0.heap.size = w.heap.size + 2 := by rw [e0]; simp
    have E0 := Lib.hid e0; have L1 := Lib.hid hB1; have L2 := Lib.hid hB2; have HW0 := Lib.hid hBW
    clear e0 hB1 hB2 hBW
    have zk := L2.out.cell; have zf := L2.out.frozen; have zl := L2.out.lt; have tk := L1.out.cell; have tl := L1.out.lt
    have HTW := Lib.hid (HT.out.keep HW0.out)
    go_enter Try.func12, Try.ntmps12
    go_upto_region 1 with fail
    rw [← E0.out]
    clear E0
    go_wp2_with fail
    exact ret_cell rfl rfl ((((((L2.out.set_ 0 _).set_ 1 _).set_ 2 _).set_ 3 _).set_ 4 _).set_ 5 _) Try.underlying25 val_size rfl ⟨_, rfl, by rw [HE.out]; exact HTW.out.mono (fun b h _ => .inl h.1) (fun b o h _ => World.cell?_of_block (set6_heap (o := 0) (show b ≠ w.heap.size + 1 by have := h.2; omega))), set6_below (o := 0) HW0.out (by omega)⟩
  have hg1 : (t.kind != 5) = false := by rw [h5]; rfl
  obtain ⟨res, hres⟩ : ∃ r, r = t.strip := ⟨_, rfl⟩
  rw [← hres]
  have HE := Lib.hid (show res = mkMap (T.stripM t.map) from by rw [hres, strip_eq, if_pos h5])
  have HST := Lib.hid (fun q (hq : q < t.map.length) => show T.stripM (t.map.take (q + 1)) = T.stripM (t.map.take q) ++ (if t.map[q].2.kind = 0 then [] else [(t.map[q].1, t.map[q].2.strip)]) from by rw [stripM_take t.map q hq, stripP_eq])
  have HLE := Lib.hid (fun q => show (T.stripM (t.map.take q)).length ≤ q from Nat.le_trans (stripM_len _) (by rw [List.length_take]; omega))
  have HIH := Lib.hid (fun i (hi : i < t.map.length) => ihm _ (List.getElem_mem hi) (hnt.mem _ (List.getElem_mem hi)))
  have hlt0 := hnt.len
  clear ihm hnt hres h5
  have hB1 : Blk (((w.alloc (.cells #[.int .i64 t.kind, .bool t.bool, .int .i64 t.int, .string t.str, .slice la t.list.length lc, .slice ma t.map.length mc] 25)).alloc (.cells #[.int .i64 0, .bool false, .int .i64 0, .string ⟨#[]⟩, .slice none 0 0, .slice none 0 0] 25)).alloc (.cells #[.int .i64 5, .bool false, .int .i64 0, .string ⟨#[]⟩, .slice none 0 0, .slice none 0 0] 25)) (w.heap.size) 25 #[.int .i64 t.kind, .bool t.bool, .int .i64 t.int, .string t.str, .slice la t.list.length lc, .slice ma t.map.length mc] := (((Blk.new _ _ _).alloc _).alloc _)
  have hB2 : Blk (((w.alloc (.cells #[.int .i64 t.kind, .bool t.bool, .int .i64 t.int, .string t.str, .slice la t.list.length lc, .slice ma t.map.length mc] 25)).alloc (.cells #[.int .i64 0, .bool false, .int .i64 0, .string ⟨#[]⟩, .slice none 0 0, .slice none 0 0] 25)).alloc (.cells #[.int .i64 5, .bool false, .int .i64 0, .string ⟨#[]⟩, .slice none 0 0, .slice none 0 0] 25)) (w.heap.size + 1) 25 #[.int .i64 0, .bool false, .int .i64 0, .string ⟨#[]⟩, .slice none 0 0, .slice none 0 0] := ((Blk.new_at _ _ _ (by simp)).alloc _)
  have hB3 : Blk (((w.alloc (.cells #[.int .i64 t.kind, .bool t.bool, .int .i64 t.int, .string t.str, .slice la t.list.length lc, .slice ma t.map.length mc] 25)).alloc (.cells #[.int .i64 0, .bool false, .int .i64 0, .string ⟨#[]⟩, .slice none 0 0, .slice none 0 0] 25)).alloc (.cells #[.int .i64 5, .bool false, .int .i64 0, .string ⟨#[]⟩, .slice none 0 0, .slice none 0 0] 25)) (w.heap.size + 1 + 1) 25 #[.int .i64 5, .bool false, .int .i64 0, .string ⟨#[]⟩, .slice none 0 0, .slice none 0 0] := (Blk.new_at _ _ _ (by simp))
  have hBW : Below w.heap.size w (((w.alloc (.cells #[.int .i64 t.kind, .bool t.bool, .int .i64 t.int, .string t.str, .slice la t.list.length lc, .slice ma t.map.length mc] 25)).alloc (.cells #[.int .i64 0, .bool false, .int .i64 0, .string ⟨#[]⟩, .slice none 0 0, .slice none 0 0] 25)).alloc (.cells #[.int .i64 5, .bool false, .int .i64 0, .string ⟨#[]⟩, .slice none 0 0, .slice none 0 0] 25)) := ((Below.new _ _).alloc (by simp) _).alloc (by simp; omega) _
  obtain ⟨W0, e0⟩ : ∃ x, x = (((w.alloc (.cells #[.int .i64 t.kind, .bool t.bool, .int .i64 t.int, .string t.str, .slice la t.list.length lc, .slice ma t.map.length mc] 25)).alloc (.cells #[.int .i64 0, .bool false, .int .i64 0, .string ⟨#[]⟩, .slice none 0 0, .slice none 0 0] 25)).alloc (.cells #[.int .i64 5, .bool false, .int .i64 0, .string ⟨#[]⟩, .slice none 0 0, .slice none 0 0] 25)) := ⟨_, rfl⟩
  rw [← e0] at hB1 hB2 hB3 hBW
  have hs0 : W0.heap.size = w.heap.size + 3 := by rw [e0]; simp
  have E0 := Lib.hid e0; have L1 := Lib.hid hB1; have L2 := Lib.hid hB2; have L3 := Lib.hid hB3; have HW0 := Lib.hid hBW
  clear e0 hB1 hB2 hB3 hBW
  have HR0 := Lib.hid (show RRow S w W0 (w.heap.size + 3) (w.heap.size + 1 + 1) none 0 [] from ⟨L3.out, OwnE.nil, HW0.out, by omega, by omega, by omega⟩)
  go_enter Try.func12, Try.ntmps12
  go_wp2_with fail
  rw [← E0.out]
  clear E0 L3
  go_loopw [4] (fun x wr => ∃ (q : Nat) (l : List (ByteArray × T)) (A : Option Addr) (c : Nat), q ≤ t.map.length ∧ x = .int .i64 q ∧ Hid (l = T.stripM (t.map.take q)) ∧ Hid (Below (w.heap.size + 2) W0 wr) ∧ Hid (RRow S w wr (w.heap.size + 3) (w.heap.size + 1 + 1) A c l)) (fun x _ => t.map.length - (intOf x).toNat)
  case atStart => exact ⟨0, [], none, 0, Nat.zero_le _, rfl, by show _ = _; rw [List.take_zero, T.stripM], Lib.hid (Below.refl _ _), HR0⟩
  case round =>
    obtain ⟨q, l, A, c, hq, rfl, hl, HBL, HRR⟩ := hrel
    clear HR0
    have L1_0 := Lib.hid (L1.out.below HBL.out (by omega))
    have L1_1 := Lib.hid (L2.out.below HBL.out (by omega))
    have V1_MT := Lib.hid (HMT.out.keep HRR.out.bel)
    have HW1 := Lib.hid HRR.out.bel
    have k1_0 := L1_0.out.cell; have l1_0 := L1_0.out.lt
    have k1_1 := L1_1.out.cell; have l1_1 := L1_1.out.lt
    have htop := HRR.out.top
    have hll : l.length ≤ q := by rw [hl.out]; exact HLE.out q
    have kO := HRR.out.box.cell; have lO := HRR.out.box.lt
    by_cases hlt : q < t.map.length
    · obtain ⟨b, bo, ya, yc, ym, yn, rfl, hSb, hblk, hkz, ⟨c0, c1, c2, c3, c4, c5, c6⟩, hr⟩ := V1_MT.out.at_ hlt
      have HX := Lib.hid hr; clear hr
      have gi1 : (0 : Int) ≤ (q : Int) := by omega
      have gi2 : (q : Int) < (t.map.length : Int) := by omega
      have hst := HST.out q hlt
      rw [← hl.out] at hst
      have HIQ := HIH.out q hlt
      clear hl
      obtain ⟨l9, hl9⟩ : ∃ z, z = T.stripM (t.map.take (q + 1)) := ⟨_, rfl⟩
      have HL9 := Lib.hid hl9
      rw [← hl9] at hst
      clear hl9
      obtain ⟨y, hy⟩ : ∃ y, y = t.map[q].2.strip := ⟨_, rfl⟩
      have HIC := Lib.hid (fun va w2 S2 h => show Calls Try.prog 12 #[va] w2 (ValPostS S2 w2 y) from hy ▸ HIQ va w2 S2 h)
      rw [← hy] at hst
      clear hy HIQ
      generalize t.map[q].1 = key at *
      generalize t.map[q].2 = x at *
      by_cases hx0 : x.kind = 0
      · have g0 : (x.kind != 0) = false := by rw [hx0]; rfl
        have HS := Lib.hid (show l9 = l from by rw [hst, if_pos hx0, List.append_nil]); clear hst hx0
        go_wp2_with fail
        go_roundw
        case rel => exact ⟨q + 1, l, A, c, by omega, by go_num, by show l = _; rw [← HS.out, HL9.out], HBL, HRR⟩
        case measure => simp [intOf]; omega
      · have g0 : (x.kind != 0) = true := bne_iff_ne.2 hx0
        have HS := Lib.hid (show l9 = l ++ [(key, y)] from by rw [hst, if_neg hx0]); clear hst hx0
        go_wp2_with fail
        have C0 := Lib.hid c0
        have C1 := Lib.hid c1
        have C2 := Lib.hid c2
        have C3 := Lib.hid c3
        have C4 := Lib.hid c4
        have C5 := Lib.hid c5
        have C6 := Lib.hid c6
        clear c0 c1 c2 c3 c4 c5 c6 kO lO k1_0 l1_0 k1_1 l1_1
        have HSS : ∀ wx, Below (w.heap.size + 3) wr wx → (fun w' => (∀ i, w'.cell? ⟨w.heap.size + 1 + 1, i, none⟩ = (#[.int .i64 5, .bool false, .int .i64 0, .string ⟨#[]⟩, .slice none 0 0, .slice A l.length c] : Array Value)[i]?) ∧ (∀ i, w'.cell? ⟨w.heap.size, i, none⟩ = (#[.int .i64 t.kind, .bool t.bool, .int .i64 t.int, .string t.str, .slice la t.list.length lc, .slice (some ⟨b, bo, none⟩) t.map.length mc] : Array Value)[i]?) ∧ w'.cell? ⟨b, bo + q * 7, none⟩ = some (.string key) ∧ w'.cell? ⟨b, bo + q * 7 + 1, none⟩ = some (.int .i64 x.kind) ∧ w'.cell? ⟨b, bo + q * 7 + 2, none⟩ = some (.bool x.bool) ∧ w'.cell? ⟨b, bo + q * 7 + 3, none⟩ = some (.int .i64 x.int) ∧ w'.cell? ⟨b, bo + q * 7 + 4, none⟩ = some (.string x.str) ∧ w'.cell? ⟨b, bo + q * 7 + 5, none⟩ = some (.slice ya x.list.length yc) ∧ w'.cell? ⟨b, bo + q * 7 + 6, none⟩ = some (.slice ym x.map.length yn)) wx := fun wx hx => ⟨(HRR.out.box.below hx (by omega)).cell, (L1_0.out.below hx (by omega)).cell, (hx.cell (p := ⟨b, bo + q * 7, none⟩) (by show b < _; have := hSb.2; omega)).trans C0.out, (hx.cell (p := ⟨b, bo + q * 7 + 1, none⟩) (by show b < _; have := hSb.2; omega)).trans C1.out, (hx.cell (p := ⟨b, bo + q * 7 + 2, none⟩) (by show b < _; have := hSb.2; omega)).trans C2.out, (hx.cell (p := ⟨b, bo + q * 7 + 3, none⟩) (by show b < _; have := hSb.2; omega)).trans C3.out, (hx.cell (p := ⟨b, bo + q * 7 + 4, none⟩) (by show b < _; have := hSb.2; omega)).trans C4.out, (hx.cell (p := ⟨b, bo + q * 7 + 5, none⟩) (by show b < _; have := hSb.2; omega)).trans C5.out, (hx.cell (p := ⟨b, bo + q * 7 + 6, none⟩) (by show b < _; have := hSb.2; omega)).trans C6.out⟩
        have HSS := Lib.hid HSS
        have HTOP := Lib.hid htop; clear htop
        refine wp_region_tail (S := (fun w' => (∀ i, w'.cell? ⟨w.heap.size + 1 + 1, i, none⟩ = (#[.int .i64 5, .bool false, .int .i64 0, .string ⟨#[]⟩, .slice none 0 0, .slice A l.length c] : Array Value)[i]?) ∧ (∀ i, w'.cell? ⟨w.heap.size, i, none⟩ = (#[.int .i64 t.kind, .bool t.bool, .int .i64 t.int, .string t.str, .slice la t.list.length lc, .slice (some ⟨b, bo, none⟩) t.map.length mc] : Array Value)[i]?) ∧ w'.cell? ⟨b, bo + q * 7, none⟩ = some (.string key) ∧ w'.cell? ⟨b, bo + q * 7 + 1, none⟩ = some (.int .i64 x.kind) ∧ w'.cell? ⟨b, bo + q * 7 + 2, none⟩ = some (.bool x.bool) ∧ w'.cell? ⟨b, bo + q * 7 + 3, none⟩ = some (.int .i64 x.int) ∧ w'.cell? ⟨b, bo + q * 7 + 4, none⟩ = some (.string x.str) ∧ w'.cell? ⟨b, bo + q * 7 + 5, none⟩ = some (.slice ya x.list.length yc) ∧ w'.cell? ⟨b, bo + q * 7 + 6, none⟩ = some (.slice ym x.map.length yn))) 19 (by kernel_rfl) (by kernel_rfl) (by exact HSS.out _ (Below.refl _ _).drew) (fun hHeld => ?_)
        simp only [List.dropLast]
        refine wpAnyH_take (i := 0) (v := ?v0) (by conv => lhs; simp only [List.getElem?_toArray, List.getElem?_cons_succ, List.getElem?_cons_zero]) (by kernel_rfl) (by kernel_rfl) (by kernel_rfl) (by exact fun _ _ _ h => h) (Or.inl ⟨by rfl, ?hy0⟩) (by assumption) ?_
        case hy0 => (intro w0 hSw; (try dsimp only at hSw); go_simp; try with_reducible rfl)
        try simp only [Act.put, List.setIfInBounds_toArray, List.set_cons_zero, List.set_cons_succ]
        refine wpAnyH_take (i := 1) (v := ?v1) (by conv => lhs; simp only [List.getElem?_toArray, List.getElem?_cons_succ, List.getElem?_cons_zero]) (by kernel_rfl) (by kernel_rfl) (by kernel_rfl) (by exact fun _ _ _ h => h) (Or.inl ⟨by rfl, ?hy1⟩) (by assumption) ?_
        case hy1 => (intro w0 hSw; (try dsimp only at hSw); go_simp; try with_reducible rfl)
        try simp only [Act.put, List.setIfInBounds_toArray, List.set_cons_zero, List.set_cons_succ]
        refine wpAnyH_take (i := 2) (v := ?v2) (by conv => lhs; simp only [List.getElem?_toArray, List.getElem?_cons_succ, List.getElem?_cons_zero]) (by kernel_rfl) (by kernel_rfl) (by kernel_rfl) (by exact fun _ _ _ h => h) (Or.inl ⟨by rfl, ?hy2⟩) (by assumption) ?_
        case hy2 => (intro w0 hSw; (try dsimp only at hSw); go_simp; try with_reducible rfl)
        try simp only [Act.put, List.setIfInBounds_toArray, List.set_cons_zero, List.set_cons_succ]
        refine wpAnyH_take (i := 3) (v := ?v3) (by conv => lhs; simp only [List.getElem?_toArray, List.getElem?_cons_succ, List.getElem?_cons_zero]) (by kernel_rfl) (by kernel_rfl) (by kernel_rfl) (by exact fun _ _ _ h => h) (Or.inl ⟨by rfl, ?hy3⟩) (by assumption) ?_
        case hy3 => (intro w0 hSw; (try dsimp only at hSw); go_simp; try with_reducible rfl)
        try simp only [Act.put, List.setIfInBounds_toArray, List.set_cons_zero, List.set_cons_succ]
        refine wpAnyH_take (i := 4) (v := ?v4) (by conv => lhs; simp only [List.getElem?_toArray, List.getElem?_cons_succ, List.getElem?_cons_zero]) (by kernel_rfl) (by kernel_rfl) (by kernel_rfl) (by exact fun _ _ _ h => h) (Or.inl ⟨by rfl, ?hy4⟩) (by assumption) ?_
        case hy4 => (intro w0 hSw; (try dsimp only at hSw); go_simp; try with_reducible rfl)
        try simp only [Act.put, List.setIfInBounds_toArray, List.set_cons_zero, List.set_cons_succ]
        refine wpAnyH_take (i := 5) (v := ?v5) (by conv => lhs; simp only [List.getElem?_toArray, List.getElem?_cons_succ, List.getElem?_cons_zero]) (by kernel_rfl) (by kernel_rfl) (by kernel_rfl) (by exact fun _ _ _ h => h) (Or.inl ⟨by rfl, ?hy5⟩) (by assumption) ?_
        case hy5 => (intro w0 hSw; (try dsimp only at hSw); go_simp; try with_reducible rfl)
        try simp only [Act.put, List.setIfInBounds_toArray, List.set_cons_zero, List.set_cons_succ]
        refine wpAnyH_take (i := 6) (v := ?v6) (by conv => lhs; simp only [List.getElem?_toArray, List.getElem?_cons_succ, List.getElem?_cons_zero]) (by kernel_rfl) (by kernel_rfl) (by kernel_rfl) (by exact fun _ _ _ h => h) (Or.inl ⟨by rfl, ?hy6⟩) (by assumption) ?_
        case hy6 => (intro w0 hSw; (try dsimp only at hSw); go_simp; try with_reducible rfl)
        try simp only [Act.put, List.setIfInBounds_toArray, List.set_cons_zero, List.set_cons_succ]
        refine wpAnyH_take (i := 7) (v := ?v7) (by conv => lhs; simp only [List.getElem?_toArray, List.getElem?_cons_succ, List.getElem?_cons_zero]) (by kernel_rfl) (by kernel_rfl) (by kernel_rfl) (by exact fun _ _ _ h => h) (Or.inl ⟨by rfl, ?hy7⟩) (by assumption) ?_
        case hy7 => (intro w0 hSw; (try dsimp only at hSw); go_simp; try with_reducible rfl)
        try simp only [Act.put, List.setIfInBounds_toArray, List.set_cons_zero, List.set_cons_succ]
        refine wpAnyH_take (i := 8) (v := ?v8) (by conv => lhs; simp only [List.getElem?_toArray, List.getElem?_cons_succ, List.getElem?_cons_zero]) (by kernel_rfl) (by kernel_rfl) (by kernel_rfl) (by exact fun _ _ _ h => h) (Or.inl ⟨by rfl, ?hy8⟩) (by assumption) ?_
        case hy8 => (intro w0 hSw; (try dsimp only at hSw); go_simp; try with_reducible rfl)
        try simp only [Act.put, List.setIfInBounds_toArray, List.set_cons_zero, List.set_cons_succ]
        refine wpAnyH_take (i := 9) (v := ?v9) (by conv => lhs; simp only [List.getElem?_toArray, List.getElem?_cons_succ, List.getElem?_cons_zero]) (by kernel_rfl) (by kernel_rfl) (by kernel_rfl) (by exact fun _ _ _ h => h) (Or.inl ⟨by rfl, ?hy9⟩) (by assumption) ?_
        case hy9 => (intro w0 hSw; (try dsimp only at hSw); go_simp; try with_reducible rfl)
        try simp only [Act.put, List.setIfInBounds_toArray, List.set_cons_zero, List.set_cons_succ]
        refine wpAnyH_take (i := 10) (v := ?v10) (by conv => lhs; simp only [List.getElem?_toArray, List.getElem?_cons_succ, List.getElem?_cons_zero]) (by kernel_rfl) (by kernel_rfl) (by kernel_rfl) (by exact fun _ _ _ h => h) (Or.inl ⟨by rfl, ?hy10⟩) (by assumption) ?_
        case hy10 => (intro w0 hSw; (try dsimp only at hSw); go_simp; try with_reducible rfl)
        try simp only [Act.put, List.setIfInBounds_toArray, List.set_cons_zero, List.set_cons_succ]
        refine wpAnyH_take (i := 11) (v := ?v11) (by conv => lhs; simp only [List.getElem?_toArray, List.getElem?_cons_succ, List.getElem?_cons_zero]) (by kernel_rfl) (by kernel_rfl) (by kernel_rfl) (by exact fun _ _ _ h => h) (Or.inl ⟨by rfl, ?hy11⟩) (by assumption) ?_
        case hy11 => (intro w0 hSw; (try dsimp only at hSw); go_simp; try with_reducible rfl)
        try simp only [Act.put, List.setIfInBounds_toArray, List.set_cons_zero, List.set_cons_succ]
        refine wpAnyH_take (i := 12) (v := ?v12) (by conv => lhs; simp only [List.getElem?_toArray, List.getElem?_cons_succ, List.getElem?_cons_zero]) (by kernel_rfl) (by kernel_rfl) (by kernel_rfl) (by exact fun _ _ _ h => h) (Or.inl ⟨by rfl, ?hy12⟩) (by assumption) ?_
        case hy12 => (intro w0 hSw; (try dsimp only at hSw); go_simp; try with_reducible rfl)
        try simp only [Act.put, List.setIfInBounds_toArray, List.set_cons_zero, List.set_cons_succ]
        refine wpAnyH_take (i := 13) (v := ?v13) (by conv => lhs; simp only [List.getElem?_toArray, List.getElem?_cons_succ, List.getElem?_cons_zero]) (by kernel_rfl) (by kernel_rfl) (by kernel_rfl) (by exact fun _ _ _ h => h) (Or.inl ⟨by rfl, ?hy13⟩) (by assumption) ?_
        case hy13 => (intro w0 hSw; (try dsimp only at hSw); go_simp; try with_reducible rfl)
        try simp only [Act.put, List.setIfInBounds_toArray, List.set_cons_zero, List.set_cons_succ]
        refine wpAnyH_ready (rs := [14]) (by kernel_rfl) (by simp) ?_
        refine AllReadyH.cons (by conv => lhs; simp only [List.getElem?_toArray, List.getElem?_cons_succ, List.getElem?_cons_zero]) (fun K hK => ?_) AllReadyH.nil
        go_simp
        refine (HIC.out _ _ _ (HX.out.keep (by exact (Below.refl _ _).drew))).mono ?_
        rintro e w8 ⟨v8, rfl, hr8, hb8⟩
        obtain ⟨qa8, qc8, qm8, qn8, rfl, -⟩ := hr8.inv
        have HW8 := Lib.hid (Below.next ((Below.refl wr.heap.size wr).drew) hb8)
        have HR8 := Lib.hid (HRR.out.keep HW8.out)
        have HY8 := Lib.hid (HR8.out.own_may HRR.out hr8 rfl)
        clear hr8 hb8
        obtain ⟨l3, A3, c3, w9, HL3, hrun3, hbx, hb3, hr3⟩ := RRow.next (n := w8.heap.size) HR8.out rfl HY8.out (k := key) hkz (by omega)
        have HRUN := Lib.hid hrun3; have HBX := Lib.hid hbx; have HI3 := Lib.hid hr3; have HB3 := Lib.hid hb3
        clear hbx hb3 hr3 hrun3
        go_wp2_with fail
        refine hK.out _ _ (by exact HSS.out _ (HW8.out.mono HTOP.out)) (fun hHeld => ?_)
        clear hK K
        try simp only [Act.put, List.setIfInBounds_toArray, List.set_cons_zero, List.set_cons_succ]
        refine wpAnyH_take (i := 15) (v := ?v15) (by conv => lhs; simp only [List.getElem?_toArray, List.getElem?_cons_succ, List.getElem?_cons_zero]) (by kernel_rfl) (by kernel_rfl) (by kernel_rfl) (by exact fun _ _ _ h => h) (Or.inl ⟨by rfl, ?hy15⟩) (by assumption) ?_
        case hy15 => (intro w0 hSw; (try dsimp only at hSw); go_simp; try with_reducible rfl)
        try simp only [Act.put, List.setIfInBounds_toArray, List.set_cons_zero, List.set_cons_succ]
        refine wpAnyH_ready (rs := [16]) (by kernel_rfl) (by simp) ?_
        refine AllReadyH.cons (by conv => lhs; simp only [List.getElem?_toArray, List.getElem?_cons_succ, List.getElem?_cons_zero]) (fun K hK => ?_) AllReadyH.nil
        go_simp
        refine hK.out _ _ (by exact HSS.out _ ((HW8.out.mono HTOP.out).alloc (Nat.le_trans HTOP.out HW8.out.size) _)) (fun hHeld => ?_)
        clear hK K
        try simp only [Act.put, List.setIfInBounds_toArray, List.set_cons_zero, List.set_cons_succ]
        refine wpAnyH_ready (rs := [17]) (by kernel_rfl) (by simp) ?_
        refine AllReadyH.cons (by conv => lhs; simp only [List.getElem?_toArray, List.getElem?_cons_succ, List.getElem?_cons_zero]) (fun K hK => ?_) AllReadyH.nil
        refine step_append_run rfl (.tmp 26) (.tmp 41) 23 rfl HRUN.out rfl rfl ?_
        have ql := HBX.out.lt; have qf := HBX.out.frozen
        refine hK.out _ _ (by exact HSS.out _ ((HW8.out.mono HTOP.out).trans HB3.out)) (fun hHeld => ?_)
        clear hK K
        try simp only [Act.put, List.setIfInBounds_toArray, List.set_cons_zero, List.set_cons_succ]
        refine wpAnyH_take (i := 18) (v := ?v18) (by conv => lhs; simp only [List.getElem?_toArray, List.getElem?_cons_succ, List.getElem?_cons_zero]) (by kernel_rfl) (by kernel_rfl) (by kernel_rfl) (by exact fun _ _ _ h => h) (Or.inl ⟨by rfl, ?hy18⟩) (by assumption) ?_
        case hy18 => (intro w0 hSw; (try dsimp only at hSw); go_simp; try with_reducible rfl)
        try simp only [Act.put, List.setIfInBounds_toArray, List.set_cons_zero, List.set_cons_succ]
        refine wpAnyH_done (by kernel_rfl) ?_ _
        refine LastQ.step (by conv => lhs; simp only [List.getElem?_toArray, List.getElem?_cons_succ, List.getElem?_cons_zero]) (fun K hK => ?_)
        go_simp
        refine hK.out _ _ ?_
        clear hK K
        try simp only [Act.put, List.setIfInBounds_toArray, List.set_cons_zero, List.set_cons_succ]
        go_wp2_with fail
        go_roundw
        case rel => exact ⟨q + 1, l3, A3, c3, by omega, by go_num, by show l3 = _; rw [HL3.out, ← HS.out, HL9.out], Lib.hid ((HBL.out.trans ((HW8.out.mono (by have := HTOP.out; omega)).trans (HB3.out.mono (by omega)))).setCell (p := ⟨w.heap.size + 1 + 1, 5, none⟩) (by show w.heap.size + 2 ≤ w.heap.size + 1 + 1; omega) _), HI3⟩
        case measure => simp [intOf]; omega
    · obtain rfl : q = t.map.length := by omega
      have HE2 := Lib.hid (show res = mkMap l from by have e := hl.out; rw [List.take_length] at e; rw [HE.out, e])
      clear hl HE
      have zf := L1_1.out.frozen
      go_wp2_with fail
      exact ret_cell rfl rfl ((((((L1_1.out.set_ 0 _).set_ 1 _).set_ 2 _).set_ 3 _).set_ 4 _).set_ 5 _) Try.underlying25 val_size rfl ⟨_, rfl, by rw [HE2.out]; exact (HRR.out.out (by omega)).fin (by omega) (by omega), set6_below (o := 0) HRR.out.bel (by omega)⟩
end Go.Proofs.Ythkkmnmejciomaa
