/- TreeSizes answers true for every input. -/
import Derived.Test.YtmdihildjblgnaaAwake
import Derived.Test.YtmdihildjblgnaaTruth
import Derived.Test.YtmdihildjblgnaaTList
import Derived.Test.YtmdihildjblgnaaSzD
import Derived.Laws.BytesArg
import Derived.Deep.RegionHeld3
import Derived.Deep.DrawnRows
namespace Go.Proofs.Ytmdihildjblgnaa
open Go.RowKit
attribute [local go_sem ↓] Go.wp_at_zero Go.wp_at_succ

def m0 : T := mkMap []
theorem tmap0' (w : World) : Calls Try.prog 29 #[.slice none 0 0] w (NewPost w m0) :=
  tmap [] none 0 w (fun _ => True) (fun i hi => by simp at hi) (by simp)
def keyI (i : Nat) : ByteArray := ⟨#[UInt8.ofNat (97 + i)]⟩
def prs (l : List T) : List (ByteArray × T) := l.mapIdx fun i x => (keyI i, x)
theorem prs_snoc (l : List T) (x : T) : prs (l ++ [x]) = prs l ++ [(keyI l.length, x)] := by simp [prs, List.mapIdx_append]
theorem prs_take (l : List T) (q : Nat) (h : q < l.length) : prs (l.take (q + 1)) = prs (l.take q) ++ [(keyI q, l[q])] := by
  rw [List.take_succ_eq_append_getElem h, prs_snoc, List.length_take, Nat.min_eq_left (by omega)]
theorem keyI_lt : ∀ i j, i < j → j < 8 → klt (keyI i) (keyI j) = true := by
  intro i j hij hj
  have e : klt (keyI i) (keyI j) = Op.bytesLess [UInt8.ofNat (97 + i)] [UInt8.ofNat (97 + j)] := by
    unfold klt keyI; simp [ByteArray.toList_eq]
  rw [e]
  have := (by decide : ∀ i : Fin 8, ∀ j : Fin 8, i < j → Op.bytesLess [UInt8.ofNat (97 + i.val)] [UInt8.ofNat (97 + j.val)] = true)
  exact this ⟨i, by omega⟩ ⟨j, hj⟩ hij
theorem prs_mem {l : List T} {p : ByteArray × T} (h : p ∈ prs l) : ∃ i, i < l.length ∧ p.1 = keyI i := by
  unfold prs at h
  rw [List.mem_mapIdx] at h
  obtain ⟨i, hi, rfl⟩ := h
  exact ⟨i, hi, rfl⟩
theorem prs_KS (l : List T) : ∀ q, q ≤ l.length → q ≤ 8 → KS (prs (l.take q)) := by
  intro q
  induction q with
  | zero => intro _ _; exact KS.nil
  | succ q ih =>
    intro h h8
    have hk := ih (by omega) (by omega)
    rw [prs_take l q (by omega), ← ins_last (m := prs (l.take q)) (k := keyI q) l[q] (fun p hp => by
      obtain ⟨i, hi, e⟩ := prs_mem hp
      rw [e]; rw [List.length_take] at hi; exact keyI_lt i q (by omega) (by omega))]
    exact ins_KS hk _ _
theorem prs_put (l : List T) (q : Nat) (h : q < l.length) (h8 : l.length ≤ 8) : mkMap (prs (l.take (q + 1))) = putT (mkMap (prs (l.take q))) (keyI q) l[q] := by
  have hk := prs_KS l q (by omega) (by omega)
  unfold putT baseM
  rw [if_pos (show (mkMap (prs (l.take q))).kind = 5 from rfl), show (mkMap (prs (l.take q))).map = prs (l.take q) from rfl, mapT_self hk, prs_take l q h,
    ins_last (m := prs (l.take q)) (k := keyI q) l[q] (fun p hp => by
      obtain ⟨i, hi, e⟩ := prs_mem hp
      rw [e]; rw [List.length_take] at hi; exact keyI_lt i q (by omega) (by omega))]
theorem sizes_small {l : List T} (hg : ∀ t ∈ l, Good t) (q : Nat) (h : q < l.length) : T.sizeL (l.take q) ≤ 6000 * q ∧ T.depthL (l.take q) ≤ 6000 * q ∧ l[q].size ≤ 6000 ∧ l[q].depth ≤ 6000 := by
  have hone : ∀ i (h : i < l.length), l[i].size ≤ 6000 ∧ l[i].depth ≤ 6000 := fun i h => by
    have h1 := (hg _ (List.getElem_mem h)).1
    have h2 := size_le_wt l[i]
    have h3 := depth_le l[i]
    omega
  refine ⟨?_, ?_, hone q h⟩
  · have : ∀ k, k ≤ l.length → T.sizeL (l.take k) ≤ 6000 * k := by
      intro k
      induction k with
      | zero => intro _; simp [T.sizeL]
      | succ k ih => intro hk; have := ih (by omega); have := hone k (by omega); rw [T.sizeL_take l k (by omega)]; omega
    exact this q (by omega)
  · have : ∀ k, k ≤ l.length → T.depthL (l.take k) ≤ 6000 * k := by
      intro k
      induction k with
      | zero => intro _; simp [T.depthL]
      | succ k ih => intro hk; have := ih (by omega); have := hone k (by omega); rw [T.depthL_take l k (by omega)]; omega
    exact this q (by omega)
theorem sizeM_snoc (m : List (ByteArray × T)) (p : ByteArray × T) : T.sizeM (m ++ [p]) = T.sizeM m + p.2.size := by
  induction m with
  | nil => obtain ⟨k, x⟩ := p; simp [T.sizeM, T.sizeP]
  | cons a m ih => simp only [List.cons_append, T.sizeM, ih]; omega
theorem depthM_snoc (m : List (ByteArray × T)) (p : ByteArray × T) : T.depthM (m ++ [p]) = max (T.depthM m) p.2.depth := by
  induction m with
  | nil => obtain ⟨k, x⟩ := p; simp [T.depthM, T.depthP]
  | cons a m ih => simp only [List.cons_append, T.depthM, ih]; omega
theorem prs_sums (l : List T) : ∀ q, q ≤ l.length → T.sizeM (prs (l.take q)) = T.sizeL (l.take q) ∧ T.depthM (prs (l.take q)) = T.depthL (l.take q) := by
  intro q
  induction q with
  | zero => intro _; simp [prs, T.sizeM, T.sizeL, T.depthM, T.depthL]
  | succ q ih =>
    intro h
    obtain ⟨h1, h2⟩ := ih (by omega)
    rw [prs_take l q (by omega), sizeM_snoc, depthM_snoc, T.sizeL_take l q (by omega), T.depthL_take l q (by omega), h1, h2]
    exact ⟨rfl, rfl⟩
theorem sums_all {l : List T} (hg : ∀ t ∈ l, Good t) (h8 : l.length ≤ 8) : T.sizeL l ≤ 60000 ∧ T.depthL l ≤ 60000 := by
  by_cases h : l.length = 0
  · obtain rfl := List.eq_nil_of_length_eq_zero h; simp [T.sizeL, T.depthL]
  · have hq : l.length - 1 < l.length := by omega
    obtain ⟨h1, h2, h3, h4⟩ := sizes_small hg (l.length - 1) hq
    have e1 := T.sizeL_take l (l.length - 1) hq
    have e2 := T.depthL_take l (l.length - 1) hq
    rw [show l.length - 1 + 1 = l.length by omega, List.take_length] at e1 e2
    omega
theorem list_size (l : List T) : (mkList l).size = 1 + T.sizeL l ∧ (mkList l).depth = 1 + T.depthL l := by
  rw [T.size_eq, T.depth_eq]; simp [mkList, T.list, T.map, T.sizeM, T.depthM]
theorem map_size (l : List T) : (mkMap (prs l)).size = 1 + T.sizeL l ∧ (mkMap (prs l)).depth = 1 + T.depthL l := by
  have h := prs_sums l l.length (Nat.le_refl _)
  rw [List.take_length] at h
  rw [T.size_eq, T.depth_eq]
  show 1 + T.sizeL [] + T.sizeM (prs l) = _ ∧ 1 + max (T.depthL []) (T.depthM (prs l)) = _
  rw [h.1, h.2]; simp [T.sizeL, T.depthL]
theorem list_truth (l : List T) : (mkList l).truth = decide (0 < l.length) := by rw [Bool.eq_iff_iff]; simp [T.truth, mkList, T.bool, T.int, T.str, T.list, T.map, ByteArray.toList_eq]; exact decide_eq_true_iff
theorem conv1 (q : Nat) (hq : q < 9) (W : World) : (convert 37 9 (.slice (some ⟨W.heap.size, 0, none⟩) 1 1)).run Try.prog (W.alloc (.cells #[.int .u8 (97 + (q : Int))] 5)) = .ok (.string (keyI q)) (W.alloc (.cells #[.int .u8 (97 + (q : Int))] 5)) := by
  have := run_convert_bytes_arg (P := Try.prog) (W.alloc (.cells #[.int .u8 (97 + (q : Int))] 5)) 37 5 (by kernel_rfl) (by kernel_rfl) W.heap.size 0 1 1 [97 + (q : Int)] rfl (fun i hi => by
    obtain rfl : i = 0 := by omega
    exact (Blk.new W 5 #[.int .u8 (97 + (q : Int))]).cell 0) 9 (by kernel_rfl)
  rw [this]
  have e : strOfNums [97 + (q : Int)] = keyI q := by
    show (⟨#[UInt8.ofNat (97 + (q : Int)).toNat]⟩ : ByteArray) = ⟨#[UInt8.ofNat (97 + q)]⟩
    rw [show (97 + (q : Int)).toNat = 97 + q by omega]
  rw [e]

set_option maxRecDepth 100000 in
set_option maxHeartbeats 8000000 in
theorem sizes (l : List T) (a : Option Addr) (c : Nat) (w : World) (hl : RepL w (fun _ => True) a l) (hlen : l.length * 88 ≤ 140737488355328) :
    Calls Try.prog 4 #[.slice a l.length c] w fun e w' => e = .returned (.bool true) ∧ Below w.heap.size w w' := by
  have HL := Lib.hid hl
  clear hl
  go_enter Try.func4, Try.ntmps4
  by_cases h8 : 8 < l.length
  · go_wp2_with (go_at_call 24; refine (awake1 _).mono ?_; rintro e w9 ⟨rfl, hb9⟩)
    go_ret
    exact ⟨rfl, hb9⟩
  go_wp2_with fail
  refine (right l _ (fun _ => True) _ c HL.out (by omega)).mono ?_
  rintro e w1 ⟨r, rfl, hr, hb⟩
  have HD1 := Lib.hid (show Below w.heap.size w w1 from hb)
  have HW1 := Lib.hid (show Below w.heap.size w w1 from HD1.out)
  clear hb HD1
  have HR := Lib.hid hr
  clear hr
  have HLL := Lib.hid (HL.out.keep HW1.out)
  cases r
  · go_wp2_with (go_at_call 24; refine (awake1 _).mono ?_; rintro e w9 ⟨rfl, hb9⟩)
    go_ret
    exact ⟨rfl, Below.next HW1.out hb9⟩
  have HG := Lib.hid (HR.out rfl)
  clear HR
  go_wp2_with fail
  refine (tmap0' _).mono ?_
  rintro e w2 ⟨v2, rfl, hr, hb⟩
  obtain ⟨qa2, qc2, qm2, qn2, rfl, -⟩ := hr.inv
  have N2 := Lib.hid (hr.any)
  clear hr
  have HD2 := Lib.hid (show Below w1.heap.size w1 w2 from hb)
  have HW2 := Lib.hid (Below.next HW1.out HD2.out)
  clear hb HD2 HW1
  go_wp2_with fail
  have hinit : ∃ wx G, wx = (w2.alloc (.cells #[.int .i64 m0.kind, .bool m0.bool, .int .i64 m0.int, .string m0.str, .slice qa2 m0.list.length qc2, .slice qm2 m0.map.length qn2] 25)) ∧ G = w2.heap.size ∧ Blk wx G 25 #[.int .i64 m0.kind, .bool m0.bool, .int .i64 m0.int, .string m0.str, .slice qa2 m0.list.length qc2, .slice qm2 m0.map.length qn2] ∧ RepT wx (fun b => b ≠ G) (.agg #[.int .i64 m0.kind, .bool m0.bool, .int .i64 m0.int, .string m0.str, .slice qa2 m0.list.length qc2, .slice qm2 m0.map.length qn2]) m0 ∧ Below w.heap.size w wx ∧ w.heap.size ≤ G := ⟨_, _, rfl, rfl, Blk.new _ _ _, (N2.out.weak (S' := fun b => b ≠ w2.heap.size) (fun b _ h => Nat.ne_of_lt h)).keep (Below.new _ _), Below.next HW2.out (Below.new _ _), HW2.out.size⟩
  obtain ⟨wx, G, hwx, hG, hib, hir, hiw, hGw⟩ := hinit
  rw [← hwx, ← hG]
  clear hwx hG HW2 N2
  have HI := Lib.hid (And.intro hib (And.intro hir hiw))
  clear hib hir hiw
  go_loopw [3, 4, 21] (fun n d x wr => ∃ (q : Nat) (M : T) (la : Option Addr) (lc : Nat) (ma : Option Addr) (mc : Nat), q ≤ l.length ∧ x = .int .i64 q ∧ n = .int .i64 ((1 + T.sizeL (l.take q) : Nat) : Int) ∧ d = .int .i64 ((T.depthL (l.take q) : Nat) : Int) ∧ Hid (M = mkMap (prs (l.take q))) ∧ Blk wr G 25 #[.int .i64 M.kind, .bool M.bool, .int .i64 M.int, .string M.str, .slice la M.list.length lc, .slice ma M.map.length mc] ∧ RepT wr (fun b => b ≠ G) (.agg #[.int .i64 M.kind, .bool M.bool, .int .i64 M.int, .string M.str, .slice la M.list.length lc, .slice ma M.map.length mc]) M ∧ Below w.heap.size w wr) (fun n d x _ => l.length - (intOf x).toNat)
  case atStart => exact ⟨0, m0, _, _, _, _, Nat.zero_le _, rfl, rfl, rfl, rfl, HI.out.1, HI.out.2.1, HI.out.2.2⟩
  case round =>
    obtain ⟨q, M, la, lc, ma, mc, hq, rfl, rfl, rfl, hM, hbm, hrm, hbw⟩ := hrel
    have HW10 := Lib.hid hbw
    have HBM := Lib.hid hbm
    have HRM := Lib.hid hrm
    have hmlt := hbm.lt
    have hmc := hbm.cell
    have hmf := hbm.frozen
    clear hbw hbm hrm HI
    by_cases hlt : q < l.length
    · obtain ⟨bl, ol, la1, lc1, ma1, mc1, rfl, -, -, ⟨c0, c1, c2, c3, c4, c5⟩, hr⟩ := (HL.out.keep HW10.out).at_ hlt
      have HR := Lib.hid hr
      have HST := Lib.hid (T.sizeL_take l q hlt)
      have HDT := Lib.hid (T.depthL_take l q hlt)
      have HPR := Lib.hid (prs_take l q hlt)
      have HSB := Lib.hid (sizes_small HG.out q hlt)
      clear hr
      have HNX : Hid (∀ x, x = l[q] → mkMap (prs (l.take (q + 1))) = putT M (keyI q) x) := fun x e => by rw [e, hM.out]; exact prs_put l q hlt (by omega)
      generalize l[q] = t at *
      have hsb1 := HSB.out.1
      have hsb2 := HSB.out.2.1
      have hsb3 := HSB.out.2.2
      have hmx := @run_max64 Try.prog
      go_wp2_with fail
      obtain ⟨w11, hwz⟩ : ∃ x, x = (wr.alloc (.cells #[.int .i64 t.kind, .bool t.bool, .int .i64 t.int, .string t.str, .slice la1 t.list.length lc1, .slice ma1 t.map.length mc1] 25)) := ⟨_, rfl⟩
      have hb : Below (wr.alloc (.cells #[.int .i64 t.kind, .bool t.bool, .int .i64 t.int, .string t.str, .slice la1 t.list.length lc1, .slice ma1 t.map.length mc1] 25)).heap.size (wr.alloc (.cells #[.int .i64 t.kind, .bool t.bool, .int .i64 t.int, .string t.str, .slice la1 t.list.length lc1, .slice ma1 t.map.length mc1] 25)) w11 := by rw [hwz]; exact Below.refl _ _
      rw [← hwz]
      clear hwz
      have HD11 := Lib.hid (show Below wr.heap.size wr w11 from Below.next (Below.new _ _) hb)
      have L11_0 := Lib.hid (HBM.out.keep HD11.out)
      have L11_1 := Lib.hid ((Blk.new wr 25 #[.int .i64 t.kind, .bool t.bool, .int .i64 t.int, .string t.str, .slice la1 t.list.length lc1, .slice ma1 t.map.length mc1]).keep hb)
      have V11_M := Lib.hid (HRM.out.keep HD11.out)
      have V11_t := Lib.hid (HR.out.keep HD11.out)
      have HW11 := Lib.hid (Below.next HW10.out HD11.out)
      clear hmc hmlt hmf hb HD11 HBM HRM HR HW10
      have k11_0 := L11_0.out.cell
      have l11_0 := L11_0.out.lt
      have k11_1 := L11_1.out.cell
      have l11_1 := L11_1.out.lt
      go_wp2_with fail
      refine (tsize t _ _ _ (V11_t.out) (by omega)).mono ?_
      rintro e w12 ⟨rfl, hb⟩
      have HD12 := Lib.hid (show Below w11.heap.size w11 w12 from hb)
      have L12_0 := Lib.hid (L11_0.out.keep HD12.out)
      have L12_1 := Lib.hid (L11_1.out.keep HD12.out)
      have V12_M := Lib.hid (V11_M.out.keep HD12.out)
      have V12_t := Lib.hid (V11_t.out.keep HD12.out)
      have HW12 := Lib.hid (Below.next HW11.out HD12.out)
      clear k11_0 l11_0 k11_1 l11_1 hb HD12 L11_0 L11_1 V11_M V11_t HW11
      have k12_0 := L12_0.out.cell
      have l12_0 := L12_0.out.lt
      have k12_1 := L12_1.out.cell
      have l12_1 := L12_1.out.lt
      go_wp2_with fail
      refine (tdepth t _ _ _ (V12_t.out) (by omega)).mono ?_
      rintro e w13 ⟨rfl, hb⟩
      have HD13 := Lib.hid (show Below w12.heap.size w12 w13 from hb)
      have L13_0 := Lib.hid (L12_0.out.keep HD13.out)
      have L13_1 := Lib.hid (L12_1.out.keep HD13.out)
      have V13_M := Lib.hid (V12_M.out.keep HD13.out)
      have V13_t := Lib.hid (V12_t.out.keep HD13.out)
      have HW13 := Lib.hid (Below.next HW12.out HD13.out)
      clear k12_0 l12_0 k12_1 l12_1 hb HD13 L12_0 L12_1 V12_M V12_t HW12
      have k13_0 := L13_0.out.cell
      have l13_0 := L13_0.out.lt
      have k13_1 := L13_1.out.cell
      have l13_1 := L13_1.out.lt
      have hcv := conv1 q (by omega)
      have HML : Hid (M.map.length ≤ 8) := by rw [hM.out]; show (prs (l.take q)).length ≤ 8; unfold prs; rw [List.length_mapIdx, List.length_take]; omega
      go_wp2_with fail
      refine (tput M t (keyI q) _ _ _ _ _ (V13_M.out.keep (by exact Below.new _ _)) (V13_t.out.keep (by exact Below.new _ _)) (by simp [keyI, ByteArray.size]) (by have := HML.out; omega)).mono ?_
      rintro e w14 ⟨v14, rfl, hr, hb⟩
      obtain ⟨qa, qc, qm, qn, rfl, -⟩ := hr.inv
      have NX := Lib.hid (hr.weak (S' := fun b => b ≠ G) (fun b hb1 _ => by have h2 := l13_0; have h3 : (w13.alloc (.cells #[.int .u8 (97 + (q : Int))] 5)).heap.size ≤ b := hb1; simp at h3; show b ≠ G; omega))
      clear hr hcv
      have HD14 := Lib.hid (show Below w13.heap.size w13 w14 from Below.next (Below.new _ _) hb)
      have L14_0 := Lib.hid (L13_0.out.keep HD14.out)
      have L14_1 := Lib.hid (L13_1.out.keep HD14.out)
      have V14_M := Lib.hid (V13_M.out.keep HD14.out)
      have V14_t := Lib.hid (V13_t.out.keep HD14.out)
      have HW14 := Lib.hid (Below.next HW13.out HD14.out)
      clear k13_0 l13_0 k13_1 l13_1 hb HD14 L13_0 L13_1 V13_M V13_t HW13
      have k14_0 := L14_0.out.cell
      have l14_0 := L14_0.out.lt
      have k14_1 := L14_1.out.cell
      have l14_1 := L14_1.out.lt
      have hfz := L14_0.out.frozen
      go_wp2_with fail
      go_roundw
      case rel =>
        refine ⟨q + 1, putT M (keyI q) t, qa, qc, qm, qn, by omega, by go_num, ?_, ?_, ?_, ((((((L14_0.out.set_ 0 _).set_ 1 _).set_ 2 _).set_ 3 _).set_ 4 _).set_ 5 _), NX.out.mono (fun _ h _ => h) (fun b o (h : b ≠ G) _ => World.cell?_of_block (set6_heap (o := 0) h)), set6_below (o := 0) HW14.out hGw⟩
        · rw [HST.out]; simp only [Value.int.injEq, true_and]; omega
        · rw [HDT.out]; simp only [Value.int.injEq, true_and]; omega
        · exact (HNX.out _ rfl).symm
      case measure => simp [intOf]; omega
    · obtain rfl : q = l.length := by omega
      rw [List.take_length] at hM
      rw [List.take_length]
      have HSA := Lib.hid (sums_all HG.out (by omega))
      have HLZ := Lib.hid (HL.out.keep HW10.out)
      have C1 : Hid (∀ (w : World) (a : Value), RepT w (fun _ => True) a (mkList l) → Calls Try.prog 30 #[a] w (fun e w' => e = .returned (.int .i64 ((1 + T.sizeL l : Nat) : Int)) ∧ Below w.heap.size w w')) := fun w a h => by have := tsize (mkList l) w _ a h (by rw [(list_size l).1]; have := HSA.out; omega); rw [(list_size l).1] at this; exact this
      have C1M : Hid (∀ (w : World) (a : Value), RepT w (fun b => b ≠ G) a M → Calls Try.prog 30 #[a] w (fun e w' => e = .returned (.int .i64 ((1 + T.sizeL l : Nat) : Int)) ∧ Below w.heap.size w w')) := fun w a h => by have := tsize M w _ a h (by rw [hM.out, (map_size l).1]; have := HSA.out; omega); rw [hM.out, (map_size l).1] at this; exact this
      have C2 : Hid (∀ (w : World) (a : Value), RepT w (fun _ => True) a (mkList l) → Calls Try.prog 31 #[a] w (fun e w' => e = .returned (.int .i64 ((1 + T.depthL l : Nat) : Int)) ∧ Below w.heap.size w w')) := fun w a h => by have := tdepth (mkList l) w _ a h (by rw [(list_size l).1]; have := HSA.out; omega); rw [(list_size l).2] at this; exact this
      have C2M : Hid (∀ (w : World) (a : Value), RepT w (fun b => b ≠ G) a M → Calls Try.prog 31 #[a] w (fun e w' => e = .returned (.int .i64 ((1 + T.depthL l : Nat) : Int)) ∧ Below w.heap.size w w')) := fun w a h => by have := tdepth M w _ a h (by rw [hM.out, (map_size l).1]; have := HSA.out; omega); rw [hM.out, (map_size l).2] at this; exact this
      have C3 : Hid (∀ (w : World) (a : Value), RepT w (fun _ => True) a (mkList l) → Calls Try.prog 33 #[a] w (fun e w' => e = .returned (.bool (decide (0 < l.length))) ∧ Below w.heap.size w w')) := fun w a h => by have := ttruth _ a w _ h; rw [list_truth] at this; exact this
      have hsa := HSA.out
      clear HSA
      go_wp2_with fail
      refine (tlist l a c _ _ HLZ.out hlen).mono ?_
      rintro e w11 ⟨v11, rfl, hr, hb⟩
      obtain ⟨qa11, qc11, qm11, qn11, rfl, -⟩ := hr.inv
      have N11 := Lib.hid (hr.any)
      clear hr
      have HD11 := Lib.hid (show Below wr.heap.size wr w11 from hb)
      have L11_0 := Lib.hid (HBM.out.keep HD11.out)
      have V11_M := Lib.hid (HRM.out.keep HD11.out)
      have HW11 := Lib.hid (Below.next HW10.out HD11.out)
      clear hmc hmlt hmf hb HD11 HBM HRM HW10
      have k11_0 := L11_0.out.cell
      have l11_0 := L11_0.out.lt
      generalize mkList l = ml at *
      go_wp2_with fail
      obtain ⟨w12, hwz⟩ : ∃ x, x = (w11.alloc (.cells #[.int .i64 ml.kind, .bool ml.bool, .int .i64 ml.int, .string ml.str, .slice qa11 ml.list.length qc11, .slice qm11 ml.map.length qn11] 25)) := ⟨_, rfl⟩
      have hb : Below (w11.alloc (.cells #[.int .i64 ml.kind, .bool ml.bool, .int .i64 ml.int, .string ml.str, .slice qa11 ml.list.length qc11, .slice qm11 ml.map.length qn11] 25)).heap.size (w11.alloc (.cells #[.int .i64 ml.kind, .bool ml.bool, .int .i64 ml.int, .string ml.str, .slice qa11 ml.list.length qc11, .slice qm11 ml.map.length qn11] 25)) w12 := by rw [hwz]; exact Below.refl _ _
      rw [← hwz]
      clear hwz
      have HD12 := Lib.hid (show Below w11.heap.size w11 w12 from Below.next (Below.new _ _) hb)
      have L12_0 := Lib.hid (L11_0.out.keep HD12.out)
      have L12_1 := Lib.hid ((Blk.new w11 25 #[.int .i64 ml.kind, .bool ml.bool, .int .i64 ml.int, .string ml.str, .slice qa11 ml.list.length qc11, .slice qm11 ml.map.length qn11]).keep hb)
      have V12_M := Lib.hid (V11_M.out.keep HD12.out)
      have V12_x := Lib.hid (N11.out.keep HD12.out)
      have HW12 := Lib.hid (Below.next HW11.out HD12.out)
      clear k11_0 l11_0 hb HD12 L11_0 V11_M N11 HW11
      have k12_0 := L12_0.out.cell
      have l12_0 := L12_0.out.lt
      have k12_1 := L12_1.out.cell
      have l12_1 := L12_1.out.lt
      go_wp2_with fail
      refine (awake1 _).mono ?_
      rintro e w13 ⟨rfl, hb⟩
      have HD13 := Lib.hid (show Below w12.heap.size w12 w13 from hb)
      have L13_0 := Lib.hid (L12_0.out.keep HD13.out)
      have L13_1 := Lib.hid (L12_1.out.keep HD13.out)
      have V13_M := Lib.hid (V12_M.out.keep HD13.out)
      have V13_x := Lib.hid (V12_x.out.keep HD13.out)
      have HW13 := Lib.hid (Below.next HW12.out HD13.out)
      clear k12_0 l12_0 k12_1 l12_1 hb HD13 L12_0 L12_1 V12_M V12_x HW12
      have k13_0 := L13_0.out.cell
      have l13_0 := L13_0.out.lt
      have k13_1 := L13_1.out.cell
      have l13_1 := L13_1.out.lt
      go_wp2_with fail
      refine (C1.out _ _ (V13_x.out)).mono ?_
      rintro e w14 ⟨rfl, hb⟩
      have HD14 := Lib.hid (show Below w13.heap.size w13 w14 from hb)
      have L14_0 := Lib.hid (L13_0.out.keep HD14.out)
      have L14_1 := Lib.hid (L13_1.out.keep HD14.out)
      have V14_M := Lib.hid (V13_M.out.keep HD14.out)
      have V14_x := Lib.hid (V13_x.out.keep HD14.out)
      have HW14 := Lib.hid (Below.next HW13.out HD14.out)
      clear k13_0 l13_0 k13_1 l13_1 hb HD14 L13_0 L13_1 V13_M V13_x HW13
      have k14_0 := L14_0.out.cell
      have l14_0 := L14_0.out.lt
      have k14_1 := L14_1.out.cell
      have l14_1 := L14_1.out.lt
      go_wp2_with fail
      refine (C2.out _ _ (V14_x.out)).mono ?_
      rintro e w15 ⟨rfl, hb⟩
      have HD15 := Lib.hid (show Below w14.heap.size w14 w15 from hb)
      have L15_0 := Lib.hid (L14_0.out.keep HD15.out)
      have L15_1 := Lib.hid (L14_1.out.keep HD15.out)
      have V15_M := Lib.hid (V14_M.out.keep HD15.out)
      have V15_x := Lib.hid (V14_x.out.keep HD15.out)
      have HW15 := Lib.hid (Below.next HW14.out HD15.out)
      clear k14_0 l14_0 k14_1 l14_1 hb HD15 L14_0 L14_1 V14_M V14_x HW14
      have k15_0 := L15_0.out.cell
      have l15_0 := L15_0.out.lt
      have k15_1 := L15_1.out.cell
      have l15_1 := L15_1.out.lt
      go_wp2_with fail
      refine (C1M.out _ _ (V15_M.out)).mono ?_
      rintro e w16 ⟨rfl, hb⟩
      have HD16 := Lib.hid (show Below w15.heap.size w15 w16 from hb)
      have L16_0 := Lib.hid (L15_0.out.keep HD16.out)
      have L16_1 := Lib.hid (L15_1.out.keep HD16.out)
      have V16_M := Lib.hid (V15_M.out.keep HD16.out)
      have V16_x := Lib.hid (V15_x.out.keep HD16.out)
      have HW16 := Lib.hid (Below.next HW15.out HD16.out)
      clear k15_0 l15_0 k15_1 l15_1 hb HD16 L15_0 L15_1 V15_M V15_x HW15
      have k16_0 := L16_0.out.cell
      have l16_0 := L16_0.out.lt
      have k16_1 := L16_1.out.cell
      have l16_1 := L16_1.out.lt
      go_wp2_with fail
      refine (C2M.out _ _ (V16_M.out)).mono ?_
      rintro e w17 ⟨rfl, hb⟩
      have HD17 := Lib.hid (show Below w16.heap.size w16 w17 from hb)
      have L17_0 := Lib.hid (L16_0.out.keep HD17.out)
      have L17_1 := Lib.hid (L16_1.out.keep HD17.out)
      have V17_M := Lib.hid (V16_M.out.keep HD17.out)
      have V17_x := Lib.hid (V16_x.out.keep HD17.out)
      have HW17 := Lib.hid (Below.next HW16.out HD17.out)
      clear k16_0 l16_0 k16_1 l16_1 hb HD17 L16_0 L16_1 V16_M V16_x HW16
      have k17_0 := L17_0.out.cell
      have l17_0 := L17_0.out.lt
      have k17_1 := L17_1.out.cell
      have l17_1 := L17_1.out.lt
      go_wp2_with fail
      refine (C3.out _ _ (V17_x.out)).mono ?_
      rintro e w18 ⟨rfl, hb⟩
      have HD18 := Lib.hid (show Below w17.heap.size w17 w18 from hb)
      have L18_0 := Lib.hid (L17_0.out.keep HD18.out)
      have L18_1 := Lib.hid (L17_1.out.keep HD18.out)
      have V18_M := Lib.hid (V17_M.out.keep HD18.out)
      have V18_x := Lib.hid (V17_x.out.keep HD18.out)
      have HW18 := Lib.hid (Below.next HW17.out HD18.out)
      clear k17_0 l17_0 k17_1 l17_1 hb HD18 L17_0 L17_1 V17_M V17_x HW17
      have k18_0 := L18_0.out.cell
      have l18_0 := L18_0.out.lt
      have k18_1 := L18_1.out.cell
      have l18_1 := L18_1.out.lt
      go_wp2_with fail
      go_ret
      exact ⟨rfl, HW18.out⟩

end Go.Proofs.Ytmdihildjblgnaa
