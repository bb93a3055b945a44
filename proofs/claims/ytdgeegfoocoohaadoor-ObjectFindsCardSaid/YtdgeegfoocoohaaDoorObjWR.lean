/- Several texts as one. -/
import Derived.Test.YtdgeegfoocoohaaDoorKeys
import Derived.Test.YtdgeegfoocoohaaDoorScalP
import Derived.Test.YtdgeegfoocoohaaDoorSplit
import Derived.Test.YtdgeegfoocoohaaDoorScalB
import Derived.Test.YtdgeegfoocoohaaDoorScalV
import Derived.Lib.SlicesS
import Derived.Deep.RegionHeld3
import Derived.Deep.DrawnRows
/- What object asks of IDs, plainly: ranks, order, texts. -/
namespace Go.Proofs.YtdgeegfoocoohaaDoor

structure ID3 where
  k : ByteArray
  s : ByteArray
  n : ByteArray
  deriving DecidableEq

def orderW : List ByteArray := [⟨#[78, 97, 109, 101, 115, 112, 97, 99, 101]⟩, ⟨#[83, 101, 99, 114, 101, 116]⟩, ⟨#[67, 111, 110, 102, 105, 103, 77, 97, 112]⟩, ⟨#[86, 111, 108, 117, 109, 101]⟩, ⟨#[65, 99, 99, 111, 117, 110, 116]⟩, ⟨#[82, 111, 108, 101]⟩, ⟨#[83, 101, 114, 118, 105, 99, 101]⟩, ⟨#[68, 101, 112, 108, 111, 121, 109, 101, 110, 116]⟩, ⟨#[74, 111, 98]⟩, ⟨#[73, 110, 103, 114, 101, 115, 115]⟩]
def rankK (k : ByteArray) : Nat := orderW.findIdx (fun x => decide (x = k))
theorem rank_le (k : ByteArray) : rankK k ≤ 10 := List.findIdx_le_length
def cmpN (a b : Nat) : Int := if a < b then -1 else if a = b then 0 else 1
theorem cmpN_back (a b : Nat) : cmpN b a = - cmpN a b := by unfold cmpN; repeat' split; all_goals omega
theorem cmpN_zero (a b : Nat) : cmpN a b = 0 ↔ a = b := by unfold cmpN; repeat' split; all_goals (first | omega | (simp; omega))
theorem kcmpO_back (a b : ByteArray) : kcmp b a = - kcmp a b := by
  unfold kcmp
  rcases klt_total a b with h | rfl | h
  · have h1 := klt_asymm h
    have h2 := klt_ne h
    have h3 : ¬ b = a := fun e => h2 e.symm
    simp [h, h1, h3]
  · rw [klt_irrefl]; simp
  · have h1 := klt_asymm h
    have h2 := klt_ne h
    have h3 : ¬ a = b := fun e => h2 e.symm
    simp [h, h1, h3]
theorem kcmpO_zero (a b : ByteArray) : kcmp a b = 0 ↔ a = b := by
  unfold kcmp
  by_cases h : a = b
  · subst h; simp [klt_irrefl]
  · rw [if_neg h]; split <;> simp [h]
/-- cmp.Or. -/
def orL : List Int → Int
  | [] => 0
  | x :: r => if x ≠ 0 then x else orL r
def cmpID (a b : ID3) : Int := orL [cmpN (rankK a.k) (rankK b.k), kcmp a.k b.k, kcmp a.s b.s, kcmp a.n b.n]
theorem cmpID_zero (a b : ID3) : cmpID a b = 0 ↔ a = b := by
  have e : a = b ↔ a.k = b.k ∧ a.s = b.s ∧ a.n = b.n := by cases a; cases b; simp
  rw [e, ← kcmpO_zero a.k, ← kcmpO_zero a.s, ← kcmpO_zero a.n]
  have hr : kcmp a.k b.k = 0 → cmpN (rankK a.k) (rankK b.k) = 0 := fun h => by rw [(kcmpO_zero _ _).1 h]; exact (cmpN_zero _ _).2 rfl
  unfold cmpID
  simp only [orL]
  generalize cmpN (rankK a.k) (rankK b.k) = x at *
  generalize kcmp a.k b.k = y at *
  generalize kcmp a.s b.s = z at *
  generalize kcmp a.n b.n = u at *
  repeat' split
  all_goals (constructor <;> intro h <;> first | omega | (have := hr; omega) | (refine ⟨?_, ?_, ?_⟩ <;> omega) | (obtain ⟨h1, h2, h3⟩ := h; have := hr h1; omega))
theorem cmpID_back (a b : ID3) : cmpID b a = - cmpID a b := by
  unfold cmpID
  rw [cmpN_back, kcmpO_back a.k, kcmpO_back a.s, kcmpO_back a.n]
  simp only [orL]
  repeat' split
  all_goals omega
theorem cmpID_rank (a b : ID3) (h : rankK a.k < rankK b.k) : cmpID a b < 0 := by
  unfold cmpID orL
  rw [cmpN, if_pos h]; simp

/-! ### Texts -/
def keyL (a : ID3) : List UInt8 := a.k.data.toList ++ 47 :: (a.s.data.toList ++ 47 :: a.n.data.toList)
/-- A word of an ID. -/
def wordL (l : List UInt8) : Prop := 47 ∉ l ∧ bareL l = true ∧ l.length ≤ 64
def Right3 (a : ID3) : Prop := wordL a.k.data.toList ∧ wordL a.s.data.toList ∧ wordL a.n.data.toList
instance (l : List UInt8) : Decidable (wordL l) := by unfold wordL; infer_instance
instance (a : ID3) : Decidable (Right3 a) := by unfold Right3; infer_instance
theorem key_split {a : ID3} (h : Right3 a) : splitL 47 (keyL a) = [a.k.data.toList, a.s.data.toList, a.n.data.toList] := by
  unfold keyL
  rw [splitL_app _ h.1.1, splitL_app _ h.2.1.1, splitL_no h.2.2.1]
theorem data_ext {a b : ByteArray} (h : a.data.toList = b.data.toList) : a = b := ba_ext (by rw [ByteArray.toList_eq, ByteArray.toList_eq]; exact h)
theorem key_inj {a b : ID3} (ha : Right3 a) (hb : Right3 b) (h : keyL a = keyL b) : a = b := by
  have h1 := key_split ha
  rw [h, key_split hb] at h1
  injection h1 with h1 h2
  injection h2 with h2 h3
  injection h3 with h3 _
  cases a; cases b
  simp only [ID3.mk.injEq]
  exact ⟨(data_ext h1).symm, (data_ext h2).symm, (data_ext h3).symm⟩
/-- A text that falls into three pieces is the text of these. -/
theorem split_key : ∀ {l : List UInt8} {p : List (List UInt8)}, splitL 47 l = p → l = (p.intersperse [47]).flatten
  | [], p, h => by subst h; rfl
  | c :: r, p, h => by
    rw [splitL] at h
    by_cases hc : c = 47
    · rw [if_pos hc] at h
      subst h hc
      have ih := split_key (l := r) rfl
      cases hs : splitL 47 r with
      | nil => exact absurd hs (splitL_ne _ _)
      | cons x xs => rw [hs] at ih; rw [List.intersperse_cons_cons] ; simp [← ih]
    · rw [if_neg hc] at h
      have ih := split_key (l := r) rfl
      cases hs : splitL 47 r with
      | nil => exact absurd hs (splitL_ne _ _)
      | cons x xs =>
        rw [hs] at h ih
        subst h
        cases xs with
        | nil => simp at ih ⊢; exact ih
        | cons y ys =>
          simp only [List.intersperse_cons_cons, List.flatten_cons] at ih ⊢
          rw [ih]; rfl
theorem split_three {l a b c : List UInt8} (h : splitL 47 l = [a, b, c]) : l = a ++ 47 :: (b ++ 47 :: c) := by
  have := split_key h
  simpa using this
end Go.Proofs.YtdgeegfoocoohaaDoor

/- Object's words and order: walks of Word, Right (both), Rank, Compare, Key. -/
namespace Go.Proofs.YtdgeegfoocoohaaDoor
open Go.RowKit
attribute [local go_sem ↓] Go.wp_at_zero Go.wp_at_succ

/-- What object reads of the world: the kinds that come ahead of others. -/
def ObjV (w : World) : Prop := w.var? Tryd.prog "mizzen/object.order" = some (orderW.map Value.string).toArray
theorem ObjV.keep {w w' : World} (h : ObjV w) (hb : Below w.heap.size w w') : ObjV w' := var_keep h hb
theorem ObjV.cell {w : World} (h : ObjV w) (j : Nat) (hj : j < orderW.length) : w.cell? ⟨0, j, none⟩ = some (.string (orderW.getD j ByteArray.empty)) := by
  have := World.var?_cell (show Tryd.prog.globalNamed "mizzen/object.order" = some 0 by kernel_rfl) h j
  rw [this]
  simp [List.getD, hj]
theorem idx_rank (k : ByteArray) : (Lib.idxOfS orderW k < 0 ∧ rankK k = 10) ∨ (Lib.idxOfS orderW k = (rankK k : Int)) := by
  have hz : orderW.length = 10 := rfl
  by_cases h : k ∈ orderW
  · right
    have h1 : rankK k < orderW.length := List.findIdx_lt_length.2 ⟨k, h, by simp⟩
    have h2 : orderW[rankK k] = k := by
      have := List.findIdx_getElem (p := fun x => decide (x = k)) (xs := orderW) (w := h1)
      exact of_decide_eq_true this
    have h3 := Lib.idxOfS_hit orderW orderW.length (rankK k) k h1 (Nat.le_refl _) (by rw [List.getD_eq_getElem?_getD, List.getElem?_eq_getElem h1]; exact h2) (fun j hj e => by
      have hj2 : j < orderW.length := by omega
      have := List.not_of_lt_findIdx (p := fun x => decide (x = k)) (xs := orderW) hj
      rw [List.getD_eq_getElem?_getD, List.getElem?_eq_getElem hj2] at e
      simp at this
      exact this e)
    rw [List.take_length] at h3
    exact h3
  · left
    have h1 : ¬ 0 ≤ Lib.idxOfS orderW k := fun e => h ((Lib.idxOfS_nonneg_iff _ _).1 e)
    refine ⟨by omega, ?_⟩
    unfold rankK
    rw [List.findIdx_eq_length.2 (fun x hx => by simp; exact fun e => h (e ▸ hx))]
    exact hz
/-- An ID's cells, its value, what it may weigh. -/
def ID3.val (a : ID3) : Value := .agg #[.string a.k, .string a.s, .string a.n]
def ID3.small (a : ID3) : Prop := a.k.size ≤ 1000000 ∧ a.s.size ≤ 1000000 ∧ a.n.size ≤ 1000000

set_option maxRecDepth 100000 in
set_option maxHeartbeats 4000000 in
theorem trank (k : ByteArray) (w : World) (hv : ObjV w) : Calls Tryd.prog 24 #[.string k] w fun e w' => e = .returned (.int .i64 (rankK k)) ∧ w = w' := by
  have CI := Lib.hid (Tryd.slices_Index_string 0 0 10 10 orderW k w (Nat.le_refl _) (by omega) (fun j hj => by rw [Nat.zero_add]; exact hv.cell j hj))
  have h10 : orderW.take 10 = orderW := rfl
  rw [h10] at CI
  have hr := rank_le k
  clear h10 hv
  rcases idx_rank k with ⟨h1, h2⟩ | h1
  · generalize Lib.idxOfS orderW k = x at *
    rw [h2]
    clear h2 hr
    go_enter Tryd.func24, Tryd.ntmps24
    go_wp2_with (go_at_call 38; refine CI.out.mono ?_; rintro e w9 ⟨rfl, rfl⟩)
    go_ret
    exact ⟨rfl, rfl⟩
  · rw [h1] at CI
    clear h1
    generalize rankK k = x at *
    go_enter Tryd.func24, Tryd.ntmps24
    go_wp2_with (go_at_call 38; refine CI.out.mono ?_; rintro e w9 ⟨rfl, rfl⟩)
    go_ret
    exact ⟨rfl, rfl⟩

theorem orL_first : ∀ (l : List Int) (q : Nat) (h : q < l.length), (∀ j (hj : j < l.length), j < q → l[j] = 0) → l[q] ≠ 0 → orL l = l[q]
  | [], q, h, _, _ => by simp at h
  | x :: r, 0, h, _, hx => by simp at hx; simp [orL, hx]
  | x :: r, q + 1, h, h0, hx => by
    have e : x = 0 := h0 0 (by simp) (by omega)
    rw [orL, e]
    simp only [ne_eq, not_true, if_false, List.getElem_cons_succ]
    exact orL_first r q (by simpa using h) (fun j hj hq => h0 (j + 1) (by simpa using hj) (by omega)) (by simpa using hx)
theorem orL_none : ∀ (l : List Int), (∀ j (hj : j < l.length), l[j] = 0) → orL l = 0
  | [], _ => rfl
  | x :: r, h => by
    have e : x = 0 := h 0 (by simp)
    rw [orL, e]
    simp only [ne_eq, not_true, if_false]
    exact orL_none r (fun j hj => h (j + 1) (by simpa using hj))
set_option maxRecDepth 100000 in
set_option maxHeartbeats 1000000 in
theorem cmp_or4 {g : Nat} {t : TypeId} (x y z u : Int) (w : World) (hb : Blk w g t #[.int .i64 x, .int .i64 y, .int .i64 z, .int .i64 u]) : Calls Tryd.prog 22 #[.slice (some ⟨g, 0, none⟩) 4 4] w fun e w' => e = .returned (.int .i64 (orL [x, y, z, u])) ∧ w = w' := by
  have hk : ∀ (q : Nat) (hq : q < ([x, y, z, u] : List Int).length), w.cell? ⟨g, q, none⟩ = some (.int .i64 ([x, y, z, u] : List Int)[q]) := fun q hq => by
    rw [hb.cell]
    simp only [List.length_cons, List.length_nil] at hq
    have : q = 0 ∨ q = 1 ∨ q = 2 ∨ q = 3 := by omega
    rcases this with rfl | rfl | rfl | rfl <;> rfl
  have hl : ([x, y, z, u] : List Int).length = 4 := rfl
  clear hb
  generalize ([x, y, z, u] : List Int) = l at *
  have HZ := Lib.hid (orL_first l)
  have HO := Lib.hid (orL_none l)
  have HK := Lib.hid hk
  generalize orL l = r at *
  clear hk
  go_enter Tryd.func22, Tryd.ntmps22
  go_wp2_with fail
  go_loop [8] (fun i => ∃ q : Nat, q ≤ 4 ∧ i = .int .i64 q ∧ Hid (∀ j (hj : j < l.length), j < q → l[j] = 0)) (fun i => 4 - (intOf i).toNat)
  case atStart => exact ⟨0, by omega, rfl, Lib.hid (fun j hj h => by omega)⟩
  case round =>
    obtain ⟨q, hq, rfl, H1⟩ := hrel
    by_cases hlt : q < 4
    · have hlq : q < l.length := by omega
      have hk := HK.out q hlq
      have hq2 : (q : Int) < 4 := by omega
      by_cases hx : l[q] = 0
      · have HN := Lib.hid (show ∀ j (hj : j < l.length), j < q + 1 → l[j] = 0 from fun j hj hjq => by
          by_cases e : j = q
          · subst e; exact hx
          · exact H1.out j hj (by omega))
        rw [hx] at hk
        clear hx
        go_wp2_with fail
        go_round
        case rel => exact ⟨q + 1, by omega, by go_num, HN⟩
        case measure => simp [intOf]; omega
      · have HX := Lib.hid (HZ.out q hlq H1.out hx)
        have g1 : (l[q] != 0) = true := bne_iff_ne.2 hx
        clear hx
        generalize l[q] = lq at *
        go_wp2_with fail
        go_ret
        exact ⟨by rw [HX.out]; rfl, rfl⟩
    · have hq2 : ¬ (q : Int) < 4 := by omega
      have HX := Lib.hid (HO.out (fun j hj => H1.out j hj (by omega)))
      go_wp2_with fail
      go_ret
      exact ⟨by rw [HX.out]; rfl, rfl⟩
theorem icmpN (a b : Nat) : Lib.compareInt a b = cmpN a b := by unfold Lib.compareInt cmpN; (repeat' split) <;> first | rfl | omega
end Go.Proofs.YtdgeegfoocoohaaDoor

/- cmp.Compare at texts; object.Compare, object.Key, object.Right. -/
namespace Go.Proofs.YtdgeegfoocoohaaDoor
open Go.RowKit
attribute [local go_sem ↓] Go.wp_at_zero Go.wp_at_succ

theorem nanS (x : ByteArray) (w : World) : Calls Tryd.prog 39 #[.string x] w fun e w' => e = .returned (.bool false) ∧ w = w' := by
  have hx : (x.toList == x.toList) = true := by simp
  have hx2 : (x.toList != x.toList) = false := by simp
  go_enter Tryd.func39, Tryd.ntmps39
  go_wp2_with fail
  go_ret
  exact ⟨rfl, rfl⟩
theorem cmp_str (x y : ByteArray) (w : World) : Calls Tryd.prog 25 #[.string x, .string y] w fun e w' => e = .returned (.int .i64 (kcmp x y)) ∧ w = w' := by
  rcases klt_total x y with h | rfl | h
  · have HX : Hid (kcmp x y = -1) := by unfold kcmp; rw [if_pos h]; rfl
    have g1 : Op.bytesLess x.toList y.toList = true := h
    clear h
    go_enter Tryd.func25, Tryd.ntmps25
    go_wp2_with (go_at_call 39; refine (nanS _ _).mono ?_; rintro e w' ⟨rfl, rfl⟩)
    go_ret
    exact ⟨by rw [HX.out]; rfl, rfl⟩
  · have HX : Hid (kcmp x x = 0) := (kcmpO_zero x x).2 rfl
    have g1 : Op.bytesLess x.toList x.toList = false := bl_irrefl _
    have g2 : (x.toList == x.toList) = true := by simp
    go_enter Tryd.func25, Tryd.ntmps25
    go_wp2_with (go_at_call 39; refine (nanS _ _).mono ?_; rintro e w' ⟨rfl, rfl⟩)
    go_ret
    exact ⟨by rw [HX.out]; rfl, rfl⟩
  · have HX : Hid (kcmp x y = 1) := by
      have := klt_asymm h
      unfold kcmp; rw [if_neg (by rw [this]; decide), if_neg (fun e => klt_ne h e.symm)]; rfl
    have g1 : Op.bytesLess x.toList y.toList = false := klt_asymm h
    have g2 : (x.toList == y.toList) = false := by rw [keq_iff]; exact decide_eq_false (fun e => klt_ne h e.symm)
    have g3 : Op.bytesLess y.toList x.toList = true := h
    clear h
    go_enter Tryd.func25, Tryd.ntmps25
    go_wp2_with (go_at_call 39; refine (nanS _ _).mono ?_; rintro e w' ⟨rfl, rfl⟩)
    go_ret
    exact ⟨by rw [HX.out]; rfl, rfl⟩
theorem cmp_nat (x y : Nat) (w : World) : Calls Tryd.prog 23 #[.int .i64 x, .int .i64 y] w fun e w' => e = .returned (.int .i64 (cmpN x y)) ∧ w = w' :=
  (Tryd.cmp_Compare_int x y w).mono fun e w' ⟨h1, h2⟩ => ⟨by rw [h1, icmpN], h2.symm⟩
theorem ObjV.drew {w : World} (h : ObjV w) : ObjV w.drew := h

set_option maxRecDepth 100000 in
set_option maxHeartbeats 8000000 in
theorem tcmpID (a b : ID3) (w : World) (hv : ObjV w) : Calls Tryd.prog 12 #[.agg #[.string a.k, .string a.s, .string a.n], .agg #[.string b.k, .string b.s, .string b.n]] w fun e w' => e = .returned (.int .i64 (cmpID a b)) ∧ Below w.heap.size w w' := by
  have HV := Lib.hid hv
  clear hv
  have HR := Lib.hid (show orL [cmpN (rankK a.k) (rankK b.k), kcmp a.k b.k, kcmp a.s b.s, kcmp a.n b.n] = cmpID a b from rfl)
  have CA := Lib.hid (trank a.k)
  have CB := Lib.hid (trank b.k)
  have CN := Lib.hid (cmp_nat (rankK a.k) (rankK b.k))
  have CK := Lib.hid (cmp_str a.k b.k)
  have CS := Lib.hid (cmp_str a.s b.s)
  have CM := Lib.hid (cmp_str a.n b.n)
  generalize cmpID a b = r at *
  generalize rankK a.k = ra at *
  generalize rankK b.k = rb at *
  generalize cmpN ra rb = x1 at *
  generalize kcmp a.k b.k = x2 at *
  generalize kcmp a.s b.s = x3 at *
  generalize kcmp a.n b.n = x4 at *
  obtain ⟨ak, sa, an⟩ := a
  obtain ⟨bk, sb, bn⟩ := b
  simp only at *
  go_enter Tryd.func12, Tryd.ntmps12
  go_wp2_with fail
  obtain ⟨w1, hwz⟩ : ∃ x, x = ((w.alloc (.cells #[.string ak, .string sa, .string an] 29)).alloc (.cells #[.string bk, .string sb, .string bn] 29)) := ⟨_, rfl⟩
  have HB1 := Lib.hid (show Below w.heap.size w w1 by rw [hwz]; exact (Below.new _ _).alloc (by simp) _)
  have L0 := Lib.hid (show Blk w1 w.heap.size 29 #[.string ak, .string sa, .string an] by rw [hwz]; exact (Blk.new w 29 _).alloc _)
  have L1 := Lib.hid (show Blk w1 (w.heap.size + 1) 29 #[.string bk, .string sb, .string bn] by rw [hwz]; exact Blk.new_at _ 29 _ (by simp))
  rw [← hwz]
  clear hwz
  have HV1 := Lib.hid (HV.out.keep HB1.out)
  have q_0 := L0.out.cell
  have q_1 := L1.out.cell
  go_region_held3 (fun w' => (∀ i, w'.cell? ⟨w.heap.size, i, none⟩ = (#[.string ak, .string sa, .string an] : Array Value)[i]?) ∧ (∀ i, w'.cell? ⟨w.heap.size + 1, i, none⟩ = (#[.string bk, .string sb, .string bn] : Array Value)[i]?)) (first | exact ⟨q_0, q_1⟩ | exact ⟨((L0.out.alloc _).drew).cell, ((L1.out.alloc _).drew).cell⟩) (first
    | (go_at_call 24; (first | (with_reducible refine (CA.out _ HV1.out).mono ?_) | (with_reducible refine (CB.out _ HV1.out).mono ?_) | (with_reducible refine (CA.out _ HV1.out.drew).mono ?_) | (with_reducible refine (CB.out _ HV1.out.drew).mono ?_)); rintro e w9 ⟨rfl, rfl⟩)
    | (go_at_call 23; refine (CN.out _).mono ?_; rintro e w9 ⟨rfl, rfl⟩)
    | (go_at_call 25; (first | (with_reducible refine (CK.out _).mono ?_) | (with_reducible refine (CS.out _).mono ?_) | (with_reducible refine (CM.out _).mono ?_)); rintro e w9 ⟨rfl, rfl⟩)
    | (go_at_call 22; refine (cmp_or4 x1 x2 x3 x4 _ (Blk.new _ _ _).drew).mono ?_; rintro e w9 ⟨rfl, rfl⟩))
  go_wp2_with fail
  go_ret
  exact ⟨by rw [← HR.out]; rfl, Below.next HB1.out (Below.new _ _).drew⟩
set_option maxRecDepth 100000 in
set_option maxHeartbeats 4000000 in
theorem tkeyO (a : ID3) (hs : a.small) (w : World) : Calls Tryd.prog 11 #[.agg #[.string a.k, .string a.s, .string a.n]] w fun e w' => ∃ v : ByteArray, e = .returned (.string v) ∧ v.data.toList = keyL a ∧ Below w.heap.size w w' := by
  have HK := Lib.hid (show ((((a.k ++ ⟨#[47]⟩) ++ a.s) ++ ⟨#[47]⟩) ++ a.n : ByteArray).data.toList = keyL a from by simp only [app_list, keyL, List.append_assoc]; rfl)
  obtain ⟨ak, sa, an⟩ := a
  obtain ⟨h1, h2, h3⟩ := hs
  simp only at *
  have h47 : (⟨#[47]⟩ : ByteArray).size = 1 := rfl
  have z1 : (ak ++ ⟨#[47]⟩ : ByteArray).size ≤ 1000001 := by rw [ByteArray.size_append, h47]; omega
  have z2 : ((ak ++ ⟨#[47]⟩) ++ sa : ByteArray).size ≤ 2000001 := by rw [ByteArray.size_append]; omega
  have z3 : (((ak ++ ⟨#[47]⟩) ++ sa) ++ ⟨#[47]⟩ : ByteArray).size ≤ 2000002 := by rw [ByteArray.size_append, h47]; omega
  have z4 : ((((ak ++ ⟨#[47]⟩) ++ sa) ++ ⟨#[47]⟩) ++ an : ByteArray).size ≤ 3000002 := by rw [ByteArray.size_append]; omega
  clear h47
  go_enter Tryd.func11, Tryd.ntmps11
  go_wp2_with fail
  go_ret
  exact ⟨_, rfl, HK.out, Below.new _ _⟩
end Go.Proofs.YtdgeegfoocoohaaDoor

