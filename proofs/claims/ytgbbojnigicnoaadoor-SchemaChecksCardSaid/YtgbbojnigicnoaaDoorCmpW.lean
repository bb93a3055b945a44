/- How the program compares values: the walks of cmp.Or, slices.CompareFunc, tree.Compare, tree.Same. -/
import Derived.Test.YtgbbojnigicnoaaDoorCmp
import Derived.Test.YtgbbojnigicnoaaDoorSearch
import Derived.Test.YtgbbojnigicnoaaDoorOwnM
import Derived.Test.YtgbbojnigicnoaaDoorShelf
namespace Go.Proofs.YtgbbojnigicnoaaDoor
open Go.RowKit
attribute [local go_sem ↓] Go.wp_at_zero Go.wp_at_succ

def CmpOk (a : T) : Prop := ∀ (b : T) (w : World) (S S' : Nat → Prop) (v v' : Value), RepT w S v a → RepT w S' v' b →
    Calls Tryd.prog 60 #[v, v'] w fun e w' => e = .returned (.int .i64 (T.cmp a b)) ∧ Below w.heap.size w w'

theorem cmpL_nil (r : List T) : T.cmpL [] r = if r.length = 0 then 0 else -1 := by cases r <;> simp [T.cmpL]
theorem cmpL_drop {l r : List T} {q : Nat} (h : ∀ j (h1 : j < l.length) (h2 : j < r.length), j < q → T.cmp l[j] r[j] = 0) (hq : q ≤ l.length) (hq2 : q ≤ r.length) : T.cmpL l r = T.cmpL (l.drop q) (r.drop q) := by
  induction q generalizing l r with
  | zero => rfl
  | succ q ih =>
    cases l with
    | nil => simp at hq
    | cons x l =>
      cases r with
      | nil => simp at hq2
      | cons y r =>
        rw [List.drop_succ_cons, List.drop_succ_cons, T.cmpL, if_neg (fun hne => hne (h 0 (by simp) (by simp) (by omega)))]
        exact ih (fun j h1 h2 hj => h (j + 1) (by simpa using h1) (by simpa using h2) (by omega)) (by simpa using hq) (by simpa using hq2)
theorem cmpL_stop {l r : List T} {q : Nat} (h : ∀ j (h1 : j < l.length) (h2 : j < r.length), j < q → T.cmp l[j] r[j] = 0) (hq : q < l.length) (hq2 : q < r.length) (hne : T.cmp l[q] r[q] ≠ 0) : T.cmpL l r = T.cmp l[q] r[q] := by
  rw [cmpL_drop h (by omega) (by omega), List.drop_eq_getElem_cons hq, List.drop_eq_getElem_cons hq2, T.cmpL, if_pos hne]
theorem cmpL_more {l r : List T} (h : ∀ j (h1 : j < l.length) (h2 : j < r.length), j < r.length → T.cmp l[j] r[j] = 0) (hq : r.length < l.length) : T.cmpL l r = 1 := by
  rw [cmpL_drop h (by omega) (Nat.le_refl _), List.drop_eq_getElem_cons hq, List.drop_length, T.cmpL]
theorem cmpL_end {l r : List T} (h : ∀ j (h1 : j < l.length) (h2 : j < r.length), j < l.length → T.cmp l[j] r[j] = 0) (hq : l.length ≤ r.length) : T.cmpL l r = if l.length < r.length then -1 else 0 := by
  rw [cmpL_drop h (Nat.le_refl _) hq, List.drop_length, cmpL_nil, List.length_drop]
  split <;> split <;> first | rfl | omega
theorem cmpM_nil (r : List (ByteArray × T)) : T.cmpM [] r = if r.length = 0 then 0 else -1 := by cases r <;> simp [T.cmpM]
theorem cmpM_drop {l r : List (ByteArray × T)} {q : Nat} (h : ∀ j (h1 : j < l.length) (h2 : j < r.length), j < q → T.cmpP l[j] r[j] = 0) (hq : q ≤ l.length) (hq2 : q ≤ r.length) : T.cmpM l r = T.cmpM (l.drop q) (r.drop q) := by
  induction q generalizing l r with
  | zero => rfl
  | succ q ih =>
    cases l with
    | nil => simp at hq
    | cons x l =>
      cases r with
      | nil => simp at hq2
      | cons y r =>
        rw [List.drop_succ_cons, List.drop_succ_cons, T.cmpM, if_neg (fun hne => hne (h 0 (by simp) (by simp) (by omega)))]
        exact ih (fun j h1 h2 hj => h (j + 1) (by simpa using h1) (by simpa using h2) (by omega)) (by simpa using hq) (by simpa using hq2)
theorem cmpM_stop {l r : List (ByteArray × T)} {q : Nat} (h : ∀ j (h1 : j < l.length) (h2 : j < r.length), j < q → T.cmpP l[j] r[j] = 0) (hq : q < l.length) (hq2 : q < r.length) (hne : T.cmpP l[q] r[q] ≠ 0) : T.cmpM l r = T.cmpP l[q] r[q] := by
  rw [cmpM_drop h (by omega) (by omega), List.drop_eq_getElem_cons hq, List.drop_eq_getElem_cons hq2, T.cmpM, if_pos hne]
theorem cmpM_more {l r : List (ByteArray × T)} (h : ∀ j (h1 : j < l.length) (h2 : j < r.length), j < r.length → T.cmpP l[j] r[j] = 0) (hq : r.length < l.length) : T.cmpM l r = 1 := by
  rw [cmpM_drop h (by omega) (Nat.le_refl _), List.drop_eq_getElem_cons hq, List.drop_length, T.cmpM]
theorem cmpM_end {l r : List (ByteArray × T)} (h : ∀ j (h1 : j < l.length) (h2 : j < r.length), j < l.length → T.cmpP l[j] r[j] = 0) (hq : l.length ≤ r.length) : T.cmpM l r = if l.length < r.length then -1 else 0 := by
  rw [cmpM_drop h (Nat.le_refl _) hq, List.drop_length, cmpM_nil, List.length_drop]
  split <;> split <;> first | rfl | omega

def orI (x y : Int) : Int := if x ≠ 0 then x else y
set_option maxHeartbeats 1000000 in
/-- The first of two numbers that isn't 0. -/
theorem cmp_or {g : Nat} {x y : Int} {t : TypeId} (w : World) (hb : Blk w g t #[.int .i64 x, .int .i64 y]) : Calls Tryd.prog 69 #[.slice (some ⟨g, 0, none⟩) 2 2] w fun e w' => e = .returned (.int .i64 (orI x y)) ∧ w = w' := by
  have hk := hb.cell
  clear hb
  have HZ : Hid ((x ≠ 0 → orI x y = x) ∧ (x = 0 → orI x y = y)) := ⟨fun h => if_pos h, fun h => if_neg (by simp [h])⟩
  generalize orI x y = z at *
  go_enter Tryd.func69, Tryd.ntmps69
  go_wp2_with fail
  go_loop [8] (fun i => ∃ q : Nat, q ≤ 2 ∧ i = .int .i64 q ∧ Hid (0 < q → x = 0) ∧ Hid (1 < q → y = 0)) (fun i => 2 - (intOf i).toNat)
  case atStart => exact ⟨0, by omega, rfl, fun h => by omega, fun h => by omega⟩
  case round =>
    obtain ⟨q, hq, rfl, H1, H2⟩ := hrel
    match q, hq with
    | 0, _ =>
      by_cases hx : x = 0
      · subst hx
        go_wp2_with fail
        go_round
        case rel => exact ⟨1, by omega, rfl, fun _ => (by first | exact trivial | rfl), fun h => by omega⟩
        case measure => simp [intOf]
      · have g1 : (x != 0) = true := bne_iff_ne.2 hx
        have HX := Lib.hid (HZ.out.1 hx)
        clear hx
        go_wp2_with fail
        go_ret
        exact ⟨by rw [HX.out]; rfl, rfl⟩
    | 1, _ =>
      have HX := Lib.hid (HZ.out.2 (H1.out (by omega)))
      by_cases hy : y = 0
      · subst hy
        go_wp2_with fail
        go_round
        case rel => exact ⟨2, by omega, rfl, fun _ => H1.out (by omega), fun h => (by first | exact trivial | rfl)⟩
        case measure => simp [intOf]
      · have g1 : (y != 0) = true := bne_iff_ne.2 hy
        clear hy
        go_wp2_with fail
        go_ret
        exact ⟨by rw [HX.out]; rfl, rfl⟩
    | 2, _ =>
      have HX := Lib.hid (HZ.out.2 (H1.out (by omega)))
      have HY := Lib.hid (H2.out (by omega))
      go_wp2_with fail
      go_ret
      exact ⟨by rw [HX.out, HY.out]; rfl, rfl⟩

theorem compareInt_eq (x y : Int) : Lib.compareInt x y = icmp x y := by unfold Lib.compareInt icmp; (repeat' split) <;> first | rfl | omega
theorem cmp_int (x y : Int) (w : World) : Calls Tryd.prog 64 #[.int .i64 x, .int .i64 y] w fun e w' => e = .returned (.int .i64 (icmp x y)) ∧ w = w' :=
  (Tryd.cmp_Compare_int x y w).mono fun e w' ⟨h1, h2⟩ => ⟨by rw [h1, compareInt_eq], h2.symm⟩
theorem nan64 (x : Int) (w : World) : Calls Tryd.prog 75 #[.int .i64 x] w fun e w' => e = .returned (.bool false) ∧ w = w' := by
  have hx : (x != x) = false := by simp
  go_enter Tryd.func75, Tryd.ntmps75
  go_wp2_with fail
  go_ret
  exact ⟨rfl, rfl⟩
theorem cmp_int64 (x y : Int) (w : World) : Calls Tryd.prog 65 #[.int .i64 x, .int .i64 y] w fun e w' => e = .returned (.int .i64 (icmp x y)) ∧ w = w' := by
  by_cases h1 : x < y
  · have HX : Hid (icmp x y = -1) := if_pos h1
    go_enter Tryd.func65, Tryd.ntmps65
    go_wp2_with (go_at_call 75; refine (nan64 _ _).mono ?_; rintro e w' ⟨rfl, rfl⟩)
    go_ret
    exact ⟨by rw [HX.out]; rfl, rfl⟩
  by_cases h2 : y < x
  · have HX : Hid (icmp x y = 1) := by unfold icmp; rw [if_neg h1, if_pos h2]; rfl
    go_enter Tryd.func65, Tryd.ntmps65
    go_wp2_with (go_at_call 75; refine (nan64 _ _).mono ?_; rintro e w' ⟨rfl, rfl⟩)
    go_ret
    exact ⟨by rw [HX.out]; rfl, rfl⟩
  · have HX : Hid (icmp x y = 0) := by unfold icmp; rw [if_neg h1, if_neg h2]; rfl
    go_enter Tryd.func65, Tryd.ntmps65
    go_wp2_with (go_at_call 75; refine (nan64 _ _).mono ?_; rintro e w' ⟨rfl, rfl⟩)
    go_ret
    exact ⟨by rw [HX.out]; rfl, rfl⟩

def CmpPost (w : World) (n : Int) (e : Ending) (w' : World) : Prop := e = .returned (.int .i64 n) ∧ Below w.heap.size w w'

set_option maxRecDepth 100000 in
set_option maxHeartbeats 1000000 in
theorem cmpfunc_v (l r : List T) (a a' : Option Addr) (c c' : Nat) (w : World) (S S' : Nat → Prop) (h : RepL w S a l) (h' : RepL w S' a' r) (hok : ∀ x ∈ l, CmpOk x) (hl : l.length ≤ 4611686018427387904) (_hr : r.length ≤ 4611686018427387904) :
    Calls Tryd.prog 66 #[.slice a l.length c, .slice a' r.length c', .func (.func 60) #[] #[]] w (CmpPost w (T.cmpL l r)) := by
  go_enter Tryd.func66, Tryd.ntmps66
  go_wp2_with fail
  go_loopw [13] (fun i wr => ∃ q : Nat, i = .int .i64 q ∧ q ≤ l.length ∧ q ≤ r.length ∧ Hid (∀ j (h1 : j < l.length) (h2 : j < r.length), j < q → T.cmp l[j] r[j] = 0) ∧ Below w.heap.size w wr) (fun i _ => l.length - (intOf i).toNat)
  case atStart => exact ⟨0, rfl, Nat.zero_le _, Nat.zero_le _, fun j _ _ h => by omega, Below.refl _ _⟩
  case round =>
    obtain ⟨q, rfl, hq, hq2, hall, hbw⟩ := hrel
    by_cases hlt : q < l.length
    · obtain ⟨b1, o1, la, lc, ma, mc, rfl, -, -, ⟨c0, c1, c2, c3, c4, c5⟩, hr1⟩ := (h.keep hbw).at_ hlt
      by_cases hlt2 : q < r.length
      · obtain ⟨b2, o2, la2, lc2, ma2, mc2, rfl, -, hbl2, ⟨d0, d1, d2, d3, d4, d5⟩, hr2⟩ := (h'.keep hbw).at_ hlt2
        have HC := Lib.hid (hok _ (List.getElem_mem hlt) r[q])
        have HR1 := Lib.hid hr1
        have HR2 := Lib.hid hr2
        have HSTOP := Lib.hid (fun hne => cmpL_stop hall.out hlt hlt2 hne)
        have HNX : Hid (T.cmp l[q] r[q] = 0 → ∀ j (h1 : j < l.length) (h2 : j < r.length), j < q + 1 → T.cmp l[j] r[j] = 0) := fun he j h1 h2 h3 => by
          rcases Nat.lt_or_ge j q with h4 | h4
          · exact hall.out j h1 h2 h4
          · obtain rfl : j = q := by omega
            exact he
        clear hr1 hr2 hall hok
        generalize l[q] = x at *
        generalize r[q] = y at *
        have hnr : ¬ ((r.length : Int) ≤ (q : Int)) := by omega
        go_wp2_with fail
        refine (HC.out _ _ _ _ _ (HR1.out.keep (by exact (Below.new _ _).alloc (by simp) _)) (HR2.out.keep (by exact (Below.new _ _).alloc (by simp) _))).mono ?_
        rintro e w1 ⟨rfl, hb1⟩
        have HBW := Lib.hid (Below.next hbw (Below.next ((Below.new _ _).alloc (by simp) _) hb1))
        by_cases he : T.cmp x y = 0
        · rw [he]
          have HN := Lib.hid (HNX.out he)
          clear he hb1 hbw
          go_wp2_with fail
          go_roundw
          case rel => exact ⟨q + 1, by go_num, by omega, by omega, HN, HBW.out⟩
          case measure => simp [intOf]; omega
        · have hne : (T.cmp x y != 0) = true := bne_iff_ne.2 he
          have HS := Lib.hid (HSTOP.out he)
          clear he hb1 hbw
          generalize T.cmp x y = z at *
          go_wp2_with fail
          go_ret
          exact ⟨by rw [HS.out]; rfl, HBW.out⟩
      · obtain rfl : q = r.length := by omega
        have HM := Lib.hid (cmpL_more hall.out hlt)
        clear hall hok
        go_wp2_with fail
        go_ret
        exact ⟨by rw [HM.out]; rfl, Below.next hbw (Below.new _ _)⟩
    · obtain rfl : q = l.length := by omega
      have HE := Lib.hid (cmpL_end hall.out hq2)
      clear hall hok
      by_cases hlr : l.length < r.length
      · rw [if_pos hlr] at HE
        go_wp2_with fail
        go_ret
        exact ⟨by rw [HE.out]; rfl, hbw⟩
      · rw [if_neg hlr] at HE
        go_wp2_with fail
        go_ret
        exact ⟨by rw [HE.out]; rfl, hbw⟩

def PairOk (p : ByteArray × T) : Prop := ∀ (q : ByteArray × T) (w : World) (S S' : Nat → Prop) (c0 c1 c2 c3 c4 c5 d0 d1 d2 d3 d4 d5 : Value), RepT w S (.agg #[c0, c1, c2, c3, c4, c5]) p.2 → RepT w S' (.agg #[d0, d1, d2, d3, d4, d5]) q.2 →
    Calls Tryd.prog 68 #[.agg #[.string p.1, c0, c1, c2, c3, c4, c5], .agg #[.string q.1, d0, d1, d2, d3, d4, d5]] w (CmpPost w (T.cmpP p q))
set_option maxRecDepth 100000 in
set_option maxHeartbeats 1000000 in
theorem pair_ok (p : ByteArray × T) (h : CmpOk p.2) : PairOk p := by
  intro q w S S' c0 c1 c2 c3 c4 c5 d0 d1 d2 d3 d4 d5 h1 h2
  have HC := Lib.hid h
  have HE := Lib.hid (show T.cmpP p q = orI (kcmp p.1 q.1) (T.cmp p.2 q.2) from T.cmpP_eq p q)
  obtain ⟨la, lc, ma, mc, hv, -⟩ := h1.inv
  obtain ⟨la2, lc2, ma2, mc2, hv2, -⟩ := h2.inv
  simp only [Value.agg.injEq, Array.mk.injEq, List.cons.injEq, and_true] at hv hv2
  obtain ⟨rfl, rfl, rfl, rfl, rfl, rfl⟩ := hv
  obtain ⟨rfl, rfl, rfl, rfl, rfl, rfl⟩ := hv2
  have HR1 := Lib.hid h1
  have HR2 := Lib.hid h2
  have HS := Lib.hid (fun w => Tryd.strings_Compare p.1 q.1 w)
  simp only [kcmp_eq] at HS
  clear h h1 h2
  generalize T.cmpP p q = z at *
  obtain ⟨k, x⟩ := p
  obtain ⟨k2, y⟩ := q
  simp only at *
  generalize kcmp k k2 = kc at *
  go_enter Tryd.func68, Tryd.ntmps68
  go_wp2_with fail
  have hB1 : Blk ((w.alloc (.cells #[.string k, .int .i64 x.kind, .bool x.bool, .int .i64 x.int, .string x.str, .slice la x.list.length lc, .slice ma x.map.length mc] 41)).alloc (.cells #[.string k2, .int .i64 y.kind, .bool y.bool, .int .i64 y.int, .string y.str, .slice la2 y.list.length lc2, .slice ma2 y.map.length mc2] 41)) w.heap.size 41 #[.string k, .int .i64 x.kind, .bool x.bool, .int .i64 x.int, .string x.str, .slice la x.list.length lc, .slice ma x.map.length mc] := (Blk.new _ _ _).alloc _
  have hB2 : Blk ((w.alloc (.cells #[.string k, .int .i64 x.kind, .bool x.bool, .int .i64 x.int, .string x.str, .slice la x.list.length lc, .slice ma x.map.length mc] 41)).alloc (.cells #[.string k2, .int .i64 y.kind, .bool y.bool, .int .i64 y.int, .string y.str, .slice la2 y.list.length lc2, .slice ma2 y.map.length mc2] 41)) (w.heap.size + 1) 41 #[.string k2, .int .i64 y.kind, .bool y.bool, .int .i64 y.int, .string y.str, .slice la2 y.list.length lc2, .slice ma2 y.map.length mc2] := Blk.new_at _ _ _ (by simp)
  have hBW : Below w.heap.size w ((w.alloc (.cells #[.string k, .int .i64 x.kind, .bool x.bool, .int .i64 x.int, .string x.str, .slice la x.list.length lc, .slice ma x.map.length mc] 41)).alloc (.cells #[.string k2, .int .i64 y.kind, .bool y.bool, .int .i64 y.int, .string y.str, .slice la2 y.list.length lc2, .slice ma2 y.map.length mc2] 41)) := (Below.new _ _).alloc (by simp) _
  generalize ((w.alloc (.cells #[.string k, .int .i64 x.kind, .bool x.bool, .int .i64 x.int, .string x.str, .slice la x.list.length lc, .slice ma x.map.length mc] 41)).alloc (.cells #[.string k2, .int .i64 y.kind, .bool y.bool, .int .i64 y.int, .string y.str, .slice la2 y.list.length lc2, .slice ma2 y.map.length mc2] 41)) = W0 at hB1 hB2 hBW ⊢
  have hk1 := hB1.cell
  have hk2 := hB2.cell
  have HB1 := Lib.hid hB1
  have HB2 := Lib.hid hB2
  have HBW := Lib.hid hBW
  clear hB1 hB2 hBW
  go_region_with (first
    | (go_at_call 45; refine (HS.out _).mono ?_; rintro e w1 ⟨rfl, rfl⟩)
    | (go_at_call 60; refine (HC.out _ _ _ _ _ _ (HR1.out.keep (by exact HBW.out.drew)) (HR2.out.keep (by exact HBW.out.drew))).mono ?_; rintro e w1 ⟨rfl, hb1⟩; have hk1b := (HB1.out.keep (Below.next (Below.drew (Below.refl _ _)) hb1)).cell; have hk2b := (HB2.out.keep (Below.next (Below.drew (Below.refl _ _)) hb1)).cell; have HB01 := Lib.hid (Below.next HBW.out (Below.next (Below.drew (Below.refl _ _)) hb1)); clear hb1)
    | (go_at_call 69; refine (cmp_or _ (Blk.new _ _ _)).mono ?_; rintro e w1 ⟨rfl, rfl⟩))
  all_goals
    go_wp2_with fail
    go_ret
    exact ⟨by rw [HE.out]; rfl, Below.next HB01.out (Below.new _ _)⟩

set_option maxRecDepth 100000 in
set_option maxHeartbeats 1000000 in
theorem cmpfunc_p (l r : List (ByteArray × T)) (a a' : Option Addr) (c c' : Nat) (w : World) (S S' : Nat → Prop) (h : RepM w S a l) (h' : RepM w S' a' r) (hok : ∀ x ∈ l, PairOk x) (hl : l.length ≤ 4611686018427387904) (_hr : r.length ≤ 4611686018427387904) :
    Calls Tryd.prog 67 #[.slice a l.length c, .slice a' r.length c', .func (.func 68) #[] #[]] w (CmpPost w (T.cmpM l r)) := by
  go_enter Tryd.func67, Tryd.ntmps67
  go_wp2_with fail
  go_loopw [13] (fun i wr => ∃ q : Nat, i = .int .i64 q ∧ q ≤ l.length ∧ q ≤ r.length ∧ Hid (∀ j (h1 : j < l.length) (h2 : j < r.length), j < q → T.cmpP l[j] r[j] = 0) ∧ Below w.heap.size w wr) (fun i _ => l.length - (intOf i).toNat)
  case atStart => exact ⟨0, rfl, Nat.zero_le _, Nat.zero_le _, fun j _ _ h => by omega, Below.refl _ _⟩
  case round =>
    obtain ⟨q, rfl, hq, hq2, hall, hbw⟩ := hrel
    by_cases hlt : q < l.length
    · obtain ⟨b1, o1, la, lc, ma, mc, rfl, -, -, -, ⟨c0, c1, c2, c3, c4, c5, c6⟩, hr1⟩ := (h.keep hbw).at_ hlt
      by_cases hlt2 : q < r.length
      · obtain ⟨b2, o2, la2, lc2, ma2, mc2, rfl, -, hbl2, -, ⟨d0, d1, d2, d3, d4, d5, d6⟩, hr2⟩ := (h'.keep hbw).at_ hlt2
        have HC := Lib.hid (hok _ (List.getElem_mem hlt) r[q])
        have HR1 := Lib.hid hr1
        have HR2 := Lib.hid hr2
        have HSTOP := Lib.hid (fun hne => cmpM_stop hall.out hlt hlt2 hne)
        have HNX : Hid (T.cmpP l[q] r[q] = 0 → ∀ j (h1 : j < l.length) (h2 : j < r.length), j < q + 1 → T.cmpP l[j] r[j] = 0) := fun he j h1 h2 h3 => by
          rcases Nat.lt_or_ge j q with h4 | h4
          · exact hall.out j h1 h2 h4
          · obtain rfl : j = q := by omega
            exact he
        clear hr1 hr2 hall hok
        generalize l[q] = x at *
        generalize r[q] = y at *
        have hnr : ¬ ((r.length : Int) ≤ (q : Int)) := by omega
        go_wp2_with fail
        refine (HC.out _ _ _ _ _ _ _ _ _ _ _ _ _ _ _ (HR1.out.keep (by exact (Below.new _ _).alloc (by simp) _)) (HR2.out.keep (by exact (Below.new _ _).alloc (by simp) _))).mono ?_
        rintro e w1 ⟨rfl, hb1⟩
        have HBW := Lib.hid (Below.next hbw (Below.next ((Below.new _ _).alloc (by simp) _) hb1))
        by_cases he : T.cmpP x y = 0
        · rw [he]
          have HN := Lib.hid (HNX.out he)
          clear he hb1 hbw
          go_wp2_with fail
          go_roundw
          case rel => exact ⟨q + 1, by go_num, by omega, by omega, HN, HBW.out⟩
          case measure => simp [intOf]; omega
        · have hne : (T.cmpP x y != 0) = true := bne_iff_ne.2 he
          have HS := Lib.hid (HSTOP.out he)
          clear he hb1 hbw
          generalize T.cmpP x y = z at *
          go_wp2_with fail
          go_ret
          exact ⟨by rw [HS.out]; rfl, HBW.out⟩
      · obtain rfl : q = r.length := by omega
        have HM := Lib.hid (cmpM_more hall.out hlt)
        clear hall hok
        go_wp2_with fail
        go_ret
        exact ⟨by rw [HM.out]; rfl, Below.next hbw (Below.new _ _)⟩
    · obtain rfl : q = l.length := by omega
      have HE := Lib.hid (cmpM_end hall.out hq2)
      clear hall hok
      by_cases hlr : l.length < r.length
      · rw [if_pos hlr] at HE
        go_wp2_with fail
        go_ret
        exact ⟨by rw [HE.out]; rfl, hbw⟩
      · rw [if_neg hlr] at HE
        go_wp2_with fail
        go_ret
        exact ⟨by rw [HE.out]; rfl, hbw⟩

set_option maxRecDepth 100000 in
set_option maxHeartbeats 4000000 in
theorem tcompare (a : T) : CmpOk a := by
  induction a using T.ind' with
  | h a ihl ihm =>
  intro b w S S' v v' h h'
  have ihp : ∀ p ∈ a.map, PairOk p := fun p hp => pair_ok p (ihm p hp)
  obtain ⟨la, lc, ma, mc, rfl, hp⟩ := h.inv
  obtain ⟨-, -, -, hl, hm, -, -, -, -, hL, hM⟩ := hp
  obtain ⟨la2, lc2, ma2, mc2, rfl, hp⟩ := h'.inv
  obtain ⟨-, -, -, hl2, hm2, -, -, -, -, hL2, hM2⟩ := hp
  have HV := Lib.hid (fun w h h' => cmpfunc_v a.list b.list la la2 lc lc2 w S S' h h' ihl (by omega) (by omega))
  have HM := Lib.hid (fun w h h' => cmpfunc_p a.map b.map ma ma2 mc mc2 w S S' h h' ihp (by omega) (by omega))
  have HS := Lib.hid (fun w => Tryd.strings_Compare a.str b.str w)
  simp only [kcmp_eq] at HS
  have HE := Lib.hid (T.cmp_eq a b)
  have HBX : Hid (Below w.heap.size w ((w.alloc (.cells #[.int .i64 a.kind, .bool a.bool, .int .i64 a.int, .string a.str, .slice la a.list.length lc, .slice ma a.map.length mc] 25)).alloc (.cells #[.int .i64 b.kind, .bool b.bool, .int .i64 b.int, .string b.str, .slice la2 b.list.length lc2, .slice ma2 b.map.length mc2] 25))) := (Below.new _ _).alloc (by simp) _
  have HL := Lib.hid (hL.keep HBX.out)
  have HL2 := Lib.hid (hL2.keep HBX.out)
  have HMM := Lib.hid (hM.keep HBX.out)
  have HMM2 := Lib.hid (hM2.keep HBX.out)
  clear h h' ihl ihm ihp hL hM hL2 hM2
  generalize T.cmp a b = z at *
  generalize T.cmpL a.list b.list = zl at *
  generalize T.cmpM a.map b.map = zm at *
  generalize kcmp a.str b.str = zs at *
  generalize a.kind = k1 at *
  generalize a.bool = b1 at *
  generalize a.int = n1 at *
  generalize a.str = s1 at *
  generalize a.list = l1 at *
  generalize a.map = m1 at *
  generalize b.kind = k2 at *
  generalize b.bool = b2 at *
  generalize b.int = n2 at *
  generalize b.str = s2 at *
  generalize b.list = l2 at *
  generalize b.map = m2 at *
  by_cases hk : k1 = k2
  · subst hk
    rw [if_neg (by simp)] at HE
    have HI : Hid (icmp k1 k1 = 0) := (icmp_1 k1).refl
    by_cases h1 : k1 = 1
    · subst h1
      rw [if_pos rfl] at HE
      cases b1 <;> cases b2
      all_goals
        go_enter Tryd.func60, Tryd.ntmps60
        go_wp2_with (go_at_call 64; refine (cmp_int _ _ _).mono ?_; rw [HI.out]; rintro e w' ⟨rfl, rfl⟩)
        go_ret
        exact ⟨by rw [HE.out]; rfl, HBX.out⟩
    rw [if_neg h1] at HE
    have g1 : (k1 == 1) = false := beq_eq_false_iff_ne.2 h1
    by_cases h2 : k1 = 2
    · subst h2
      rw [if_pos rfl] at HE
      clear h1
      go_enter Tryd.func60, Tryd.ntmps60
      go_wp2_with (first | (go_at_call 64; refine (cmp_int _ _ _).mono ?_; rw [HI.out]; rintro e w' ⟨rfl, rfl⟩) | (go_at_call 65; refine (cmp_int64 _ _ _).mono ?_; rintro e w' ⟨rfl, rfl⟩))
      go_ret
      exact ⟨by rw [HE.out]; rfl, HBX.out⟩
    rw [if_neg h2] at HE
    have g2 : (k1 == 2) = false := beq_eq_false_iff_ne.2 h2
    by_cases h3 : k1 = 3
    · subst h3
      rw [if_pos rfl] at HE
      clear h1 h2
      go_enter Tryd.func60, Tryd.ntmps60
      go_wp2_with (first | (go_at_call 64; refine (cmp_int _ _ _).mono ?_; rw [HI.out]; rintro e w' ⟨rfl, rfl⟩) | (go_at_call 45; refine (HS.out _).mono ?_; rintro e w' ⟨rfl, rfl⟩))
      go_ret
      exact ⟨by rw [HE.out]; rfl, HBX.out⟩
    rw [if_neg h3] at HE
    have g3 : (k1 == 3) = false := beq_eq_false_iff_ne.2 h3
    by_cases h4 : k1 = 4
    · subst h4
      rw [if_pos rfl] at HE
      clear h1 h2 h3
      go_enter Tryd.func60, Tryd.ntmps60
      go_wp2_with (go_at_call 64; refine (cmp_int _ _ _).mono ?_; rw [HI.out]; rintro e w' ⟨rfl, rfl⟩)
      refine (HV.out _ HL.out HL2.out).mono ?_
      rintro e w1 ⟨rfl, hb1⟩
      go_wp2_with fail
      go_ret
      exact ⟨by rw [HE.out]; rfl, Below.next HBX.out hb1⟩
    rw [if_neg h4] at HE
    have g4 : (k1 == 4) = false := beq_eq_false_iff_ne.2 h4
    by_cases h5 : k1 = 5
    · subst h5
      rw [if_pos rfl] at HE
      clear h1 h2 h3 h4
      go_enter Tryd.func60, Tryd.ntmps60
      go_wp2_with (go_at_call 64; refine (cmp_int _ _ _).mono ?_; rw [HI.out]; rintro e w' ⟨rfl, rfl⟩)
      refine (HM.out _ HMM.out HMM2.out).mono ?_
      rintro e w1 ⟨rfl, hb1⟩
      go_wp2_with fail
      go_ret
      exact ⟨by rw [HE.out]; rfl, Below.next HBX.out hb1⟩
    rw [if_neg h5] at HE
    have g5 : (k1 == 5) = false := beq_eq_false_iff_ne.2 h5
    clear h1 h2 h3 h4 h5
    go_enter Tryd.func60, Tryd.ntmps60
    go_wp2_with (go_at_call 64; refine (cmp_int _ _ _).mono ?_; rw [HI.out]; rintro e w' ⟨rfl, rfl⟩)
    go_ret
    exact ⟨by rw [HE.out]; rfl, HBX.out⟩
  · rw [if_pos hk] at HE
    have hi : (icmp k1 k2 != 0) = true := bne_iff_ne.2 (fun e => by unfold icmp at e; (repeat' split at e) <;> omega)
    clear hk
    have HC := Lib.hid (fun w => cmp_int k1 k2 w)
    generalize icmp k1 k2 = i at *
    go_enter Tryd.func60, Tryd.ntmps60
    go_wp2_with (go_at_call 64; refine (HC.out _).mono ?_; rintro e w' ⟨rfl, rfl⟩)
    go_ret
    exact ⟨by rw [HE.out]; rfl, HBX.out⟩

set_option maxHeartbeats 1000000 in
theorem tsame (a b : T) (w : World) (S S' : Nat → Prop) (v v' : Value) (h : RepT w S v a) (h' : RepT w S' v' b) : Calls Tryd.prog 53 #[v, v'] w fun e w' => e = .returned (.bool (decide (T.cmp a b = 0))) ∧ Below w.heap.size w w' := by
  have HC := Lib.hid (fun w h h' => tcompare a b w S S' v v' h h')
  obtain ⟨la, lc, ma, mc, rfl, -⟩ := h.inv
  obtain ⟨la2, lc2, ma2, mc2, rfl, -⟩ := h'.inv
  have HR := Lib.hid h
  have HR2 := Lib.hid h'
  have HBX : Hid (Below w.heap.size w ((w.alloc (.cells #[.int .i64 a.kind, .bool a.bool, .int .i64 a.int, .string a.str, .slice la a.list.length lc, .slice ma a.map.length mc] 25)).alloc (.cells #[.int .i64 b.kind, .bool b.bool, .int .i64 b.int, .string b.str, .slice la2 b.list.length lc2, .slice ma2 b.map.length mc2] 25))) := (Below.new _ _).alloc (by simp) _
  clear h h'
  generalize T.cmp a b = z at *
  go_enter Tryd.func53, Tryd.ntmps53
  go_wp2_with fail
  refine (HC.out _ (HR.out.keep (by exact HBX.out)) (HR2.out.keep (by exact HBX.out))).mono ?_
  rintro e w1 ⟨rfl, hb1⟩
  go_wp2_with fail
  go_ret
  exact ⟨rfl, Below.next HBX.out hb1⟩

end Go.Proofs.YtgbbojnigicnoaaDoor
