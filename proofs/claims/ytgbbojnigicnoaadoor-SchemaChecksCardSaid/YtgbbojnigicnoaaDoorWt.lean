/- The weight of a value: what it answers where it is small. -/
import Derived.Test.YtgbbojnigicnoaaDoorSzD
import Derived.Deep.RegionHeld3
import Derived.Deep.DrawnRows
namespace Go.Proofs.YtgbbojnigicnoaaDoor
open Go.RowKit
attribute [local go_sem ↓] Go.wp_at_zero Go.wp_at_succ

mutual
def T.wt : T → Nat
  | .mk _ _ _ s l m => 1 + s.size + T.wtL l + T.wtM m
def T.wtL : List T → Nat
  | [] => 0
  | x :: l => x.wt + T.wtL l
def T.wtM : List (ByteArray × T) → Nat
  | [] => 0
  | p :: l => T.wtP p + T.wtM l
def T.wtP : (ByteArray × T) → Nat
  | (k, x) => x.wt + k.size
end
theorem T.wt_eq (t : T) : t.wt = 1 + t.str.size + T.wtL t.list + T.wtM t.map := by cases t; simp [T.wt, T.list, T.map, T.str]
theorem T.wtL_take (l : List T) (k : Nat) (h : k < l.length) : T.wtL (l.take (k + 1)) = T.wtL (l.take k) + l[k].wt := by
  induction l generalizing k with
  | nil => simp at h
  | cons x l ih =>
    cases k with
    | zero => simp [T.wtL]
    | succ k => simp only [List.take_succ_cons, T.wtL, List.getElem_cons_succ]; rw [ih k (by simpa using h)]; omega
theorem T.wtM_take (l : List (ByteArray × T)) (k : Nat) (h : k < l.length) : T.wtM (l.take (k + 1)) = T.wtM (l.take k) + (l[k].2.wt + l[k].1.size) := by
  induction l generalizing k with
  | nil => simp at h
  | cons x l ih =>
    cases k with
    | zero => cases x; simp [T.wtM, T.wtP]
    | succ k => simp only [List.take_succ_cons, T.wtM, List.getElem_cons_succ]; rw [ih k (by simpa using h)]; omega

/-- What the weight answers: within bounds, and exact enough where it is small. -/
def WtPost (w : World) (m : Nat) (d : Int) (e : Ending) (w' : World) : Prop :=
  ∃ n : Int, e = .returned (.int .i64 n) ∧ 0 ≤ n ∧ n ≤ 281474976710656 * (43 - d) ∧ (n ≤ 6000 → (m : Int) ≤ n) ∧ Below w.heap.size w w'
def WtOk (t : T) : Prop := ∀ (w : World) (S : Nat → Prop) (v : Value) (d : Int), RepT w S v t → 0 ≤ d → d ≤ 41 → Calls Tryd.prog 25 #[v, .int .i64 d] w (WtPost w t.wt d)

theorem wt_nonneg {m : Nat} {n d : Int} {w w' : World} (h0 : 0 ≤ n) (h1 : n ≤ 281474976710656 * (43 - d)) (h2 : n ≤ 6000 → (m : Int) ≤ n) (h3 : Below w.heap.size w w') : WtPost w m d (.returned (.int .i64 n)) w' := ⟨n, rfl, h0, h1, h2, h3⟩

theorem wt_sums {d n r z : Int} (hd0 : 0 ≤ d) (hz : z ≤ 140737488351232) (hn0 : 0 ≤ n) (hn1 : n ≤ 140737488351233) (hr0 : 0 ≤ r) (hr1 : r ≤ 281474976710656 * (43 - (d + 1))) (hz0 : 0 ≤ z) :
    IntKind.i64.wrap (r + z) = r + z ∧ IntKind.i64.wrap (n + (r + z)) = n + (r + z) := ⟨wrap_fit (by omega) (by omega), wrap_fit (by omega) (by omega)⟩

set_option maxRecDepth 100000 in
set_option maxHeartbeats 2000000 in
theorem weight_any (t : T) : WtOk t := by
  induction t using T.ind' with
  | h t ihl ihm =>
  intro w S v d h hd0 hd1
  obtain ⟨la, lc, ma, mc, rfl, hp⟩ := h.inv
  obtain ⟨hk, hn, hs, hl, hm, hlc, hmc, hlx, hmx', hL, hM⟩ := hp
  have HW := Lib.hid t.wt_eq
  clear hk hn hlc hmc hlx hmx' h
  by_cases hd : 40 < d
  · go_enter Tryd.func25, Tryd.ntmps25
    go_wp2_with fail
    go_ret
    exact wt_nonneg (by omega) (by omega) (by omega) (Below.new _ _)
  have hd2 : d ≤ 40 := by omega
  go_enter Tryd.func25, Tryd.ntmps25
  go_wp2_with fail
  go_loopw [5, 19] (fun u i wr => ∃ (q : Nat) (n : Int), q ≤ t.list.length ∧ i = .int .i64 q ∧ u = .int .i64 n ∧ 0 ≤ n ∧ n ≤ 140737488351233 ∧ Hid (n ≤ 6000 → ((1 + t.str.size + T.wtL (t.list.take q) : Nat) : Int) ≤ n) ∧ Below w.heap.size w wr ∧ Blk wr w.heap.size 25 (tcells t la lc ma mc)) (fun _ i _ => t.list.length - (intOf i).toNat)
  case atStart => exact ⟨0, _, Nat.zero_le _, rfl, rfl, by omega, by omega, fun _ => by simp [T.wtL], Below.new _ _, Blk.new _ _ _⟩
  case round =>
    obtain ⟨j, n, hj, rfl, rfl, hn0, hn1, hn2, hbw, hbl⟩ := hrel
    have b5 : wr.cell? ⟨w.heap.size, 5, none⟩ = some (.slice ma t.map.length mc) := hbl.cell 5
    by_cases hlt : j < t.list.length
    · obtain ⟨bl, ol, la', lc', ma', mc', rfl, -, -, ⟨c0, c1, c2, c3, c4, c5⟩, hr⟩ := (hL.keep hbw).at_ hlt
      have HZ := Lib.hid (T.wtL_take t.list j hlt)
      go_wp2_with fail
      refine (ihl _ (List.getElem_mem hlt) _ S _ (d + 1) (hr.keep (by exact Below.new _ _)) (by omega) (by omega)).mono ?_
      rintro e w' ⟨r, rfl, hr0, hr1, hr2, hb'⟩
      have hb2 := Below.next (Below.new wr _) hb'
      have HR2 := Lib.hid hr2
      clear hr2 hr
      by_cases hbig : 6000 < n + r
      · go_wp2_with fail
        go_ret
        exact wt_nonneg (by omega) (by omega) (by omega) (Below.next hbw hb2)
      · have hsm : n + r ≤ 6000 := by omega
        go_wp2_with fail
        go_roundw
        case rel => exact ⟨j + 1, n + r, by omega, by go_num, rfl, by omega, by omega, fun _ => by have := hn2.out (by omega); have := HR2.out (by omega); rw [HZ.out]; omega, Below.next hbw hb2, hbl.keep hb2⟩
        case measure => simp [intOf]; omega
    · have hj' : j = t.list.length := by omega
      subst hj'
      rw [List.take_length] at hn2
      go_wp2_with fail
      go_loopw [5, 36] (fun u i wr => ∃ (q : Nat) (n : Int), q ≤ t.map.length ∧ i = .int .i64 q ∧ u = .int .i64 n ∧ 0 ≤ n ∧ n ≤ 140737488351233 ∧ Hid (n ≤ 6000 → ((1 + t.str.size + T.wtL t.list + T.wtM (t.map.take q) : Nat) : Int) ≤ n) ∧ Below w.heap.size w wr) (fun _ i _ => t.map.length - (intOf i).toNat)
      case atStart => exact ⟨0, n, Nat.zero_le _, rfl, rfl, hn0, hn1, by simpa [T.wtM] using hn2, hbw⟩
      case round =>
        clear b5 hbw hbl hn0 hn1 hn2
        obtain ⟨j, n, hj, rfl, rfl, hn0, hn1, hn2, hbw⟩ := hrel
        by_cases hlt : j < t.map.length
        · obtain ⟨bl, ol, la', lc', ma', mc', rfl, -, -, hkz, ⟨c0, c1, c2, c3, c4, c5, c6⟩, hr⟩ := (hM.keep hbw).at_ hlt
          have HZ := Lib.hid (T.wtM_take t.map j hlt)
          have HIH := Lib.hid (fun w v d => ihm _ (List.getElem_mem hlt) w S v d)
          generalize t.map[j] = p at c0 c1 c2 c3 c4 c5 c6 hr HZ HIH hkz
          obtain ⟨key, x⟩ := p
          simp only at c0 c1 c2 c3 c4 c5 c6 hr HIH hkz
          have HRE := Lib.hid hr
          clear hr
          have hks : (key.size : Int) ≤ 140737488351232 := by omega
          have hd1' : 0 ≤ d + 1 := by omega
          have hd2' : d + 1 ≤ 41 := by omega
          have e0 : IntKind.i64.wrap (d + 1) = d + 1 := wrap_fit (by omega) (by omega)
          go_wp2_with fail
          go_region_held3 (fun w' => w'.cell? ⟨wr.heap.size, 0, none⟩ = some (.string key) ∧ w'.cell? ⟨wr.heap.size, 1, none⟩ = some (.int .i64 x.kind) ∧ w'.cell? ⟨wr.heap.size, 2, none⟩ = some (.bool x.bool) ∧ w'.cell? ⟨wr.heap.size, 3, none⟩ = some (.int .i64 x.int) ∧ w'.cell? ⟨wr.heap.size, 4, none⟩ = some (.string x.str) ∧ w'.cell? ⟨wr.heap.size, 5, none⟩ = some (.slice la' x.list.length lc') ∧ w'.cell? ⟨wr.heap.size, 6, none⟩ = some (.slice ma' x.map.length mc')) (go_keep)
            (first | (go_at_call 25; (with_reducible refine (HIH.out _ _ (d + 1) (HRE.out.keep (by exact Below.drew (Below.new _ _))) hd1' hd2').mono ?_); rintro e w' ⟨r, rfl, hr0, hr1, hr2, hb'⟩; obtain ⟨e1, e2⟩ := wt_sums hd0 hks hn0 hn1 hr0 hr1 (Int.natCast_nonneg _); have HR2 := Lib.hid hr2; clear hr2; obtain ⟨hcb, -⟩ := bcell hb'; have HB' := Lib.hid hb'; clear hb'))
          have hb2 := Below.next (Below.drew (Below.new wr _)) HB'.out
          clear e0 e1 e2 hcb HB' c0 c1 c2 c3 c4 c5 c6
          by_cases hbig : 6000 < n + (r + (key.size : Int))
          · go_wp2_with fail
            go_ret
            exact wt_nonneg (by omega) (by omega) (by omega) (Below.next hbw hb2)
          · have hsm : n + (r + (key.size : Int)) ≤ 6000 := by omega
            go_wp2_with fail
            go_roundw
            case rel => exact ⟨j + 1, _, by omega, by go_num, rfl, by omega, by omega, fun _ => by have := hn2.out (by omega); have := HR2.out (by omega); rw [HZ.out]; omega, Below.next hbw hb2⟩
            case measure => simp [intOf]; omega
        · have hj' : j = t.map.length := by omega
          subst hj'
          rw [List.take_length] at hn2
          go_wp2_with fail
          go_ret
          exact wt_nonneg hn0 (by omega) (by rw [HW.out]; exact hn2.out) hbw
end Go.Proofs.YtgbbojnigicnoaaDoor
