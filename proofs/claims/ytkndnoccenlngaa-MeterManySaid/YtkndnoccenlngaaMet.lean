/- What each function of the meter, and of its reference, does to the six numbers. -/
import Derived.Test.YtkndnoccenlngaaRows
import Derived.Test.YtkndnoccenlngaaMem
import Derived.RegionTactic
import Derived.BigRegion
namespace Go.Proofs.Ytkndnoccenlngaa
open Go.RowKit

/-- A meter's cells. -/
def mcells (ns : List Int) : Array Value := (ns.map (Value.int .i64)).toArray
theorem mcells_get (ns : List Int) (k : Nat) (h : k < ns.length) : (mcells ns)[k]? = some (.int .i64 ns[k]) := by simp [mcells, h]
theorem mcells_set (ns : List Int) (k : Nat) (x : Int) : (mcells ns).setIfInBounds k (.int .i64 x) = mcells (ns.set k x) := by
  simp [mcells, List.map_set]
theorem Met_grown {w : World} {g i : Nat} {v : Value} : w.grownBy (w.setCell ⟨g, i, none⟩ v) (some g) :=
  ⟨rfl, rfl, rfl, by simp [World.setCell], fun j _ hne => Below.heap_setCell _ _ _ _ (by intro e; exact hne (by simp [e]))⟩

theorem add64 {a : Addr} {n d : Int} {w : World} (h : w.cell? a = some (.int .i64 n)) (hf : w.frozen? a = false) :
    Calls Try.prog 16 #[.pointer (some a), .int .i64 d] w fun e w' => e = .returned (.int .i64 (wrap64 (n + d))) ∧ w' = w.setCell a (.int .i64 (wrap64 (n + d))) := by
  have hl := run_call_add (P := Try.prog) Try.func20 (by kernel_rfl) (by kernel_rfl) (by kernel_rfl) .i64 (by kernel_rfl) h hf (y := d) (s := wrap64 (n + d)) (by simp [go_sem, wrap64, IntKind.wrap_i64])
  go_enter Try.func16, Try.ntmps16
  go_wp2
  go_ret
  exact ⟨rfl, rfl⟩
theorem load64 {a : Addr} {n : Int} {w : World} (h : w.cell? a = some (.int .i64 n)) :
    Calls Try.prog 17 #[.pointer (some a)] w fun e w' => e = .returned (.int .i64 n) ∧ w = w' := by
  have hl := run_call_load (P := Try.prog) Try.func21 (by kernel_rfl) (by kernel_rfl) (by kernel_rfl) .i64 (by kernel_rfl) h
  go_enter Try.func17, Try.ntmps17
  go_wp2
  go_ret
  exact ⟨rfl, rfl⟩
theorem store64 {a : Addr} {n d : Int} {w : World} (h : w.cell? a = some (.int .i64 n)) (hf : w.frozen? a = false) :
    Calls Try.prog 19 #[.pointer (some a), .int .i64 d] w fun e w' => e = .returned (.tuple #[]) ∧ w' = w.setCell a (.int .i64 d) := by
  have hl := run_call_store (P := Try.prog) Try.func23 (by kernel_rfl) (by kernel_rfl) (by kernel_rfl) (by kernel_rfl) h hf (k := .i64) (y := d)
  go_enter Try.func19, Try.ntmps19
  go_wp2
  go_end0
  exact ⟨rfl, rfl⟩
theorem cas64 {a : Addr} {n d : Int} {w : World} (h : w.cell? a = some (.int .i64 n)) (hf : w.frozen? a = false) :
    Calls Try.prog 18 #[.pointer (some a), .int .i64 n, .int .i64 d] w fun e w' => e = .returned (.bool true) ∧ w' = w.setCell a (.int .i64 d) := by
  have hl := run_call_cas_hit (P := Try.prog) Try.func22 (by kernel_rfl) (by kernel_rfl) (by kernel_rfl) .i64 (by kernel_rfl) h hf (y := d)
  go_enter Try.func18, Try.ntmps18
  go_wp2
  go_ret
  exact ⟨rfl, rfl⟩

/-- What Add makes of the numbers, and what it answers. -/
def addF (ns : List Int) (k : Int) : List Int := if 0 ≤ k ∧ k < 5 then ns.set k.toNat (wrap64 (ns.getD k.toNat 0 + 1)) else ns
def addR (ns : List Int) (k : Int) : Int := if 0 ≤ k ∧ k < 5 then wrap64 (ns.getD k.toNat 0 + 1) else 0
def seeF (ns : List Int) (n : Int) : List Int := ns.set 5 (max (ns.getD 5 0) n)
def seeR (ns : List Int) (n : Int) : Int := max (ns.getD 5 0) n

/-- The result, and the numbers that stand in the block behind the call. -/
def MetOk (w : World) (g : Nat) (t : TypeId) (r : Value) (ns : List Int) (e : Ending) (w' : World) : Prop :=
  e = .returned r ∧ Blk w' g t (mcells ns) ∧ w.grownBy w' (some g)

section
variable {w : World} {g : Nat} {t : TypeId} {ns : List Int}

theorem frz (hb : Blk w g t (mcells ns)) (i : Nat) : w.frozen? ⟨g, i, none⟩ = false := hb.frozen i
theorem cel (hb : Blk w g t (mcells ns)) (i : Nat) (h : i < ns.length) : w.cell? ⟨g, i, none⟩ = some (.int .i64 (ns.getD i 0)) := by
  rw [hb.cell, mcells_get ns i h]; simp [h]
theorem MetOk.put {r : Value} (hb : Blk w g t (mcells ns)) (i : Nat) (x : Int) {e : Ending} (he : e = .returned r) : MetOk w g t r (ns.set i x) e (w.setCell ⟨g, i, none⟩ (.int .i64 x)) :=
  ⟨he, by rw [← mcells_set]; exact hb.set_ i _, Met_grown⟩
theorem MetOk.drew {r : Value} {e : Ending} {w' : World} (h : MetOk w g t r ns e w') : MetOk w g t r ns e w'.drew :=
  ⟨h.1, h.2.1, h.2.2.os, h.2.2.tape, h.2.2.output, h.2.2.size, h.2.2.block⟩
theorem MetOk.same {r : Value} (hb : Blk w g t (mcells ns)) {e : Ending} (he : e = .returned r) : MetOk w g t r ns e w :=
  ⟨he, hb, World.grownBy.refl w _⟩

set_option maxHeartbeats 400000 in
theorem m_add (k : Int) (hl : ns.length = 6) (hb : Blk w g t (mcells ns)) :
    Calls Try.prog 10 #[.pointer (some ⟨g, 0, none⟩), .int .i64 k] w (MetOk w g t (.int .i64 (addR ns k)) (addF ns k)) := by
  by_cases hk : 0 ≤ k ∧ k < 5
  · have HR : addR ns k = wrap64 (ns.getD k.toNat 0 + 1) := if_pos hk
    have HF : addF ns k = ns.set k.toNat (wrap64 (ns.getD k.toNat 0 + 1)) := if_pos hk
    rw [HR, HF]
    clear HR HF
    obtain ⟨q, rfl⟩ := Int.eq_ofNat_of_zero_le hk.1
    rw [Int.toNat_natCast]
    have h5 : (q : Int) < 5 := hk.2
    have hc := cel hb q (by omega)
    have hf := frz hb q
    have HB := Lib.hid hb
    generalize ns.getD q 0 = x at hc ⊢
    clear hk hb hl
    go_enter Try.func10, Try.ntmps10
    go_wp2_with (go_at_call 16; refine (add64 hc hf).mono ?_; rintro e w' ⟨rfl, rfl⟩)
    go_ret
    exact MetOk.put HB.out _ _ rfl
  · have HR : addR ns k = 0 := if_neg hk
    have HF : addF ns k = ns := if_neg hk
    rw [HR, HF]
    clear HR HF
    have HB := Lib.hid hb
    clear hb hl
    by_cases h0 : k < 0
    · go_enter Try.func10, Try.ntmps10
      go_wp2_with fail
      go_ret
      exact MetOk.same HB.out rfl
    · have h5 : 5 ≤ k := by omega
      go_enter Try.func10, Try.ntmps10
      go_wp2_with fail
      go_ret
      exact MetOk.same HB.out rfl

set_option maxHeartbeats 400000 in
theorem m_count (k : Int) (hl : ns.length = 6) (hb : Blk w g t (mcells ns)) :
    Calls Try.prog 12 #[.pointer (some ⟨g, 0, none⟩), .int .i64 k] w fun e w' => e = .returned (.int .i64 (if 0 ≤ k ∧ k < 5 then ns.getD k.toNat 0 else 0)) ∧ w = w' := by
  by_cases hk : 0 ≤ k ∧ k < 5
  · rw [if_pos hk]
    obtain ⟨q, rfl⟩ := Int.eq_ofNat_of_zero_le hk.1
    rw [Int.toNat_natCast]
    have h5 : (q : Int) < 5 := hk.2
    have hc := cel hb q (by omega)
    generalize ns.getD q 0 = x at hc ⊢
    clear hk hb hl
    go_enter Try.func12, Try.ntmps12
    go_wp2_with (go_at_call 17; refine (load64 hc).mono ?_; rintro e w' ⟨rfl, rfl⟩)
    go_ret
    exact ⟨rfl, rfl⟩
  · rw [if_neg hk]
    clear hb hl
    by_cases h0 : k < 0
    · go_enter Try.func12, Try.ntmps12
      go_wp2_with fail
      go_ret
      exact ⟨rfl, rfl⟩
    · have h5 : 5 ≤ k := by omega
      go_enter Try.func12, Try.ntmps12
      go_wp2_with fail
      go_ret
      exact ⟨rfl, rfl⟩

theorem count_at (k : Nat) (hk : k < 5) (hl : ns.length = 6) (hb : Blk w g t (mcells ns)) :
    Calls Try.prog 12 #[.pointer (some ⟨g, 0, none⟩), .int .i64 k] w fun e w' => e = .returned (.int .i64 (ns.getD k 0)) ∧ w = w' :=
  (m_count k hl hb).mono fun e w' h => by rw [if_pos (by omega)] at h; simpa using h

set_option maxHeartbeats 400000 in
theorem m_writes (hl : ns.length = 6) (hb : Blk w g t (mcells ns)) :
    Calls Try.prog 15 #[.pointer (some ⟨g, 0, none⟩)] w fun e w' => e = .returned (.int .i64 (wrap64 (wrap64 (ns.getD 1 0 + ns.getD 2 0) + ns.getD 3 0))) ∧ w = w' := by
  have h1 := Lib.hid (count_at 1 (by omega) hl hb)
  have h2 := Lib.hid (count_at 2 (by omega) hl hb)
  have h3 := Lib.hid (count_at 3 (by omega) hl hb)
  generalize ns.getD 1 0 = x1 at h1 ⊢
  generalize ns.getD 2 0 = x2 at h2 ⊢
  generalize ns.getD 3 0 = x3 at h3 ⊢
  clear hl hb
  go_enter Try.func15, Try.ntmps15
  go_wp2_with fail
  refine h1.out.mono ?_
  rintro e w' ⟨rfl, rfl⟩
  go_wp2_with fail
  refine h2.out.mono ?_
  rintro e w' ⟨rfl, rfl⟩
  go_wp2_with fail
  refine h3.out.mono ?_
  rintro e w' ⟨rfl, rfl⟩
  go_wp2_with fail
  go_ret
  exact ⟨rfl, rfl⟩

set_option maxHeartbeats 400000 in
theorem m_see (n : Int) (hl : ns.length = 6) (hb : Blk w g t (mcells ns)) :
    Calls Try.prog 11 #[.pointer (some ⟨g, 0, none⟩), .int .i64 n] w (MetOk w g t (.int .i64 (seeR ns n)) (seeF ns n)) := by
  have hc := cel hb 5 (by omega)
  have hf := frz hb 5
  have HB := Lib.hid hb
  obtain ⟨x, hx⟩ : ∃ x, ns.getD 5 0 = x := ⟨_, rfl⟩
  unfold seeR seeF
  rw [hx]
  rw [hx] at hc
  by_cases hn : n ≤ x
  · rw [Int.max_eq_left hn]
    have HS := Lib.hid (show ns.set 5 x = ns by
      rw [← hx]; apply List.ext_getElem (by simp)
      intro i h1 h2
      rw [List.getElem_set]
      split
      · next h => subst h; simp [hl]
      · rfl)
    rw [HS.out]
    clear hx hl hb
    go_enter Try.func11, Try.ntmps11
    go_wp2_with fail
    refine wp_loop_rounds 1 ?_; rw [rounds_succ]
    go_wp2_with (go_at_call 17; refine (load64 hc).mono ?_; rintro e w' ⟨rfl, rfl⟩)
    go_ret
    exact MetOk.same HB.out (by simp)
  · have hn' : x < n := by omega
    rw [Int.max_eq_right (by omega)]
    clear hx hl hb
    go_enter Try.func11, Try.ntmps11
    go_wp2_with fail
    refine wp_loop_rounds 1 ?_; rw [rounds_succ]
    go_wp2_with (first | (go_at_call 17; refine (load64 hc).mono ?_; rintro e w' ⟨rfl, rfl⟩) | (go_at_call 18; refine (cas64 hc hf).mono ?_; rintro e w' ⟨rfl, rfl⟩))
    go_ret
    exact MetOk.put HB.out _ _ (by simp)

theorem m_most (h0 : 0 ≤ ns.getD 5 0) (hl : ns.length = 6) (hb : Blk w g t (mcells ns)) :
    Calls Try.prog 13 #[.pointer (some ⟨g, 0, none⟩)] w (MetOk w g t (.int .i64 (ns.getD 5 0)) ns) := by
  have H := Lib.hid (m_see 0 hl hb)
  have e1 : seeR ns 0 = ns.getD 5 0 := Int.max_eq_left h0
  have e2 : seeF ns 0 = ns := by
    unfold seeF; rw [Int.max_eq_left h0]
    apply List.ext_getElem (by simp)
    intro i h1 h2
    rw [List.getElem_set]
    split
    · next h => subst h; simp [hl]
    · rfl
  rw [e1, e2] at H
  generalize ns.getD 5 0 = x at H ⊢
  clear e1 e2 h0 hl hb
  go_enter Try.func13, Try.ntmps13
  go_wp2_with fail
  refine H.out.mono ?_
  rintro e w' ⟨rfl, h1, h2⟩
  go_wp2_with fail
  go_ret
  exact ⟨rfl, h1, h2⟩

set_option maxHeartbeats 400000 in
theorem r_add (k : Int) (hl : ns.length = 6) (hb : Blk w g t (mcells ns)) :
    Calls Try.prog 7 #[.pointer (some ⟨g, 0, none⟩), .int .i64 k] w (MetOk w g t (.int .i64 (addR ns k)) (addF ns k)) := by
  by_cases hk : 0 ≤ k ∧ k < 5
  · have HR : addR ns k = wrap64 (ns.getD k.toNat 0 + 1) := if_pos hk
    have HF : addF ns k = ns.set k.toNat (wrap64 (ns.getD k.toNat 0 + 1)) := if_pos hk
    rw [HR, HF]
    clear HR HF
    obtain ⟨q, rfl⟩ := Int.eq_ofNat_of_zero_le hk.1
    rw [Int.toNat_natCast]
    have h5 : (q : Int) < 5 := hk.2
    have hc := cel hb q (by omega)
    have hf := frz hb q
    have hc' := World.cell?_setCell_same w ⟨g, q, none⟩ (.int .i64 (wrap64 (ns.getD q 0 + 1))) hc
    have HB := Lib.hid hb
    generalize ns.getD q 0 = x at hc hc' ⊢
    clear hk hb hl
    go_enter Try.func7, Try.ntmps7
    have h0 : (0 : Int) ≤ (q : Int) := by omega
    go_wp2_with fail
    go_region
    all_goals go_wp2_with fail
    all_goals go_ret
    all_goals exact (MetOk.put HB.out _ _ rfl).drew
  · have HR : addR ns k = 0 := if_neg hk
    have HF : addF ns k = ns := if_neg hk
    rw [HR, HF]
    clear HR HF
    have HB := Lib.hid hb
    clear hb hl
    by_cases h0 : k < 0
    · go_enter Try.func7, Try.ntmps7
      go_wp2_with fail
      go_ret
      exact MetOk.same HB.out rfl
    · have h5 : 5 ≤ k := by omega
      go_enter Try.func7, Try.ntmps7
      go_wp2_with fail
      go_ret
      exact MetOk.same HB.out rfl

set_option maxHeartbeats 400000 in
theorem r_see (n : Int) (hl : ns.length = 6) (hb : Blk w g t (mcells ns)) :
    Calls Try.prog 8 #[.pointer (some ⟨g, 0, none⟩), .int .i64 n] w (MetOk w g t (.int .i64 (seeR ns n)) (seeF ns n)) := by
  have hc := cel hb 5 (by omega)
  have hf := frz hb 5
  have hc' := World.cell?_setCell_same w ⟨g, 5, none⟩ (.int .i64 n) hc
  have HB := Lib.hid hb
  obtain ⟨x, hx⟩ : ∃ x, ns.getD 5 0 = x := ⟨_, rfl⟩
  unfold seeR seeF
  rw [hx]
  rw [hx] at hc
  by_cases hn : n ≤ x
  · rw [Int.max_eq_left hn]
    have HS := Lib.hid (show ns.set 5 x = ns by
      rw [← hx]; apply List.ext_getElem (by simp)
      intro i h1 h2
      rw [List.getElem_set]
      split
      · next h => subst h; simp [hl]
      · rfl)
    rw [HS.out]
    clear hx hl hb
    go_enter Try.func8, Try.ntmps8
    go_wp2_with fail
    go_ret
    exact MetOk.same HB.out rfl
  · have hn' : x < n := by omega
    rw [Int.max_eq_right (by omega)]
    clear hx hl hb
    go_enter Try.func8, Try.ntmps8
    go_wp2_with fail
    go_ret
    exact MetOk.put HB.out _ _ rfl
end

/-- All six numbers nought. -/
def zeros : List Int := [0, 0, 0, 0, 0, 0]

set_option maxHeartbeats 800000 in
theorem m_reset {w : World} {g : Nat} {t : TypeId} (n0 n1 n2 n3 n4 n5 : Int) (hb : Blk w g t (mcells [n0, n1, n2, n3, n4, n5])) :
    Calls Try.prog 14 #[.pointer (some ⟨g, 0, none⟩)] w (MetOk w g t (.tuple #[]) zeros) := by
  go_enter Try.func14, Try.ntmps14
  have HB := Lib.hid hb
  clear hb
  go_wp2_with fail
  go_loopw [5] (fun i wr => ∃ q : Nat, q ≤ 5 ∧ i = .int .i64 q ∧ Blk wr g t (mcells (List.replicate q 0 ++ [n0, n1, n2, n3, n4, n5].drop q)) ∧ w.grownBy wr (some g)) (fun i _ => 5 - (intOf i).toNat)
  case atStart => exact ⟨0, by omega, rfl, HB.out, World.grownBy.refl _ _⟩
  case round =>
    obtain ⟨q, hq, rfl, hb, hg⟩ := hrel
    by_cases h5 : q < 5
    · have hlen : (List.replicate q 0 ++ [n0, n1, n2, n3, n4, n5].drop q).length = 6 := by simp; omega
      have hc := cel hb q (by omega)
      have hf := frz hb q
      have hb2 := hb.set_ q (.int .i64 0)
      rw [mcells_set] at hb2
      have e2 : (List.replicate q 0 ++ [n0, n1, n2, n3, n4, n5].drop q).set q 0 = List.replicate (q + 1) 0 ++ [n0, n1, n2, n3, n4, n5].drop (q + 1) := by
        match q, h5 with
        | 0, _ => rfl
        | 1, _ => rfl
        | 2, _ => rfl
        | 3, _ => rfl
        | 4, _ => rfl
      rw [e2] at hb2
      have HB2 := Lib.hid hb2
      clear hb2 e2 hb hlen
      go_wp2_with (go_at_call 19; refine (store64 hc hf).mono ?_; rintro e w' ⟨rfl, rfl⟩)
      go_roundw
      case rel => exact ⟨q + 1, by omega, by go_num, HB2.out, hg.trans Met_grown⟩
      case measure => simp [intOf]; omega
    · obtain rfl : q = 5 := by omega
      have hc := cel hb 5 (by simp)
      have hf := frz hb 5
      have hb2 := hb.set_ 5 (.int .i64 0)
      rw [mcells_set] at hb2
      have HB2 := Lib.hid hb2
      clear hb2 hb
      go_wp2_with (go_at_call 19; refine (store64 hc hf).mono ?_; rintro e w' ⟨rfl, rfl⟩)
      go_end0
      exact ⟨rfl, HB2.out, hg.trans Met_grown⟩
end Go.Proofs.Ytkndnoccenlngaa
