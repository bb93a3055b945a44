/- MeterMany: the closure that counts, and the law. -/
import Derived.Test.YtkndnoccenlngaaManyP
import Derived.Test.YtkndnoccenlngaaTailB
import Derived.Deep.Cut
namespace Go.Proofs.Ytkndnoccenlngaa
open Go.RowKit
attribute [local go_sem ↓] Go.wp_at_zero Go.wp_at_succ

/-- Lists of numbers, as they came in: in blocks under n. -/
def RepLL (n : Nat) (w : World) (a : Option Addr) (LL : List (List Int)) : Prop :=
  ∀ i (h : i < LL.length), ∃ b o ai ci, a = some ⟨b, o, none⟩ ∧ b < n ∧ b < w.heap.size ∧ w.cell? ⟨b, o + i, none⟩ = some (.slice ai LL[i].length ci) ∧ RepI w (fun b => b < n) .i64 ai LL[i] ∧ LL[i].length ≤ 9223372036854775807
theorem RepLL.keep {n : Nat} {w w' : World} {a : Option Addr} {LL : List (List Int)} (h : RepLL n w a LL) (hb : Below n w w') : RepLL n w' a LL := fun i hi => by
  obtain ⟨b, o, ai, ci, e, hbn, hlt, hc, hr, hm⟩ := h i hi
  refine ⟨b, o, ai, ci, e, hbn, Nat.lt_of_lt_of_le hlt hb.size, (hb.cell (p := ⟨b, o + i, none⟩) hbn).trans hc, fun j hj => ?_, hm⟩
  obtain ⟨b2, o2, e2, h1, h2, h3⟩ := hr j hj
  exact ⟨b2, o2, e2, h1, Nat.lt_of_lt_of_le h2 hb.size, (hb.cell (p := ⟨b2, o2 + j, none⟩) h1).trans h3⟩
def atc (ns : List Nat) : Array Value := (ns.map fun n : Nat => Value.int .i64 (n : Int)).toArray
theorem atc_get {ns : List Nat} {i : Nat} (h : i < ns.length) : (atc ns)[i]? = some (.int .i64 (ns[i] : Int)) := by simp [atc, h]
theorem atc_set (ns : List Nat) (i x : Nat) : (atc ns).setIfInBounds i (.int .i64 (x : Int)) = atc (ns.set i x) := by simp [atc, List.map_set]
/-- How a game stands. -/
structure Play (W w : World) (a : Option Addr) (c : Nat) (LL : List (List Int)) (gA : Nat) (ns : List Nat) : Prop where
  fit : Fit ns LL
  b0 : Blk w W.heap.size 22 #[.slice a LL.length c]
  bm : Blk w (W.heap.size + 1) 32 (mcells (stat (taken ns LL)))
  bq : Blk w (W.heap.size + 1 + 1) 36 (mcells (stat LL.flatten))
  bb : Blk w (gA + 1) 37 #[.slice (some ⟨gA, 0, none⟩) LL.length LL.length]
  bA : Blk w gA 3 (atc ns)
  bel : Below W.heap.size W w
  hA : W.heap.size + 3 ≤ gA
theorem Play.drewN {W w : World} {a : Option Addr} {c : Nat} {LL : List (List Int)} {gA : Nat} {ns : List Nat} (h : Play W w a c LL gA ns) (n : Nat) : Play W (w.drewN n) a c LL gA ns :=
  ⟨h.fit, h.b0, h.bm, h.bq, h.bb, h.bA, Below.drewN h.bel n, h.hA⟩
theorem cell_grown {w w1 : World} {g b o : Nat} {v : Value} (h : w.cell? ⟨b, o, none⟩ = some v) (hg : w.grownBy w1 (some g)) (hb : b ≠ g) : w1.cell? ⟨b, o, none⟩ = some v :=
  (World.cell?_of_block (a := ⟨b, o, none⟩) (hg.block b (World.block_lt_of_cell? w ⟨b, o, none⟩ h) (by simpa using hb))).trans h
theorem below_met {W w w1 : World} {g : Nat} (h : Below W.heap.size W w) (hg : w.grownBy w1 (some g)) (hb : W.heap.size ≤ g) : Below W.heap.size W w1 :=
  h.grown hg h.size (by simpa using hb)
theorem grown_drew0 (w : World) (g : Nat) : w.grownBy w.drew (some g) := ⟨rfl, rfl, rfl, Nat.le_refl _, fun _ _ _ => rfl⟩

set_option maxRecDepth 100000 in
set_option maxHeartbeats 4000000 in
theorem count_ok {W w : World} {a : Option Addr} {c : Nat} {LL : List (List Int)} {gA : Nat} {ns : List Nat} (h : Play W w a c LL gA ns) (hl : RepLL W.heap.size W a LL) (i : Nat) (hi : i < LL.length) (hL8 : LL.length ≤ 8) (hfl : LL.flatten.length ≤ 1000000) :
    Calls Try.prog 9 #[.int .i64 i, .pointer (some ⟨gA + 1, 0, none⟩), .pointer (some ⟨W.heap.size, 0, none⟩), .pointer (some ⟨W.heap.size + 1, 0, none⟩)] w fun e w' => e = .returned (.tuple #[]) ∧ Play W w' a c LL gA (bump ns LL i) := by
  have hn : i < ns.length := by rw [h.fit.1]; exact hi
  obtain ⟨b, o, ai, ci, rfl, hbW, hbl, hc, hr, hmx⟩ := (hl.keep h.bel) i hi
  have e1 := getD_lt ns 0 hn
  have e2 := getD_lt LL [] hi
  have f1 := h.b0.cell 0
  have f3 := h.bb.cell 0
  have f4 : w.cell? ⟨gA, i, none⟩ = some (.int .i64 (ns[i] : Int)) := by rw [h.bA.cell, atc_get hn]
  have gi1 : (0 : Int) ≤ (i : Int) := by omega
  have gi2 : (i : Int) < (LL.length : Int) := by omega
  have hm63 : LL.length ≤ 9223372036854775807 := by omega
  have HP := Lib.hid h
  by_cases hlt : ns[i] < LL[i].length
  · obtain ⟨bi, oi, rfl, hbiW, hbil, hci⟩ := hr ns[i] hlt
    have HST := Lib.hid (taken_bump HP.out.fit hi (by rw [e1, e2]; exact hlt))
    have HSN := Lib.hid (stat_snoc (taken ns LL) (LL[i][ns[i]]) (Nat.le_trans (taken_len _ _) hfl))
    have HBU := Lib.hid (show bump ns LL i = ns.set i (ns[i] + 1) from by unfold bump; rw [e1, e2, if_pos hlt])
    have HFB := Lib.hid (HP.out.fit.bump hi)
    rw [e1, e2, getD_lt _ _ hlt] at HST
    have glt : ((ns[i] : Nat) : Int) < (LL[i].length : Int) := by omega
    have gn1 : (0 : Int) ≤ ((ns[i] : Nat) : Int) := by omega
    have gw : IntKind.i64.wrap (((ns[i] : Nat) : Int) + 1) = ((ns[i] + 1 : Nat) : Int) := by rw [wrap_fit] <;> omega
    have HW := Lib.hid gw
    have HN := Lib.hid hn
    obtain ⟨x, hx⟩ : ∃ x, x = LL[i][ns[i]] := ⟨_, rfl⟩
    have hci2 : w.cell? ⟨bi, oi + ns[i], none⟩ = some (.int .i64 x) := by rw [hx]; exact hci
    have HST2 := Lib.hid (show stat (taken (bump ns LL i) LL) = stat (taken ns LL ++ [x]) from by rw [hx]; exact HST.out)
    have HSN2 := Lib.hid (show seeF (addF (stat (taken ns LL)) x) x = stat (taken ns LL ++ [x]) from by rw [hx]; exact HSN.out)
    clear hx hci HST HSN
    have HST := HST2
    have HSN := HSN2
    clear HST2 HSN2
    have hci := hci2
    clear hci2
    clear gw hlt e1 e2 hr h hl
    generalize hln : LL[i].length = ll at *
    generalize hnn : ns[i] = n at *
    clear hln hnn
    have HSS := Lib.hid (show ∀ wx, w.grownBy wx (some (W.heap.size + 1)) → (fun w' => w'.cell? ⟨W.heap.size, 0, none⟩ = some (.slice (some ⟨b, o, none⟩) LL.length c) ∧ w'.cell? ⟨b, o + i, none⟩ = some (.slice (some ⟨bi, oi, none⟩) ll ci) ∧ w'.cell? ⟨gA + 1, 0, none⟩ = some (.slice (some ⟨gA, 0, none⟩) LL.length LL.length) ∧ w'.cell? ⟨gA, i, none⟩ = some (.int .i64 n) ∧ w'.cell? ⟨bi, oi + n, none⟩ = some (.int .i64 x)) wx from fun wx hg => ⟨cell_grown f1 hg (by omega), cell_grown hc hg (by omega), cell_grown f3 hg (by have := HP.out.hA; omega), cell_grown f4 hg (by have := HP.out.hA; omega), cell_grown hci hg (by omega)⟩)
    go_enter Try.func9, Try.ntmps9
    go_wp2_with fail
    go_quiet (fail)
    have HP1 := Lib.hid (HP.out.drewN nq)
    obtain ⟨w1, hw1⟩ : ∃ z, z = w.drewN nq := ⟨_, rfl⟩
    have HG1 := Lib.hid (show w.grownBy w1 (some (W.heap.size + 1)) from by rw [hw1]; exact ⟨rfl, rfl, rfl, Nat.le_refl _, fun _ _ _ => rfl⟩)
    rw [← hw1] at HP1
    rw [← hw1]
    clear hw1 f1 f3 f4 hc hci
    go_upto_region 1 with fail
    refine wp_region_held_drew (S := (fun w' => w'.cell? ⟨W.heap.size, 0, none⟩ = some (.slice (some ⟨b, o, none⟩) LL.length c) ∧ w'.cell? ⟨b, o + i, none⟩ = some (.slice (some ⟨bi, oi, none⟩) ll ci) ∧ w'.cell? ⟨gA + 1, 0, none⟩ = some (.slice (some ⟨gA, 0, none⟩) LL.length LL.length) ∧ w'.cell? ⟨gA, i, none⟩ = some (.int .i64 n) ∧ w'.cell? ⟨bi, oi + n, none⟩ = some (.int .i64 x))) (by kernel_rfl) (by exact HSS.out _ (HG1.out.trans (grown_drew0 _ _))) (fun hHeld => ?_)
    refine wpAnyH_take (i := 0) (v := ?vm3_0) (by conv => lhs; simp only [List.getElem?_toArray, List.getElem?_cons_succ, List.getElem?_cons_zero]) (by kernel_rfl) (by kernel_rfl) (by kernel_rfl) (by exact fun _ _ _ h => h) (Or.inl ⟨by rfl, ?hym3_0⟩) (by assumption) ?_
    case hym3_0 => (intro w0 hSw; (try dsimp only at hSw); go_simp; try with_reducible rfl)
    try simp only [Act.put, List.setIfInBounds_toArray, List.set_cons_zero, List.set_cons_succ]
    refine wpAnyH_take (i := 1) (v := ?vm3_1) (by conv => lhs; simp only [List.getElem?_toArray, List.getElem?_cons_succ, List.getElem?_cons_zero]) (by kernel_rfl) (by kernel_rfl) (by kernel_rfl) (by exact fun _ _ _ h => h) (Or.inl ⟨by rfl, ?hym3_1⟩) (by assumption) ?_
    case hym3_1 => (intro w0 hSw; (try dsimp only at hSw); go_simp; try with_reducible rfl)
    try simp only [Act.put, List.setIfInBounds_toArray, List.set_cons_zero, List.set_cons_succ]
    refine wpAnyH_take (i := 2) (v := ?vm3_2) (by conv => lhs; simp only [List.getElem?_toArray, List.getElem?_cons_succ, List.getElem?_cons_zero]) (by kernel_rfl) (by kernel_rfl) (by kernel_rfl) (by exact fun _ _ _ h => h) (Or.inl ⟨by rfl, ?hym3_2⟩) (by assumption) ?_
    case hym3_2 => (intro w0 hSw; (try dsimp only at hSw); go_simp; try with_reducible rfl)
    try simp only [Act.put, List.setIfInBounds_toArray, List.set_cons_zero, List.set_cons_succ]
    refine wpAnyH_take (i := 3) (v := ?vm3_3) (by conv => lhs; simp only [List.getElem?_toArray, List.getElem?_cons_succ, List.getElem?_cons_zero]) (by kernel_rfl) (by kernel_rfl) (by kernel_rfl) (by exact fun _ _ _ h => h) (Or.inl ⟨by rfl, ?hym3_3⟩) (by assumption) ?_
    case hym3_3 => (intro w0 hSw; (try dsimp only at hSw); go_simp; try with_reducible rfl)
    try simp only [Act.put, List.setIfInBounds_toArray, List.set_cons_zero, List.set_cons_succ]
    refine wpAnyH_take (i := 4) (v := ?vm3_4) (by conv => lhs; simp only [List.getElem?_toArray, List.getElem?_cons_succ, List.getElem?_cons_zero]) (by kernel_rfl) (by kernel_rfl) (by kernel_rfl) (by exact fun _ _ _ h => h) (Or.inl ⟨by rfl, ?hym3_4⟩) (by assumption) ?_
    case hym3_4 => (intro w0 hSw; (try dsimp only at hSw); go_simp; try with_reducible rfl)
    try simp only [Act.put, List.setIfInBounds_toArray, List.set_cons_zero, List.set_cons_succ]
    refine wpAnyH_take (i := 5) (v := ?vm3_5) (by conv => lhs; simp only [List.getElem?_toArray, List.getElem?_cons_succ, List.getElem?_cons_zero]) (by kernel_rfl) (by kernel_rfl) (by kernel_rfl) (by exact fun _ _ _ h => h) (Or.inl ⟨by rfl, ?hym3_5⟩) (by assumption) ?_
    case hym3_5 => (intro w0 hSw; (try dsimp only at hSw); go_simp; try with_reducible rfl)
    try simp only [Act.put, List.setIfInBounds_toArray, List.set_cons_zero, List.set_cons_succ]
    refine wpAnyH_take (i := 6) (v := ?vm3_6) (by conv => lhs; simp only [List.getElem?_toArray, List.getElem?_cons_succ, List.getElem?_cons_zero]) (by kernel_rfl) (by kernel_rfl) (by kernel_rfl) (by exact fun _ _ _ h => h) (Or.inl ⟨by rfl, ?hym3_6⟩) (by assumption) ?_
    case hym3_6 => (intro w0 hSw; (try dsimp only at hSw); go_simp; try with_reducible rfl)
    try simp only [Act.put, List.setIfInBounds_toArray, List.set_cons_zero, List.set_cons_succ]
    refine wpAnyH_take (i := 7) (v := ?vm3_7) (by conv => lhs; simp only [List.getElem?_toArray, List.getElem?_cons_succ, List.getElem?_cons_zero]) (by kernel_rfl) (by kernel_rfl) (by kernel_rfl) (by exact fun _ _ _ h => h) (Or.inl ⟨by rfl, ?hym3_7⟩) (by assumption) ?_
    case hym3_7 => (intro w0 hSw; (try dsimp only at hSw); go_simp; try with_reducible rfl)
    try simp only [Act.put, List.setIfInBounds_toArray, List.set_cons_zero, List.set_cons_succ]
    refine wpAnyH_take (i := 8) (v := ?vm3_8) (by conv => lhs; simp only [List.getElem?_toArray, List.getElem?_cons_succ, List.getElem?_cons_zero]) (by kernel_rfl) (by kernel_rfl) (by kernel_rfl) (by exact fun _ _ _ h => h) (Or.inl ⟨by rfl, ?hym3_8⟩) (by assumption) ?_
    case hym3_8 => (intro w0 hSw; (try dsimp only at hSw); go_simp; try with_reducible rfl)
    try simp only [Act.put, List.setIfInBounds_toArray, List.set_cons_zero, List.set_cons_succ]
    refine wpAnyH_take (i := 9) (v := ?vm3_9) (by conv => lhs; simp only [List.getElem?_toArray, List.getElem?_cons_succ, List.getElem?_cons_zero]) (by kernel_rfl) (by kernel_rfl) (by kernel_rfl) (by exact fun _ _ _ h => h) (Or.inl ⟨by rfl, ?hym3_9⟩) (by assumption) ?_
    case hym3_9 => (intro w0 hSw; (try dsimp only at hSw); go_simp; try with_reducible rfl)
    try simp only [Act.put, List.setIfInBounds_toArray, List.set_cons_zero, List.set_cons_succ]
    refine wpAnyH_ready (rs := [10]) (by kernel_rfl) (by simp) ?_
    refine AllReadyH.cons (by conv => lhs; simp only [List.getElem?_toArray, List.getElem?_cons_succ, List.getElem?_cons_zero]) (fun K hK => ?_) AllReadyH.nil
    go_simp
    refine (m_add x rfl (HP1.out.bm.drew)).mono ?_
    rintro e w2 ⟨rfl, hb2, hg2⟩
    have HG2 := Lib.hid ((HG1.out.trans (grown_drew0 _ _)).trans hg2)
    have HM2 := Lib.hid hb2
    clear hb2 hg2
    go_wp2_with fail
    refine hK.out _ _ (by exact HSS.out _ HG2.out) (fun hHeld => ?_)
    clear hK K
    try simp only [Act.put, List.setIfInBounds_toArray, List.set_cons_zero, List.set_cons_succ]
    refine wpAnyH_done (by kernel_rfl) ?_ _
    go_upto_region 2 with fail
    refine wp_region_held_drew (S := (fun w' => w'.cell? ⟨W.heap.size, 0, none⟩ = some (.slice (some ⟨b, o, none⟩) LL.length c) ∧ w'.cell? ⟨b, o + i, none⟩ = some (.slice (some ⟨bi, oi, none⟩) ll ci) ∧ w'.cell? ⟨gA + 1, 0, none⟩ = some (.slice (some ⟨gA, 0, none⟩) LL.length LL.length) ∧ w'.cell? ⟨gA, i, none⟩ = some (.int .i64 n) ∧ w'.cell? ⟨bi, oi + n, none⟩ = some (.int .i64 x))) (by kernel_rfl) (by exact HSS.out _ (HG2.out.trans (grown_drew0 _ _))) (fun hHeld => ?_)
    refine wpAnyH_take (i := 0) (v := ?vm1_0) (by conv => lhs; simp only [List.getElem?_toArray, List.getElem?_cons_succ, List.getElem?_cons_zero]) (by kernel_rfl) (by kernel_rfl) (by kernel_rfl) (by exact fun _ _ _ h => h) (Or.inl ⟨by rfl, ?hym1_0⟩) (by assumption) ?_
    case hym1_0 => (intro w0 hSw; (try dsimp only at hSw); go_simp; try with_reducible rfl)
    try simp only [Act.put, List.setIfInBounds_toArray, List.set_cons_zero, List.set_cons_succ]
    refine wpAnyH_take (i := 1) (v := ?vm1_1) (by conv => lhs; simp only [List.getElem?_toArray, List.getElem?_cons_succ, List.getElem?_cons_zero]) (by kernel_rfl) (by kernel_rfl) (by kernel_rfl) (by exact fun _ _ _ h => h) (Or.inl ⟨by rfl, ?hym1_1⟩) (by assumption) ?_
    case hym1_1 => (intro w0 hSw; (try dsimp only at hSw); go_simp; try with_reducible rfl)
    try simp only [Act.put, List.setIfInBounds_toArray, List.set_cons_zero, List.set_cons_succ]
    refine wpAnyH_take (i := 2) (v := ?vm1_2) (by conv => lhs; simp only [List.getElem?_toArray, List.getElem?_cons_succ, List.getElem?_cons_zero]) (by kernel_rfl) (by kernel_rfl) (by kernel_rfl) (by exact fun _ _ _ h => h) (Or.inl ⟨by rfl, ?hym1_2⟩) (by assumption) ?_
    case hym1_2 => (intro w0 hSw; (try dsimp only at hSw); go_simp; try with_reducible rfl)
    try simp only [Act.put, List.setIfInBounds_toArray, List.set_cons_zero, List.set_cons_succ]
    refine wpAnyH_take (i := 3) (v := ?vm1_3) (by conv => lhs; simp only [List.getElem?_toArray, List.getElem?_cons_succ, List.getElem?_cons_zero]) (by kernel_rfl) (by kernel_rfl) (by kernel_rfl) (by exact fun _ _ _ h => h) (Or.inl ⟨by rfl, ?hym1_3⟩) (by assumption) ?_
    case hym1_3 => (intro w0 hSw; (try dsimp only at hSw); go_simp; try with_reducible rfl)
    try simp only [Act.put, List.setIfInBounds_toArray, List.set_cons_zero, List.set_cons_succ]
    refine wpAnyH_take (i := 4) (v := ?vm1_4) (by conv => lhs; simp only [List.getElem?_toArray, List.getElem?_cons_succ, List.getElem?_cons_zero]) (by kernel_rfl) (by kernel_rfl) (by kernel_rfl) (by exact fun _ _ _ h => h) (Or.inl ⟨by rfl, ?hym1_4⟩) (by assumption) ?_
    case hym1_4 => (intro w0 hSw; (try dsimp only at hSw); go_simp; try with_reducible rfl)
    try simp only [Act.put, List.setIfInBounds_toArray, List.set_cons_zero, List.set_cons_succ]
    refine wpAnyH_take (i := 5) (v := ?vm1_5) (by conv => lhs; simp only [List.getElem?_toArray, List.getElem?_cons_succ, List.getElem?_cons_zero]) (by kernel_rfl) (by kernel_rfl) (by kernel_rfl) (by exact fun _ _ _ h => h) (Or.inl ⟨by rfl, ?hym1_5⟩) (by assumption) ?_
    case hym1_5 => (intro w0 hSw; (try dsimp only at hSw); go_simp; try with_reducible rfl)
    try simp only [Act.put, List.setIfInBounds_toArray, List.set_cons_zero, List.set_cons_succ]
    refine wpAnyH_take (i := 6) (v := ?vm1_6) (by conv => lhs; simp only [List.getElem?_toArray, List.getElem?_cons_succ, List.getElem?_cons_zero]) (by kernel_rfl) (by kernel_rfl) (by kernel_rfl) (by exact fun _ _ _ h => h) (Or.inl ⟨by rfl, ?hym1_6⟩) (by assumption) ?_
    case hym1_6 => (intro w0 hSw; (try dsimp only at hSw); go_simp; try with_reducible rfl)
    try simp only [Act.put, List.setIfInBounds_toArray, List.set_cons_zero, List.set_cons_succ]
    refine wpAnyH_take (i := 7) (v := ?vm1_7) (by conv => lhs; simp only [List.getElem?_toArray, List.getElem?_cons_succ, List.getElem?_cons_zero]) (by kernel_rfl) (by kernel_rfl) (by kernel_rfl) (by exact fun _ _ _ h => h) (Or.inl ⟨by rfl, ?hym1_7⟩) (by assumption) ?_
    case hym1_7 => (intro w0 hSw; (try dsimp only at hSw); go_simp; try with_reducible rfl)
    try simp only [Act.put, List.setIfInBounds_toArray, List.set_cons_zero, List.set_cons_succ]
    refine wpAnyH_take (i := 8) (v := ?vm1_8) (by conv => lhs; simp only [List.getElem?_toArray, List.getElem?_cons_succ, List.getElem?_cons_zero]) (by kernel_rfl) (by kernel_rfl) (by kernel_rfl) (by exact fun _ _ _ h => h) (Or.inl ⟨by rfl, ?hym1_8⟩) (by assumption) ?_
    case hym1_8 => (intro w0 hSw; (try dsimp only at hSw); go_simp; try with_reducible rfl)
    try simp only [Act.put, List.setIfInBounds_toArray, List.set_cons_zero, List.set_cons_succ]
    refine wpAnyH_take (i := 9) (v := ?vm1_9) (by conv => lhs; simp only [List.getElem?_toArray, List.getElem?_cons_succ, List.getElem?_cons_zero]) (by kernel_rfl) (by kernel_rfl) (by kernel_rfl) (by exact fun _ _ _ h => h) (Or.inl ⟨by rfl, ?hym1_9⟩) (by assumption) ?_
    case hym1_9 => (intro w0 hSw; (try dsimp only at hSw); go_simp; try with_reducible rfl)
    try simp only [Act.put, List.setIfInBounds_toArray, List.set_cons_zero, List.set_cons_succ]
    refine wpAnyH_ready (rs := [10]) (by kernel_rfl) (by simp) ?_
    refine AllReadyH.cons (by conv => lhs; simp only [List.getElem?_toArray, List.getElem?_cons_succ, List.getElem?_cons_zero]) (fun K hK => ?_) AllReadyH.nil
    go_simp
    refine (m_see x (by rw [addF_len]; rfl) (HM2.out.drew)).mono ?_
    rintro e w3 ⟨rfl, hb3, hg3⟩
    have HG3 := Lib.hid ((HG2.out.trans (grown_drew0 _ _)).trans hg3)
    have HM3 := Lib.hid hb3
    clear hb3 hg3
    go_wp2_with fail
    refine hK.out _ _ (by exact HSS.out _ HG3.out) (fun hHeld => ?_)
    clear hK K
    try simp only [Act.put, List.setIfInBounds_toArray, List.set_cons_zero, List.set_cons_succ]
    refine wpAnyH_done (by kernel_rfl) ?_ _
    obtain ⟨f1, f2, f3, f4, f5⟩ := HSS.out _ HG3.out
    have HPP := HP.out
    have hbA3 : Blk w3 gA 3 (atc ns) := (HG3.out.block gA HPP.bA.lt (by have := HPP.hA; simp; omega)).trans HPP.bA
    have zA := hbA3.frozen i
    have HA3 := Lib.hid hbA3
    clear hbA3 HPP
    have gw := HW.out
    go_wp2_with fail
    go_end0
    refine ⟨rfl, ?_⟩
    have HPP := HP.out; have hAA := HPP.hA
    have hst : stat (taken (bump ns LL i) LL) = seeF (addF (stat (taken ns LL)) x) x := HST.out.trans HSN.out.symm
    have far : ∀ g, g < w.heap.size → g ≠ W.heap.size + 1 → g ≠ gA → ((w3.setCell ⟨gA, i, none⟩ (.int .i64 ((n : Int) + 1))).heap[g]? = w.heap[g]?) := fun g h1 h2 h3 => (Below.heap_setCell w3 ⟨gA, i, none⟩ _ g h3).trans (HG3.out.block g h1 (by simpa using h2))
    refine ⟨HFB.out, (far _ HPP.b0.lt (by omega) (by omega)).trans HPP.b0, ?_, (far _ HPP.bq.lt (by omega) (by omega)).trans HPP.bq, (far _ HPP.bb.lt (by omega) (by omega)).trans HPP.bb, ?_, (below_met HPP.bel HG3.out (by omega)).setCell (p := ⟨gA, i, none⟩) (by show W.heap.size ≤ gA; omega) _, HPP.hA⟩
    · rw [hst]
      exact (Below.heap_setCell w3 ⟨gA, i, none⟩ _ (W.heap.size + 1) (show W.heap.size + 1 ≠ gA by omega)).trans HM3.out
    · rw [HBU.out, ← atc_set]
      exact HA3.out.set_ i _
  · have HBU := Lib.hid (show bump ns LL i = ns from by unfold bump; rw [e1, e2, if_neg hlt])
    have glt : ¬ ((ns[i] : Nat) : Int) < (LL[i].length : Int) := by omega
    clear e1 e2 hlt hr h hl
    generalize LL[i].length = ll at *
    generalize ns[i] = n at *
    go_enter Try.func9, Try.ntmps9
    go_wp2_with fail
    go_quiet (fail)
    go_wp2_with fail
    go_end0
    exact ⟨rfl, by rw [HBU.out]; exact HP.out.drewN nq⟩
end Go.Proofs.Ytkndnoccenlngaa
