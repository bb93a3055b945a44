/- object.Sort and object.Find. -/
import Derived.Test.YtdgeegfoocoohaaDoorObjS
import Derived.Test.YtdgeegfoocoohaaDoorClone
import Derived.Test.YtdgeegfoocoohaaDoorTailB
import Derived.Test.YtdgeegfoocoohaaDoorGet
import Derived.Test.YtdgeegfoocoohaaDoorObjOA
import Derived.Deep.Cut
namespace Go.Proofs.YtdgeegfoocoohaaDoor
open Go.RowKit
attribute [local go_sem ↓] Go.wp_at_zero Go.wp_at_succ

theorem obj_sizeT : (Tryd.prog.info? 35).map (·.size) = some 9 := by kernel_rfl
/-- What Sort answers: an error and nothing, or all objects, each ID once. -/
def SortPost (w : World) (l : List (ID3 × T)) (e : Ending) (w' : World) : Prop :=
  (∃ ec : Int, ec ≠ 0 ∧ e = .returned (.tuple #[.slice none 0 0, .int .i64 ec]) ∧ Below w.heap.size w w') ∨
  ∃ out A c, e = .returned (.tuple #[.slice A out.length c, .int .i64 0]) ∧ RepE eltO w' (fun b => w.heap.size ≤ b) A out ∧ out.length = l.length ∧ (∀ p ∈ l, p ∈ out) ∧ KO out ∧ Below w.heap.size w w'
theorem KO.one {l : List (ID3 × T)} (h : KO l) {p p' : ID3 × T} (hp : p ∈ l) (hp' : p' ∈ l) (e : p.1 = p'.1) : p = p' := by
  obtain ⟨i, hi, rfl⟩ := List.getElem_of_mem hp
  obtain ⟨j, hj, rfl⟩ := List.getElem_of_mem hp'
  rcases Nat.lt_trichotomy i j with h1 | h1 | h1
  · have := h i j hj h1
    rw [(cmpID_zero _ _).2 e] at this; omega
  · subst h1; rfl
  · have := h j i hi h1
    rw [(cmpID_zero _ _).2 e.symm] at this; omega
theorem clone_rowO {w wr : World} {t : T} {lc mc : Nat} {A1 A2 : Option Addr} {g1 g2 : Nat} {d0 d1 d2 d3 d4 d5 : Value} (h : Cl w wr t lc mc A1 A2 g1 g2 t.list.length t.map.length) (h0 : 0 < t.map.length) :
    ∃ cur n, A2 = some ⟨g2, 0, none⟩ ∧ w.heap.size + 2 ≤ g2 ∧ Blk (set6 wr (w.heap.size + 1) 0 d0 d1 d2 d3 d4 d5) g2 40 cur ∧ cur[1]? = some (.int .i64 n) := by
  obtain ⟨hb1, hb2, hbw, hg1, hg2, hne, hL, hM⟩ := h
  obtain ⟨e, hlo, cur, hb, hz, hi⟩ := hM h0
  obtain ⟨cs, hl, hc, hE⟩ := hi 0 h0
  obtain ⟨r, hr, -, hrep⟩ := hE h0
  obtain ⟨la, lc2, ma, mc2, hv, -⟩ := hrep.inv
  refine ⟨cur, t.map[0].2.kind, e, hlo, (set6_heap (show g2 ≠ w.heap.size + 1 by omega)).trans hb, ?_⟩
  have h1 := hc 1 (by omega)
  rw [Nat.zero_mul, Nat.zero_add] at h1
  rw [h1, hr, agg_list hv]; rfl
/-- A clone, and the row of its map: it lies in new memory, known whole. -/
def RowOf (w : World) (t : T) (w' : World) (ma : Option Addr) : Prop := 0 < t.map.length → ∃ g cur n, ma = some ⟨g, 0, none⟩ ∧ w.heap.size ≤ g ∧ Blk w' g 40 cur ∧ cur[1]? = some (.int .i64 n)
theorem clone_repO (t : T) (w : World) (S : Nat → Prop) (v : Value) (h : RepT w S v t) : Calls Tryd.prog 16 #[v] w fun e w' => ∃ la lc ma mc, e = .returned (.agg #[.int .i64 t.kind, .bool t.bool, .int .i64 t.int, .string t.str, .slice la t.list.length lc, .slice ma t.map.length mc]) ∧ RepT w' (fun b => w.heap.size ≤ b) (.agg #[.int .i64 t.kind, .bool t.bool, .int .i64 t.int, .string t.str, .slice la t.list.length lc, .slice ma t.map.length mc]) t ∧ Below w.heap.size w w' ∧ RowOf w t w' ma := by
  obtain ⟨_, _, _, _, _, hk, hn, hs, hl, hm, _⟩ := h.inv
  refine (clone_full t w S v h).mono ?_
  rintro e w' ⟨A1, lc, A2, mc, g1, g2, wr, rfl, hcl, rfl, h1, h2, h3, h4⟩
  obtain ⟨a, b, c⟩ := clone_new hcl hl hm hk hn hs h1 h2 h3 h4
  refine ⟨_, _, _, _, rfl, a, c, fun h0 => ?_⟩
  obtain ⟨cur, n, e1, e2, e3, e4⟩ := clone_rowO (d0 := .int .i64 t.kind) (d1 := .bool t.bool) (d2 := .int .i64 t.int) (d3 := .string t.str) (d4 := .slice A1 t.list.length lc) (d5 := .slice A2 t.map.length mc) hcl h0
  exact ⟨g2, cur, n, e1, by omega, e3, e4⟩
theorem heap_set9 {w : World} {g b : Nat} {c0 c1 c2 c3 c4 c5 c6 c7 c8 : Value} (h : b ≠ g) : ((((((((((w.setCell ⟨g, 0, none⟩ c0).setCell ⟨g, 1, none⟩ c1).setCell ⟨g, 2, none⟩ c2).setCell ⟨g, 3, none⟩ c3).setCell ⟨g, 4, none⟩ c4).setCell ⟨g, 5, none⟩ c5).setCell ⟨g, 6, none⟩ c6).setCell ⟨g, 7, none⟩ c7).setCell ⟨g, 8, none⟩ c8) : World).heap[b]? = w.heap[b]? := by
  rw [Below.heap_setCell _ _ _ _ h, Below.heap_setCell _ _ _ _ h, Below.heap_setCell _ _ _ _ h, Below.heap_setCell _ _ _ _ h, Below.heap_setCell _ _ _ _ h, Below.heap_setCell _ _ _ _ h, Below.heap_setCell _ _ _ _ h, Below.heap_setCell _ _ _ _ h, Below.heap_setCell _ _ _ _ h]
theorem Blk.keepg {w w' : World} {g ty : Nat} {cs : Array Value} {row : Option Nat} (h : Blk w g ty cs) (hg : w.grownBy w' row) (hne : row ≠ some g) : ∀ i, w'.cell? ⟨g, i, none⟩ = cs[i]? :=
  Blk.cell (show Blk w' g ty cs from (hg.block g h.lt (fun e => hne e.symm)).trans h)
theorem below_grown {w w' : World} {B : Nat} {A : Option Addr} {n c : Nat} (h : w.grownBy w' (Value.ownBlock (.slice A n c))) (ho : ∀ g, Value.ownBlock (.slice A n c) = some g → B ≤ g) (hB : B ≤ w.heap.size) : Below B w w' :=
  ⟨h.os, h.tape, h.output, h.size, fun g hg => h.block g (Nat.lt_of_lt_of_le hg hB) (fun e => by have := ho g e.symm; omega)⟩

set_option maxRecDepth 100000 in
set_option maxHeartbeats 4000000 in
theorem tsortO (l : List (ID3 × T)) (a : Option Addr) (cc : Nat) (w : World) (S : Nat → Prop) (hv : ObjV w) (h : RepE eltO w S a l) (hl : l.length ≤ 1000000) :
    Calls Tryd.prog 6 #[.slice a l.length cc] w (SortPost w l) := by
  have HV := Lib.hid hv
  have HL := Lib.hid h
  clear hv h
  go_enter Tryd.func6, Tryd.ntmps6
  go_wp2_with fail
  go_loopw [4, 11] (fun x y wr => ∃ (q : Nat) (out : List (ID3 × T)) (A : Option Addr) (c : Nat), q ≤ l.length ∧ x = .slice A out.length c ∧ y = .int .i64 q ∧ Hid (out.length = q ∧ (∀ p ∈ l.take q, p ∈ out) ∧ KO out) ∧ Hid (Below w.heap.size w wr) ∧ Hid (OwnE eltO wr w.heap.size (fun b => w.heap.size ≤ b) A c out)) (fun _ y _ => l.length - (intOf y).toNat)
  case atStart => exact ⟨0, [], none, 0, Nat.zero_le _, rfl, rfl, ⟨rfl, by simp, KO.nil⟩, Lib.hid (Below.refl _ _), Lib.hid OwnE.nil⟩
  case round =>
    obtain ⟨q, out, A, c, hq, rfl, rfl, hP, HB, HO⟩ := hrel
    by_cases hlt : q < l.length
    · obtain ⟨b, o, la, lc, ma, mc, rfl, -, hbl, hok, ⟨c0, c1, c2, c3, c4, c5, c6, c7, c8⟩, hr⟩ := RepO.at_ (HL.out.keep HB.out) hlt
      have HX := Lib.hid hr
      have gi1 : (0 : Int) ≤ (q : Int) := by omega
      have gi2 : (q : Int) < (l.length : Int) := by omega
      have hlenb : out.length ≤ 1000000 := by have := hP.out.1; omega
      have HTK := Lib.hid (show ∀ p ∈ l.take (q + 1), p ∈ l.take q ∨ p = l[q] from fun p hp => by
        rw [List.take_succ_eq_append_getElem hlt] at hp
        rcases List.mem_append.1 hp with h | h
        · exact .inl h
        · exact .inr (List.mem_singleton.1 h))
      clear hr
      generalize l[q] = y at *
      obtain ⟨k, x⟩ := y
      simp only at c0 c1 c2 c3 c4 c5 c6 c7 c8 hok
      go_upto_region 5 with fail
      have hb1 : Below wr.heap.size wr (wr.alloc (.cells #[.string k.k, .string k.s, .string k.n, .int .i64 x.kind, .bool x.bool, .int .i64 x.int, .string x.str, .slice la x.list.length lc, .slice ma x.map.length mc] 35)) := Below.new _ _
      have hl1 : Blk (wr.alloc (.cells #[.string k.k, .string k.s, .string k.n, .int .i64 x.kind, .bool x.bool, .int .i64 x.int, .string x.str, .slice la x.list.length lc, .slice ma x.map.length mc] 35)) wr.heap.size 35 #[.string k.k, .string k.s, .string k.n, .int .i64 x.kind, .bool x.bool, .int .i64 x.int, .string x.str, .slice la x.list.length lc, .slice ma x.map.length mc] := Blk.new _ _ _
      obtain ⟨W1, e1⟩ : ∃ z, z = wr.alloc (.cells #[.string k.k, .string k.s, .string k.n, .int .i64 x.kind, .bool x.bool, .int .i64 x.int, .string x.str, .slice la x.list.length lc, .slice ma x.map.length mc] 35) := ⟨_, rfl⟩
      rw [← e1] at hb1 hl1
      rw [← e1]
      have HNE := Lib.hid (HO.out.ne (k := wr.heap.size) (.inr (Nat.le_refl _)))
      have HB1 := Lib.hid (Below.next HB.out hb1)
      have HO1 := Lib.hid (HO.out.keep hb1)
      have HL1 := Lib.hid hl1
      have HX1 := Lib.hid (HX.out.keep hb1)
      clear c0 c1 c2 c3 c4 c5 c6 c7 c8 e1 hb1 hl1 HB HO HX
      have k1 := HL1.out.cell
      go_wp2_with fail
      refine (searchO out k A c W1 _ (HV.out.keep HB1.out) HO1.out.rep (by omega) hP.out.2.2).mono ?_
      rintro e w2 ⟨i, f, rfl, hs, hb⟩
      have HS := Lib.hid hs
      have HB2 := Lib.hid (Below.next HB1.out hb)
      have HO2 := Lib.hid (HO1.out.keep hb)
      have HL2 := Lib.hid (HL1.out.keep hb)
      have HX2 := Lib.hid (HX1.out.keep hb)
      clear hs hb k1 HB1 HO1 HL1 HX1
      have k2 := HL2.out.cell
      cases f
      · go_upto_region 8 with fail
        have hi := HS.out.1
        refine wp_region_tail (S := (fun w' => ∀ i, w'.cell? ⟨wr.heap.size, i, none⟩ = (#[.string k.k, .string k.s, .string k.n, .int .i64 x.kind, .bool x.bool, .int .i64 x.int, .string x.str, .slice la x.list.length lc, .slice ma x.map.length mc] : Array Value)[i]?)) 10 (by kernel_rfl) (by kernel_rfl) (by exact (HL2.out.keep (Below.refl _ _).drew).cell) (fun hHeld => ?_)
        simp only [List.dropLast]
        refine wpAnyH_take (i := 0) (v := ?vm1_0) (by conv => lhs; simp only [List.getElem?_toArray, List.getElem?_cons_succ, List.getElem?_cons_zero]) (by kernel_rfl) (by kernel_rfl) (by kernel_rfl) (by exact fun _ _ _ h => h) (Or.inl ⟨by rfl, ?hym1_0⟩) (by assumption) ?_
        case hym1_0 => (intro w0 hSw; (try dsimp only at hSw); go_simp; try with_reducible rfl)
        try simp only [Act.put, List.setIfInBounds_toArray, List.set_cons_zero, List.set_cons_succ]
        refine wpAnyH_take (i := 1) (v := ?vm1_1) (by conv => lhs; simp only [List.getElem?_toArray, List.getElem?_cons_succ, List.getElem?_cons_zero]) (by kernel_rfl) (by kernel_rfl) (by kernel_rfl) (by exact fun _ _ _ h => h) (Or.inl ⟨by rfl, ?hym1_1⟩) (by assumption) ?_
        case hym1_1 => (intro w0 hSw; (try dsimp only at hSw); go_simp; try with_reducible rfl)
        try simp only [Act.put, List.setIfInBounds_toArray, List.set_cons_zero, List.set_cons_succ]
        refine wpAnyH_take (i := 2) (v := ?vm1_2) (by conv => lhs; simp only [List.getElem?_toArray, List.getElem?_cons_succ, List.getElem?_cons_zero]) (by kernel_rfl) (by kernel_rfl) (by kernel_rfl) (by exact fun _ _ _ h => h) (Or.inl ⟨by rfl, ?hym1_2⟩) (by assumption) ?_
        case hym1_2 => (intro w0 hSw; (try dsimp only at hSw); go_simp; try with_reducible rfl)
        try simp only [Act.put, List.setIfInBounds_toArray, List.set_cons_zero, List.set_cons_succ]
        refine wpAnyH_take (i := 3) (v := ?vm1_3) (by conv => lhs; simp only [List.getElem?_toArray, List.getElem?_cons_succ, List.getElem?_cons_zero]) (by kernel_rfl) (by kernel_rfl) (by kernel_rfl) (by exact fun _ _ _ h => h) (Or.inl ⟨by rfl, ?hym1_3⟩) (by assumption) ?_
        case hym1_3 => (intro w0 hSw; (try dsimp only at hSw); go_simp; try with_reducible rfl)
        try simp only [Act.put, List.setIfInBounds_toArray, List.set_cons_zero, List.set_cons_succ]
        refine wpAnyH_take (i := 4) (v := ?vm1_4) (by conv => lhs; simp only [List.getElem?_toArray, List.getElem?_cons_succ, List.getElem?_cons_zero]) (by kernel_rfl) (by kernel_rfl) (by kernel_rfl) (by exact fun _ _ _ h => h) (Or.inl ⟨by rfl, ?hym1_4⟩) (by assumption) ?_
        case hym1_4 => (intro w0 hSw; (try dsimp only at hSw); go_simp; try with_reducible rfl)
        try simp only [Act.put, List.setIfInBounds_toArray, List.set_cons_zero, List.set_cons_succ]
        refine wpAnyH_take (i := 5) (v := ?vm1_5) (by conv => lhs; simp only [List.getElem?_toArray, List.getElem?_cons_succ, List.getElem?_cons_zero]) (by kernel_rfl) (by kernel_rfl) (by kernel_rfl) (by exact fun _ _ _ h => h) (Or.inl ⟨by rfl, ?hym1_5⟩) (by assumption) ?_
        case hym1_5 => (intro w0 hSw; (try dsimp only at hSw); go_simp; try with_reducible rfl)
        try simp only [Act.put, List.setIfInBounds_toArray, List.set_cons_zero, List.set_cons_succ]
        refine wpAnyH_ready (rs := [6]) (by kernel_rfl) (by simp) ?_
        refine AllReadyH.cons (by conv => lhs; simp only [List.getElem?_toArray, List.getElem?_cons_succ, List.getElem?_cons_zero]) (fun K hK => ?_) AllReadyH.nil
        go_simp
        refine (clone_any x _ _ _ (HX2.out.keep (by exact (Below.refl _ _).drew))).mono ?_
        rintro e w3 ⟨v3, rfl, hr3, hb3⟩
        obtain ⟨qa, qc, qm, qn, rfl, -⟩ := hr3.inv
        have HW3 := Lib.hid (Below.next ((Below.refl w2.heap.size w2).drew) hb3)
        have HR3 := Lib.hid (hr3.weak (S' := fun b => w2.heap.size ≤ b) (fun b h _ => h))
        clear hr3 hb3
        have HB3 := Lib.hid (Below.next HB2.out HW3.out); have HO3 := Lib.hid (HO2.out.keep HW3.out)
        go_wp2_with fail
        refine hK.out _ _ (by exact (HL2.out.keep HW3.out).cell) (fun hHeld => ?_)
        clear hK K
        try simp only [Act.put, List.setIfInBounds_toArray, List.set_cons_zero, List.set_cons_succ]
        refine wpAnyH_take (i := 7) (v := ?vm2_7) (by conv => lhs; simp only [List.getElem?_toArray, List.getElem?_cons_succ, List.getElem?_cons_zero]) (by kernel_rfl) (by kernel_rfl) (by kernel_rfl) (by exact fun _ _ _ h => h) (Or.inl ⟨by rfl, ?hym2_7⟩) (by assumption) ?_
        case hym2_7 => (intro w0 hSw; (try dsimp only at hSw); go_simp; try with_reducible rfl)
        try simp only [Act.put, List.setIfInBounds_toArray, List.set_cons_zero, List.set_cons_succ]
        refine wpAnyH_ready (rs := [8]) (by kernel_rfl) (by simp) ?_
        refine AllReadyH.cons (by conv => lhs; simp only [List.getElem?_toArray, List.getElem?_cons_succ, List.getElem?_cons_zero]) (fun K hK => ?_) AllReadyH.nil
        go_simp
        have HR4 := Lib.hid (HR3.out.keep (Below.new w3 (.cells #[.string k.k, .string k.s, .string k.n, .int .i64 x.kind, .bool x.bool, .int .i64 x.int, .string x.str, .slice qa x.list.length qc, .slice qm x.map.length qn] 35)))
        have HO4 := Lib.hid (HO3.out.keep (Below.new w3 (.cells #[.string k.k, .string k.s, .string k.n, .int .i64 x.kind, .bool x.bool, .int .i64 x.int, .string x.str, .slice qa x.list.length qc, .slice qm x.map.length qn] 35)))
        have HB4 := Lib.hid (HB3.out.alloc HB3.out.size (.cells #[.string k.k, .string k.s, .string k.n, .int .i64 x.kind, .bool x.bool, .int .i64 x.int, .string x.str, .slice qa x.list.length qc, .slice qm x.map.length qn] 35))
        have HL4 := Lib.hid (Blk.new w3 35 #[.string k.k, .string k.s, .string k.n, .int .i64 x.kind, .bool x.bool, .int .i64 x.int, .string x.str, .slice qa x.list.length qc, .slice qm x.map.length qn])
        have HW4 := Lib.hid (HW3.out.alloc HW3.out.size (.cells #[.string k.k, .string k.s, .string k.n, .int .i64 x.kind, .bool x.bool, .int .i64 x.int, .string x.str, .slice qa x.list.length qc, .slice qm x.map.length qn] 35))
        refine hK.out _ _ (by exact (HL2.out.keep HW4.out).cell) (fun hHeld => ?_)
        clear hK K
        try simp only [Act.put, List.setIfInBounds_toArray, List.set_cons_zero, List.set_cons_succ]
        refine wpAnyH_ready (rs := [9]) (by kernel_rfl) (by simp) ?_
        refine AllReadyH.cons (by conv => lhs; simp only [List.getElem?_toArray, List.getElem?_cons_succ, List.getElem?_cons_zero]) (fun K hK => ?_) AllReadyH.nil
        go_simp
        refine (own_insertO (r := [.int .i64 x.kind, .bool x.bool, .int .i64 x.int, .string x.str, .slice qa x.list.length qc, .slice qm x.map.length qn]) HO4.out hi (by omega) HB4.out.size hok HL4.out (HO3.out.ne (.inr (Nat.le_refl _))) (HR4.out.weak (fun b hb _ => ⟨by have h2 : w2.heap.size ≤ b := hb; have := HB2.out.size; omega, HO2.out.ne (.inr hb)⟩))).mono ?_
        rintro e w5 ⟨A5, c5, rfl, hO5, hgr⟩
        have HO5 := Lib.hid hO5
        have HB5 := Lib.hid (HB4.out.trans (below_grown hgr (fun g e => (HO4.out.own g e).1) HB4.out.size))
        clear hO5
        have HK5 := Lib.hid (Blk.keepg (HL2.out.keep HW4.out) hgr HNE.out)
        go_wp2_with fail
        refine hK.out _ _ (by exact HK5.out) (fun hHeld => ?_)
        clear hK K
        try simp only [Act.put, List.setIfInBounds_toArray, List.set_cons_zero, List.set_cons_succ]
        refine wpAnyH_done (by kernel_rfl) ?_ _
        refine LastQ.step (by conv => lhs; simp only [List.getElem?_toArray, List.getElem?_cons_succ, List.getElem?_cons_zero]) (fun K hK => ?_)
        go_simp
        refine hK.out _ _ ?_
        clear hK K
        try simp only [Act.put, List.setIfInBounds_toArray, List.set_cons_zero, List.set_cons_succ]
        go_wp2_with fail
        go_roundw
        case rel => exact ⟨q + 1, insO out i (k, x), A5, c5, by omega, rfl, by go_num, ⟨by rw [insO_len hi, hP.out.1], fun p hp => insO_mem.2 (by rcases HTK.out p hp with h | h; exact .inl (hP.out.2.1 p h); exact .inr h), HS.out.KO hP.out.2.2 rfl⟩, HB5, HO5⟩
        case measure => simp [intOf]; omega
      · go_wp2_with fail
        go_ret2
        exact .inl ⟨13, by decide, rfl, HB2.out⟩
    · obtain rfl : q = l.length := by omega
      have HP := Lib.hid hP.out
      clear hP
      go_wp2_with fail
      go_ret2
      refine .inr ⟨out, A, c, rfl, HO.out.rep.weak (fun b hb _ => by rcases hb with hb | hb <;> exact hb), HP.out.1, fun p hp => HP.out.2.1 p (by rw [List.take_length]; exact hp), HP.out.2.2, HB.out⟩

/-- What Find answers. -/
def FindPost (w : World) (l : List (ID3 × T)) (id : ID3) (e : Ending) (w' : World) : Prop :=
  (∃ p la lc ma mc, p ∈ l ∧ p.1 = id ∧ e = .returned (.tuple #[.agg #[.string id.k, .string id.s, .string id.n, .int .i64 p.2.kind, .bool p.2.bool, .int .i64 p.2.int, .string p.2.str, .slice la p.2.list.length lc, .slice ma p.2.map.length mc], .bool true]) ∧ RepT w' (fun b => w.heap.size ≤ b) (.agg #[.int .i64 p.2.kind, .bool p.2.bool, .int .i64 p.2.int, .string p.2.str, .slice la p.2.list.length lc, .slice ma p.2.map.length mc]) p.2 ∧ Below w.heap.size w w' ∧ RowOf w p.2 w' ma) ∨
  ((∀ p ∈ l, p.1 ≠ id) ∧ e = .returned (.tuple #[.agg #[.string ⟨#[]⟩, .string ⟨#[]⟩, .string ⟨#[]⟩, .int .i64 0, .bool false, .int .i64 0, .string ⟨#[]⟩, .slice none 0 0, .slice none 0 0], .bool false]) ∧ Below w.heap.size w w')

set_option maxRecDepth 100000 in
set_option maxHeartbeats 8000000 in
theorem tfindO (l : List (ID3 × T)) (id : ID3) (a : Option Addr) (cc : Nat) (w : World) (S : Nat → Prop) (h : RepE eltO w S a l) (hl : l.length ≤ 1000000) :
    Calls Tryd.prog 7 #[.slice a l.length cc, .agg #[.string id.k, .string id.s, .string id.n]] w (FindPost w l id) := by
  have HL := Lib.hid h
  have hb0 : Below w.heap.size w ((w.alloc (.cells #[.string id.k, .string id.s, .string id.n] 29)).alloc (.cells #[.string ⟨#[]⟩, .string ⟨#[]⟩, .string ⟨#[]⟩, .int .i64 0, .bool false, .int .i64 0, .string ⟨#[]⟩, .slice none 0 0, .slice none 0 0] 35)) := (Below.new _ _).alloc (by simp) _
  have hl1 : Blk ((w.alloc (.cells #[.string id.k, .string id.s, .string id.n] 29)).alloc (.cells #[.string ⟨#[]⟩, .string ⟨#[]⟩, .string ⟨#[]⟩, .int .i64 0, .bool false, .int .i64 0, .string ⟨#[]⟩, .slice none 0 0, .slice none 0 0] 35)) w.heap.size 29 #[.string id.k, .string id.s, .string id.n] := (Blk.new _ _ _).alloc _
  have hl2 : Blk ((w.alloc (.cells #[.string id.k, .string id.s, .string id.n] 29)).alloc (.cells #[.string ⟨#[]⟩, .string ⟨#[]⟩, .string ⟨#[]⟩, .int .i64 0, .bool false, .int .i64 0, .string ⟨#[]⟩, .slice none 0 0, .slice none 0 0] 35)) (w.heap.size + 1) 35 #[.string ⟨#[]⟩, .string ⟨#[]⟩, .string ⟨#[]⟩, .int .i64 0, .bool false, .int .i64 0, .string ⟨#[]⟩, .slice none 0 0, .slice none 0 0] := Blk.new_at _ _ _ (by simp)
  obtain ⟨W0, e0⟩ : ∃ z, z = ((w.alloc (.cells #[.string id.k, .string id.s, .string id.n] 29)).alloc (.cells #[.string ⟨#[]⟩, .string ⟨#[]⟩, .string ⟨#[]⟩, .int .i64 0, .bool false, .int .i64 0, .string ⟨#[]⟩, .slice none 0 0, .slice none 0 0] 35)) := ⟨_, rfl⟩
  have hs0 : W0.heap.size = w.heap.size + 2 := by rw [e0]; simp
  rw [← e0] at hb0 hl1 hl2
  have E0 := Lib.hid e0
  have HB0 := Lib.hid hb0
  have HL1 := Lib.hid hl1
  have HL2 := Lib.hid hl2
  clear h e0 hb0 hl1 hl2
  go_enter Tryd.func7, Tryd.ntmps7
  go_wp2_with fail
  rw [← E0.out]
  clear E0
  go_loopw [10] (fun y wr => ∃ q : Nat, q ≤ l.length ∧ y = .int .i64 q ∧ Hid (∀ p ∈ l.take q, p.1 ≠ id) ∧ Hid (Below W0.heap.size W0 wr)) (fun y _ => l.length - (intOf y).toNat)
  case atStart => exact ⟨0, Nat.zero_le _, rfl, Lib.hid (by simp), Lib.hid (Below.refl _ _)⟩
  case round =>
    obtain ⟨q, hq, rfl, hP, HB⟩ := hrel
    have HBW := Lib.hid (Below.next HB0.out HB.out)
    have hsz := HB.out.size
    by_cases hlt : q < l.length
    · obtain ⟨b, o, la, lc, ma, mc, rfl, -, hbl, hok, ⟨c0, c1, c2, c3, c4, c5, c6, c7, c8⟩, hr⟩ := RepO.at_ (HL.out.keep HBW.out) hlt
      have HX := Lib.hid hr
      have gi1 : (0 : Int) ≤ (q : Int) := by omega
      have gi2 : (q : Int) < (l.length : Int) := by omega
      have HMEM := Lib.hid (List.getElem_mem hlt)
      have HTK := Lib.hid (show ∀ p ∈ l.take (q + 1), p ∈ l.take q ∨ p = l[q] from fun p hp => by
        rw [List.take_succ_eq_append_getElem hlt] at hp
        rcases List.mem_append.1 hp with h | h
        · exact .inl h
        · exact .inr (List.mem_singleton.1 h))
      clear hr
      generalize l[q] = y at *
      obtain ⟨k, x⟩ := y
      simp only at c0 c1 c2 c3 c4 c5 c6 c7 c8 hok
      go_upto_region 4 with fail
      have hb1 : Below wr.heap.size wr (wr.alloc (.cells #[.string k.k, .string k.s, .string k.n, .int .i64 x.kind, .bool x.bool, .int .i64 x.int, .string x.str, .slice la x.list.length lc, .slice ma x.map.length mc] 35)) := Below.new _ _
      have hl1 : Blk (wr.alloc (.cells #[.string k.k, .string k.s, .string k.n, .int .i64 x.kind, .bool x.bool, .int .i64 x.int, .string x.str, .slice la x.list.length lc, .slice ma x.map.length mc] 35)) wr.heap.size 35 #[.string k.k, .string k.s, .string k.n, .int .i64 x.kind, .bool x.bool, .int .i64 x.int, .string x.str, .slice la x.list.length lc, .slice ma x.map.length mc] := Blk.new _ _ _
      obtain ⟨W1, e1⟩ : ∃ z, z = wr.alloc (.cells #[.string k.k, .string k.s, .string k.n, .int .i64 x.kind, .bool x.bool, .int .i64 x.int, .string x.str, .slice la x.list.length lc, .slice ma x.map.length mc] 35) := ⟨_, rfl⟩
      rw [← e1] at hb1 hl1
      rw [← e1]
      have HB1 := Lib.hid (HB.out.trans (hb1.mono HB.out.size))
      have HBW1 := Lib.hid (Below.next HBW.out hb1)
      have HI1 := Lib.hid (HL1.out.keep HB1.out)
      have HZ1 := Lib.hid (HL2.out.keep HB1.out)
      have HK1 := Lib.hid hl1
      have HX1 := Lib.hid (HX.out.keep hb1)
      have hsz1 := hb1.size
      clear c0 c1 c2 c3 c4 c5 c6 c7 c8 e1 hb1 hl1 HX HBW HB
      have k1 := HK1.out.cell
      have i1 := HI1.out.cell
      by_cases hid : k = id
      · subst hid
        go_upto_region 5 with fail
        have hne : wr.heap.size ≠ w.heap.size + 1 := by omega
        clear k1 i1
        refine wp_region_tail (S := (fun w' => ∀ i, w'.cell? ⟨wr.heap.size, i, none⟩ = (#[.string k.k, .string k.s, .string k.n, .int .i64 x.kind, .bool x.bool, .int .i64 x.int, .string x.str, .slice la x.list.length lc, .slice ma x.map.length mc] : Array Value)[i]?)) 7 (by kernel_rfl) (by kernel_rfl) (by exact (HK1.out.keep (Below.refl _ _).drew).cell) (fun hHeld => ?_)
        simp only [List.dropLast]
        refine wpAnyH_take (i := 0) (v := ?vm5_0) (by conv => lhs; simp only [List.getElem?_toArray, List.getElem?_cons_succ, List.getElem?_cons_zero]) (by kernel_rfl) (by kernel_rfl) (by kernel_rfl) (by exact fun _ _ _ h => h) (Or.inl ⟨by rfl, ?hym5_0⟩) (by assumption) ?_
        case hym5_0 => (intro w0 hSw; (try dsimp only at hSw); go_simp; try with_reducible rfl)
        try simp only [Act.put, List.setIfInBounds_toArray, List.set_cons_zero, List.set_cons_succ]
        refine wpAnyH_take (i := 1) (v := ?vm5_1) (by conv => lhs; simp only [List.getElem?_toArray, List.getElem?_cons_succ, List.getElem?_cons_zero]) (by kernel_rfl) (by kernel_rfl) (by kernel_rfl) (by exact fun _ _ _ h => h) (Or.inl ⟨by rfl, ?hym5_1⟩) (by assumption) ?_
        case hym5_1 => (intro w0 hSw; (try dsimp only at hSw); go_simp; try with_reducible rfl)
        try simp only [Act.put, List.setIfInBounds_toArray, List.set_cons_zero, List.set_cons_succ]
        refine wpAnyH_take (i := 2) (v := ?vm5_2) (by conv => lhs; simp only [List.getElem?_toArray, List.getElem?_cons_succ, List.getElem?_cons_zero]) (by kernel_rfl) (by kernel_rfl) (by kernel_rfl) (by exact fun _ _ _ h => h) (Or.inl ⟨by rfl, ?hym5_2⟩) (by assumption) ?_
        case hym5_2 => (intro w0 hSw; (try dsimp only at hSw); go_simp; try with_reducible rfl)
        try simp only [Act.put, List.setIfInBounds_toArray, List.set_cons_zero, List.set_cons_succ]
        refine wpAnyH_take (i := 3) (v := ?vm5_3) (by conv => lhs; simp only [List.getElem?_toArray, List.getElem?_cons_succ, List.getElem?_cons_zero]) (by kernel_rfl) (by kernel_rfl) (by kernel_rfl) (by exact fun _ _ _ h => h) (Or.inl ⟨by rfl, ?hym5_3⟩) (by assumption) ?_
        case hym5_3 => (intro w0 hSw; (try dsimp only at hSw); go_simp; try with_reducible rfl)
        try simp only [Act.put, List.setIfInBounds_toArray, List.set_cons_zero, List.set_cons_succ]
        refine wpAnyH_ready (rs := [4]) (by kernel_rfl) (by simp) ?_
        refine AllReadyH.cons (by conv => lhs; simp only [List.getElem?_toArray, List.getElem?_cons_succ, List.getElem?_cons_zero]) (fun K hK => ?_) AllReadyH.nil
        go_simp
        refine (clone_repO x _ _ _ (HX1.out.keep (by exact (Below.refl _ _).drew))).mono ?_
        rintro e w3 ⟨qa, qc, qm, qn, rfl, hr3, hb3, hrow⟩
        have HW3 := Lib.hid (Below.next ((Below.refl W1.heap.size W1).drew) hb3)
        have HR3 := Lib.hid (hr3.weak (S' := fun b => W1.heap.size ≤ b) (fun b h _ => h))
        have HROW := Lib.hid hrow
        clear hr3 hb3 hrow
        have HB3 := Lib.hid (Below.next HBW1.out HW3.out); have HZ3 := Lib.hid (HZ1.out.keep HW3.out); have HK3 := Lib.hid (HK1.out.keep HW3.out)
        have zk := HZ3.out.cell; have zf := HZ3.out.frozen; have zl := HZ3.out.lt
        go_wp2_with fail
        refine hK.out _ _ (by exact HK3.out.cell) (fun hHeld => ?_)
        clear hK K
        try simp only [Act.put, List.setIfInBounds_toArray, List.set_cons_zero, List.set_cons_succ]
        refine wpAnyH_take (i := 5) (v := ?vm6_5) (by conv => lhs; simp only [List.getElem?_toArray, List.getElem?_cons_succ, List.getElem?_cons_zero]) (by kernel_rfl) (by kernel_rfl) (by kernel_rfl) (by exact fun _ _ _ h => h) (Or.inl ⟨by rfl, ?hym6_5⟩) (by assumption) ?_
        case hym6_5 => (intro w0 hSw; (try dsimp only at hSw); go_simp; try with_reducible rfl)
        try simp only [Act.put, List.setIfInBounds_toArray, List.set_cons_zero, List.set_cons_succ]
        refine wpAnyH_ready (rs := [6]) (by kernel_rfl) (by simp) ?_
        refine AllReadyH.cons (by conv => lhs; simp only [List.getElem?_toArray, List.getElem?_cons_succ, List.getElem?_cons_zero]) (fun K hK => ?_) AllReadyH.nil
        go_simp
        refine hK.out _ _ (by exact (fun i => by simp only [cell_far hne]; exact HK3.out.cell i)) (fun hHeld => ?_)
        clear hK K
        try simp only [Act.put, List.setIfInBounds_toArray, List.set_cons_zero, List.set_cons_succ]
        refine wpAnyH_done (by kernel_rfl) ?_ _
        refine LastQ.step (by conv => lhs; simp only [List.getElem?_toArray, List.getElem?_cons_succ, List.getElem?_cons_zero]) (fun K hK => ?_)
        go_simp
        refine hK.out _ _ ?_
        clear hK K
        try simp only [Act.put, List.setIfInBounds_toArray, List.set_cons_zero, List.set_cons_succ]
        go_wp2_with fail
        refine ret_cell2 (t := 35) (cs := #[.string k.k, .string k.s, .string k.n, .int .i64 x.kind, .bool x.bool, .int .i64 x.int, .string x.str, .slice qa x.list.length qc, .slice qm x.map.length qn]) rfl rfl rfl (blk_set9 HZ3.out) Tryd.underlying35 obj_size rfl (.inl ⟨(k, x), qa, qc, qm, qn, HMEM.out, rfl, rfl, ?_, bel_set9 HB3.out (by omega), fun h0 => by obtain ⟨g, cur, n, e1, e2, e3, e4⟩ := HROW.out h0; exact ⟨g, cur, n, e1, by have h2 : W1.heap.size ≤ g := e2; omega, (heap_set9 (by have h2 : W1.heap.size ≤ g := e2; omega)).trans e3, e4⟩⟩)
        exact HR3.out.mono (fun b hb _ => by have h2 : W1.heap.size ≤ b := hb; omega) (fun b o hb _ => far_set9 (by have h2 : W1.heap.size ≤ b := hb; omega))
      · have hx : (∃ g1 : (k.k.toList == id.k.toList) = false, True) ∨ (∃ (g1 : (k.k.toList == id.k.toList) = true) (g2 : (k.s.toList == id.s.toList) = false), True) ∨ (∃ (g1 : (k.k.toList == id.k.toList) = true) (g2 : (k.s.toList == id.s.toList) = true) (g3 : (k.n.toList == id.n.toList) = false), True) := by
          rw [keq_iff, keq_iff, keq_iff]
          by_cases h1 : k.k = id.k
          · by_cases h2 : k.s = id.s
            · by_cases h3 : k.n = id.n
              · exact absurd (by cases k; cases id; simp_all) hid
              · exact .inr (.inr ⟨decide_eq_true h1, decide_eq_true h2, decide_eq_false h3, trivial⟩)
            · exact .inr (.inl ⟨decide_eq_true h1, decide_eq_false h2, trivial⟩)
          · exact .inl ⟨decide_eq_false h1, trivial⟩
        have HNE := Lib.hid hid
        clear hid
        rcases hx with ⟨g1, -⟩ | ⟨g1, g2, -⟩ | ⟨g1, g2, g3, -⟩
        all_goals
          go_wp2_with fail
          go_roundw
          case rel => exact ⟨q + 1, by omega, by go_num, Lib.hid (fun p hp => by rcases HTK.out p hp with h | h; exact hP.out p h; rw [h]; exact HNE.out), HB1⟩
          case measure => simp [intOf]; omega
    · obtain rfl : q = l.length := by omega
      have HZ1 := Lib.hid (HL2.out.keep HB.out)
      have zk := HZ1.out.cell; have zf := HZ1.out.frozen; have zl := HZ1.out.lt
      go_wp2_with fail
      refine ret_cell2 (t := 35) (cs := #[.string ⟨#[]⟩, .string ⟨#[]⟩, .string ⟨#[]⟩, .int .i64 0, .bool false, .int .i64 0, .string ⟨#[]⟩, .slice none 0 0, .slice none 0 0]) rfl rfl rfl (blk_set9 HZ1.out) Tryd.underlying35 obj_size rfl (.inr ⟨fun p hp => hP.out p (by rw [List.take_length]; exact hp), rfl, bel_set9 HBW.out (by omega)⟩)
end Go.Proofs.YtdgeegfoocoohaaDoor
