/- mizzenref03.All and Diff. -/
import Derived.Test.YthkkmnmejciomaaROver
import Derived.Test.YthkkmnmejciomaaDiff
import Derived.Test.YthkkmnmejciomaaRefNB
namespace Go.Proofs.Ythkkmnmejciomaa
open Go.RowKit
attribute [local go_sem ↓] Go.wp_at_zero Go.wp_at_succ

/-- An empty map's box, made just now. -/
theorem ROut.start0 {S : Nat → Prop} {w W0 : World} {B G : Nat} (hb : Blk W0 G 25 #[.int .i64 5, .bool false, .int .i64 0, .string ⟨#[]⟩, .slice none 0 0, .slice none 0 0]) (hw : Below w.heap.size w W0) (h1 : w.heap.size ≤ G) (h2 : G < B) (h3 : B ≤ W0.heap.size) : ROut S w W0 B G (mkMap []) none 0 none 0 :=
  (show RRow S w W0 B G none 0 [] from ⟨hb, OwnE.nil, hw, h1, h2, h3⟩).out (by simp)

theorem cell_keep {w w2 : World} {b o : Nat} {v : Value} (h : b < w.heap.size ∧ w.cell? ⟨b, o, none⟩ = some v) (hb : Below w.heap.size w w2) : w2.cell? ⟨b, o, none⟩ = some v := (hb.cell (p := ⟨b, o, none⟩) h.1).trans h.2

set_option maxRecDepth 100000 in
set_option maxHeartbeats 8000000 in
theorem rall {n : Nat} (l : List T) (hl : ∀ x ∈ l, Neat n x) (hn : n * (l.length + 1) ≤ 1000000) (hlen : l.length ≤ 1000000) (a : Option Addr) (cc : Nat) (w : World) (S : Nat → Prop) (h : RepL w S a l) :
    Calls Try.prog 10 #[.slice a l.length cc] w (ValPostS S w (allT l)) := by
  have HL := Lib.hid (h.mono (w' := w) (S' := fun b => S b ∧ b < w.heap.size) (fun _ h1 h => ⟨h1, h⟩) (fun _ _ _ _ => rfl))
  have HNE := Lib.hid (allT_neat hl)
  have HLE := Lib.hid hl
  clear h hl
  have hB1 : Blk ((w.alloc (.cells #[.int .i64 0, .bool false, .int .i64 0, .string ⟨#[]⟩, .slice none 0 0, .slice none 0 0] 25)).alloc (.cells #[.int .i64 5, .bool false, .int .i64 0, .string ⟨#[]⟩, .slice none 0 0, .slice none 0 0] 25)) (w.heap.size) 25 #[.int .i64 0, .bool false, .int .i64 0, .string ⟨#[]⟩, .slice none 0 0, .slice none 0 0] := ((Blk.new _ _ _).alloc _)
  have hB2 : Blk ((w.alloc (.cells #[.int .i64 0, .bool false, .int .i64 0, .string ⟨#[]⟩, .slice none 0 0, .slice none 0 0] 25)).alloc (.cells #[.int .i64 5, .bool false, .int .i64 0, .string ⟨#[]⟩, .slice none 0 0, .slice none 0 0] 25)) (w.heap.size + 1) 25 #[.int .i64 5, .bool false, .int .i64 0, .string ⟨#[]⟩, .slice none 0 0, .slice none 0 0] := (Blk.new_at _ _ _ (by simp))
  have hBW : Below w.heap.size w ((w.alloc (.cells #[.int .i64 0, .bool false, .int .i64 0, .string ⟨#[]⟩, .slice none 0 0, .slice none 0 0] 25)).alloc (.cells #[.int .i64 5, .bool false, .int .i64 0, .string ⟨#[]⟩, .slice none 0 0, .slice none 0 0] 25)) := (Below.new _ _).alloc (by simp) _
  obtain ⟨W0, e0⟩ : ∃ x, x = ((w.alloc (.cells #[.int .i64 0, .bool false, .int .i64 0, .string ⟨#[]⟩, .slice none 0 0, .slice none 0 0] 25)).alloc (.cells #[.int .i64 5, .bool false, .int .i64 0, .string ⟨#[]⟩, .slice none 0 0, .slice none 0 0] 25)) := ⟨_, rfl⟩
  rw [← e0] at hB1 hB2 hBW
  have hs0 : W0.heap.size = w.heap.size + 2 := by rw [e0]; simp
  have E0 := Lib.hid e0; have L1 := Lib.hid hB1; have L2 := Lib.hid hB2; have HW0 := Lib.hid hBW
  clear e0 hB1 hB2 hBW
  have HR0 := Lib.hid (ROut.start0 (S := S) (B := w.heap.size + 2) (G := w.heap.size + 1) L2.out HW0.out (by omega) (by omega) (by omega))
  go_enter Try.func10, Try.ntmps10
  go_wp2_with fail
  rw [← E0.out]
  clear E0 L2
  go_loopw [4] (fun x wr => ∃ (q : Nat) (M : T) (xa : Option Addr) (xc : Nat) (xm : Option Addr) (xn : Nat), q ≤ l.length ∧ x = .int .i64 q ∧ Hid (M = allT (l.take q)) ∧ Hid (Below (w.heap.size + 1) W0 wr) ∧ Hid (ROut S w wr (w.heap.size + 2) (w.heap.size + 1) M xa xc xm xn)) (fun x _ => l.length - (intOf x).toNat)
  case atStart => exact ⟨0, _, _, _, _, _, Nat.zero_le _, rfl, rfl, Lib.hid (Below.refl _ _), HR0⟩
  case round =>
    obtain ⟨q, M, xa, xc, xm, xn, hq, rfl, hM, HBL, HOT⟩ := hrel
    clear HR0
    have L1_0 := Lib.hid (L1.out.below HBL.out (by omega))
    have V1_L := Lib.hid (HL.out.keep HOT.out.bel)
    have HW1 := Lib.hid HOT.out.bel
    have k1_0 := L1_0.out.cell; have l1_0 := L1_0.out.lt
    have kO := HOT.out.box.cell; have lO := HOT.out.box.lt; have htop := HOT.out.top
    by_cases hlt : q < l.length
    · obtain ⟨b, bo, ya, yc, ym, yn, rfl, -, hblk, ⟨c0, c1, c2, c3, c4, c5⟩, hr⟩ := V1_L.out.at_ hlt
      have HX := Lib.hid hr; clear hr
      have gi1 : (0 : Int) ≤ (q : Int) := by omega
      have gi2 : (q : Int) < (l.length : Int) := by omega
      have HNX := Lib.hid (show l[q].over M = allT (l.take (q + 1)) by rw [List.take_succ_eq_append_getElem hlt, allT_snoc, hM.out])
      have HN1 := Lib.hid (show Neat (n * q) M by rw [hM.out]; exact HNE.out q hq)
      have HN2 := Lib.hid (HLE.out l[q] (List.getElem_mem hlt))
      have hnn : n * q + n ≤ 1000000 := by
        have : n * (q + 1) ≤ n * (l.length + 1) := Nat.mul_le_mul_left _ (by omega)
        rw [Nat.mul_succ] at this
        omega
      generalize l[q] = x at *
      have HOV := Lib.hid (fun va vb w2 S2 h1 h2 => rover (na := n * q) (nb := n) hnn x M HN1.out HN2.out va vb w2 S2 h1 h2)
      clear HN1 HN2 hM hnn
      obtain ⟨y, hy⟩ : ∃ y, y = x.over M := ⟨_, rfl⟩
      rw [← hy] at HNX HOV
      clear hy
      go_wp2_with fail
      have HI0_ := Lib.hid (HOT.out.box)
      have HI1_ := Lib.hid ((⟨hblk, c0⟩ : _ ∧ _))
      have HI2_ := Lib.hid ((⟨hblk, c1⟩ : _ ∧ _))
      have HI3_ := Lib.hid ((⟨hblk, c2⟩ : _ ∧ _))
      have HI4_ := Lib.hid ((⟨hblk, c3⟩ : _ ∧ _))
      have HI5_ := Lib.hid ((⟨hblk, c4⟩ : _ ∧ _))
      have HI6_ := Lib.hid ((⟨hblk, c5⟩ : _ ∧ _))
      refine wp_region_tail (S := (fun w' => (∀ i, w'.cell? ⟨w.heap.size + 1, i, none⟩ = (#[.int .i64 M.kind, .bool M.bool, .int .i64 M.int, .string M.str, .slice xa M.list.length xc, .slice xm M.map.length xn] : Array Value)[i]?) ∧ w'.cell? ⟨b, bo + q * 6, none⟩ = some (.int .i64 x.kind) ∧ w'.cell? ⟨b, bo + q * 6 + 1, none⟩ = some (.bool x.bool) ∧ w'.cell? ⟨b, bo + q * 6 + 2, none⟩ = some (.int .i64 x.int) ∧ w'.cell? ⟨b, bo + q * 6 + 3, none⟩ = some (.string x.str) ∧ w'.cell? ⟨b, bo + q * 6 + 4, none⟩ = some (.slice ya x.list.length yc) ∧ w'.cell? ⟨b, bo + q * 6 + 5, none⟩ = some (.slice ym x.map.length yn))) 6 (by kernel_rfl) (by kernel_rfl) (by exact ⟨(Blk.keep HI0_.out (Below.refl _ _).drew).cell, cell_keep HI1_.out (Below.refl _ _).drew, cell_keep HI2_.out (Below.refl _ _).drew, cell_keep HI3_.out (Below.refl _ _).drew, cell_keep HI4_.out (Below.refl _ _).drew, cell_keep HI5_.out (Below.refl _ _).drew, cell_keep HI6_.out (Below.refl _ _).drew⟩) (fun hHeld => ?_)
      simp only [List.dropLast]
      refine wpAnyH_take (i := 0) (v := ?vm1_0) (by conv => lhs; simp only [List.getElem?_toArray, List.getElem?_cons_succ, List.getElem?_cons_zero]) (by kernel_rfl) (by kernel_rfl) (by kernel_rfl) (by exact fun _ _ _ h => h) (Or.inl ⟨by rfl, ?hym1_0⟩) (by assumption) ?_
      case hym1_0 => (intro w0 hSw; (try dsimp only at hSw); go_simp; try with_reducible rfl)
      try simp only [Act.put, List.setIfInBounds_toArray, List.set_cons_zero, List.set_cons_succ]
      refine wpAnyH_take (i := 1) (v := ?vm1_1) (by conv => lhs; simp only [List.getElem?_toArray, List.getElem?_cons_succ, List.getElem?_cons_zero]) (by kernel_rfl) (by kernel_rfl) (by kernel_rfl) (by exact fun _ _ _ h => h) (Or.inl ⟨by rfl, ?hym1_1⟩) (by assumption) ?_
      case hym1_1 => (intro w0 hSw; (try dsimp only at hSw); go_simp; try with_reducible rfl)
      try simp only [Act.put, List.setIfInBounds_toArray, List.set_cons_zero, List.set_cons_succ]
      refine wpAnyH_take (i := 2) (v := ?vm1_2) (by conv => lhs; simp only [List.getElem?_toArray, List.getElem?_cons_succ, List.getElem?_cons_zero]) (by kernel_rfl) (by kernel_rfl) (by kernel_rfl) (by exact fun _ _ _ h => h) (Or.inl ⟨by rfl, ?hym1_2⟩) (by assumption) ?_
      case hym1_2 => (intro w0 hSw; (try dsimp only at hSw); go_simp; try with_reducible rfl)
      try simp only [Act.put, List.setIfInBounds_toArray, List.set_cons_zero, List.set_cons_succ]
      refine wpAnyH_take (i := 3) (v := ?vm1_3) (by conv => lhs; simp only [List.getElem?_toArray, List.getElem?_cons_succ, List.getElem?_cons_zero]) (by kernel_rfl) (by kernel_rfl) (by kernel_rfl) (by exact fun _ _ _ h => h) (Or.inl ⟨by rfl, ?hym1_3⟩) (by assumption) ?_
      case hym1_3 => (intro w0 hSw; (try dsimp only at hSw); go_simp; try with_reducible rfl)
      try simp only [Act.put, List.setIfInBounds_toArray, List.set_cons_zero, List.set_cons_succ]
      refine wpAnyH_take (i := 4) (v := ?vm1_4) (by conv => lhs; simp only [List.getElem?_toArray, List.getElem?_cons_succ, List.getElem?_cons_zero]) (by kernel_rfl) (by kernel_rfl) (by kernel_rfl) (by exact fun _ _ _ h => h) (Or.inl ⟨by rfl, ?hym1_4⟩) (by assumption) ?_
      case hym1_4 => (intro w0 hSw; (try dsimp only at hSw); go_simp; try with_reducible rfl)
      try simp only [Act.put, List.setIfInBounds_toArray, List.set_cons_zero, List.set_cons_succ]
      refine wpAnyH_ready (rs := [5]) (by kernel_rfl) (by simp) ?_
      refine AllReadyH.cons (by conv => lhs; simp only [List.getElem?_toArray, List.getElem?_cons_succ, List.getElem?_cons_zero]) (fun K hK => ?_) AllReadyH.nil
      go_simp
      refine (HOV.out _ _ _ (fun b => (S b ∧ b < w.heap.size) ∨ w.heap.size + 2 ≤ b) (HOT.out.rep.keep (by exact (Below.refl _ _).drew)) ((HX.out.weak (fun b h _ => .inl h)).keep (by exact (Below.refl _ _).drew))).mono ?_
      rintro e w8 ⟨v8, rfl, hr8, hb8⟩
      obtain ⟨qa8, qc8, qm8, qn8, rfl, -⟩ := hr8.inv
      have hb8 := Below.next (Below.drew (Below.refl _ _)) hb8
      have z8 := (HOT.out.keep hb8).box.frozen; have l8 := (HOT.out.keep hb8).box.lt; have k8 := (HOT.out.keep hb8).box.cell; have HB8 := Lib.hid hb8; have HBN := Lib.hid hb8; have HR8 := Lib.hid (hr8.weak (S' := (fun b => (S b ∧ b < w.heap.size) ∨ w.heap.size + 2 ≤ b)) (fun b h _ => by rcases h with h | h; exact h; exact .inr (by have h2 : wr.heap.size ≤ b := h; omega))); clear hb8 hr8
      go_wp2_with fail
      refine hK.out _ _ (by exact ⟨(Blk.keep HI0_.out HBN.out).cell, cell_keep HI1_.out HBN.out, cell_keep HI2_.out HBN.out, cell_keep HI3_.out HBN.out, cell_keep HI4_.out HBN.out, cell_keep HI5_.out HBN.out, cell_keep HI6_.out HBN.out⟩) (fun hHeld => ?_)
      clear hK K
      try simp only [Act.put, List.setIfInBounds_toArray, List.set_cons_zero, List.set_cons_succ]
      refine wpAnyH_done (by kernel_rfl) ?_ _
      refine LastQ.step (by conv => lhs; simp only [List.getElem?_toArray, List.getElem?_cons_succ, List.getElem?_cons_zero]) (fun K hK => ?_)
      go_simp
      refine hK.out _ _ ?_
      clear hK K
      try simp only [Act.put, List.setIfInBounds_toArray, List.set_cons_zero, List.set_cons_succ]
      go_wp2_with fail
      go_roundw
      case rel => exact ⟨q + 1, y, _, _, _, _, by omega, by go_num, HNX, Lib.hid (set6_below (o := 0) (HBL.out.trans (HB8.out.mono (by omega))) (by omega)), Lib.hid (HOT.out.put HB8.out HR8.out)⟩
      case measure => simp [intOf]; omega
    · obtain rfl : q = l.length := by omega
      have HE2 := Lib.hid (show allT l = M from by rw [hM.out, List.take_length])
      have zf := L1_0.out.frozen
      go_wp2_with fail
      exact ret_cell rfl rfl ((((((L1_0.out.set_ 0 _).set_ 1 _).set_ 2 _).set_ 3 _).set_ 4 _).set_ 5 _) Try.underlying25 val_size rfl ⟨_, rfl, by rw [HE2.out]; exact HOT.out.fin (by omega) (by omega), set6_below (o := 0) HOT.out.bel (by omega)⟩

theorem rput_putT {M x : T} {key : ByteArray} (h : KS M.map) (h5 : M.kind = 5 → M = mkMap M.map) (hk : M.kind = 5) : mkMap (rput key x false M.map) = putT M key x := by
  rw [rput_ins h]
  conv => rhs; rw [h5 hk]
  rw [putT_mk h]
theorem diff0_mk {a b : T} (q : Nat) : ∃ l, diff0 (a.map.take q) b (mkMap []) = mkMap l := by
  obtain ⟨l', e, -, -, -⟩ := diff0_look (b := b) (m := a.map.take q) (l := []) KS.nil
  exact ⟨l', e⟩
theorem diffM_mk {nb : Nat} {a b : T} {l0 : List (ByteArray × T)} (hb : Neat nb b) (h0 : KS l0) (q : Nat) : ∃ l, T.diffM (b.map.take q) a (mkMap l0) = mkMap l := by
  obtain ⟨l', e, -, -, -⟩ := diffM_look (a := a) (m := b.map.take q) h0 (hb.KS.take q)
  exact ⟨l', e⟩

set_option maxRecDepth 100000 in
set_option maxHeartbeats 16000000 in
theorem rdiff {na nb : Nat} (hn1 : na + nb ≤ 1000000) (t : T) : ∀ (a : T) (_ : Neat na a) (_ : Neat nb t) (va v : Value) (w : World) (S : Nat → Prop), RepT w S va a → RepT w S v t → Calls Try.prog 14 #[va, v] w (ValPostS S w (t.diff a)) := by
  induction t using T.ind' with
  | h t ihl ihm =>
  intro a hna hnt va v w S ha h
  clear ihl
  obtain ⟨la, lc, ma, mc, rfl, hpt⟩ := h.inv
  obtain ⟨la0, lc0, ma0, mc0, rfl, hpa⟩ := ha.inv
  obtain ⟨-, -, -, -, -, -, -, -, -, -, hMt⟩ := hpt
  obtain ⟨-, -, -, -, -, -, -, -, -, -, hMa⟩ := hpa
  have HMT := Lib.hid (hMt.mono (w' := w) (S' := fun b => S b ∧ b < w.heap.size) (fun _ h1 h => ⟨h1, h⟩) (fun _ _ _ _ => rfl)); clear hMt
  have HMA := Lib.hid (hMa.mono (w' := w) (S' := fun b => S b ∧ b < w.heap.size) (fun _ h1 h => ⟨h1, h⟩) (fun _ _ _ _ => rfl)); clear hMa
  have HT := Lib.hid (h.mono (w' := w) (S' := fun b => S b ∧ b < w.heap.size) (fun _ h1 h => ⟨h1, h⟩) (fun _ _ _ _ => rfl)); clear h
  have HA := Lib.hid (ha.mono (w' := w) (S' := fun b => S b ∧ b < w.heap.size) (fun _ h1 h => ⟨h1, h⟩) (fun _ _ _ _ => rfl)); clear ha
  obtain ⟨res, hres⟩ : ∃ r, r = t.diff a := ⟨_, rfl⟩
  rw [← hres]
  obtain ⟨l0, el0, hks0, hl0⟩ := diff0_all (b := t) hna
  have HE := Lib.hid (show res = T.diffM t.map a (mkMap l0) from by rw [hres, diff_eq, el0])
  have HE0 := Lib.hid el0
  have HD0 := Lib.hid (fun q (hq : q < a.map.length) => diff0_step (b := t) hq)
  have HD1 := Lib.hid (fun q (hq : q < t.map.length) => diffM_step hna hnt hks0 hq)
  have HK0 := Lib.hid (fun q => diff0_mk (a := a) (b := t) q)
  have HK1 := Lib.hid (fun q => diffM_mk (a := a) hnt hks0 q)
  have HIH := Lib.hid (fun i (hi : i < t.map.length) was (hw : Neat na was) => ihm _ (List.getElem_mem hi) was hw (hnt.mem _ (List.getElem_mem hi)))
  have HGT := Lib.hid (fun k => getT_look hnt k)
  have HGA := Lib.hid (fun k => getT_look hna k)
  have HPT := Lib.hid (fun i (hi : i < t.map.length) => (hnt.mem _ (List.getElem_mem hi)).parts)
  have hlt0 := hnt.len; have hla0 := hna.len
  clear ihm hnt hna hres el0 hks0
  have hB1 : Blk ((((w.alloc (.cells #[.int .i64 a.kind, .bool a.bool, .int .i64 a.int, .string a.str, .slice la0 a.list.length lc0, .slice ma0 a.map.length mc0] 25)).alloc (.cells #[.int .i64 t.kind, .bool t.bool, .int .i64 t.int, .string t.str, .slice la t.list.length lc, .slice ma t.map.length mc] 25)).alloc (.cells #[.int .i64 0, .bool false, .int .i64 0, .string ⟨#[]⟩, .slice none 0 0, .slice none 0 0] 25)).alloc (.cells #[.int .i64 5, .bool false, .int .i64 0, .string ⟨#[]⟩, .slice none 0 0, .slice none 0 0] 25)) (w.heap.size) 25 #[.int .i64 a.kind, .bool a.bool, .int .i64 a.int, .string a.str, .slice la0 a.list.length lc0, .slice ma0 a.map.length mc0] := ((((Blk.new _ _ _).alloc _).alloc _).alloc _)
  have hB2 : Blk ((((w.alloc (.cells #[.int .i64 a.kind, .bool a.bool, .int .i64 a.int, .string a.str, .slice la0 a.list.length lc0, .slice ma0 a.map.length mc0] 25)).alloc (.cells #[.int .i64 t.kind, .bool t.bool, .int .i64 t.int, .string t.str, .slice la t.list.length lc, .slice ma t.map.length mc] 25)).alloc (.cells #[.int .i64 0, .bool false, .int .i64 0, .string ⟨#[]⟩, .slice none 0 0, .slice none 0 0] 25)).alloc (.cells #[.int .i64 5, .bool false, .int .i64 0, .string ⟨#[]⟩, .slice none 0 0, .slice none 0 0] 25)) (w.heap.size + 1) 25 #[.int .i64 t.kind, .bool t.bool, .int .i64 t.int, .string t.str, .slice la t.list.length lc, .slice ma t.map.length mc] := (((Blk.new_at _ _ _ (by simp)).alloc _).alloc _)
  have hB3 : Blk ((((w.alloc (.cells #[.int .i64 a.kind, .bool a.bool, .int .i64 a.int, .string a.str, .slice la0 a.list.length lc0, .slice ma0 a.map.length mc0] 25)).alloc (.cells #[.int .i64 t.kind, .bool t.bool, .int .i64 t.int, .string t.str, .slice la t.list.length lc, .slice ma t.map.length mc] 25)).alloc (.cells #[.int .i64 0, .bool false, .int .i64 0, .string ⟨#[]⟩, .slice none 0 0, .slice none 0 0] 25)).alloc (.cells #[.int .i64 5, .bool false, .int .i64 0, .string ⟨#[]⟩, .slice none 0 0, .slice none 0 0] 25)) (w.heap.size + 1 + 1) 25 #[.int .i64 0, .bool false, .int .i64 0, .string ⟨#[]⟩, .slice none 0 0, .slice none 0 0] := ((Blk.new_at _ _ _ (by simp)).alloc _)
  have hB4 : Blk ((((w.alloc (.cells #[.int .i64 a.kind, .bool a.bool, .int .i64 a.int, .string a.str, .slice la0 a.list.length lc0, .slice ma0 a.map.length mc0] 25)).alloc (.cells #[.int .i64 t.kind, .bool t.bool, .int .i64 t.int, .string t.str, .slice la t.list.length lc, .slice ma t.map.length mc] 25)).alloc (.cells #[.int .i64 0, .bool false, .int .i64 0, .string ⟨#[]⟩, .slice none 0 0, .slice none 0 0] 25)).alloc (.cells #[.int .i64 5, .bool false, .int .i64 0, .string ⟨#[]⟩, .slice none 0 0, .slice none 0 0] 25)) (w.heap.size + 1 + 1 + 1) 25 #[.int .i64 5, .bool false, .int .i64 0, .string ⟨#[]⟩, .slice none 0 0, .slice none 0 0] := (Blk.new_at _ _ _ (by simp))
  have hBW : Below w.heap.size w ((((w.alloc (.cells #[.int .i64 a.kind, .bool a.bool, .int .i64 a.int, .string a.str, .slice la0 a.list.length lc0, .slice ma0 a.map.length mc0] 25)).alloc (.cells #[.int .i64 t.kind, .bool t.bool, .int .i64 t.int, .string t.str, .slice la t.list.length lc, .slice ma t.map.length mc] 25)).alloc (.cells #[.int .i64 0, .bool false, .int .i64 0, .string ⟨#[]⟩, .slice none 0 0, .slice none 0 0] 25)).alloc (.cells #[.int .i64 5, .bool false, .int .i64 0, .string ⟨#[]⟩, .slice none 0 0, .slice none 0 0] 25)) := (((Below.new _ _).alloc (by simp) _).alloc (by simp; omega) _).alloc (by simp; omega) _
  obtain ⟨W0, e0⟩ : ∃ x, x = ((((w.alloc (.cells #[.int .i64 a.kind, .bool a.bool, .int .i64 a.int, .string a.str, .slice la0 a.list.length lc0, .slice ma0 a.map.length mc0] 25)).alloc (.cells #[.int .i64 t.kind, .bool t.bool, .int .i64 t.int, .string t.str, .slice la t.list.length lc, .slice ma t.map.length mc] 25)).alloc (.cells #[.int .i64 0, .bool false, .int .i64 0, .string ⟨#[]⟩, .slice none 0 0, .slice none 0 0] 25)).alloc (.cells #[.int .i64 5, .bool false, .int .i64 0, .string ⟨#[]⟩, .slice none 0 0, .slice none 0 0] 25)) := ⟨_, rfl⟩
  rw [← e0] at hB1 hB2 hB3 hB4 hBW
  have hs0 : W0.heap.size = w.heap.size + 4 := by rw [e0]; simp
  have E0 := Lib.hid e0; have L1 := Lib.hid hB1; have L2 := Lib.hid hB2; have L3 := Lib.hid hB3; have L4 := Lib.hid hB4; have HW0 := Lib.hid hBW
  clear e0 hB1 hB2 hB3 hB4 hBW
  have HR0 := Lib.hid (ROut.start0 (S := S) (B := w.heap.size + 4) (G := w.heap.size + 1 + 1 + 1) L4.out HW0.out (by omega) (by omega) (by omega))
  go_enter Try.func14, Try.ntmps14
  go_wp2_with fail
  rw [← E0.out]
  clear E0 L4
  go_loopw [6] (fun x wr => ∃ (q : Nat) (M : T) (xa : Option Addr) (xc : Nat) (xm : Option Addr) (xn : Nat), q ≤ a.map.length ∧ x = .int .i64 q ∧ Hid (M = diff0 (a.map.take q) t (mkMap [])) ∧ Hid (Below (w.heap.size + 3) W0 wr) ∧ Hid (ROut S w wr (w.heap.size + 4) (w.heap.size + 1 + 1 + 1) M xa xc xm xn)) (fun x _ => a.map.length - (intOf x).toNat)
  case atStart => exact ⟨0, _, _, _, _, _, Nat.zero_le _, rfl, rfl, Lib.hid (Below.refl _ _), HR0⟩
  case round =>
    obtain ⟨q, M, xa, xc, xm, xn, hq, rfl, hM, HBL, HOT⟩ := hrel
    clear HR0
    have L1_0 := Lib.hid (L1.out.below HBL.out (by omega))
    have L1_1 := Lib.hid (L2.out.below HBL.out (by omega))
    have L1_2 := Lib.hid (L3.out.below HBL.out (by omega))
    have V1_MT := Lib.hid (HMT.out.keep HOT.out.bel)
    have V1_MA := Lib.hid (HMA.out.keep HOT.out.bel)
    have V1_t := Lib.hid (HT.out.keep HOT.out.bel)
    have V1_a := Lib.hid (HA.out.keep HOT.out.bel)
    have HW1 := Lib.hid HOT.out.bel
    have k1_0 := L1_0.out.cell; have l1_0 := L1_0.out.lt
    have k1_1 := L1_1.out.cell; have l1_1 := L1_1.out.lt
    have k1_2 := L1_2.out.cell; have l1_2 := L1_2.out.lt
    have kO := HOT.out.box.cell; have lO := HOT.out.box.lt; have htop := HOT.out.top
    by_cases hlt : q < a.map.length
    · obtain ⟨b, bo, ya, yc, ym, yn, rfl, -, hblk, hkz, ⟨c0, c1, c2, c3, c4, c5, c6⟩, hr⟩ := V1_MA.out.at_ hlt
      clear hr
      have gi1 : (0 : Int) ≤ (q : Int) := by omega
      have gi2 : (q : Int) < (a.map.length : Int) := by omega
      obtain ⟨M2, eM2, hMk, hMl, hput, hno⟩ := HD0.out q hlt
      obtain rfl : M2 = M := eM2.trans hM.out.symm
      obtain ⟨lm, elm⟩ := HK0.out q
      rw [← hM.out] at elm
      rw [HGT.out] at hput hno
      obtain ⟨bo1, hbo1⟩ : ∃ z, z = (look t.map a.map[q].1).isSome := ⟨_, rfl⟩
      obtain ⟨wo, hwo⟩ : ∃ z, z = (look t.map a.map[q].1).getD T.zero := ⟨_, rfl⟩
      have CG := Lib.hid (fun v2 w2 (h : RepT w2 (fun b => S b ∧ b < w.heap.size) v2 t) => show Calls Try.prog 27 #[v2, .string a.map[q].1] w2 (GotRS (fun b => S b ∧ b < w.heap.size) w2 bo1 wo) from by rw [hwo, hbo1]; exact rget_N (fun b => S b ∧ b < w.heap.size) t a.map[q].1 v2 w2 h)
      rw [← hbo1] at hput hno
      have CP := Lib.hid (fun va vb w2 (h1 : RepT w2 (fun b => (S b ∧ b < w.heap.size) ∨ w.heap.size + 4 ≤ b) va M2) (h2 : RepT w2 (fun b => (S b ∧ b < w.heap.size) ∨ w.heap.size + 4 ≤ b) vb T.zero) => show Calls Try.prog 28 #[va, .string a.map[q].1, vb] w2 (ValPostS (fun b => (S b ∧ b < w.heap.size) ∨ w.heap.size + 4 ≤ b) w2 (putT M2 a.map[q].1 T.zero)) from rput_putT (key := a.map[q].1) (x := T.zero) hMk (fun _ => by rw [elm]; rfl) (by rw [elm]; rfl) ▸ rput_N (fun b => (S b ∧ b < w.heap.size) ∨ w.heap.size + 4 ≤ b) M2 T.zero a.map[q].1 va vb w2 h1 h2 hkz (by omega))
      have HNO := Lib.hid hno; have HPU := Lib.hid hput
      clear hbo1 hwo hput hno hM eM2 elm hMk HE HE0 HD0 HD1 HK0 HK1 HIH HGT HGA HPT
      generalize a.map[q].1 = key at *
      go_wp2_with fail
      go_cut [7, 8] from 22 to 31 (fun p7 p8 wx => ∃ (g : Nat) (fa : Option Addr) (fc : Nat) (fm : Option Addr) (fn : Nat), p7 = .pointer (some ⟨g, 0, none⟩) ∧ p8 = .bool bo1 ∧ BoxedO (fun b => S b ∧ b < w.heap.size) wr wx g wo fa fc fm fn)
      case first =>
        go_region_with (first
          | (go_at_call 27; first
            | ((with_reducible refine (CG.out _ _ (V1_t.out.keep (by exact (Below.refl _ _).drew))).mono ?_); rintro e w1 ⟨v1, rfl, hr1, hb1⟩; obtain ⟨la5, lc5, ma5, mc5, rfl, -⟩ := hr1.inv; have HBX := Lib.hid (BoxedO.behind hb1 hr1); clear hb1 hr1)
            | ((with_reducible refine (CG.out _ _ (V1_t.out.keep (by exact (Below.new _ _).drew))).mono ?_); rintro e w1 ⟨v1, rfl, hr1, hb1⟩; obtain ⟨la5, lc5, ma5, mc5, rfl, -⟩ := hr1.inv; have kz := (((Blk.new wr 25 #[.int .i64 0, .bool false, .int .i64 0, .string ⟨#[]⟩, .slice none 0 0, .slice none 0 0]).drew).keep hb1).cell; have fz := (((Blk.new wr 25 #[.int .i64 0, .bool false, .int .i64 0, .string ⟨#[]⟩, .slice none 0 0, .slice none 0 0]).drew).keep hb1).frozen; have lz := (((Blk.new wr 25 #[.int .i64 0, .bool false, .int .i64 0, .string ⟨#[]⟩, .slice none 0 0, .slice none 0 0]).drew).keep hb1).lt; have HBX := Lib.hid (BoxedO.ahead (S := (fun b => S b ∧ b < w.heap.size)) (fun b hb => by have := hb.2; omega) hb1 hr1); clear hb1 hr1)))
        all_goals
          go_wp2_with fail
          go_meet
          exact ⟨_, _, _, _, _, rfl, rfl, HBX.out⟩
      case rest =>
      obtain ⟨g, fa, fc, fm, fn, rfl, rfl, hbx⟩ := hcut
      have L2_0 := Lib.hid (L1_0.out.keep hbx.bel)
      have L2_1 := Lib.hid (L1_1.out.keep hbx.bel)
      have L2_2 := Lib.hid (L1_2.out.keep hbx.bel)
      have V2_MT := Lib.hid (V1_MT.out.keep hbx.bel)
      have V2_MA := Lib.hid (V1_MA.out.keep hbx.bel)
      have V2_t := Lib.hid (V1_t.out.keep hbx.bel)
      have V2_a := Lib.hid (V1_a.out.keep hbx.bel)
      have HW2 := Lib.hid (Below.next HW1.out hbx.bel)
      have hwc9 := hbx.bel.size
      have HO2 := Lib.hid (HOT.out.keep hbx.bel); have HBC := Lib.hid hbx.bel; have HFB := Lib.hid hbx.box; have HFR := Lib.hid hbx.rep; have hgl := hbx.low
      clear kO lO k1_0 l1_0 k1_1 l1_1 k1_2 l1_2
      have k2_0 := L2_0.out.cell; have l2_0 := L2_0.out.lt
      have k2_1 := L2_1.out.cell; have l2_1 := L2_1.out.lt
      have k2_2 := L2_2.out.cell; have l2_2 := L2_2.out.lt
      have e0 := (HBC.out.cell (p := ⟨b, bo + q * 7, none⟩) hblk).trans c0; have hblk2 := Nat.lt_of_lt_of_le hblk HBC.out.size
      clear c0 c1 c2 c3 c4 c5 c6 hbx HFB HFR
      have kO := HO2.out.box.cell; have lO := HO2.out.box.lt
      cases bo1
      · have HN := Lib.hid (HPU.out rfl); clear HPU HNO
        obtain ⟨N, hN⟩ : ∃ N, N = putT M2 key T.zero := ⟨_, rfl⟩
        rw [← hN] at HN CP
        clear hN
        go_wp2_with fail
        have HI0_ := Lib.hid (HO2.out.box)
        have HI1_ := Lib.hid (L2_0.out)
        have HI2_ := Lib.hid ((⟨hblk2, e0⟩ : _ ∧ _))
        refine wp_region_tail (S := (fun w' => (∀ i, w'.cell? ⟨w.heap.size + 1 + 1 + 1, i, none⟩ = (#[.int .i64 M2.kind, .bool M2.bool, .int .i64 M2.int, .string M2.str, .slice xa M2.list.length xc, .slice xm M2.map.length xn] : Array Value)[i]?) ∧ (∀ i, w'.cell? ⟨w.heap.size, i, none⟩ = (#[.int .i64 a.kind, .bool a.bool, .int .i64 a.int, .string a.str, .slice la0 a.list.length lc0, .slice (some ⟨b, bo, none⟩) a.map.length mc0] : Array Value)[i]?) ∧ w'.cell? ⟨b, bo + q * 7, none⟩ = some (.string key))) 9 (by kernel_rfl) (by kernel_rfl) (by exact ⟨(Blk.keep HI0_.out (Below.refl _ _).drew).cell, (Blk.keep HI1_.out (Below.refl _ _).drew).cell, cell_keep HI2_.out (Below.refl _ _).drew⟩) (fun hHeld => ?_)
        simp only [List.dropLast]
        refine wpAnyH_take (i := 0) (v := ?vm3_0) (by conv => lhs; simp only [List.getElem?_toArray, List.getElem?_cons_succ, List.getElem?_cons_zero]) (by kernel_rfl) (by kernel_rfl) (by kernel_rfl) (by exact fun _ _ _ h => h) (Or.inl ⟨by rfl, ?hym3_0⟩) (by assumption) ?_
        case hym3_0 => (intro w0 hSw; (try dsimp only at hSw); go_simp; try with_reducible rfl)
        try simp only [Act.put, List.setIfInBounds_toArray, List.set_cons_zero, List.set_cons_succ]
        refine wpAnyH_take (i := 1) (v := ?vm3_1) (by conv => lhs; simp only [List.getElem?_toArray, List.getElem?_cons_succ, List.getElem?_cons_zero]) (by kernel_rfl) (by kernel_rfl) (by kernel_rfl) (by exact fun _ _ _ h => h) (Or.inl ⟨by rfl, ?hym3_1⟩) (by assumption) ?_
        case hym3_1 => (intro w0 hSw; (try dsimp only at hSw); go_simp; try with_reducible rfl)
        try simp only [Act.put, List.setIfInBounds_toArray, List.set_cons_zero, List.set_cons_succ]
        refine wpAnyH_take (i := 2) (v := ?vm3_2) (by conv => lhs; simp only [List.getElem?_toArray, List.getElem?_cons_succ, List.getElem?_cons_zero]) (by kernel_rfl) (by kernel_rfl) (by kernel_rfl) (by exact fun _ _ _ h => h) (Or.inl ⟨by rfl, ?hym3_2⟩) (by assumption) ?_
        case hym3_2 => (intro w0 hSw; (try dsimp only at hSw); go_simp; try with_reducible rfl)
        try simp only [Act.put, List.setIfInBounds_toArray, List.set_cons_zero, List.set_cons_succ]
        refine wpAnyH_take (i := 3) (v := ?vm3_3) (by conv => lhs; simp only [List.getElem?_toArray, List.getElem?_cons_succ, List.getElem?_cons_zero]) (by kernel_rfl) (by kernel_rfl) (by kernel_rfl) (by exact fun _ _ _ h => h) (Or.inl ⟨by rfl, ?hym3_3⟩) (by assumption) ?_
        case hym3_3 => (intro w0 hSw; (try dsimp only at hSw); go_simp; try with_reducible rfl)
        try simp only [Act.put, List.setIfInBounds_toArray, List.set_cons_zero, List.set_cons_succ]
        refine wpAnyH_take (i := 4) (v := ?vm3_4) (by conv => lhs; simp only [List.getElem?_toArray, List.getElem?_cons_succ, List.getElem?_cons_zero]) (by kernel_rfl) (by kernel_rfl) (by kernel_rfl) (by exact fun _ _ _ h => h) (Or.inl ⟨by rfl, ?hym3_4⟩) (by assumption) ?_
        case hym3_4 => (intro w0 hSw; (try dsimp only at hSw); go_simp; try with_reducible rfl)
        try simp only [Act.put, List.setIfInBounds_toArray, List.set_cons_zero, List.set_cons_succ]
        refine wpAnyH_take (i := 5) (v := ?vm3_5) (by conv => lhs; simp only [List.getElem?_toArray, List.getElem?_cons_succ, List.getElem?_cons_zero]) (by kernel_rfl) (by kernel_rfl) (by kernel_rfl) (by exact fun _ _ _ h => h) (Or.inl ⟨by rfl, ?hym3_5⟩) (by assumption) ?_
        case hym3_5 => (intro w0 hSw; (try dsimp only at hSw); go_simp; try with_reducible rfl)
        try simp only [Act.put, List.setIfInBounds_toArray, List.set_cons_zero, List.set_cons_succ]
        refine wpAnyH_take (i := 6) (v := ?vm3_6) (by conv => lhs; simp only [List.getElem?_toArray, List.getElem?_cons_succ, List.getElem?_cons_zero]) (by kernel_rfl) (by kernel_rfl) (by kernel_rfl) (by exact fun _ _ _ h => h) (Or.inl ⟨by rfl, ?hym3_6⟩) (by assumption) ?_
        case hym3_6 => (intro w0 hSw; (try dsimp only at hSw); go_simp; try with_reducible rfl)
        try simp only [Act.put, List.setIfInBounds_toArray, List.set_cons_zero, List.set_cons_succ]
        refine wpAnyH_take (i := 7) (v := ?vm3_7) (by conv => lhs; simp only [List.getElem?_toArray, List.getElem?_cons_succ, List.getElem?_cons_zero]) (by kernel_rfl) (by kernel_rfl) (by kernel_rfl) (by exact fun _ _ _ h => h) (Or.inl ⟨by rfl, ?hym3_7⟩) (by assumption) ?_
        case hym3_7 => (intro w0 hSw; (try dsimp only at hSw); go_simp; try with_reducible rfl)
        try simp only [Act.put, List.setIfInBounds_toArray, List.set_cons_zero, List.set_cons_succ]
        refine wpAnyH_ready (rs := [8]) (by kernel_rfl) (by simp) ?_
        refine AllReadyH.cons (by conv => lhs; simp only [List.getElem?_toArray, List.getElem?_cons_succ, List.getElem?_cons_zero]) (fun K hK => ?_) AllReadyH.nil
        go_simp
        refine (CP.out _ _ _ (HO2.out.rep.keep (by exact (Below.refl _ _).drew)) (rep_zero _ _)).mono ?_
        rintro e w9 ⟨v9, rfl, hr9, hb9⟩
        obtain ⟨qa9, qc9, qm9, qn9, rfl, -⟩ := hr9.inv
        have hb9 := Below.next (Below.drew (Below.refl _ _)) hb9
        have k9 := (HO2.out.keep hb9).box.cell; have z9 := (HO2.out.keep hb9).box.frozen; have l9 := (HO2.out.keep hb9).box.lt; have HBN := Lib.hid hb9; have HB9 := Lib.hid (Below.next HBC.out hb9); have HR9 := Lib.hid (hr9.weak (S' := (fun b => (S b ∧ b < w.heap.size) ∨ w.heap.size + 4 ≤ b)) (fun b h _ => by rcases h with h | h; exact h; exact .inr (by have h2 : wc.heap.size ≤ b := h; have := HBC.out.size; omega))); clear hb9 hr9
        go_wp2_with fail
        refine hK.out _ _ (by exact ⟨(Blk.keep HI0_.out HBN.out).cell, (Blk.keep HI1_.out HBN.out).cell, cell_keep HI2_.out HBN.out⟩) (fun hHeld => ?_)
        clear hK K
        try simp only [Act.put, List.setIfInBounds_toArray, List.set_cons_zero, List.set_cons_succ]
        refine wpAnyH_done (by kernel_rfl) ?_ _
        refine LastQ.step (by conv => lhs; simp only [List.getElem?_toArray, List.getElem?_cons_succ, List.getElem?_cons_zero]) (fun K hK => ?_)
        go_simp
        refine hK.out _ _ ?_
        clear hK K
        try simp only [Act.put, List.setIfInBounds_toArray, List.set_cons_zero, List.set_cons_succ]
        go_wp2_with fail
        go_roundw
        case rel => exact ⟨q + 1, N, _, _, _, _, by omega, by go_num, HN, Lib.hid (set6_below (o := 0) (HBL.out.trans (HB9.out.mono (by omega))) (by omega)), Lib.hid (HOT.out.put HB9.out HR9.out)⟩
        case measure => simp [intOf]; omega
      · have HN := Lib.hid (HNO.out rfl); clear HPU HNO
        go_wp2_with fail
        go_roundw
        case rel => exact ⟨q + 1, M2, _, _, _, _, by omega, by go_num, HN, Lib.hid (HBL.out.trans (HBC.out.mono (by omega))), HO2⟩
        case measure => simp [intOf]; omega
    obtain rfl : q = a.map.length := by omega
    have HM0 := Lib.hid (show M = mkMap l0 from by rw [hM.out, List.take_length, HE0.out])
    clear hM hlt HD0 HK0 HE0 HGT
    rename World => wr0
    go_wp2_with fail
    go_loopw [9] (fun x wr => ∃ (q : Nat) (M : T) (xa : Option Addr) (xc : Nat) (xm : Option Addr) (xn : Nat), q ≤ t.map.length ∧ x = .int .i64 q ∧ Hid (M = T.diffM (t.map.take q) a (mkMap l0)) ∧ Hid (Below (w.heap.size + 3) W0 wr) ∧ Hid (ROut S w wr (w.heap.size + 4) (w.heap.size + 1 + 1 + 1) M xa xc xm xn)) (fun x _ => t.map.length - (intOf x).toNat)
    case atStart => exact ⟨0, M, _, _, _, _, Nat.zero_le _, rfl, by show _ = _; rw [List.take_zero, T.diffM, HM0.out], HBL, HOT⟩
    case round =>
      clear kO lO htop HOT HM0 k1_0 l1_0 k1_1 l1_1 k1_2 l1_2
      rename Hid (Below (w.heap.size + 3) W0 wr0) => HBL0
      obtain ⟨q, M, xa, xc, xm, xn, hq, rfl, hM, HBL, HOT⟩ := hrel
      have L2_0 := Lib.hid (L1.out.below HBL.out (by omega))
      have L2_1 := Lib.hid (L2.out.below HBL.out (by omega))
      have L2_2 := Lib.hid (L3.out.below HBL.out (by omega))
      have V2_MT := Lib.hid (HMT.out.keep HOT.out.bel)
      have V2_MA := Lib.hid (HMA.out.keep HOT.out.bel)
      have V2_t := Lib.hid (HT.out.keep HOT.out.bel)
      have V2_a := Lib.hid (HA.out.keep HOT.out.bel)
      have HW2 := Lib.hid HOT.out.bel
      have k2_0 := L2_0.out.cell; have l2_0 := L2_0.out.lt
      have k2_1 := L2_1.out.cell; have l2_1 := L2_1.out.lt
      have k2_2 := L2_2.out.cell; have l2_2 := L2_2.out.lt
      have kO := HOT.out.box.cell; have lO := HOT.out.box.lt; have htop := HOT.out.top
      by_cases hlt : q < t.map.length
      · obtain ⟨b, bo, ya, yc, ym, yn, rfl, -, hblk, hkz, ⟨c0, c1, c2, c3, c4, c5, c6⟩, hr⟩ := V2_MT.out.at_ hlt
        have HX := Lib.hid hr; clear hr
        have gi1 : (0 : Int) ≤ (q : Int) := by omega
        have gi2 : (q : Int) < (t.map.length : Int) := by omega
        have TB0 := Lib.hid L2_1.out
        obtain ⟨M2, eM2, hMk, hMl, hgn, hput, hrest⟩ := HD1.out q hlt
        obtain rfl : M2 = M := eM2.trans hM.out.symm
        obtain ⟨lm, elm⟩ := HK1.out q
        rw [← hM.out] at elm
        rw [HGA.out] at hput hrest hgn
        have hIH := HIH.out q hlt
        have hPX := HPT.out q hlt
        obtain ⟨bo1, hbo1⟩ : ∃ z, z = (look a.map t.map[q].1).isSome := ⟨_, rfl⟩
        obtain ⟨gx, hgx⟩ : ∃ z, z = (look a.map t.map[q].1).getD T.zero := ⟨_, rfl⟩
        have CG := Lib.hid (fun v2 w2 (h : RepT w2 (fun b => S b ∧ b < w.heap.size) v2 a) => show Calls Try.prog 27 #[v2, .string t.map[q].1] w2 (GotRS (fun b => S b ∧ b < w.heap.size) w2 bo1 gx) from by rw [hgx, hbo1]; exact rget_N (fun b => S b ∧ b < w.heap.size) a t.map[q].1 v2 w2 h)
        simp only [← hbo1, ← hgx] at hput hrest hgn
        have CP := Lib.hid (fun y va vb w2 (h1 : RepT w2 (fun b => (S b ∧ b < w.heap.size) ∨ w.heap.size + 4 ≤ b) va M2) (h2 : RepT w2 (fun b => (S b ∧ b < w.heap.size) ∨ w.heap.size + 4 ≤ b) vb y) => show Calls Try.prog 28 #[va, .string t.map[q].1, vb] w2 (ValPostS (fun b => (S b ∧ b < w.heap.size) ∨ w.heap.size + 4 ≤ b) w2 (putT M2 t.map[q].1 y)) from rput_putT (key := t.map[q].1) (x := y) hMk (fun _ => by rw [elm]; rfl) (by rw [elm]; rfl) ▸ rput_N (fun b => (S b ∧ b < w.heap.size) ∨ w.heap.size + 4 ≤ b) M2 y t.map[q].1 va vb w2 h1 h2 hkz (by omega))
        have HIC := Lib.hid (fun va vb w2 S2 h1 h2 => show Calls Try.prog 14 #[va, vb] w2 (ValPostS S2 w2 (t.map[q].2.diff gx)) from hIH gx hgn va vb w2 S2 h1 h2)
        have HCE := Lib.hid (show T.cmp gx t.map[q].2 = 0 ↔ gx = t.map[q].2 from ⟨cmp_is hgn.parts hPX, fun e => by rw [e]; exact (cmp_1 _).refl⟩)
        have HPU := Lib.hid hput; have HRE := Lib.hid hrest
        clear hbo1 hgx hput hrest hM eM2 elm hMk HE HD1 HK1 HIH HGA HPT hIH hPX hgn
        generalize t.map[q].1 = key at *
        generalize t.map[q].2 = x at *
        go_wp2_with fail
        go_cut [10, 11] from 51 to 60 (fun p7 p8 wx => ∃ (g : Nat) (fa : Option Addr) (fc : Nat) (fm : Option Addr) (fn : Nat), p7 = .pointer (some ⟨g, 0, none⟩) ∧ p8 = .bool bo1 ∧ BoxedO (fun b => S b ∧ b < w.heap.size) wr wx g gx fa fc fm fn)
        case first =>
          go_region_with (first
            | (go_at_call 27; first
              | ((with_reducible refine (CG.out _ _ (V2_a.out.keep (by exact (Below.refl _ _).drew))).mono ?_); rintro e w1 ⟨v1, rfl, hr1, hb1⟩; obtain ⟨la5, lc5, ma5, mc5, rfl, -⟩ := hr1.inv; have HBX := Lib.hid (BoxedO.behind hb1 hr1); clear hb1 hr1)
              | ((with_reducible refine (CG.out _ _ (V2_a.out.keep (by exact (Below.new _ _).drew))).mono ?_); rintro e w1 ⟨v1, rfl, hr1, hb1⟩; obtain ⟨la5, lc5, ma5, mc5, rfl, -⟩ := hr1.inv; have kz := (((Blk.new wr 25 #[.int .i64 0, .bool false, .int .i64 0, .string ⟨#[]⟩, .slice none 0 0, .slice none 0 0]).drew).keep hb1).cell; have fz := (((Blk.new wr 25 #[.int .i64 0, .bool false, .int .i64 0, .string ⟨#[]⟩, .slice none 0 0, .slice none 0 0]).drew).keep hb1).frozen; have lz := (((Blk.new wr 25 #[.int .i64 0, .bool false, .int .i64 0, .string ⟨#[]⟩, .slice none 0 0, .slice none 0 0]).drew).keep hb1).lt; have HBX := Lib.hid (BoxedO.ahead (S := (fun b => S b ∧ b < w.heap.size)) (fun b hb => by have := hb.2; omega) hb1 hr1); clear hb1 hr1)))
          all_goals
            go_wp2_with fail
            go_meet
            exact ⟨_, _, _, _, _, rfl, rfl, HBX.out⟩
        case rest =>
        obtain ⟨g, fa, fc, fm, fn, rfl, rfl, hbx⟩ := hcut
        have L3_0 := Lib.hid (L2_0.out.keep hbx.bel)
        have L3_1 := Lib.hid (L2_1.out.keep hbx.bel)
        have L3_2 := Lib.hid (L2_2.out.keep hbx.bel)
        have V3_MT := Lib.hid (V2_MT.out.keep hbx.bel)
        have V3_MA := Lib.hid (V2_MA.out.keep hbx.bel)
        have V3_t := Lib.hid (V2_t.out.keep hbx.bel)
        have V3_a := Lib.hid (V2_a.out.keep hbx.bel)
        have V3_x := Lib.hid (HX.out.keep hbx.bel)
        have HW3 := Lib.hid (Below.next HW2.out hbx.bel)
        have hwc9 := hbx.bel.size
        have HO2 := Lib.hid (HOT.out.keep hbx.bel); have HBC := Lib.hid hbx.bel; have HFB := Lib.hid hbx.box; have HFR := Lib.hid hbx.rep; have hgl := hbx.low
        clear kO lO k2_0 l2_0 k2_1 l2_1 k2_2 l2_2
        have k3_0 := L3_0.out.cell; have l3_0 := L3_0.out.lt
        have k3_1 := L3_1.out.cell; have l3_1 := L3_1.out.lt
        have k3_2 := L3_2.out.cell; have l3_2 := L3_2.out.lt
        have e0 := (HBC.out.cell (p := ⟨b, bo + q * 7, none⟩) hblk).trans c0; have e1 := (HBC.out.cell (p := ⟨b, bo + q * 7 + 1, none⟩) hblk).trans c1; have e2 := (HBC.out.cell (p := ⟨b, bo + q * 7 + 2, none⟩) hblk).trans c2; have e3 := (HBC.out.cell (p := ⟨b, bo + q * 7 + 3, none⟩) hblk).trans c3; have e4 := (HBC.out.cell (p := ⟨b, bo + q * 7 + 4, none⟩) hblk).trans c4; have e5 := (HBC.out.cell (p := ⟨b, bo + q * 7 + 5, none⟩) hblk).trans c5; have e6 := (HBC.out.cell (p := ⟨b, bo + q * 7 + 6, none⟩) hblk).trans c6; have hblk2 := Nat.lt_of_lt_of_le hblk HBC.out.size
        have C0 := Lib.hid c0
        clear c0 c1 c2 c3 c4 c5 c6 hbx
        have HXC := Lib.hid (HX.out.keep HBC.out)
        clear k3_0 k3_2
        have kg := HFB.out.cell; have lg := HFB.out.lt
        cases bo1
        · go_wp2_with fail
          obtain ⟨w4, hwz⟩ : ∃ wz9, wz9 = (wc.alloc (.cells #[.int .i64 x.kind, .bool x.bool, .int .i64 x.int, .string x.str, .slice ya x.list.length yc, .slice ym x.map.length yn] 25)) := ⟨_, rfl⟩
          have hb : Below (wc.alloc (.cells #[.int .i64 x.kind, .bool x.bool, .int .i64 x.int, .string x.str, .slice ya x.list.length yc, .slice ym x.map.length yn] 25)).heap.size (wc.alloc (.cells #[.int .i64 x.kind, .bool x.bool, .int .i64 x.int, .string x.str, .slice ya x.list.length yc, .slice ym x.map.length yn] 25)) w4 := by rw [hwz]; exact Below.refl _ _
          rw [← hwz]
          clear hwz
          have HD4 := Lib.hid (show Below wc.heap.size wc w4 from Below.next (Below.new _ _) hb)
          have L4_0 := Lib.hid (HFB.out.keep HD4.out)
          have L4_1 := Lib.hid ((Blk.new wc 25 #[.int .i64 x.kind, .bool x.bool, .int .i64 x.int, .string x.str, .slice ya x.list.length yc, .slice ym x.map.length yn]).keep hb)
          have V4_x := Lib.hid (HXC.out.keep HD4.out)
          have V4_gx := Lib.hid (HFR.out.keep HD4.out)
          have B4_0 := Lib.hid (Below.next HBC.out HD4.out)
          have HW4 := Lib.hid (Below.next HW3.out HD4.out)
          clear hb HD4 HFB HXC HFR HBC HW3
          have k4_0 := L4_0.out.cell
          have l4_0 := L4_0.out.lt
          have k4_1 := L4_1.out.cell
          have l4_1 := L4_1.out.lt
          clear kg lg e0 e1 e2 e3 e4 e5 e6 hblk2 HO2
          have e0 := (B4_0.out.cell (p := ⟨b, bo + q * 7, none⟩) hblk).trans C0.out; have hblk3 := Nat.lt_of_lt_of_le hblk B4_0.out.size
          have TB := Lib.hid (TB0.out.keep B4_0.out); have tk := TB.out.cell; have tl := TB.out.lt
          have HXS := Lib.hid (V4_x.out.weak (S' := (fun b => (S b ∧ b < w.heap.size) ∨ w.heap.size + 4 ≤ b)) (fun b h _ => .inl h))
          have HNF := Lib.hid (show putT M2 key x = T.diffM (t.map.take (q + 1)) a (mkMap l0) from by first | exact HPU.out rfl | exact HPU.out trivial)
          obtain ⟨N, hN⟩ : ∃ N, N = putT M2 key x := ⟨_, rfl⟩
          have CPN := Lib.hid (fun va vb w2 h1 h2 => CP.out x va vb w2 h1 h2); rw [← hN] at HNF CPN; clear hN CP
          have HO3 := Lib.hid (HOT.out.keep B4_0.out); have kO := HO3.out.box.cell; have lO := HO3.out.box.lt; have hsb3 := B4_0.out.size
          have HI0_ := Lib.hid (HO3.out.box)
          have HI1_ := Lib.hid (TB.out)
          have HI2_ := Lib.hid ((⟨hblk3, e0⟩ : _ ∧ _))
          have HI3_ := Lib.hid (L4_1.out)
          refine wp_region_tail (S := (fun w' => (∀ i, w'.cell? ⟨w.heap.size + 1 + 1 + 1, i, none⟩ = (#[.int .i64 M2.kind, .bool M2.bool, .int .i64 M2.int, .string M2.str, .slice xa M2.list.length xc, .slice xm M2.map.length xn] : Array Value)[i]?) ∧ (∀ i, w'.cell? ⟨w.heap.size + 1, i, none⟩ = (#[.int .i64 t.kind, .bool t.bool, .int .i64 t.int, .string t.str, .slice la t.list.length lc, .slice (some ⟨b, bo, none⟩) t.map.length mc] : Array Value)[i]?) ∧ w'.cell? ⟨b, bo + q * 7, none⟩ = some (.string key) ∧ (∀ i, w'.cell? ⟨wc.heap.size, i, none⟩ = (#[.int .i64 x.kind, .bool x.bool, .int .i64 x.int, .string x.str, .slice ya x.list.length yc, .slice ym x.map.length yn] : Array Value)[i]?))) 9 (by kernel_rfl) (by kernel_rfl) (by exact ⟨(Blk.keep HI0_.out (Below.refl _ _).drew).cell, (Blk.keep HI1_.out (Below.refl _ _).drew).cell, cell_keep HI2_.out (Below.refl _ _).drew, (Blk.keep HI3_.out (Below.refl _ _).drew).cell⟩) (fun hHeld => ?_)
          simp only [List.dropLast]
          refine wpAnyH_take (i := 0) (v := ?vm5_0) (by conv => lhs; simp only [List.getElem?_toArray, List.getElem?_cons_succ, List.getElem?_cons_zero]) (by kernel_rfl) (by kernel_rfl) (by kernel_rfl) (by exact fun _ _ _ h => h) (Or.inl ⟨by rfl, ?hym5_0⟩) (by assumption) ?_
          case hym5_0 => (intro w0 hSw; (try dsimp only at hSw); go_simp; try with_reducible rfl)
          try simp only [Act.put, List.setIfInBounds_toArray, List.set_cons_zero, List.set_cons_succ]
          refine wpAnyH_take (i := 1) (v := ?vm5_1) (by conv => lhs; simp only [List.getElem?_toArray, List.getElem?_cons_succ, List.getElem?_cons_zero]) (by kernel_rfl) (by kernel_rfl) (by kernel_rfl) (by exact fun _ _ _ h => h) (Or.inl ⟨by rfl, ?hym5_1⟩) (by assumption) ?_
          case hym5_1 => (intro w0 hSw; (try dsimp only at hSw); go_simp; try with_reducible rfl)
          try simp only [Act.put, List.setIfInBounds_toArray, List.set_cons_zero, List.set_cons_succ]
          refine wpAnyH_take (i := 2) (v := ?vm5_2) (by conv => lhs; simp only [List.getElem?_toArray, List.getElem?_cons_succ, List.getElem?_cons_zero]) (by kernel_rfl) (by kernel_rfl) (by kernel_rfl) (by exact fun _ _ _ h => h) (Or.inl ⟨by rfl, ?hym5_2⟩) (by assumption) ?_
          case hym5_2 => (intro w0 hSw; (try dsimp only at hSw); go_simp; try with_reducible rfl)
          try simp only [Act.put, List.setIfInBounds_toArray, List.set_cons_zero, List.set_cons_succ]
          refine wpAnyH_take (i := 3) (v := ?vm5_3) (by conv => lhs; simp only [List.getElem?_toArray, List.getElem?_cons_succ, List.getElem?_cons_zero]) (by kernel_rfl) (by kernel_rfl) (by kernel_rfl) (by exact fun _ _ _ h => h) (Or.inl ⟨by rfl, ?hym5_3⟩) (by assumption) ?_
          case hym5_3 => (intro w0 hSw; (try dsimp only at hSw); go_simp; try with_reducible rfl)
          try simp only [Act.put, List.setIfInBounds_toArray, List.set_cons_zero, List.set_cons_succ]
          refine wpAnyH_take (i := 4) (v := ?vm5_4) (by conv => lhs; simp only [List.getElem?_toArray, List.getElem?_cons_succ, List.getElem?_cons_zero]) (by kernel_rfl) (by kernel_rfl) (by kernel_rfl) (by exact fun _ _ _ h => h) (Or.inl ⟨by rfl, ?hym5_4⟩) (by assumption) ?_
          case hym5_4 => (intro w0 hSw; (try dsimp only at hSw); go_simp; try with_reducible rfl)
          try simp only [Act.put, List.setIfInBounds_toArray, List.set_cons_zero, List.set_cons_succ]
          refine wpAnyH_take (i := 5) (v := ?vm5_5) (by conv => lhs; simp only [List.getElem?_toArray, List.getElem?_cons_succ, List.getElem?_cons_zero]) (by kernel_rfl) (by kernel_rfl) (by kernel_rfl) (by exact fun _ _ _ h => h) (Or.inl ⟨by rfl, ?hym5_5⟩) (by assumption) ?_
          case hym5_5 => (intro w0 hSw; (try dsimp only at hSw); go_simp; try with_reducible rfl)
          try simp only [Act.put, List.setIfInBounds_toArray, List.set_cons_zero, List.set_cons_succ]
          refine wpAnyH_take (i := 6) (v := ?vm5_6) (by conv => lhs; simp only [List.getElem?_toArray, List.getElem?_cons_succ, List.getElem?_cons_zero]) (by kernel_rfl) (by kernel_rfl) (by kernel_rfl) (by exact fun _ _ _ h => h) (Or.inl ⟨by rfl, ?hym5_6⟩) (by assumption) ?_
          case hym5_6 => (intro w0 hSw; (try dsimp only at hSw); go_simp; try with_reducible rfl)
          try simp only [Act.put, List.setIfInBounds_toArray, List.set_cons_zero, List.set_cons_succ]
          refine wpAnyH_take (i := 7) (v := ?vm5_7) (by conv => lhs; simp only [List.getElem?_toArray, List.getElem?_cons_succ, List.getElem?_cons_zero]) (by kernel_rfl) (by kernel_rfl) (by kernel_rfl) (by exact fun _ _ _ h => h) (Or.inl ⟨by rfl, ?hym5_7⟩) (by assumption) ?_
          case hym5_7 => (intro w0 hSw; (try dsimp only at hSw); go_simp; try with_reducible rfl)
          try simp only [Act.put, List.setIfInBounds_toArray, List.set_cons_zero, List.set_cons_succ]
          refine wpAnyH_ready (rs := [8]) (by kernel_rfl) (by simp) ?_
          refine AllReadyH.cons (by conv => lhs; simp only [List.getElem?_toArray, List.getElem?_cons_succ, List.getElem?_cons_zero]) (fun K hK => ?_) AllReadyH.nil
          go_simp
          refine (CPN.out _ _ _ (HO3.out.rep.keep (by exact (Below.refl _ _).drew)) (HXS.out.keep (by exact (Below.refl _ _).drew))).mono ?_
          rintro e w9 ⟨v9, rfl, hr9, hb9⟩
          obtain ⟨qa9, qc9, qm9, qn9, rfl, -⟩ := hr9.inv
          have hb9 := Below.next (Below.drew (Below.refl _ _)) hb9
          have k9 := (HO3.out.keep hb9).box.cell; have z9 := (HO3.out.keep hb9).box.frozen; have l9 := (HO3.out.keep hb9).box.lt; have HBN := Lib.hid hb9; have HB9 := Lib.hid (Below.next B4_0.out hb9); have HR9 := Lib.hid (hr9.weak (S' := (fun b => (S b ∧ b < w.heap.size) ∨ w.heap.size + 4 ≤ b)) (fun b h _ => by rcases h with h | h; exact h; exact .inr (by have h2 : w4.heap.size ≤ b := h; omega))); clear hb9 hr9
          go_wp2_with fail
          refine hK.out _ _ (by exact ⟨(Blk.keep HI0_.out HBN.out).cell, (Blk.keep HI1_.out HBN.out).cell, cell_keep HI2_.out HBN.out, (Blk.keep HI3_.out HBN.out).cell⟩) (fun hHeld => ?_)
          clear hK K
          try simp only [Act.put, List.setIfInBounds_toArray, List.set_cons_zero, List.set_cons_succ]
          refine wpAnyH_done (by kernel_rfl) ?_ _
          refine LastQ.step (by conv => lhs; simp only [List.getElem?_toArray, List.getElem?_cons_succ, List.getElem?_cons_zero]) (fun K hK => ?_)
          go_simp
          refine hK.out _ _ ?_
          clear hK K
          try simp only [Act.put, List.setIfInBounds_toArray, List.set_cons_zero, List.set_cons_succ]
          go_wp2_with fail
          go_roundw
          case rel => exact ⟨q + 1, N, _, _, _, _, by omega, by go_num, HNF, Lib.hid (set6_below (o := 0) (HBL.out.trans (HB9.out.mono (by omega))) (by omega)), Lib.hid (HOT.out.put HB9.out HR9.out)⟩
          case measure => simp [intOf]; omega
        · obtain ⟨hre0, hre1⟩ := HRE.out rfl
          have HR0 := Lib.hid hre0; have HR1 := Lib.hid hre1; clear hre0 hre1 HRE HPU
          by_cases hgx : gx = x
          · have CSE := Lib.hid (fun w2 v2 v3 h h2 => rsame_true hgx w2 (fun _ => True) (fun _ => True) v2 v3 h h2)
            have HNF := Lib.hid (HR0.out (HCE.out.2 hgx)); clear hgx HR0 HR1 HCE
            go_wp2_with fail
            refine (CSE.out _ _ _ ((HFR.out.keep (by exact Below.new _ _)).any) ((HXC.out.keep (by exact Below.new _ _)).any)).mono ?_
            rintro e w4 ⟨rfl, hb⟩
            have HD4 := Lib.hid (show Below wc.heap.size wc w4 from Below.next (Below.new _ _) hb)
            have L4_0 := Lib.hid (HFB.out.keep HD4.out)
            have L4_1 := Lib.hid ((Blk.new wc 25 #[.int .i64 x.kind, .bool x.bool, .int .i64 x.int, .string x.str, .slice ya x.list.length yc, .slice ym x.map.length yn]).keep hb)
            have V4_x := Lib.hid (HXC.out.keep HD4.out)
            have V4_gx := Lib.hid (HFR.out.keep HD4.out)
            have B4_0 := Lib.hid (Below.next HBC.out HD4.out)
            have HW4 := Lib.hid (Below.next HW3.out HD4.out)
            clear hb HD4 HFB HXC HFR HBC HW3
            have k4_0 := L4_0.out.cell
            have l4_0 := L4_0.out.lt
            have k4_1 := L4_1.out.cell
            have l4_1 := L4_1.out.lt
            go_wp2_with fail
            go_roundw
            case rel => exact ⟨q + 1, M2, _, _, _, _, by omega, by go_num, HNF, Lib.hid (HBL.out.trans (B4_0.out.mono (by omega))), Lib.hid (HOT.out.keep B4_0.out)⟩
            case measure => simp [intOf]; omega
          · have CSE := Lib.hid (fun w2 v2 v3 h h2 => rsame_false hgx w2 (fun _ => True) (fun _ => True) v2 v3 h h2)
            obtain ⟨hrd, hrp⟩ := HR1.out (fun e => hgx (HCE.out.1 e))
            have HRD := Lib.hid hrd; have HRP := Lib.hid hrp; clear hrd hrp hgx HR0 HR1 HCE
            go_wp2_with fail
            refine (CSE.out _ _ _ ((HFR.out.keep (by exact Below.new _ _)).any) ((HXC.out.keep (by exact Below.new _ _)).any)).mono ?_
            rintro e w4 ⟨rfl, hb⟩
            have HD4 := Lib.hid (show Below wc.heap.size wc w4 from Below.next (Below.new _ _) hb)
            have L4_0 := Lib.hid (HFB.out.keep HD4.out)
            have L4_1 := Lib.hid ((Blk.new wc 25 #[.int .i64 x.kind, .bool x.bool, .int .i64 x.int, .string x.str, .slice ya x.list.length yc, .slice ym x.map.length yn]).keep hb)
            have V4_x := Lib.hid (HXC.out.keep HD4.out)
            have V4_gx := Lib.hid (HFR.out.keep HD4.out)
            have B4_0 := Lib.hid (Below.next HBC.out HD4.out)
            have HW4 := Lib.hid (Below.next HW3.out HD4.out)
            clear hb HD4 HFB HXC HFR HBC HW3
            have k4_0 := L4_0.out.cell
            have l4_0 := L4_0.out.lt
            have k4_1 := L4_1.out.cell
            have l4_1 := L4_1.out.lt
            clear kg lg e0 e1 e2 e3 e4 e5 e6 hblk2 HO2
            have e0 := (B4_0.out.cell (p := ⟨b, bo + q * 7, none⟩) hblk).trans C0.out; have hblk3 := Nat.lt_of_lt_of_le hblk B4_0.out.size
            have TB := Lib.hid (TB0.out.keep B4_0.out); have tk := TB.out.cell; have tl := TB.out.lt
            by_cases h55 : gx.kind = 5 ∧ x.kind = 5
            · have g5 : (gx.kind == 5) = true := by rw [h55.1]; rfl
              have g6 : (x.kind == 5) = true := by rw [h55.2]; rfl
              obtain ⟨y, hy⟩ : ∃ y, y = x.diff gx := ⟨_, rfl⟩
              rw [← hy] at HIC
              have HNX := Lib.hid (show putT M2 key y = T.diffM (t.map.take (q + 1)) a (mkMap l0) from hy ▸ HRD.out h55); clear h55 hy HRD HRP
              go_wp2_with fail
              refine (HIC.out _ _ _ _ (V4_gx.out) (V4_x.out)).mono ?_
              rintro e w8 ⟨v8, rfl, hr8, hb8⟩
              obtain ⟨qa8, qc8, qm8, qn8, rfl, -⟩ := hr8.inv
              have hs8 := hb8.size; have hlx := L4_1.out.lt; have hsw := B4_0.out.size
              have zk := (L4_1.out.keep hb8).cell; have zf := (L4_1.out.keep hb8).frozen; have zl := (L4_1.out.keep hb8).lt
              have HX8 : Below wr.heap.size wr ((((((w8.setCell ⟨wc.heap.size, 0, none⟩ (.int .i64 y.kind)).setCell ⟨wc.heap.size, 1, none⟩ (.bool y.bool)).setCell ⟨wc.heap.size, 2, none⟩ (.int .i64 y.int)).setCell ⟨wc.heap.size, 3, none⟩ (.string y.str)).setCell ⟨wc.heap.size, 4, none⟩ (.slice qa8 y.list.length qc8)).setCell ⟨wc.heap.size, 5, none⟩ (.slice qm8 y.map.length qn8)) := set6_below (o := 0) (Below.next B4_0.out hb8) (by omega)
              have LY8 : Blk ((((((w8.setCell ⟨wc.heap.size, 0, none⟩ (.int .i64 y.kind)).setCell ⟨wc.heap.size, 1, none⟩ (.bool y.bool)).setCell ⟨wc.heap.size, 2, none⟩ (.int .i64 y.int)).setCell ⟨wc.heap.size, 3, none⟩ (.string y.str)).setCell ⟨wc.heap.size, 4, none⟩ (.slice qa8 y.list.length qc8)).setCell ⟨wc.heap.size, 5, none⟩ (.slice qm8 y.map.length qn8)) (wc.heap.size) 25 #[.int .i64 y.kind, .bool y.bool, .int .i64 y.int, .string y.str, .slice qa8 y.list.length qc8, .slice qm8 y.map.length qn8] := (((((((L4_1.out.keep hb8).set_ 0 _).set_ 1 _).set_ 2 _).set_ 3 _).set_ 4 _).set_ 5 _)
              have HY8 : RepT ((((((w8.setCell ⟨wc.heap.size, 0, none⟩ (.int .i64 y.kind)).setCell ⟨wc.heap.size, 1, none⟩ (.bool y.bool)).setCell ⟨wc.heap.size, 2, none⟩ (.int .i64 y.int)).setCell ⟨wc.heap.size, 3, none⟩ (.string y.str)).setCell ⟨wc.heap.size, 4, none⟩ (.slice qa8 y.list.length qc8)).setCell ⟨wc.heap.size, 5, none⟩ (.slice qm8 y.map.length qn8)) (fun b => (S b ∧ b < w.heap.size) ∨ w.heap.size + 4 ≤ b) (.agg #[.int .i64 y.kind, .bool y.bool, .int .i64 y.int, .string y.str, .slice qa8 y.list.length qc8, .slice qm8 y.map.length qn8]) y := RepT.mono (w := w8) hr8 (fun b h _ => by rcases h with h | h; exact .inl h; exact .inr (by have h2 : w4.heap.size ≤ b := h; omega)) (fun b o h _ => World.cell?_of_block (w := w8) (set6_heap (o := 0) (show b ≠ wc.heap.size by rcases h with h | h; have := h.2; omega; have h2 : w4.heap.size ≤ b := h; omega)))
              have TB8 := (TB0.out.keep HX8)
              have E8 := (HX8.cell (p := ⟨b, bo + q * 7, none⟩) hblk).trans C0.out
              obtain ⟨w9x, e9x⟩ : ∃ z, z = ((((((w8.setCell ⟨wc.heap.size, 0, none⟩ (.int .i64 y.kind)).setCell ⟨wc.heap.size, 1, none⟩ (.bool y.bool)).setCell ⟨wc.heap.size, 2, none⟩ (.int .i64 y.int)).setCell ⟨wc.heap.size, 3, none⟩ (.string y.str)).setCell ⟨wc.heap.size, 4, none⟩ (.slice qa8 y.list.length qc8)).setCell ⟨wc.heap.size, 5, none⟩ (.slice qm8 y.map.length qn8)) := ⟨_, rfl⟩
              rw [← e9x] at HX8 LY8 HY8 TB8 E8
              have HBX8 := Lib.hid HX8; have HYY := Lib.hid HY8; have HLY := Lib.hid LY8; have HTB := Lib.hid TB8; have EE8 := Lib.hid E8; have EW := Lib.hid e9x; clear HX8 HY8 LY8 TB8 E8 e9x
              clear tk tl e0 hblk3 k4_0 l4_0 k4_1 l4_1
              go_wp2_with fail
              rw [← EW.out]
              clear EW zk zf zl hr8 hb8
              have tk := HTB.out.cell; have tl := HTB.out.lt; have yk := HLY.out.cell; have yl := HLY.out.lt; have e0 := EE8.out; have hblk3 := Nat.lt_of_lt_of_le hblk HBX8.out.size
              have HNF := Lib.hid (show putT M2 key y = T.diffM (t.map.take (q + 1)) a (mkMap l0) from HNX.out)
              obtain ⟨N, hN⟩ : ∃ N, N = putT M2 key y := ⟨_, rfl⟩
              have CPN := Lib.hid (fun va vb w2 h1 h2 => CP.out y va vb w2 h1 h2); rw [← hN] at HNF CPN; clear hN CP
              have HO3 := Lib.hid (HOT.out.keep HBX8.out); have kO := HO3.out.box.cell; have lO := HO3.out.box.lt; have hsb3 := HBX8.out.size
              have HI0_ := Lib.hid (HO3.out.box)
              have HI1_ := Lib.hid (HTB.out)
              have HI2_ := Lib.hid ((⟨hblk3, e0⟩ : _ ∧ _))
              have HI3_ := Lib.hid (HLY.out)
              refine wp_region_tail (S := (fun w' => (∀ i, w'.cell? ⟨w.heap.size + 1 + 1 + 1, i, none⟩ = (#[.int .i64 M2.kind, .bool M2.bool, .int .i64 M2.int, .string M2.str, .slice xa M2.list.length xc, .slice xm M2.map.length xn] : Array Value)[i]?) ∧ (∀ i, w'.cell? ⟨w.heap.size + 1, i, none⟩ = (#[.int .i64 t.kind, .bool t.bool, .int .i64 t.int, .string t.str, .slice la t.list.length lc, .slice (some ⟨b, bo, none⟩) t.map.length mc] : Array Value)[i]?) ∧ w'.cell? ⟨b, bo + q * 7, none⟩ = some (.string key) ∧ (∀ i, w'.cell? ⟨wc.heap.size, i, none⟩ = (#[.int .i64 y.kind, .bool y.bool, .int .i64 y.int, .string y.str, .slice qa8 y.list.length qc8, .slice qm8 y.map.length qn8] : Array Value)[i]?))) 9 (by kernel_rfl) (by kernel_rfl) (by exact ⟨(Blk.keep HI0_.out (Below.refl _ _).drew).cell, (Blk.keep HI1_.out (Below.refl _ _).drew).cell, cell_keep HI2_.out (Below.refl _ _).drew, (Blk.keep HI3_.out (Below.refl _ _).drew).cell⟩) (fun hHeld => ?_)
              simp only [List.dropLast]
              refine wpAnyH_take (i := 0) (v := ?vm7_0) (by conv => lhs; simp only [List.getElem?_toArray, List.getElem?_cons_succ, List.getElem?_cons_zero]) (by kernel_rfl) (by kernel_rfl) (by kernel_rfl) (by exact fun _ _ _ h => h) (Or.inl ⟨by rfl, ?hym7_0⟩) (by assumption) ?_
              case hym7_0 => (intro w0 hSw; (try dsimp only at hSw); go_simp; try with_reducible rfl)
              try simp only [Act.put, List.setIfInBounds_toArray, List.set_cons_zero, List.set_cons_succ]
              refine wpAnyH_take (i := 1) (v := ?vm7_1) (by conv => lhs; simp only [List.getElem?_toArray, List.getElem?_cons_succ, List.getElem?_cons_zero]) (by kernel_rfl) (by kernel_rfl) (by kernel_rfl) (by exact fun _ _ _ h => h) (Or.inl ⟨by rfl, ?hym7_1⟩) (by assumption) ?_
              case hym7_1 => (intro w0 hSw; (try dsimp only at hSw); go_simp; try with_reducible rfl)
              try simp only [Act.put, List.setIfInBounds_toArray, List.set_cons_zero, List.set_cons_succ]
              refine wpAnyH_take (i := 2) (v := ?vm7_2) (by conv => lhs; simp only [List.getElem?_toArray, List.getElem?_cons_succ, List.getElem?_cons_zero]) (by kernel_rfl) (by kernel_rfl) (by kernel_rfl) (by exact fun _ _ _ h => h) (Or.inl ⟨by rfl, ?hym7_2⟩) (by assumption) ?_
              case hym7_2 => (intro w0 hSw; (try dsimp only at hSw); go_simp; try with_reducible rfl)
              try simp only [Act.put, List.setIfInBounds_toArray, List.set_cons_zero, List.set_cons_succ]
              refine wpAnyH_take (i := 3) (v := ?vm7_3) (by conv => lhs; simp only [List.getElem?_toArray, List.getElem?_cons_succ, List.getElem?_cons_zero]) (by kernel_rfl) (by kernel_rfl) (by kernel_rfl) (by exact fun _ _ _ h => h) (Or.inl ⟨by rfl, ?hym7_3⟩) (by assumption) ?_
              case hym7_3 => (intro w0 hSw; (try dsimp only at hSw); go_simp; try with_reducible rfl)
              try simp only [Act.put, List.setIfInBounds_toArray, List.set_cons_zero, List.set_cons_succ]
              refine wpAnyH_take (i := 4) (v := ?vm7_4) (by conv => lhs; simp only [List.getElem?_toArray, List.getElem?_cons_succ, List.getElem?_cons_zero]) (by kernel_rfl) (by kernel_rfl) (by kernel_rfl) (by exact fun _ _ _ h => h) (Or.inl ⟨by rfl, ?hym7_4⟩) (by assumption) ?_
              case hym7_4 => (intro w0 hSw; (try dsimp only at hSw); go_simp; try with_reducible rfl)
              try simp only [Act.put, List.setIfInBounds_toArray, List.set_cons_zero, List.set_cons_succ]
              refine wpAnyH_take (i := 5) (v := ?vm7_5) (by conv => lhs; simp only [List.getElem?_toArray, List.getElem?_cons_succ, List.getElem?_cons_zero]) (by kernel_rfl) (by kernel_rfl) (by kernel_rfl) (by exact fun _ _ _ h => h) (Or.inl ⟨by rfl, ?hym7_5⟩) (by assumption) ?_
              case hym7_5 => (intro w0 hSw; (try dsimp only at hSw); go_simp; try with_reducible rfl)
              try simp only [Act.put, List.setIfInBounds_toArray, List.set_cons_zero, List.set_cons_succ]
              refine wpAnyH_take (i := 6) (v := ?vm7_6) (by conv => lhs; simp only [List.getElem?_toArray, List.getElem?_cons_succ, List.getElem?_cons_zero]) (by kernel_rfl) (by kernel_rfl) (by kernel_rfl) (by exact fun _ _ _ h => h) (Or.inl ⟨by rfl, ?hym7_6⟩) (by assumption) ?_
              case hym7_6 => (intro w0 hSw; (try dsimp only at hSw); go_simp; try with_reducible rfl)
              try simp only [Act.put, List.setIfInBounds_toArray, List.set_cons_zero, List.set_cons_succ]
              refine wpAnyH_take (i := 7) (v := ?vm7_7) (by conv => lhs; simp only [List.getElem?_toArray, List.getElem?_cons_succ, List.getElem?_cons_zero]) (by kernel_rfl) (by kernel_rfl) (by kernel_rfl) (by exact fun _ _ _ h => h) (Or.inl ⟨by rfl, ?hym7_7⟩) (by assumption) ?_
              case hym7_7 => (intro w0 hSw; (try dsimp only at hSw); go_simp; try with_reducible rfl)
              try simp only [Act.put, List.setIfInBounds_toArray, List.set_cons_zero, List.set_cons_succ]
              refine wpAnyH_ready (rs := [8]) (by kernel_rfl) (by simp) ?_
              refine AllReadyH.cons (by conv => lhs; simp only [List.getElem?_toArray, List.getElem?_cons_succ, List.getElem?_cons_zero]) (fun K hK => ?_) AllReadyH.nil
              go_simp
              refine (CPN.out _ _ _ (HO3.out.rep.keep (by exact (Below.refl _ _).drew)) (HYY.out.keep (by exact (Below.refl _ _).drew))).mono ?_
              rintro e w9 ⟨v9, rfl, hr9, hb9⟩
              obtain ⟨qa9, qc9, qm9, qn9, rfl, -⟩ := hr9.inv
              have hb9 := Below.next (Below.drew (Below.refl _ _)) hb9
              have k9 := (HO3.out.keep hb9).box.cell; have z9 := (HO3.out.keep hb9).box.frozen; have l9 := (HO3.out.keep hb9).box.lt; have HBN := Lib.hid hb9; have HB9 := Lib.hid (Below.next HBX8.out hb9); have HR9 := Lib.hid (hr9.weak (S' := (fun b => (S b ∧ b < w.heap.size) ∨ w.heap.size + 4 ≤ b)) (fun b h _ => by rcases h with h | h; exact h; exact .inr (by have h2 : w9x.heap.size ≤ b := h; omega))); clear hb9 hr9
              go_wp2_with fail
              refine hK.out _ _ (by exact ⟨(Blk.keep HI0_.out HBN.out).cell, (Blk.keep HI1_.out HBN.out).cell, cell_keep HI2_.out HBN.out, (Blk.keep HI3_.out HBN.out).cell⟩) (fun hHeld => ?_)
              clear hK K
              try simp only [Act.put, List.setIfInBounds_toArray, List.set_cons_zero, List.set_cons_succ]
              refine wpAnyH_done (by kernel_rfl) ?_ _
              refine LastQ.step (by conv => lhs; simp only [List.getElem?_toArray, List.getElem?_cons_succ, List.getElem?_cons_zero]) (fun K hK => ?_)
              go_simp
              refine hK.out _ _ ?_
              clear hK K
              try simp only [Act.put, List.setIfInBounds_toArray, List.set_cons_zero, List.set_cons_succ]
              go_wp2_with fail
              go_roundw
              case rel => exact ⟨q + 1, N, _, _, _, _, by omega, by go_num, HNF, Lib.hid (set6_below (o := 0) (HBL.out.trans (HB9.out.mono (by omega))) (by omega)), Lib.hid (HOT.out.put HB9.out HR9.out)⟩
              case measure => simp [intOf]; omega
            have hg : (gx.kind == 5) = false ∨ ((gx.kind == 5) = true ∧ (x.kind == 5) = false) := by
              by_cases h5 : gx.kind = 5
              · exact .inr ⟨by rw [h5]; rfl, beq_eq_false_iff_ne.2 fun e => h55 ⟨h5, e⟩⟩
              · exact .inl (beq_eq_false_iff_ne.2 h5)
            have HNX := Lib.hid (HRP.out h55); clear h55 HRD HRP
            have HXS := Lib.hid (V4_x.out.weak (S' := (fun b => (S b ∧ b < w.heap.size) ∨ w.heap.size + 4 ≤ b)) (fun b h _ => .inl h))
            rcases hg with hg | ⟨hg, hg2⟩
            · go_wp2_with fail
              have HNF := Lib.hid (show putT M2 key x = T.diffM (t.map.take (q + 1)) a (mkMap l0) from HNX.out)
              obtain ⟨N, hN⟩ : ∃ N, N = putT M2 key x := ⟨_, rfl⟩
              have CPN := Lib.hid (fun va vb w2 h1 h2 => CP.out x va vb w2 h1 h2); rw [← hN] at HNF CPN; clear hN CP
              have HO3 := Lib.hid (HOT.out.keep B4_0.out); have kO := HO3.out.box.cell; have lO := HO3.out.box.lt; have hsb3 := B4_0.out.size
              have HI0_ := Lib.hid (HO3.out.box)
              have HI1_ := Lib.hid (TB.out)
              have HI2_ := Lib.hid ((⟨hblk3, e0⟩ : _ ∧ _))
              have HI3_ := Lib.hid (L4_1.out)
              refine wp_region_tail (S := (fun w' => (∀ i, w'.cell? ⟨w.heap.size + 1 + 1 + 1, i, none⟩ = (#[.int .i64 M2.kind, .bool M2.bool, .int .i64 M2.int, .string M2.str, .slice xa M2.list.length xc, .slice xm M2.map.length xn] : Array Value)[i]?) ∧ (∀ i, w'.cell? ⟨w.heap.size + 1, i, none⟩ = (#[.int .i64 t.kind, .bool t.bool, .int .i64 t.int, .string t.str, .slice la t.list.length lc, .slice (some ⟨b, bo, none⟩) t.map.length mc] : Array Value)[i]?) ∧ w'.cell? ⟨b, bo + q * 7, none⟩ = some (.string key) ∧ (∀ i, w'.cell? ⟨wc.heap.size, i, none⟩ = (#[.int .i64 x.kind, .bool x.bool, .int .i64 x.int, .string x.str, .slice ya x.list.length yc, .slice ym x.map.length yn] : Array Value)[i]?))) 9 (by kernel_rfl) (by kernel_rfl) (by exact ⟨(Blk.keep HI0_.out (Below.refl _ _).drew).cell, (Blk.keep HI1_.out (Below.refl _ _).drew).cell, cell_keep HI2_.out (Below.refl _ _).drew, (Blk.keep HI3_.out (Below.refl _ _).drew).cell⟩) (fun hHeld => ?_)
              simp only [List.dropLast]
              refine wpAnyH_take (i := 0) (v := ?vm9_0) (by conv => lhs; simp only [List.getElem?_toArray, List.getElem?_cons_succ, List.getElem?_cons_zero]) (by kernel_rfl) (by kernel_rfl) (by kernel_rfl) (by exact fun _ _ _ h => h) (Or.inl ⟨by rfl, ?hym9_0⟩) (by assumption) ?_
              case hym9_0 => (intro w0 hSw; (try dsimp only at hSw); go_simp; try with_reducible rfl)
              try simp only [Act.put, List.setIfInBounds_toArray, List.set_cons_zero, List.set_cons_succ]
              refine wpAnyH_take (i := 1) (v := ?vm9_1) (by conv => lhs; simp only [List.getElem?_toArray, List.getElem?_cons_succ, List.getElem?_cons_zero]) (by kernel_rfl) (by kernel_rfl) (by kernel_rfl) (by exact fun _ _ _ h => h) (Or.inl ⟨by rfl, ?hym9_1⟩) (by assumption) ?_
              case hym9_1 => (intro w0 hSw; (try dsimp only at hSw); go_simp; try with_reducible rfl)
              try simp only [Act.put, List.setIfInBounds_toArray, List.set_cons_zero, List.set_cons_succ]
              refine wpAnyH_take (i := 2) (v := ?vm9_2) (by conv => lhs; simp only [List.getElem?_toArray, List.getElem?_cons_succ, List.getElem?_cons_zero]) (by kernel_rfl) (by kernel_rfl) (by kernel_rfl) (by exact fun _ _ _ h => h) (Or.inl ⟨by rfl, ?hym9_2⟩) (by assumption) ?_
              case hym9_2 => (intro w0 hSw; (try dsimp only at hSw); go_simp; try with_reducible rfl)
              try simp only [Act.put, List.setIfInBounds_toArray, List.set_cons_zero, List.set_cons_succ]
              refine wpAnyH_take (i := 3) (v := ?vm9_3) (by conv => lhs; simp only [List.getElem?_toArray, List.getElem?_cons_succ, List.getElem?_cons_zero]) (by kernel_rfl) (by kernel_rfl) (by kernel_rfl) (by exact fun _ _ _ h => h) (Or.inl ⟨by rfl, ?hym9_3⟩) (by assumption) ?_
              case hym9_3 => (intro w0 hSw; (try dsimp only at hSw); go_simp; try with_reducible rfl)
              try simp only [Act.put, List.setIfInBounds_toArray, List.set_cons_zero, List.set_cons_succ]
              refine wpAnyH_take (i := 4) (v := ?vm9_4) (by conv => lhs; simp only [List.getElem?_toArray, List.getElem?_cons_succ, List.getElem?_cons_zero]) (by kernel_rfl) (by kernel_rfl) (by kernel_rfl) (by exact fun _ _ _ h => h) (Or.inl ⟨by rfl, ?hym9_4⟩) (by assumption) ?_
              case hym9_4 => (intro w0 hSw; (try dsimp only at hSw); go_simp; try with_reducible rfl)
              try simp only [Act.put, List.setIfInBounds_toArray, List.set_cons_zero, List.set_cons_succ]
              refine wpAnyH_take (i := 5) (v := ?vm9_5) (by conv => lhs; simp only [List.getElem?_toArray, List.getElem?_cons_succ, List.getElem?_cons_zero]) (by kernel_rfl) (by kernel_rfl) (by kernel_rfl) (by exact fun _ _ _ h => h) (Or.inl ⟨by rfl, ?hym9_5⟩) (by assumption) ?_
              case hym9_5 => (intro w0 hSw; (try dsimp only at hSw); go_simp; try with_reducible rfl)
              try simp only [Act.put, List.setIfInBounds_toArray, List.set_cons_zero, List.set_cons_succ]
              refine wpAnyH_take (i := 6) (v := ?vm9_6) (by conv => lhs; simp only [List.getElem?_toArray, List.getElem?_cons_succ, List.getElem?_cons_zero]) (by kernel_rfl) (by kernel_rfl) (by kernel_rfl) (by exact fun _ _ _ h => h) (Or.inl ⟨by rfl, ?hym9_6⟩) (by assumption) ?_
              case hym9_6 => (intro w0 hSw; (try dsimp only at hSw); go_simp; try with_reducible rfl)
              try simp only [Act.put, List.setIfInBounds_toArray, List.set_cons_zero, List.set_cons_succ]
              refine wpAnyH_take (i := 7) (v := ?vm9_7) (by conv => lhs; simp only [List.getElem?_toArray, List.getElem?_cons_succ, List.getElem?_cons_zero]) (by kernel_rfl) (by kernel_rfl) (by kernel_rfl) (by exact fun _ _ _ h => h) (Or.inl ⟨by rfl, ?hym9_7⟩) (by assumption) ?_
              case hym9_7 => (intro w0 hSw; (try dsimp only at hSw); go_simp; try with_reducible rfl)
              try simp only [Act.put, List.setIfInBounds_toArray, List.set_cons_zero, List.set_cons_succ]
              refine wpAnyH_ready (rs := [8]) (by kernel_rfl) (by simp) ?_
              refine AllReadyH.cons (by conv => lhs; simp only [List.getElem?_toArray, List.getElem?_cons_succ, List.getElem?_cons_zero]) (fun K hK => ?_) AllReadyH.nil
              go_simp
              refine (CPN.out _ _ _ (HO3.out.rep.keep (by exact (Below.refl _ _).drew)) (HXS.out.keep (by exact (Below.refl _ _).drew))).mono ?_
              rintro e w9 ⟨v9, rfl, hr9, hb9⟩
              obtain ⟨qa9, qc9, qm9, qn9, rfl, -⟩ := hr9.inv
              have hb9 := Below.next (Below.drew (Below.refl _ _)) hb9
              have k9 := (HO3.out.keep hb9).box.cell; have z9 := (HO3.out.keep hb9).box.frozen; have l9 := (HO3.out.keep hb9).box.lt; have HBN := Lib.hid hb9; have HB9 := Lib.hid (Below.next B4_0.out hb9); have HR9 := Lib.hid (hr9.weak (S' := (fun b => (S b ∧ b < w.heap.size) ∨ w.heap.size + 4 ≤ b)) (fun b h _ => by rcases h with h | h; exact h; exact .inr (by have h2 : w4.heap.size ≤ b := h; omega))); clear hb9 hr9
              go_wp2_with fail
              refine hK.out _ _ (by exact ⟨(Blk.keep HI0_.out HBN.out).cell, (Blk.keep HI1_.out HBN.out).cell, cell_keep HI2_.out HBN.out, (Blk.keep HI3_.out HBN.out).cell⟩) (fun hHeld => ?_)
              clear hK K
              try simp only [Act.put, List.setIfInBounds_toArray, List.set_cons_zero, List.set_cons_succ]
              refine wpAnyH_done (by kernel_rfl) ?_ _
              refine LastQ.step (by conv => lhs; simp only [List.getElem?_toArray, List.getElem?_cons_succ, List.getElem?_cons_zero]) (fun K hK => ?_)
              go_simp
              refine hK.out _ _ ?_
              clear hK K
              try simp only [Act.put, List.setIfInBounds_toArray, List.set_cons_zero, List.set_cons_succ]
              go_wp2_with fail
              go_roundw
              case rel => exact ⟨q + 1, N, _, _, _, _, by omega, by go_num, HNF, Lib.hid (set6_below (o := 0) (HBL.out.trans (HB9.out.mono (by omega))) (by omega)), Lib.hid (HOT.out.put HB9.out HR9.out)⟩
              case measure => simp [intOf]; omega
            · go_wp2_with fail
              have HNF := Lib.hid (show putT M2 key x = T.diffM (t.map.take (q + 1)) a (mkMap l0) from HNX.out)
              obtain ⟨N, hN⟩ : ∃ N, N = putT M2 key x := ⟨_, rfl⟩
              have CPN := Lib.hid (fun va vb w2 h1 h2 => CP.out x va vb w2 h1 h2); rw [← hN] at HNF CPN; clear hN CP
              have HO3 := Lib.hid (HOT.out.keep B4_0.out); have kO := HO3.out.box.cell; have lO := HO3.out.box.lt; have hsb3 := B4_0.out.size
              have HI0_ := Lib.hid (HO3.out.box)
              have HI1_ := Lib.hid (TB.out)
              have HI2_ := Lib.hid ((⟨hblk3, e0⟩ : _ ∧ _))
              have HI3_ := Lib.hid (L4_1.out)
              refine wp_region_tail (S := (fun w' => (∀ i, w'.cell? ⟨w.heap.size + 1 + 1 + 1, i, none⟩ = (#[.int .i64 M2.kind, .bool M2.bool, .int .i64 M2.int, .string M2.str, .slice xa M2.list.length xc, .slice xm M2.map.length xn] : Array Value)[i]?) ∧ (∀ i, w'.cell? ⟨w.heap.size + 1, i, none⟩ = (#[.int .i64 t.kind, .bool t.bool, .int .i64 t.int, .string t.str, .slice la t.list.length lc, .slice (some ⟨b, bo, none⟩) t.map.length mc] : Array Value)[i]?) ∧ w'.cell? ⟨b, bo + q * 7, none⟩ = some (.string key) ∧ (∀ i, w'.cell? ⟨wc.heap.size, i, none⟩ = (#[.int .i64 x.kind, .bool x.bool, .int .i64 x.int, .string x.str, .slice ya x.list.length yc, .slice ym x.map.length yn] : Array Value)[i]?))) 9 (by kernel_rfl) (by kernel_rfl) (by exact ⟨(Blk.keep HI0_.out (Below.refl _ _).drew).cell, (Blk.keep HI1_.out (Below.refl _ _).drew).cell, cell_keep HI2_.out (Below.refl _ _).drew, (Blk.keep HI3_.out (Below.refl _ _).drew).cell⟩) (fun hHeld => ?_)
              simp only [List.dropLast]
              refine wpAnyH_take (i := 0) (v := ?vm11_0) (by conv => lhs; simp only [List.getElem?_toArray, List.getElem?_cons_succ, List.getElem?_cons_zero]) (by kernel_rfl) (by kernel_rfl) (by kernel_rfl) (by exact fun _ _ _ h => h) (Or.inl ⟨by rfl, ?hym11_0⟩) (by assumption) ?_
              case hym11_0 => (intro w0 hSw; (try dsimp only at hSw); go_simp; try with_reducible rfl)
              try simp only [Act.put, List.setIfInBounds_toArray, List.set_cons_zero, List.set_cons_succ]
              refine wpAnyH_take (i := 1) (v := ?vm11_1) (by conv => lhs; simp only [List.getElem?_toArray, List.getElem?_cons_succ, List.getElem?_cons_zero]) (by kernel_rfl) (by kernel_rfl) (by kernel_rfl) (by exact fun _ _ _ h => h) (Or.inl ⟨by rfl, ?hym11_1⟩) (by assumption) ?_
              case hym11_1 => (intro w0 hSw; (try dsimp only at hSw); go_simp; try with_reducible rfl)
              try simp only [Act.put, List.setIfInBounds_toArray, List.set_cons_zero, List.set_cons_succ]
              refine wpAnyH_take (i := 2) (v := ?vm11_2) (by conv => lhs; simp only [List.getElem?_toArray, List.getElem?_cons_succ, List.getElem?_cons_zero]) (by kernel_rfl) (by kernel_rfl) (by kernel_rfl) (by exact fun _ _ _ h => h) (Or.inl ⟨by rfl, ?hym11_2⟩) (by assumption) ?_
              case hym11_2 => (intro w0 hSw; (try dsimp only at hSw); go_simp; try with_reducible rfl)
              try simp only [Act.put, List.setIfInBounds_toArray, List.set_cons_zero, List.set_cons_succ]
              refine wpAnyH_take (i := 3) (v := ?vm11_3) (by conv => lhs; simp only [List.getElem?_toArray, List.getElem?_cons_succ, List.getElem?_cons_zero]) (by kernel_rfl) (by kernel_rfl) (by kernel_rfl) (by exact fun _ _ _ h => h) (Or.inl ⟨by rfl, ?hym11_3⟩) (by assumption) ?_
              case hym11_3 => (intro w0 hSw; (try dsimp only at hSw); go_simp; try with_reducible rfl)
              try simp only [Act.put, List.setIfInBounds_toArray, List.set_cons_zero, List.set_cons_succ]
              refine wpAnyH_take (i := 4) (v := ?vm11_4) (by conv => lhs; simp only [List.getElem?_toArray, List.getElem?_cons_succ, List.getElem?_cons_zero]) (by kernel_rfl) (by kernel_rfl) (by kernel_rfl) (by exact fun _ _ _ h => h) (Or.inl ⟨by rfl, ?hym11_4⟩) (by assumption) ?_
              case hym11_4 => (intro w0 hSw; (try dsimp only at hSw); go_simp; try with_reducible rfl)
              try simp only [Act.put, List.setIfInBounds_toArray, List.set_cons_zero, List.set_cons_succ]
              refine wpAnyH_take (i := 5) (v := ?vm11_5) (by conv => lhs; simp only [List.getElem?_toArray, List.getElem?_cons_succ, List.getElem?_cons_zero]) (by kernel_rfl) (by kernel_rfl) (by kernel_rfl) (by exact fun _ _ _ h => h) (Or.inl ⟨by rfl, ?hym11_5⟩) (by assumption) ?_
              case hym11_5 => (intro w0 hSw; (try dsimp only at hSw); go_simp; try with_reducible rfl)
              try simp only [Act.put, List.setIfInBounds_toArray, List.set_cons_zero, List.set_cons_succ]
              refine wpAnyH_take (i := 6) (v := ?vm11_6) (by conv => lhs; simp only [List.getElem?_toArray, List.getElem?_cons_succ, List.getElem?_cons_zero]) (by kernel_rfl) (by kernel_rfl) (by kernel_rfl) (by exact fun _ _ _ h => h) (Or.inl ⟨by rfl, ?hym11_6⟩) (by assumption) ?_
              case hym11_6 => (intro w0 hSw; (try dsimp only at hSw); go_simp; try with_reducible rfl)
              try simp only [Act.put, List.setIfInBounds_toArray, List.set_cons_zero, List.set_cons_succ]
              refine wpAnyH_take (i := 7) (v := ?vm11_7) (by conv => lhs; simp only [List.getElem?_toArray, List.getElem?_cons_succ, List.getElem?_cons_zero]) (by kernel_rfl) (by kernel_rfl) (by kernel_rfl) (by exact fun _ _ _ h => h) (Or.inl ⟨by rfl, ?hym11_7⟩) (by assumption) ?_
              case hym11_7 => (intro w0 hSw; (try dsimp only at hSw); go_simp; try with_reducible rfl)
              try simp only [Act.put, List.setIfInBounds_toArray, List.set_cons_zero, List.set_cons_succ]
              refine wpAnyH_ready (rs := [8]) (by kernel_rfl) (by simp) ?_
              refine AllReadyH.cons (by conv => lhs; simp only [List.getElem?_toArray, List.getElem?_cons_succ, List.getElem?_cons_zero]) (fun K hK => ?_) AllReadyH.nil
              go_simp
              refine (CPN.out _ _ _ (HO3.out.rep.keep (by exact (Below.refl _ _).drew)) (HXS.out.keep (by exact (Below.refl _ _).drew))).mono ?_
              rintro e w9 ⟨v9, rfl, hr9, hb9⟩
              obtain ⟨qa9, qc9, qm9, qn9, rfl, -⟩ := hr9.inv
              have hb9 := Below.next (Below.drew (Below.refl _ _)) hb9
              have k9 := (HO3.out.keep hb9).box.cell; have z9 := (HO3.out.keep hb9).box.frozen; have l9 := (HO3.out.keep hb9).box.lt; have HBN := Lib.hid hb9; have HB9 := Lib.hid (Below.next B4_0.out hb9); have HR9 := Lib.hid (hr9.weak (S' := (fun b => (S b ∧ b < w.heap.size) ∨ w.heap.size + 4 ≤ b)) (fun b h _ => by rcases h with h | h; exact h; exact .inr (by have h2 : w4.heap.size ≤ b := h; omega))); clear hb9 hr9
              go_wp2_with fail
              refine hK.out _ _ (by exact ⟨(Blk.keep HI0_.out HBN.out).cell, (Blk.keep HI1_.out HBN.out).cell, cell_keep HI2_.out HBN.out, (Blk.keep HI3_.out HBN.out).cell⟩) (fun hHeld => ?_)
              clear hK K
              try simp only [Act.put, List.setIfInBounds_toArray, List.set_cons_zero, List.set_cons_succ]
              refine wpAnyH_done (by kernel_rfl) ?_ _
              refine LastQ.step (by conv => lhs; simp only [List.getElem?_toArray, List.getElem?_cons_succ, List.getElem?_cons_zero]) (fun K hK => ?_)
              go_simp
              refine hK.out _ _ ?_
              clear hK K
              try simp only [Act.put, List.setIfInBounds_toArray, List.set_cons_zero, List.set_cons_succ]
              go_wp2_with fail
              go_roundw
              case rel => exact ⟨q + 1, N, _, _, _, _, by omega, by go_num, HNF, Lib.hid (set6_below (o := 0) (HBL.out.trans (HB9.out.mono (by omega))) (by omega)), Lib.hid (HOT.out.put HB9.out HR9.out)⟩
              case measure => simp [intOf]; omega
      · obtain rfl : q = t.map.length := by omega
        have HE2 := Lib.hid (show res = M from by rw [HE.out, hM.out, List.take_length])
        clear hM HE
        have zf := L2_2.out.frozen
        go_wp2_with fail
        exact ret_cell rfl rfl ((((((L2_2.out.set_ 0 _).set_ 1 _).set_ 2 _).set_ 3 _).set_ 4 _).set_ 5 _) Try.underlying25 val_size rfl ⟨_, rfl, by rw [HE2.out]; exact HOT.out.fin (by omega) (by omega), set6_below (o := 0) HOT.out.bel (by omega)⟩
end Go.Proofs.Ythkkmnmejciomaa
