/- The reference's Same: whether two values are one. -/
import Derived.Test.YtgbbojnigicnoaaDoorRight
namespace Go.Proofs.YtgbbojnigicnoaaDoor
open Go.RowKit
attribute [local go_sem ↓] Go.wp_at_zero Go.wp_at_succ

def SamePost (w : World) (p : Prop) (e : Ending) (w' : World) : Prop := ∃ r : Bool, e = .returned (.bool r) ∧ (r = true ↔ p) ∧ Below w.heap.size w w'
def SameOk (a : T) : Prop := ∀ (b : T) (w : World) (S S' : Nat → Prop) (v v' : Value), RepT w S v a → RepT w S' v' b → Calls Tryd.prog 22 #[v, v'] w (SamePost w (a = b))
theorem T.eq_iff (a b : T) : a = b ↔ a.kind = b.kind ∧ a.bool = b.bool ∧ a.int = b.int ∧ a.str = b.str ∧ a.list = b.list ∧ a.map = b.map := by
  cases a; cases b; simp [T.kind, T.bool, T.int, T.str, T.list, T.map]
theorem SamePost.no {w w' : World} {p : Prop} (hp : ¬ p) (hb : Below w.heap.size w w') : SamePost w p (.returned (.bool false)) w' := ⟨false, rfl, by simp [hp], hb⟩
theorem SamePost.yes {w w' : World} {p : Prop} (hp : p) (hb : Below w.heap.size w w') : SamePost w p (.returned (.bool true)) w' := ⟨true, rfl, by simp [hp], hb⟩

set_option maxRecDepth 100000 in
set_option maxHeartbeats 4000000 in
theorem rsame (a : T) : SameOk a := by
  have hnot : ∀ (x : Bool) (w : World), (Op.unary .not (.bool x)).run Tryd.prog w = .ok (.bool (!x)) w := fun _ _ => rfl
  induction a using T.ind' with
  | h a ihl ihm =>
  intro b w S S' v v' h h'
  obtain ⟨la, lc, ma, mc, rfl, hp⟩ := h.inv
  obtain ⟨-, -, -, hl, hm, -, -, -, -, hL, hM⟩ := hp
  obtain ⟨lb, ld, mb, md, rfl, hp'⟩ := h'.inv
  obtain ⟨-, -, -, hl', hm', -, -, -, -, hL', hM'⟩ := hp'
  have HEQ := Lib.hid (T.eq_iff a b)
  clear h h'
  generalize a.kind = k1 at *
  generalize a.bool = b1 at *
  generalize a.int = n1 at *
  generalize a.str = s1 at *
  generalize a.list = l1 at *
  generalize a.map = m1 at *
  generalize b.kind = k2 at *
  generalize b.bool = b2 at *
  generalize b.int = n2 at *
  generalize b.str = s2 at *
  generalize b.list = l2 at *
  generalize b.map = m2 at *
  have hbx : Below w.heap.size w ((w.alloc (.cells #[.int .i64 k1, .bool b1, .int .i64 n1, .string s1, .slice la l1.length lc, .slice ma m1.length mc] 25)).alloc (.cells #[.int .i64 k2, .bool b2, .int .i64 n2, .string s2, .slice lb l2.length ld, .slice mb m2.length md] 25)) := (Below.new _ _).alloc (by simp) _
  by_cases hd : k1 ≠ k2
  · have HN : Hid (¬ (a = b)) := fun e => by have := HEQ.out.1 e; exact hd this.1
    clear HEQ
    have g : (k1 != k2) = true := bne_iff_ne.2 hd
    clear hd
    go_enter Tryd.func22, Tryd.ntmps22
    go_wp2_with fail
    go_ret
    exact SamePost.no HN.out hbx
  have hd := Classical.not_not.1 hd
  subst hd
  by_cases hd : b1 ≠ b2
  · have HN : Hid (¬ (a = b)) := fun e => by have := HEQ.out.1 e; exact hd this.2.1
    clear HEQ
    have g : (b1 != b2) = true := bne_iff_ne.2 hd
    have g2 : (b1 == b2) = false := beq_eq_false_iff_ne.2 hd
    clear hd
    go_enter Tryd.func22, Tryd.ntmps22
    go_wp2_with fail
    go_ret
    exact SamePost.no HN.out hbx
  have hd := Classical.not_not.1 hd
  subst hd
  by_cases hd : n1 ≠ n2
  · have HN : Hid (¬ (a = b)) := fun e => by have := HEQ.out.1 e; exact hd this.2.2.1
    clear HEQ
    have g : (n1 != n2) = true := bne_iff_ne.2 hd
    clear hd
    go_enter Tryd.func22, Tryd.ntmps22
    go_wp2_with fail
    go_ret
    exact SamePost.no HN.out hbx
  have hd := Classical.not_not.1 hd
  subst hd
  by_cases hd : s1 ≠ s2
  · have HN : Hid (¬ (a = b)) := fun e => by have := HEQ.out.1 e; exact hd this.2.2.2.1
    clear HEQ
    have g : (s1.toList == s2.toList) = false := by rw [keq_iff]; simpa using hd
    clear hd
    go_enter Tryd.func22, Tryd.ntmps22
    go_wp2_with fail
    go_ret
    exact SamePost.no HN.out hbx
  have hd := Classical.not_not.1 hd
  subst hd
  by_cases hd : l1.length ≠ l2.length
  · have HN : Hid (¬ (a = b)) := fun e => by have := HEQ.out.1 e; exact hd (by rw [this.2.2.2.2.1])
    clear HEQ
    have g : ((l1.length : Int) != (l2.length : Int)) = true := by rw [bne_iff_ne]; omega
    have g2 : (l1.length != l2.length) = true := bne_iff_ne.2 hd
    clear hd
    go_enter Tryd.func22, Tryd.ntmps22
    go_wp2_with fail
    go_ret
    exact SamePost.no HN.out hbx
  have hll := Classical.not_not.1 hd
  have HLL := Lib.hid hll
  have g1 : ((l1.length : Int) != (l2.length : Int)) = false := by simp [hll]
  have g1' : (l1.length != l2.length) = false := by simp [hll]
  clear hd hll
  by_cases hd : m1.length ≠ m2.length
  · have HN : Hid (¬ (a = b)) := fun e => by have := HEQ.out.1 e; exact hd (by rw [this.2.2.2.2.2])
    clear HEQ
    have g : ((m1.length : Int) != (m2.length : Int)) = true := by rw [bne_iff_ne]; omega
    have g2 : (m1.length != m2.length) = true := bne_iff_ne.2 hd
    clear hd
    go_enter Tryd.func22, Tryd.ntmps22
    go_wp2_with fail
    go_ret
    exact SamePost.no HN.out hbx
  have hmm := Classical.not_not.1 hd
  have HMM := Lib.hid hmm
  have g2 : ((m1.length : Int) != (m2.length : Int)) = false := by simp [hmm]
  have g2' : (m1.length != m2.length) = false := by simp [hmm]
  clear hd hmm
  go_enter Tryd.func22, Tryd.ntmps22
  go_wp2_with fail
  go_loopw [5] (fun i wr => ∃ q : Nat, q ≤ l1.length ∧ i = .int .i64 q ∧ Hid (∀ j (hj : j < l1.length) (hj' : j < l2.length), j < q → l1[j] = l2[j]) ∧ Below w.heap.size w wr ∧ Blk wr w.heap.size 25 #[.int .i64 k1, .bool b1, .int .i64 n1, .string s1, .slice la l1.length lc, .slice ma m1.length mc] ∧ Blk wr (w.heap.size + 1) 25 #[.int .i64 k1, .bool b1, .int .i64 n1, .string s1, .slice lb l2.length ld, .slice mb m2.length md]) (fun i _ => l1.length - (intOf i).toNat)
  case atStart => exact ⟨0, Nat.zero_le _, rfl, fun j _ _ h => by omega, hbx, (Blk.new _ _ _).alloc _, Blk.new_at _ _ _ (by simp)⟩
  case round =>
    clear g1 g1' g2 g2' hbx
    obtain ⟨j, hj, rfl, hall, hbw, hx1, hx2⟩ := hrel
    have b4 : wr.cell? ⟨w.heap.size, 4, none⟩ = some (.slice la l1.length lc) := hx1.cell 4
    have b5 : wr.cell? ⟨w.heap.size, 5, none⟩ = some (.slice ma m1.length mc) := hx1.cell 5
    have d4 : wr.cell? ⟨w.heap.size + 1, 4, none⟩ = some (.slice lb l2.length ld) := hx2.cell 4
    have d5 : wr.cell? ⟨w.heap.size + 1, 5, none⟩ = some (.slice mb m2.length md) := hx2.cell 5
    by_cases hlt : j < l1.length
    · have hlt2 : j < l2.length := by have := HLL.out; omega
      obtain ⟨bl, ol, la', lc', ma', mc', rfl, -, hbl0, ⟨c0, c1, c2, c3, c4, c5⟩, hr⟩ := (hL.keep hbw).at_ hlt
      obtain ⟨bk, ok, lb', ld', mb', md', rfl, -, hbk0, ⟨e0, e1, e2, e3, e4, e5⟩, hr'⟩ := (hL'.keep hbw).at_ hlt2
      have HIH := Lib.hid (fun w v v' h h' => ihl _ (List.getElem_mem hlt) (l2[j]'hlt2) w S S' v v' h h')
      have HSTEP : Hid (l1[j] = l2[j] → ∀ i (hi : i < l1.length) (hi' : i < l2.length), i < j + 1 → l1[i] = l2[i]) := fun he i hi hi' h => by
        rcases Nat.lt_or_ge i j with h2 | h2
        · exact hall.out i hi hi' h2
        · obtain rfl : i = j := by omega
          exact he
      have HNO : Hid (¬ l1[j] = l2[j] → ¬ a = b) := fun he e => he (by
        have e2 := (HEQ.out.1 e).2.2.2.2.1
        subst e2; rfl)
      generalize l1[j] = x at *
      generalize l2[j] = y at *
      have HR := Lib.hid hr
      have HR' := Lib.hid hr'
      have hi1 : (0 : Int) ≤ (j : Int) := by omega
      have hi2 : (j : Int) < (l1.length : Int) := by omega
      have hi3 : (j : Int) < (l2.length : Int) := by omega
      clear hr hr'
      go_wp2_with fail
      go_region_held3 (fun w' => w'.cell? ⟨w.heap.size, 4, none⟩ = some (.slice (some ⟨bl, ol, none⟩) l1.length lc) ∧ w'.cell? ⟨w.heap.size + 1, 4, none⟩ = some (.slice (some ⟨bk, ok, none⟩) l2.length ld) ∧ w'.cell? ⟨bl, ol + j * 6, none⟩ = some (.int .i64 x.kind) ∧ w'.cell? ⟨bl, ol + j * 6 + 1, none⟩ = some (.bool x.bool) ∧ w'.cell? ⟨bl, ol + j * 6 + 2, none⟩ = some (.int .i64 x.int) ∧ w'.cell? ⟨bl, ol + j * 6 + 3, none⟩ = some (.string x.str) ∧ w'.cell? ⟨bl, ol + j * 6 + 4, none⟩ = some (.slice la' x.list.length lc') ∧ w'.cell? ⟨bl, ol + j * 6 + 5, none⟩ = some (.slice ma' x.map.length mc') ∧ w'.cell? ⟨bk, ok + j * 6, none⟩ = some (.int .i64 y.kind) ∧ w'.cell? ⟨bk, ok + j * 6 + 1, none⟩ = some (.bool y.bool) ∧ w'.cell? ⟨bk, ok + j * 6 + 2, none⟩ = some (.int .i64 y.int) ∧ w'.cell? ⟨bk, ok + j * 6 + 3, none⟩ = some (.string y.str) ∧ w'.cell? ⟨bk, ok + j * 6 + 4, none⟩ = some (.slice lb' y.list.length ld') ∧ w'.cell? ⟨bk, ok + j * 6 + 5, none⟩ = some (.slice mb' y.map.length md')) (go_keep)
        (first | (go_at_call 22; refine (HIH.out _ _ _ (HR.out.keep (by exact Below.drew (Below.refl _ _))) (HR'.out.keep (by exact Below.drew (Below.refl _ _)))).mono ?_; rintro e w1 ⟨r, rfl, hr, hb1⟩; have hcb := (bcell (Below.next (Below.drew (Below.refl wr.heap.size wr)) hb1)).1;  have u0 := (hcb _ _ hbl0).trans c0; have v0 := (hcb _ _ hbk0).trans e0; have u1 := (hcb _ _ hbl0).trans c1; have v1 := (hcb _ _ hbk0).trans e1; have u2 := (hcb _ _ hbl0).trans c2; have v2 := (hcb _ _ hbk0).trans e2; have u3 := (hcb _ _ hbl0).trans c3; have v3 := (hcb _ _ hbk0).trans e3; have u4 := (hcb _ _ hbl0).trans c4; have v4 := (hcb _ _ hbk0).trans e4; have u5 := (hcb _ _ hbl0).trans c5; have v5 := (hcb _ _ hbk0).trans e5; have u7 := (hcb _ _ hx1.lt).trans b4; have u8 := (hcb _ _ hx2.lt).trans d4; have HB1 := Lib.hid hb1; have HRR := Lib.hid hr; clear hb1 hr hcb))
      have hb2 := Below.next (Below.drew (Below.refl wr.heap.size wr)) HB1.out
      clear u0 u1 u2 u3 u4 u5 v0 v1 v2 v3 v4 v5 u7 u8
      cases r with
      | true =>
        have HE := Lib.hid (HSTEP.out (HRR.out.1 rfl))
        go_wp2_with fail
        go_roundw
        case rel => exact ⟨j + 1, by omega, by go_num, HE, Below.next hbw hb2, hx1.keep hb2, hx2.keep hb2⟩
        case measure => simp [intOf]; omega
      | false =>
        have HN := Lib.hid (HNO.out (fun e => by have := HRR.out.2 e; cases this))
        go_wp2_with fail
        go_ret
        exact SamePost.no HN.out (Below.next hbw hb2)
    · have HLE : Hid (l1 = l2) := List.ext_getElem HLL.out fun i hi hi' => hall.out i hi hi' (by omega)
      clear hall
      go_wp2_with fail
      go_loopw [6] (fun i wr => ∃ q : Nat, q ≤ m1.length ∧ i = .int .i64 q ∧ Hid (∀ j (hj : j < m1.length) (hj' : j < m2.length), j < q → m1[j] = m2[j]) ∧ Below w.heap.size w wr ∧ Blk wr w.heap.size 25 #[.int .i64 k1, .bool b1, .int .i64 n1, .string s1, .slice la l1.length lc, .slice ma m1.length mc] ∧ Blk wr (w.heap.size + 1) 25 #[.int .i64 k1, .bool b1, .int .i64 n1, .string s1, .slice lb l2.length ld, .slice mb m2.length md]) (fun i _ => m1.length - (intOf i).toNat)
      case atStart => exact ⟨0, Nat.zero_le _, rfl, fun j _ _ h => by omega, hbw, hx1, hx2⟩
      case round =>
        clear hbw hx1 hx2 b4 d4 b5 d5 hlt hj
        obtain ⟨j, hj, rfl, hall, hbw, hx1, hx2⟩ := hrel
        have b5 : wr.cell? ⟨w.heap.size, 5, none⟩ = some (.slice ma m1.length mc) := hx1.cell 5
        have d5 : wr.cell? ⟨w.heap.size + 1, 5, none⟩ = some (.slice mb m2.length md) := hx2.cell 5
        by_cases hlt : j < m1.length
        · have hlt2 : j < m2.length := by have := HMM.out; omega
          obtain ⟨bl, ol, la', lc', ma', mc', rfl, -, hbl0, -, ⟨c0, c1, c2, c3, c4, c5, c6⟩, hr⟩ := (hM.keep hbw).at_ hlt
          obtain ⟨bk, ok, lb', ld', mb', md', rfl, -, hbk0, -, ⟨e0, e1, e2, e3, e4, e5, e6⟩, hr'⟩ := (hM'.keep hbw).at_ hlt2
          have HIH := Lib.hid (fun w v v' h h' => ihm _ (List.getElem_mem hlt) (m2[j]'hlt2).2 w S S' v v' h h')
          have HSTEP : Hid (m1[j] = m2[j] → ∀ i (hi : i < m1.length) (hi' : i < m2.length), i < j + 1 → m1[i] = m2[i]) := fun he i hi hi' h => by
            rcases Nat.lt_or_ge i j with h2 | h2
            · exact hall.out i hi hi' h2
            · obtain rfl : i = j := by omega
              exact he
          have HNO : Hid (¬ m1[j] = m2[j] → ¬ a = b) := fun he e => he (by
            have e2 := (HEQ.out.1 e).2.2.2.2.2
            subst e2; rfl)
          generalize m1[j] = px at *
          generalize m2[j] = py at *
          obtain ⟨p1, x⟩ := px
          obtain ⟨p2, y⟩ := py
          simp only at *
          have HR := Lib.hid hr
          have HR' := Lib.hid hr'
          have hi1 : (0 : Int) ≤ (j : Int) := by omega
          have hi2 : (j : Int) < (m1.length : Int) := by omega
          have hi3 : (j : Int) < (m2.length : Int) := by omega
          clear hr hr'
          by_cases hk : p1 = p2
          · subst hk
            go_wp2_with fail
            go_region_held3 (fun w' => w'.cell? ⟨w.heap.size, 5, none⟩ = some (.slice (some ⟨bl, ol, none⟩) m1.length mc) ∧ w'.cell? ⟨w.heap.size + 1, 5, none⟩ = some (.slice (some ⟨bk, ok, none⟩) m2.length md) ∧ w'.cell? ⟨bl, ol + j * 7, none⟩ = some (.string p1) ∧ w'.cell? ⟨bk, ok + j * 7, none⟩ = some (.string p1) ∧ w'.cell? ⟨bl, ol + j * 7 + 1, none⟩ = some (.int .i64 x.kind) ∧ w'.cell? ⟨bl, ol + j * 7 + 2, none⟩ = some (.bool x.bool) ∧ w'.cell? ⟨bl, ol + j * 7 + 3, none⟩ = some (.int .i64 x.int) ∧ w'.cell? ⟨bl, ol + j * 7 + 4, none⟩ = some (.string x.str) ∧ w'.cell? ⟨bl, ol + j * 7 + 5, none⟩ = some (.slice la' x.list.length lc') ∧ w'.cell? ⟨bl, ol + j * 7 + 6, none⟩ = some (.slice ma' x.map.length mc') ∧ w'.cell? ⟨bk, ok + j * 7 + 1, none⟩ = some (.int .i64 y.kind) ∧ w'.cell? ⟨bk, ok + j * 7 + 2, none⟩ = some (.bool y.bool) ∧ w'.cell? ⟨bk, ok + j * 7 + 3, none⟩ = some (.int .i64 y.int) ∧ w'.cell? ⟨bk, ok + j * 7 + 4, none⟩ = some (.string y.str) ∧ w'.cell? ⟨bk, ok + j * 7 + 5, none⟩ = some (.slice lb' y.list.length ld') ∧ w'.cell? ⟨bk, ok + j * 7 + 6, none⟩ = some (.slice mb' y.map.length md')) (go_keep)
              (first | (go_at_call 22; refine (HIH.out _ _ _ (HR.out.keep (by exact Below.drew (Below.refl _ _))) (HR'.out.keep (by exact Below.drew (Below.refl _ _)))).mono ?_; rintro e w1 ⟨r, rfl, hr, hb1⟩; have hcb := (bcell (Below.next (Below.drew (Below.refl wr.heap.size wr)) hb1)).1; have u0 := (hcb _ _ hbl0).trans c0; have v0 := (hcb _ _ hbk0).trans e0; have u1 := (hcb _ _ hbl0).trans c1; have v1 := (hcb _ _ hbk0).trans e1; have u2 := (hcb _ _ hbl0).trans c2; have v2 := (hcb _ _ hbk0).trans e2; have u3 := (hcb _ _ hbl0).trans c3; have v3 := (hcb _ _ hbk0).trans e3; have u4 := (hcb _ _ hbl0).trans c4; have v4 := (hcb _ _ hbk0).trans e4; have u5 := (hcb _ _ hbl0).trans c5; have v5 := (hcb _ _ hbk0).trans e5; have u6 := (hcb _ _ hbl0).trans c6; have v6 := (hcb _ _ hbk0).trans e6; have u7 := (hcb _ _ hx1.lt).trans b5; have u8 := (hcb _ _ hx2.lt).trans d5; have HB1 := Lib.hid hb1; have HRR := Lib.hid hr; clear hb1 hr hcb))
            have hb2 := Below.next (Below.drew (Below.refl wr.heap.size wr)) HB1.out
            clear u0 u1 u2 u3 u4 u5 u6 v0 v1 v2 v3 v4 v5 v6 u7 u8
            cases r with
            | true =>
              have HE := Lib.hid (HSTEP.out (by rw [HRR.out.1 rfl]))
              go_wp2_with fail
              go_roundw
              case rel => exact ⟨j + 1, by omega, by go_num, HE, Below.next hbw hb2, hx1.keep hb2, hx2.keep hb2⟩
              case measure => simp [intOf]; omega
            | false =>
              have HN := Lib.hid (HNO.out (fun e => by have := HRR.out.2 (by injection e); cases this))
              go_wp2_with fail
              go_ret
              exact SamePost.no HN.out (Below.next hbw hb2)
          · have HN := Lib.hid (HNO.out (fun e => hk (by injection e)))
            have gk : (p1.toList == p2.toList) = false := by rw [keq_iff]; simpa using hk
            clear hk
            go_wp2_with fail
            go_quiet (fail)
            go_wp2_with fail
            go_ret
            exact SamePost.no HN.out (Below.drewN hbw _)
        · have HME : Hid (a = b) := HEQ.out.2 ⟨by trivial, by trivial, by trivial, by trivial, HLE.out, List.ext_getElem HMM.out fun i hi hi' => hall.out i hi hi' (by omega)⟩
          clear hall
          go_wp2_with fail
          go_ret
          exact SamePost.yes HME.out hbw
end Go.Proofs.YtgbbojnigicnoaaDoor
