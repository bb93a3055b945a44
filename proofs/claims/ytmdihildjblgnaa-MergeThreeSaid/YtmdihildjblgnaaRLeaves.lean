/- The reference of paths: Leaves. -/
import Derived.Test.YtmdihildjblgnaaPLeaves
namespace Go.Proofs.Ytmdihildjblgnaa
open Go.RowKit
attribute [local go_sem ↓] Go.wp_at_zero Go.wp_at_succ

/-- append of one key to nothing, and of a leaf's steps behind it. -/
theorem steps_append2 {w : World} {k : ByteArray} {a : Option Addr} {c : Nat} {l : List ByteArray} (hk : k.size ≤ 140737488351232) (hl : RepS w (fun _ => True) a l) (hlen : l.length ≤ 1000000) (g : Nat) (hg : g = w.heap.size) :
    ∃ A1 c1 w1 A' c' w', (Builtin.append_ #[41, 41] 41 #[.slice none 0 0, .slice (some ⟨g, 0, none⟩) 1 1]).run Try.prog (w.alloc (.cells #[.string k] 9)) = .ok (.slice A1 1 c1) w1 ∧ Below w.heap.size w w1 ∧
      (Builtin.append_ #[41, 41] 41 #[.slice A1 1 c1, .slice a l.length c]).run Try.prog w1 = .ok (.slice A' (l.length + 1) c') w' ∧
      l.length + 1 ≤ c' ∧ c' ≤ maxLen ∧ RepS w' (fun b => w.heap.size ≤ b) A' (k :: l) ∧ Below w.heap.size w w' := by
  subst hg
  have ha : Below w.heap.size w (w.alloc (.cells #[.string k] 9)) := Below.new _ _
  obtain ⟨A1, c1, w1, hr1, hown, hgr1⟩ := own_append (E := eltS) (w := w.alloc (.cells #[.string k] 9)) (B := w.heap.size) (S := fun _ => True) (A := none) (c := 0) (l := []) (l2 := [k]) (es := [.string k]) (ad := ⟨w.heap.size, 0, none⟩) (cc := 1) (ty := 41) (t := 41) rfl OwnE.nil (by show (0 + 1) * 16 ≤ _; omega) (by show 0 + 1 ≤ _; unfold maxLen; omega) (by simp) (by rfl)
    (fun j u hu => by rw [add_lit, Nat.zero_add, (Blk.new w 9 #[.string k]).cell]; simpa using hu)
    (fun i hi => by obtain rfl : i = 0 := by simpa using hi
                    exact ⟨rfl, hk⟩)
  have hb1 : Below w.heap.size w w1 := ⟨hgr1.os.trans ha.os, hgr1.tape.trans ha.tape, hgr1.output.trans ha.output, Nat.le_trans ha.size hgr1.size, fun g hg => (hgr1.block g (Nat.lt_of_lt_of_le hg ha.size) (fun e => by cases e)).trans (ha.block g hg)⟩
  have hl1 := hl.keep hb1
  have fin : ∀ A' c' w', OwnE eltS w' w.heap.size (fun _ => True) A' c' (k :: l) → Below w.heap.size w w' → l.length + 1 ≤ c' ∧ c' ≤ maxLen ∧ RepS w' (fun b => w.heap.size ≤ b) A' (k :: l) ∧ Below w.heap.size w w' := by
    intro A' c' w' h hb
    have h1 := h.len
    refine ⟨h1.1, h1.2, ?_, hb⟩
    intro i hi
    obtain ⟨b, o, e, hs, hlt, hc, hz⟩ := repS_of h.rep i hi
    refine ⟨b, o, e, ?_, hlt, hc, hz⟩
    have := h.own b (by rw [e]; rfl)
    exact this.1
  have hbel : ∀ w', w1.grownBy w' (Value.ownBlock (.slice A1 1 c1)) → Below w.heap.size w w' := fun w' hgr => ⟨hgr.os.trans hb1.os, hgr.tape.trans hb1.tape, hgr.output.trans hb1.output, Nat.le_trans hb1.size hgr.size, fun g hg => (hgr.block g (Nat.lt_of_lt_of_le hg hb1.size) (fun e => by have := (hown.own g e.symm).1; omega)).trans (hb1.block g hg)⟩
  cases l with
  | nil =>
    cases a with
    | none =>
      obtain ⟨xs, h1, h2, h3⟩ := hown
      obtain ⟨i0, hi0, hz0, hz1, hz2⟩ := info_parts eltS.hinfo
      exact ⟨A1, c1, w1, _, _, _, hr1, hb1, run_append_none _ _ _ _ _ i0 _ und_ss hi0 _ _ _ h1 c, fin _ _ _ ⟨xs, h1, h2, h3⟩ hb1⟩
    | some ad =>
      obtain ⟨A', c', w', hr, ho, hgr⟩ := own_append (E := eltS) (l2 := []) (es := []) (ad := ad) (cc := c) (ty := 41) (t := 41) rfl hown (by show (1 + 0) * 16 ≤ _; omega) (by show 1 + 0 ≤ _; unfold maxLen; omega) hb1.size (by simp) (by simp) (by intro i hi; simp at hi)
      exact ⟨A1, c1, w1, A', c', w', hr1, hb1, hr, fin _ _ _ ho (hbel _ hgr)⟩
  | cons s r =>
    obtain ⟨b, o, rfl, -⟩ := hl 0 (by simp)
    obtain ⟨A', c', w', hr, ho, hgr⟩ := own_append (E := eltS) (l2 := s :: r) (es := (s :: r).map Value.string) (ad := ⟨b, o, none⟩) (cc := c) (ty := 41) (t := 41) rfl hown (by show (1 + (s :: r).length) * 16 ≤ _; omega) (by show 1 + (s :: r).length ≤ _; unfold maxLen; omega) hb1.size (by simp [eltS]) (fun j u hu => by
        have hj : j < (s :: r).length := by have := (List.getElem?_eq_some_iff.1 hu).1; simpa using this
        obtain ⟨b', o', e, _, _, hc, _⟩ := hl1 j hj
        obtain ⟨rfl, rfl⟩ : b = b' ∧ o = o' := by simpa using e
        rw [add_lit, hc]
        rw [List.getElem?_map, List.getElem?_eq_getElem hj] at hu
        exact hu) (fun i hi => ⟨by
          rw [show eltS.sz = 1 from rfl, Nat.mul_one, ← List.map_drop, List.drop_eq_getElem_cons hi]; rfl, by obtain ⟨_, _, _, _, _, _, hz⟩ := hl1 i hi; exact hz⟩)
    have hl3 : ([] ++ [k] ++ s :: r).length = (s :: r).length + 1 := by simp
    rw [hl3] at hr
    exact ⟨A1, c1, w1, A', c', w', hr1, hb1, hr, fin _ _ _ ho (hbel _ hgr)⟩

set_option maxRecDepth 100000 in
set_option maxHeartbeats 2000000 in
theorem rpleaves (t : T) : ∀ (_ : t.wt ≤ 900000) (v : Value) (w : World) (S : Nat → Prop), RepT w S v t → Calls Try.prog 55 #[v] w (LeavesPost eltR2 S w t.leaves) := by
  induction t using T.ind' with
  | h t ihl ihm =>
  intro hwt v w S h
  clear ihl
  obtain ⟨la, lc, ma, mc, rfl, hp⟩ := h.inv
  obtain ⟨-, -, -, -, hm, -, -, -, -, -, hM⟩ := hp
  by_cases hmm : t.map = []
  · have HE := Lib.hid (show t.leaves = [([], t)] by rw [leaves_eq, if_pos hmm])
    have h0 : ((t.map.length : Int) == 0) = true := by rw [hmm]; rfl
    have HR := Lib.hid h
    clear hmm h hM ihm
    go_enter Try.func55, Try.ntmps55
    go_wp2_with fail
    go_ret
    have hb1 := Below.new w (.cells #[.int .i64 t.kind, .bool t.bool, .int .i64 t.int, .string t.str, .slice la t.list.length lc, .slice ma t.map.length mc] 25)
    have hbb := Below.next hb1 (Below.new (w.alloc (.cells #[.int .i64 t.kind, .bool t.bool, .int .i64 t.int, .string t.str, .slice la t.list.length lc, .slice ma t.map.length mc] 25)) (.cells #[.slice none 0 0, .int .i64 t.kind, .bool t.bool, .int .i64 t.int, .string t.str, .slice la t.list.length lc, .slice ma t.map.length mc] 60))
    refine ⟨_, _, by rw [HE.out]; rfl, ?_, by rw [HE.out]; simp, by unfold maxLen; omega, hbb⟩
    rw [HE.out]
    refine rep_block (E := eltR2) (l := [([], t)]) [[.slice none 0 0, .int .i64 t.kind, .bool t.bool, .int .i64 t.int, .string t.str, .slice la t.list.length lc, .slice ma t.map.length mc]] (Blk.new_at _ _ _ (by simp)) rfl (.inr (by omega)) ⟨⟨none, 0, _, rfl, by simp, by unfold maxLen; omega, fun i hi => by simp at hi, ?_⟩, trivial⟩
    exact (HR.out.weak (fun b hb _ => .inl hb)).keep hbb
  · have h0 : 0 < t.map.length := List.length_pos_iff.2 hmm
    have h1 : ((t.map.length : Int) == 0) = false := beq_eq_false_iff_ne.2 (by omega)
    have HE := Lib.hid (show t.leaves = T.leavesM t.map by rw [leaves_eq, if_neg hmm])
    have HLW := Lib.hid (leaves_wt t).1
    have HIH := Lib.hid (fun p hp => ihm p hp (Nat.le_trans (wt_sub p hp) hwt))
    have HSW := Lib.hid (fun p (hp : p ∈ t.map) l (hl : l ∈ p.2.leaves) => Nat.le_trans ((leaves_wt p.2).2 l hl) (Nat.le_trans (wt_sub p hp) hwt))
    have HLL := Lib.hid (fun k => leavesM_len t.map k)
    have HM := Lib.hid ((hM.mono (w' := w) (S' := fun b => S b ∧ b < w.heap.size) (fun _ hs h => ⟨hs, h⟩) (fun _ _ _ _ => rfl)))
    clear hmm h hM ihm
    have hwl : (T.leavesM t.map).length ≤ 900000 := by have := HLW.out; rw [HE.out] at this; omega
    rw [HE.out]
    clear HE HLW hwt
    generalize t.map = m at *
    have hB1 : Blk (w.alloc (.cells #[.int .i64 t.kind, .bool t.bool, .int .i64 t.int, .string t.str, .slice la t.list.length lc, .slice ma m.length mc] 25)) w.heap.size 25 _ := Blk.new _ _ _
    go_enter Try.func55, Try.ntmps55
    go_wp2_with fail
    go_loopw [3, 4] (fun x3 x4 wr => ∃ (q : Nat) (out : List LeafT) (A : Option Addr) (c : Nat), q ≤ m.length ∧ x3 = .slice A out.length c ∧ x4 = .int .i64 q ∧ Hid (out = T.leavesM (m.take q)) ∧ Hid (Below w.heap.size w wr) ∧ Hid (Blk wr w.heap.size 25 #[.int .i64 t.kind, .bool t.bool, .int .i64 t.int, .string t.str, .slice la t.list.length lc, .slice ma m.length mc]) ∧ Hid (OwnE eltR2 wr (w.heap.size + 1) (fun b => (S b ∧ b < w.heap.size) ∨ w.heap.size < b) A c out)) (fun _ x _ => m.length - (intOf x).toNat)
    case atStart => exact ⟨0, [], none, 0, Nat.zero_le _, rfl, rfl, rfl, Below.new _ _, hB1, OwnE.nil⟩
    case round =>
      obtain ⟨q, out, A, c, hq, rfl, rfl, hout, hbel, hbox, hown⟩ := hrel
      clear hB1
      have hsz := hbox.out.lt
      have kb := hbox.out.cell
      by_cases hlt : q < m.length
      · obtain ⟨b, o, la3, lc3, ma3, mc3, rfl, -, hbl, hkz, ⟨c0, c1, c2, c3, c4, c5, c6⟩, hr⟩ := (HM.out.keep hbel.out).at_ hlt
        have HR := Lib.hid hr
        have HI := Lib.hid (HIH.out m[q] (List.getElem_mem hlt))
        have HSL := Lib.hid (HSW.out m[q] (List.getElem_mem hlt))
        have HT := Lib.hid (show T.leavesM (m.take (q + 1)) = out ++ m[q].2.leaves.map (kf m[q].1) by rw [leavesM_take m q hlt, leavesP_eq, hout.out]; rfl)
        have hol : out.length + m[q].2.leaves.length ≤ 900000 := by
          have h1 := HLL.out (q + 1)
          rw [HT.out, List.length_append, List.length_map] at h1
          omega
        have hi1 : (0 : Int) ≤ (q : Int) := by omega
        have hi2 : (q : Int) < (m.length : Int) := by omega
        clear hr hout
        generalize m[q].1 = key at *
        generalize m[q].2 = x at *
        go_wp2_with fail
        refine (HI.out _ _ _ HR.out).mono ?_
        rintro e w2 ⟨A2, c2', rfl, hrep2, hlc, hcm, hb2⟩
        have hs2 := hb2.size
        have HC0 := Lib.hid (show b < w2.heap.size ∧ w2.cell? ⟨b, o + q * 7, none⟩ = some (.string key) from ⟨Nat.lt_of_lt_of_le hbl hs2, (hb2.cell (p := ⟨b, o + q * 7, none⟩) hbl).trans c0⟩)
        have HLV := Lib.hid (show LvInv eltR2 (fun b => S b ∧ b < w.heap.size) w w2 wr.heap.size w2.heap.size A2 x.leaves A c out from
          ⟨hrep2.mono (w' := w2) (fun b hb hlt => hb.elim .inl fun hb => .inr ⟨hb, hlt⟩) (fun _ _ _ _ => rfl), Below.next hbel.out hb2, hown.out.keep hb2, fun g hg => .inl (hown.out.own g hg).2, hsz, hs2, Nat.le_refl _, fun _ h => h.2⟩)
        have HPB := Lib.hid (hbox.out.keep hb2)
        have HKB := Lib.hid (show b < w.heap.size ∨ w.heap.size ≤ b by omega)
        have hbw : b < w.heap.size := by
          obtain ⟨b', o', -, e, hb', -⟩ := HM.out q hlt
          injection e with e
          injection e with e
          rw [e]; exact hb'.2
        clear hrep2 hb2 hown hbel hbox kb c0 c1 c2 c3 c4 c5 c6 hbl HKB
        obtain ⟨wo, ewo⟩ : ∃ z, z = wr := ⟨_, rfl⟩
        subst ewo
        generalize hLe : x.leaves = L at *
        clear hLe
        go_wp2_with fail
        go_loopw [3, 6] (fun x3 x6 wr => ∃ (j : Nat) (out' : List LeafT) (A' : Option Addr) (c' : Nat), j ≤ L.length ∧ x3 = .slice A' out'.length c' ∧ x6 = .int .i64 j ∧ Hid (out' = out ++ (L.take j).map (kf key)) ∧ Hid (LvInv eltR2 (fun b => S b ∧ b < w.heap.size) w wr wo.heap.size w2.heap.size A2 L A' c' out') ∧ Hid (Blk wr w.heap.size 25 #[.int .i64 t.kind, .bool t.bool, .int .i64 t.int, .string t.str, .slice la t.list.length lc, .slice (some ⟨b, o, none⟩) m.length mc]) ∧ Hid (b < wr.heap.size ∧ wr.cell? ⟨b, o + q * 7, none⟩ = some (.string key))) (fun _ x _ => L.length - (intOf x).toNat)
        case atStart => exact ⟨0, out, A, c, Nat.zero_le _, rfl, rfl, by simp [Hid], HLV, HPB, HC0⟩
        case round =>
          obtain ⟨j, out', A', c', hj, rfl, rfl, hout', hlv, hpb, hkc⟩ := hrel
          clear HLV HPB HC0
          by_cases hlj : j < L.length
          · obtain ⟨b2, o2, sa, sc, la5, lc5, ma5, mc5, rfl, hb2l, ⟨e0, e1, e2, e3, e4, e5, e6⟩, hs1, hs2', hst, hval⟩ := leaf_at hlv.out.rep hlj
            have HOUT := Lib.hid (fun out2 (e : out2 = out' ++ [kf key L[j]]) => (show out2 = out ++ (L.take (j + 1)).map (kf key) by rw [e, hout'.out, List.take_succ_eq_append_getElem hlj, List.map_append, List.append_assoc]; rfl))
            have hlen' : out'.length + 1 ≤ 1000000 := by rw [hout'.out, List.length_append, List.length_map, List.length_take]; omega
            have hstl : L[j].1.length ≤ 1000000 := by have := HSL.out L[j] (List.getElem_mem hlj); omega
            have hj1 : (0 : Int) ≤ (j : Int) := by omega
            have hj2 : (j : Int) < (L.length : Int) := by omega
            have HST := Lib.hid hst
            have HVAL := Lib.hid hval
            clear hst hval hout'
            generalize L[j] = lf at *
            obtain ⟨st, y⟩ := lf
            simp only [kf] at *
            obtain ⟨A0, c0, w1, A1, c1, w3, hrun0, hb1, hrun1, hl1, hl2, hst3, hb3⟩ := steps_append2 (w := wr) (c := sc) hkz (HST.out.weak (fun _ _ => trivial)) hstl wr.heap.size rfl
            have h3 := hlv.out.keep hb3
            have hs3 := hb3.size
            have hown3 := hlv.out.own.own
            obtain ⟨out2, A4, c4, w4, hout2, hrun2, h4, hfr, hsz4, -⟩ := leaf_next h3 (HVAL.out.keep hb3) (hst3.weak (fun b (hb : _ ≤ b) => (by have := hlv.out.top; omega : w2.heap.size ≤ b))) (fun g hg b o e => by
              obtain ⟨b', o', e', hb', -⟩ := hst3 0 (by simp)
              rw [e] at e'
              injection e' with e'
              injection e' with e'
              subst e'
              have := (hown3 g hg).2
              omega) hl1 hl2 hlen' w3.heap.size rfl
            have hne4 : ∀ k, k ≤ w.heap.size → Value.ownBlock (.slice A' out'.length c') ≠ some k := fun k hk e => by have := (hown3 k e).1; omega
            have HPB4 := Lib.hid (show Blk w4 w.heap.size 25 #[.int .i64 t.kind, .bool t.bool, .int .i64 t.int, .string t.str, .slice la t.list.length lc, .slice (some ⟨b, o, none⟩) m.length mc] from (hfr _ (hpb.out.keep hb3).lt (hne4 _ (Nat.le_refl _))).trans (hpb.out.keep hb3))
            have HKC4 := Lib.hid (show b < w4.heap.size ∧ w4.cell? ⟨b, o + q * 7, none⟩ = some (.string key) from ⟨by have := hkc.out.1; omega, (World.cell?_of_block (hfr b (by have := hkc.out.1; omega) (hne4 _ (Nat.le_of_lt hbw)))).trans ((hb3.cell (p := ⟨b, o + q * 7, none⟩) hkc.out.1).trans hkc.out.2)⟩)
            have H4 := Lib.hid h4
            have HO2 := Lib.hid (HOUT.out out2 hout2.out)
            have kp := hpb.out.cell
            have lp := hpb.out.lt
            have hkcc := hkc.out.2
            have hkcl := hkc.out.1
            have f0 := (hb1.cell (p := ⟨b2, o2 + j * 7, none⟩) hb2l).trans e0
            have f1 := (hb3.cell (p := ⟨b2, o2 + j * 7 + 1, none⟩) hb2l).trans e1
            have f2 := (hb3.cell (p := ⟨b2, o2 + j * 7 + 2, none⟩) hb2l).trans e2
            have f3 := (hb3.cell (p := ⟨b2, o2 + j * 7 + 3, none⟩) hb2l).trans e3
            have f4 := (hb3.cell (p := ⟨b2, o2 + j * 7 + 4, none⟩) hb2l).trans e4
            have f5 := (hb3.cell (p := ⟨b2, o2 + j * 7 + 5, none⟩) hb2l).trans e5
            have f6 := (hb3.cell (p := ⟨b2, o2 + j * 7 + 6, none⟩) hb2l).trans e6
            clear h3 h4 hb1 hb3 hst3 hlv hpb hkc HST HVAL HOUT hout2 hfr hown3 hne4 e0 e1 e2 e3 e4 e5 e6
            go_wp2_with (first
              | (at_builtin; refine wpList_append_run rfl (.tmp 35) (.tmp 42) 41 rfl hrun0 rfl rfl ?_)
              | (at_builtin; refine wpList_append_run rfl (.tmp 44) (.tmp 49) 41 rfl hrun1 rfl rfl ?_)
              | (at_builtin; refine wpList_append_run rfl (.tmp 51) (.tmp 59) 57 rfl hrun2 rfl rfl ?_))
            go_roundw
            case rel => exact ⟨j + 1, out2, A4, c4, by omega, rfl, by go_num, HO2, H4, HPB4, HKC4⟩
            case measure => simp [intOf]; omega
          · obtain rfl : j = L.length := by omega
            have HQ := Lib.hid (show out' = T.leavesM (m.take (q + 1)) by rw [HT.out, hout'.out, List.take_length])
            have HLV := Lib.hid hlv.out
            have HPB := Lib.hid hpb.out
            clear hlv hpb hout' hkc
            go_wp2_with fail
            go_roundw
            case rel => exact ⟨q + 1, out', A', c', by omega, rfl, by go_num, HQ, HLV.out.bel, HPB.out, HLV.out.own⟩
            case measure => simp [intOf]; omega
      · obtain rfl : q = m.length := by omega
        rw [List.take_length] at hout
        have HO := Lib.hid hown.out
        have HB := Lib.hid hbel.out
        have HQ := Lib.hid hout.out
        clear hown hbel hout hbox
        go_wp2_with fail
        go_ret
        have hlen := HO.out.len
        exact ⟨_, _, by rw [← HQ.out]; rfl, by rw [← HQ.out]; exact (HO.out.rep).mono (fun b hb _ => by rcases hb with (hb | hb) | hb; exact .inl hb.1; exact .inr (by omega); exact .inr (by omega)) (fun _ _ _ _ => rfl), by rw [← HQ.out]; exact hlen.1, hlen.2, HB.out⟩
end Go.Proofs.Ytmdihildjblgnaa
