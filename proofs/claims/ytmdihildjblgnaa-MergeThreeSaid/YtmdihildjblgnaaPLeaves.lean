/- path.Leaves: all leaves of a value. -/
import Derived.Test.YtmdihildjblgnaaLeafB
import Derived.Test.YtmdihildjblgnaaClone
import Derived.Deep.RegionLaw
namespace Go.Proofs.Ytmdihildjblgnaa
open Go.RowKit
attribute [local go_sem ↓] Go.wp_at_zero Go.wp_at_succ

theorem leavesM_app (a b : List (ByteArray × T)) : T.leavesM (a ++ b) = T.leavesM a ++ T.leavesM b := by
  induction a with
  | nil => rfl
  | cons p r ih => rw [List.cons_append, T.leavesM, T.leavesM, ih, List.append_assoc]
theorem leavesM_len (m : List (ByteArray × T)) (k : Nat) : (T.leavesM (m.take k)).length ≤ (T.leavesM m).length := by
  conv => rhs; rw [← List.take_append_drop k m, leavesM_app, List.length_append]
  omega
/-- What is before a leaf's key. -/
def kf (k : ByteArray) (l : LeafT) : LeafT := (k :: l.1, l.2)

set_option maxRecDepth 100000 in
set_option maxHeartbeats 2000000 in
theorem tpleaves {n : Nat} (t : T) : ∀ (_ : Neat n t) (_ : t.wt ≤ 900000) (v : Value) (w : World) (S : Nat → Prop), RepT w S v t → Calls Try.prog 57 #[v] w (LeavesPost eltP2 (fun _ => False) w t.leaves) := by
  induction t using T.ind' with
  | h t ihl ihm =>
  intro hn hwt v w S h
  clear ihl
  obtain ⟨la, lc, ma, mc, rfl, hp⟩ := h.inv
  obtain ⟨-, -, -, -, hm, -, -, -, -, -, hM⟩ := hp
  by_cases hmm : t.map = []
  · have HE := Lib.hid (show t.leaves = [([], t)] by rw [leaves_eq, if_pos hmm])
    have h0 : ((t.map.length : Int) == 0) = true := by rw [hmm]; rfl
    have hg : ((t.kind != 5) = true) ∨ ((t.kind != 5) = false) := by cases (t.kind != 5) <;> simp
    have HR := Lib.hid h
    clear hmm h hM ihm hn
    rcases hg with hg | hg
    all_goals
      go_enter Try.func57, Try.ntmps57
      go_wp2_with fail
      refine (clone_any t _ _ _ (HR.out.keep (Below.new _ _))).mono ?_
      rintro e w2 ⟨v2, rfl, hr2, hb2⟩
      obtain ⟨la4, lc4, ma4, mc4, rfl, -⟩ := hr2.inv
      have HR2 := Lib.hid hr2
      have HB2 := Lib.hid hb2
      clear hr2 hb2
      go_wp2_with fail
      go_ret
      have hbb := Below.next (Below.next (Below.new w (.cells #[.int .i64 t.kind, .bool t.bool, .int .i64 t.int, .string t.str, .slice la t.list.length lc, .slice ma t.map.length mc] 25)) HB2.out) (Below.new w2 (.cells #[.slice none 0 0, .int .i64 t.kind, .bool t.bool, .int .i64 t.int, .string t.str, .slice la4 t.list.length lc4, .slice ma4 t.map.length mc4] 66))
      refine ⟨_, _, by rw [HE.out]; rfl, ?_, by rw [HE.out]; simp, by unfold maxLen; omega, hbb⟩
      rw [HE.out]
      refine rep_block (E := eltP2) (l := [([], t)]) [[.slice none 0 0, .int .i64 t.kind, .bool t.bool, .int .i64 t.int, .string t.str, .slice la4 t.list.length lc4, .slice ma4 t.map.length mc4]] (Blk.new _ _ _) rfl (.inr (by have := HB2.out.size; rw [size_alloc] at this; omega)) ⟨⟨none, 0, _, rfl, by simp, by unfold maxLen; omega, fun i hi => by simp at hi, ?_⟩, trivial⟩
      exact (HR2.out.weak (fun b (hb : _ ≤ b) _ => .inr (by rw [size_alloc] at hb; omega))).keep (Below.new _ _)
  · have h5 : t.kind = 5 := Classical.byContradiction fun h5 => hmm (hn.nomap h5)
    have hg : (t.kind != 5) = false := by rw [h5]; rfl
    have h0 : 0 < t.map.length := List.length_pos_iff.2 hmm
    have h1 : ((t.map.length : Int) == 0) = false := beq_eq_false_iff_ne.2 (by omega)
    have HE := Lib.hid (show t.leaves = T.leavesM t.map by rw [leaves_eq, if_neg hmm])
    have HLW := Lib.hid (leaves_wt t).1
    have HIH := Lib.hid (fun p hp => ihm p hp (hn.mem p hp) (Nat.le_trans (wt_sub p hp) hwt))
    have HSW := Lib.hid (fun p (hp : p ∈ t.map) l (hl : l ∈ p.2.leaves) => Nat.le_trans ((leaves_wt p.2).2 l hl) (Nat.le_trans (wt_sub p hp) hwt))
    have HLL := Lib.hid (fun k => leavesM_len t.map k)
    have HM := Lib.hid ((hM.mono (w' := w) (S' := fun b => b < w.heap.size) (fun _ _ h => h) (fun _ _ _ _ => rfl)))
    clear hmm h5 h hM ihm hn
    have hwl : (T.leavesM t.map).length ≤ 900000 := by have := HLW.out; rw [HE.out] at this; omega
    rw [HE.out]
    clear HE HLW hwt
    generalize t.map = m at *
    go_enter Try.func57, Try.ntmps57
    go_wp2_with fail
    have hB1 : Blk (w.alloc (.cells #[.int .i64 t.kind, .bool t.bool, .int .i64 t.int, .string t.str, .slice la t.list.length lc, .slice ma m.length mc] 25)) w.heap.size 25 _ := Blk.new _ _ _
    go_loopw [3, 24] (fun x3 x24 wr => ∃ (q : Nat) (out : List LeafT) (A : Option Addr) (c : Nat), q ≤ m.length ∧ x3 = .slice A out.length c ∧ x24 = .int .i64 q ∧ Hid (out = T.leavesM (m.take q)) ∧ Hid (Below w.heap.size w wr) ∧ w.heap.size < wr.heap.size ∧ Hid (OwnE eltP2 wr (w.heap.size + 1) (fun b => False ∨ w.heap.size < b) A c out)) (fun _ x _ => m.length - (intOf x).toNat)
    case atStart => exact ⟨0, [], none, 0, Nat.zero_le _, rfl, rfl, rfl, Below.new _ _, by rw [size_alloc]; omega, OwnE.nil⟩
    case round =>
      obtain ⟨q, out, A, c, hq, rfl, rfl, hout, hbel, hsz, hown⟩ := hrel
      clear hB1
      by_cases hlt : q < m.length
      · obtain ⟨b, o, la3, lc3, ma3, mc3, rfl, -, hbl, hkz, ⟨c0, c1, c2, c3, c4, c5, c6⟩, hr⟩ := (HM.out.keep hbel.out).at_ hlt
        have HR := Lib.hid hr
        have HI := Lib.hid (HIH.out m[q] (List.getElem_mem hlt))
        have HSL := Lib.hid (HSW.out m[q] (List.getElem_mem hlt))
        have HT := Lib.hid (show T.leavesM (m.take (q + 1)) = out ++ m[q].2.leaves.map (kf m[q].1) by rw [leavesM_take m q hlt, leavesP_eq, hout.out]; rfl)
        have hol : out.length + m[q].2.leaves.length ≤ 900000 := by
          have h1 := HLL.out (q + 1)
          rw [HT.out, List.length_append, List.length_map] at h1
          omega
        have hi1 : (0 : Int) ≤ (q : Int) := by omega
        have hi2 : (q : Int) < (m.length : Int) := by omega
        clear hr hout
        generalize m[q].1 = key at *
        generalize m[q].2 = x at *
        go_wp2_with fail
        refine (HI.out _ _ _ (HR.out.keep (Below.new _ _))).mono ?_
        rintro e w2 ⟨A2, c2, rfl, hrep2, hlc, hcm, hb2⟩
        have hs2 := hb2.size
        rw [size_alloc] at hs2
        have hbq := Below.next (Below.new wr (.cells #[.string key, .int .i64 x.kind, .bool x.bool, .int .i64 x.int, .string x.str, .slice la3 x.list.length lc3, .slice ma3 x.map.length mc3] 43)) hb2
        have HLV := Lib.hid (show LvInv eltP2 (fun _ => False) w w2 wr.heap.size w2.heap.size A2 x.leaves A c out from
          ⟨hrep2.mono (w' := w2) (fun b hb hlt => .inr ⟨by rcases hb with hb | hb; exact hb.elim; rw [size_alloc] at hb; omega, hlt⟩) (fun _ _ _ _ => rfl), Below.next hbel.out hbq, hown.out.keep hbq, fun g hg => .inl (hown.out.own g hg).2, hsz, by omega, Nat.le_refl _, fun _ h => h.elim⟩)
        have HPB := Lib.hid ((Blk.new wr 43 #[.string key, .int .i64 x.kind, .bool x.bool, .int .i64 x.int, .string x.str, .slice la3 x.list.length lc3, .slice ma3 x.map.length mc3]).keep hb2)
        clear hrep2 hb2 hbq hown hbel
        generalize hLe : x.leaves = L at *
        clear hLe
        go_wp2_with fail
        obtain ⟨wo, ewo⟩ : ∃ z, z = wr := ⟨_, rfl⟩
        subst ewo
        go_loopw [3, 32] (fun x3 x32 wr => ∃ (j : Nat) (out' : List LeafT) (A' : Option Addr) (c' : Nat), j ≤ L.length ∧ x3 = .slice A' out'.length c' ∧ x32 = .int .i64 j ∧ Hid (out' = out ++ (L.take j).map (kf key)) ∧ Hid (LvInv eltP2 (fun _ => False) w wr wo.heap.size w2.heap.size A2 L A' c' out') ∧ Hid (Blk wr wo.heap.size 43 #[.string key, .int .i64 x.kind, .bool x.bool, .int .i64 x.int, .string x.str, .slice la3 x.list.length lc3, .slice ma3 x.map.length mc3])) (fun _ x _ => L.length - (intOf x).toNat)
        case atStart => exact ⟨0, out, A, c, Nat.zero_le _, rfl, rfl, by simp [Hid], HLV, HPB⟩
        case round =>
          obtain ⟨j, out', A', c', hj, rfl, rfl, hout', hlv, hpb⟩ := hrel
          clear HLV HPB
          by_cases hlj : j < L.length
          · obtain ⟨b2, o2, sa, sc, la5, lc5, ma5, mc5, rfl, hb2l, ⟨e0, e1, e2, e3, e4, e5, e6⟩, hs1, hs2', hst, hval⟩ := leaf_at hlv.out.rep hlj
            have HOUT := Lib.hid (fun out2 (e : out2 = out' ++ [kf key L[j]]) => (show out2 = out ++ (L.take (j + 1)).map (kf key) by rw [e, hout'.out, List.take_succ_eq_append_getElem hlj, List.map_append, List.append_assoc]; rfl))
            have hlen' : out'.length + 1 ≤ 1000000 := by rw [hout'.out, List.length_append, List.length_map, List.length_take]; omega
            have hstl : L[j].1.length ≤ 1000000 := by have := HSL.out L[j] (List.getElem_mem hlj); omega
            have hj1 : (0 : Int) ≤ (j : Int) := by omega
            have hj2 : (j : Int) < (L.length : Int) := by omega
            have hlt2 := hpb.out.lt
            have HST := Lib.hid hst
            have HVAL := Lib.hid hval
            clear hst hval hout'
            generalize L[j] = lf at *
            obtain ⟨st, y⟩ := lf
            simp only [kf] at *
            obtain ⟨A1, c1, w3, hrun1, hl1, hl2, hst3, hb3⟩ := steps_append (w := (wr.alloc (.cells #[.slice sa st.length sc, .int .i64 y.kind, .bool y.bool, .int .i64 y.int, .string y.str, .slice la5 y.list.length lc5, .slice ma5 y.map.length mc5] 66)).drew) hkz ((HST.out.weak (fun _ _ => trivial)).keep (Below.new _ _).drew) hstl (wr.heap.size + 1) (by rw [size_drew, size_alloc])
            have hb3' := Below.next (Below.new wr (.cells #[.slice sa st.length sc, .int .i64 y.kind, .bool y.bool, .int .i64 y.int, .string y.str, .slice la5 y.list.length lc5, .slice ma5 y.map.length mc5] 66)).drew hb3
            have h3 := hlv.out.keep hb3'
            have hs3 := hb3'.size
            have hs3b := hb3.size
            rw [size_drew, size_alloc] at hs3b
            have hown3 := hlv.out.own.own
            obtain ⟨out2, A4, c4, w4, hout2, hrun2, h4, hfr, hsz4, -⟩ := leaf_next h3 (HVAL.out.keep hb3') (hst3.weak (fun b (hb : _ ≤ b) => (by rw [size_drew, size_alloc] at hb; have := hlv.out.top; omega : w2.heap.size ≤ b))) (fun g hg b o e => by
              obtain ⟨b', o', e', hb', -⟩ := hst3 0 (by simp)
              rw [e] at e'
              injection e' with e'
              injection e' with e'
              subst e'
              have := (hown3 g hg).2
              rw [size_drew, size_alloc] at hb'
              omega) hl1 hl2 hlen' w3.heap.size rfl
            have HPB3 := Lib.hid (hpb.out.keep hb3')
            have HPB4 := Lib.hid (show Blk w4 wo.heap.size 43 #[.string key, .int .i64 x.kind, .bool x.bool, .int .i64 x.int, .string x.str, .slice la3 x.list.length lc3, .slice ma3 x.map.length mc3] from (hfr _ HPB3.out.lt (fun e => by have := h3.away _ e; omega)).trans HPB3.out)
            have HLB := Lib.hid (((Blk.new wr 66 #[.slice sa st.length sc, .int .i64 y.kind, .bool y.bool, .int .i64 y.int, .string y.str, .slice la5 y.list.length lc5, .slice ma5 y.map.length mc5]).drew).keep hb3)
            have hrun1' : (Builtin.append_ #[41, 41] 41 #[.slice (some ⟨wr.heap.size + 1, 0, none⟩) 1 1, .slice sa st.length sc]).run Try.prog ((wr.alloc (.cells #[.slice sa st.length sc, .int .i64 y.kind, .bool y.bool, .int .i64 y.int, .string y.str, .slice la5 y.list.length lc5, .slice ma5 y.map.length mc5] 66)).alloc (.cells #[.string key] 9)).drew = .ok (.slice A1 (st.length + 1) c1) w3 := hrun1
            have H4 := Lib.hid h4
            have HO2 := Lib.hid (HOUT.out out2 hout2.out)
            have kp := hpb.out.cell
            have kl := HLB.out.cell
            have ll := HLB.out.lt
            clear h3 h4 hrun1 hb3 hb3' hst3 hlv hpb HST HVAL HOUT hout2 hfr hown3 HPB3
            go_wp2_with fail
            go_region_law (first
              | (refine step_append_run rfl (.tmp 39) (.tmp 41) 41 rfl hrun1' rfl rfl ?_)
              | (refine step_append_run rfl (.tmp 36) (.tmp 46) 63 rfl hrun2 rfl rfl ?_))
            all_goals
              go_wp2_with fail
              go_roundw
              case rel => exact ⟨j + 1, out2, A4, c4, by omega, rfl, by go_num, HO2, H4, HPB4⟩
              case measure => simp [intOf]; omega
          · obtain rfl : j = L.length := by omega
            have HQ := Lib.hid (show out' = T.leavesM (m.take (q + 1)) by rw [HT.out, hout'.out, List.take_length])
            have hlow := hlv.out.low
            have htop := hlv.out.top
            have HLV := Lib.hid hlv.out
            clear hlv hpb hout'
            go_wp2_with fail
            go_roundw
            case rel => exact ⟨q + 1, out', A', c', by omega, rfl, by go_num, HQ, HLV.out.bel, by omega, HLV.out.own⟩
            case measure => simp [intOf]; omega
      · obtain rfl : q = m.length := by omega
        rw [List.take_length] at hout
        have HO := Lib.hid hown.out
        have HB := Lib.hid hbel.out
        have HQ := Lib.hid hout.out
        clear hown hbel hout
        go_wp2_with fail
        go_ret
        have hlen := HO.out.len
        exact ⟨_, _, by rw [← HQ.out]; rfl, by rw [← HQ.out]; exact (HO.out.rep).mono (fun b hb _ => .inr (by rcases hb with (hb | hb) | hb; exact hb.elim; omega; omega)) (fun _ _ _ _ => rfl), by rw [← HQ.out]; exact hlen.1, hlen.2, HB.out⟩
end Go.Proofs.Ytmdihildjblgnaa
