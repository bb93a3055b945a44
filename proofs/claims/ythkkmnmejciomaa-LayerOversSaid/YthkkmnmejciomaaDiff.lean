/- layer.Diff: what must be laid over a value so that it is another one. -/
import Derived.Test.YthkkmnmejciomaaOver
import Derived.Test.YthkkmnmejciomaaCmpW
namespace Go.Proofs.Ythkkmnmejciomaa
open Go.RowKit
attribute [local go_sem ↓] Go.wp_at_zero Go.wp_at_succ

theorem diff0_snoc (l : List (ByteArray × T)) (p : ByteArray × T) (b : T) : ∀ out : T, diff0 (l ++ [p]) b out = if getT b p.1 = none then putT (diff0 l b out) p.1 T.zero else diff0 l b out := by
  induction l with
  | nil => intro out; rfl
  | cons q r ih => intro out; rw [List.cons_append, diff0, diff0, ih]
theorem diffM_snoc (l : List (ByteArray × T)) (p : ByteArray × T) (a : T) : ∀ out : T, T.diffM (l ++ [p]) a out = T.diffP p a (T.diffM l a out) := by
  induction l with
  | nil => intro out; rw [List.nil_append, T.diffM, T.diffM, T.diffM]
  | cons q r ih => intro out; rw [List.cons_append, T.diffM, T.diffM, ih]
theorem diff0_step {a b : T} {q : Nat} (hq : q < a.map.length) : ∃ M, M = diff0 (a.map.take q) b (mkMap []) ∧ KS M.map ∧ M.map.length ≤ q ∧
    ((getT b a.map[q].1).isSome = false → putT M a.map[q].1 T.zero = diff0 (a.map.take (q + 1)) b (mkMap [])) ∧ ((getT b a.map[q].1).isSome = true → M = diff0 (a.map.take (q + 1)) b (mkMap [])) := by
  obtain ⟨l', e, hks, hle, -⟩ := diff0_look (b := b) (m := a.map.take q) (l := []) KS.nil
  rw [List.length_take] at hle
  have hs : diff0 (a.map.take (q + 1)) b (mkMap []) = if getT b a.map[q].1 = none then putT (diff0 (a.map.take q) b (mkMap [])) a.map[q].1 T.zero else diff0 (a.map.take q) b (mkMap []) := by rw [List.take_succ_eq_append_getElem hq, diff0_snoc]
  refine ⟨_, rfl, by rw [e]; exact hks, by rw [e]; show l'.length ≤ _; simp at hle; omega, fun h => ?_, fun h => ?_⟩
  · rw [hs, if_pos (by simpa using h)]
  · rw [hs, if_neg (by intro h2; rw [h2] at h; cases h)]
theorem diff0_all {na : Nat} {a b : T} (ha : Neat na a) : ∃ l0, diff0 a.map b (mkMap []) = mkMap l0 ∧ KS l0 ∧ l0.length ≤ na := by
  obtain ⟨l', e, hks, hle, -⟩ := diff0_look (b := b) (m := a.map) (l := []) KS.nil
  have := ha.len
  exact ⟨l', e, hks, by simp at hle; omega⟩
/-- A round of the second loop. -/
theorem diffM_step {na nb : Nat} {a b : T} {q : Nat} {l0 : List (ByteArray × T)} (ha : Neat na a) (hb : Neat nb b) (h0 : KS l0) (hq : q < b.map.length) : ∃ M, M = T.diffM (b.map.take q) a (mkMap l0) ∧ KS M.map ∧ M.map.length ≤ l0.length + q ∧ Neat na ((getT a b.map[q].1).getD T.zero) ∧
    ((getT a b.map[q].1).isSome = false → putT M b.map[q].1 b.map[q].2 = T.diffM (b.map.take (q + 1)) a (mkMap l0)) ∧
    ((getT a b.map[q].1).isSome = true → (T.cmp ((getT a b.map[q].1).getD T.zero) b.map[q].2 = 0 → M = T.diffM (b.map.take (q + 1)) a (mkMap l0)) ∧
      (T.cmp ((getT a b.map[q].1).getD T.zero) b.map[q].2 ≠ 0 → (((getT a b.map[q].1).getD T.zero).kind = 5 ∧ b.map[q].2.kind = 5 → putT M b.map[q].1 (b.map[q].2.diff ((getT a b.map[q].1).getD T.zero)) = T.diffM (b.map.take (q + 1)) a (mkMap l0)) ∧
        (¬ (((getT a b.map[q].1).getD T.zero).kind = 5 ∧ b.map[q].2.kind = 5) → putT M b.map[q].1 b.map[q].2 = T.diffM (b.map.take (q + 1)) a (mkMap l0)))) := by
  obtain ⟨l', e, hks, hle, -⟩ := diffM_look (a := a) (m := b.map.take q) h0 (hb.KS.take q)
  rw [List.length_take] at hle
  have hs : T.diffM (b.map.take (q + 1)) a (mkMap l0) = T.diffP (b.map[q].1, b.map[q].2) a (T.diffM (b.map.take q) a (mkMap l0)) := by rw [List.take_succ_eq_append_getElem hq, diffM_snoc]
  refine ⟨_, rfl, by rw [e]; exact hks, by rw [e]; show l'.length ≤ _; omega, by rw [getT_look ha]; exact ha.getD _, ?_⟩
  rw [hs, T.diffP]
  cases eg : getT a b.map[q].1 with
  | none => exact ⟨fun _ => rfl, fun h => by cases h⟩
  | some was =>
    refine ⟨fun h => (by cases h), fun _ => ⟨fun h => ?_, fun h => ⟨fun h5 => ?_, fun h5 => ?_⟩⟩⟩
    · simp only [Option.getD_some] at h; simp only [if_pos h]
    · simp only [Option.getD_some] at h h5; simp only [if_neg h, if_pos h5, Option.getD_some]
    · simp only [Option.getD_some] at h h5; simp only [if_neg h, if_neg h5]

theorem Blk.set6 {w : World} {g G : Nat} {ty : TypeId} {cs : Array Value} {c0 c1 c2 c3 c4 c5 : Value} (h : Blk w g ty cs) (hg : g ≠ G) : Blk (set6 w G 0 c0 c1 c2 c3 c4 c5) g ty cs := (set6_heap hg).trans h

set_option maxRecDepth 100000 in
set_option maxHeartbeats 8000000 in
theorem tdiff {na nb : Nat} (hn1 : na + nb ≤ 1000000) (t : T) : ∀ (a : T) (_ : Neat na a) (_ : Neat nb t) (va v : Value) (w : World) (S S' : Nat → Prop), RepT w S va a → RepT w S' v t → Calls Try.prog 13 #[va, v] w (NewPost w (t.diff a)) := by
  induction t using T.ind' with
  | h t ihl ihm =>
  intro a ha hn va v w S S' hra h
  clear ihl
  obtain ⟨la, lc, ma, mc, rfl, hp⟩ := h.inv
  obtain ⟨-, -, -, -, hm, -, -, -, -, -, hM⟩ := hp
  obtain ⟨la0, lc0, ma0, mc0, rfl, hp0⟩ := hra.inv
  obtain ⟨-, -, -, -, hm0, -, -, -, -, -, hM0⟩ := hp0
  have HRA := Lib.hid (hra.weak (S' := fun _ => True) (fun _ _ _ => trivial))
  have HRB := Lib.hid (h.weak (S' := fun _ => True) (fun _ _ _ => trivial))
  have hB0 : Blk (((w.alloc (.cells #[.int .i64 a.kind, .bool a.bool, .int .i64 a.int, .string a.str, .slice la0 a.list.length lc0, .slice ma0 a.map.length mc0] 25)).alloc (.cells #[.int .i64 t.kind, .bool t.bool, .int .i64 t.int, .string t.str, .slice la t.list.length lc, .slice ma t.map.length mc] 25)).alloc (.cells #[.int .i64 0, .bool false, .int .i64 0, .string ⟨#[]⟩, .slice none 0 0, .slice none 0 0] 25)) w.heap.size 25 #[.int .i64 a.kind, .bool a.bool, .int .i64 a.int, .string a.str, .slice la0 a.list.length lc0, .slice ma0 a.map.length mc0] := ((Blk.new _ _ _).alloc _).alloc _
  have hB1 : Blk (((w.alloc (.cells #[.int .i64 a.kind, .bool a.bool, .int .i64 a.int, .string a.str, .slice la0 a.list.length lc0, .slice ma0 a.map.length mc0] 25)).alloc (.cells #[.int .i64 t.kind, .bool t.bool, .int .i64 t.int, .string t.str, .slice la t.list.length lc, .slice ma t.map.length mc] 25)).alloc (.cells #[.int .i64 0, .bool false, .int .i64 0, .string ⟨#[]⟩, .slice none 0 0, .slice none 0 0] 25)) (w.heap.size + 1) 25 #[.int .i64 t.kind, .bool t.bool, .int .i64 t.int, .string t.str, .slice la t.list.length lc, .slice ma t.map.length mc] := (Blk.new_at _ _ _ (by simp)).alloc _
  have hB2 : Blk (((w.alloc (.cells #[.int .i64 a.kind, .bool a.bool, .int .i64 a.int, .string a.str, .slice la0 a.list.length lc0, .slice ma0 a.map.length mc0] 25)).alloc (.cells #[.int .i64 t.kind, .bool t.bool, .int .i64 t.int, .string t.str, .slice la t.list.length lc, .slice ma t.map.length mc] 25)).alloc (.cells #[.int .i64 0, .bool false, .int .i64 0, .string ⟨#[]⟩, .slice none 0 0, .slice none 0 0] 25)) (w.heap.size + 1 + 1) 25 #[.int .i64 0, .bool false, .int .i64 0, .string ⟨#[]⟩, .slice none 0 0, .slice none 0 0] := Blk.new_at _ _ _ (by simp)
  have hBW : Below w.heap.size w (((w.alloc (.cells #[.int .i64 a.kind, .bool a.bool, .int .i64 a.int, .string a.str, .slice la0 a.list.length lc0, .slice ma0 a.map.length mc0] 25)).alloc (.cells #[.int .i64 t.kind, .bool t.bool, .int .i64 t.int, .string t.str, .slice la t.list.length lc, .slice ma t.map.length mc] 25)).alloc (.cells #[.int .i64 0, .bool false, .int .i64 0, .string ⟨#[]⟩, .slice none 0 0, .slice none 0 0] 25)) := ((Below.new _ _).alloc (by simp) _).alloc (by simp; omega) _
  have HE := Lib.hid (diff_eq t a)
  have HKT := Lib.hid hn.KS
  have HKA := Lib.hid ha.KS
  have HLA := Lib.hid ha.len
  have HLT := Lib.hid hn.len
  have HNA := Lib.hid ha
  have HNT := Lib.hid hn
  have HS0 := Lib.hid (fun q hq => diff0_step (a := a) (b := t) (q := q) hq)
  have HD0 := Lib.hid (diff0_all (b := t) ha)
  have HSM := Lib.hid (fun l0 q h0 hq => diffM_step (q := q) (l0 := l0) ha hn h0 hq)
  have HIH := Lib.hid (fun p hp a' ha' => ihm p hp a' ha' (hn.mem p hp))
  have HM := Lib.hid hM
  have HM0 := Lib.hid hM0
  clear h hM hM0 ihm hn ha hra
  go_enter Try.func13, Try.ntmps13
  go_wp2_with fail
  refine (tmap0 _).mono ?_
  rintro e w1 ⟨v1, rfl, hr1, hb1⟩
  obtain ⟨la1, lc1, ma1, mc1, rfl, -⟩ := hr1.inv
  have HA := Lib.hid (hB0.keep hb1)
  have HB := Lib.hid (hB1.keep hb1)
  have k4 := HA.out.cell
  have l4 := HA.out.lt
  have HO := Lib.hid (OutInv.start (B := w.heap.size + 3) (R := w.heap.size + 1 + 1) hBW hB2 (by omega) (by omega) (by simp) hb1 hr1)
  have hn1' := Below.new w1 (.cells #[.int .i64 (mkMap []).kind, .bool (mkMap []).bool, .int .i64 (mkMap []).int, .string (mkMap []).str, .slice la1 (mkMap []).list.length lc1, .slice ma1 (mkMap []).map.length mc1] 25)
  have HA1 := Lib.hid (HA.out.keep hn1')
  have HB1 := Lib.hid (HB.out.keep hn1')
  clear hb1 hr1 hB0 hB1 hB2 hBW hn1'
  go_wp2_with fail
  clear k4 l4 HA HB
  go_loopw [18] (fun x wr => ∃ (q : Nat) (M : T) (la2 : Option Addr) (lc2 : Nat) (ma2 : Option Addr) (mc2 : Nat), q ≤ a.map.length ∧ x = .int .i64 q ∧ Hid (M = diff0 (a.map.take q) t (mkMap [])) ∧ Hid (Blk wr w.heap.size 25 #[.int .i64 a.kind, .bool a.bool, .int .i64 a.int, .string a.str, .slice la0 a.list.length lc0, .slice ma0 a.map.length mc0]) ∧ Hid (Blk wr (w.heap.size + 1) 25 #[.int .i64 t.kind, .bool t.bool, .int .i64 t.int, .string t.str, .slice la t.list.length lc, .slice ma t.map.length mc]) ∧ OutInv w wr (w.heap.size + 3) w1.heap.size (w.heap.size + 1 + 1) M la2 lc2 ma2 mc2) (fun x _ => a.map.length - (intOf x).toNat)
  case atStart => exact ⟨0, mkMap [], _, _, _, _, Nat.zero_le _, rfl, rfl, HA1, HB1, HO.out⟩
  case round =>
    obtain ⟨q, M, la2, lc2, ma2, mc2, hq, rfl, hM, ha, hb, ho⟩ := hrel
    clear HO HA1 HB1
    have HA := Lib.hid ha.out
    have HB := Lib.hid hb.out
    have HO := Lib.hid ho
    have k1 := ho.box.cell
    have l1 := ho.box.lt
    have kb := hb.out.cell
    have lb := hb.out.lt
    have ka := ha.out.cell
    have la' := ha.out.lt
    clear ha hb
    by_cases hlt : q < a.map.length
    · obtain ⟨b, o, la3, lc3, ma3, mc3, rfl, -, hbl, hkz, ⟨c0, c1, c2, c3, c4, c5, c6⟩, -⟩ := (HM0.out.keep ho.bel).at_ hlt
      obtain ⟨M', eM, hmks, hml, hput, hno⟩ := HS0.out q hlt
      obtain rfl : M' = M := eM.trans hM.out.symm
      have HMK := Lib.hid hmks
      have hl104 : (M'.map.length + 1) * 104 ≤ 140737488355328 := by have := HLA.out; omega
      have HRT := Lib.hid (HRB.out.keep ho.bel)
      have HPUT := Lib.hid hput
      have HNO := Lib.hid hno
      clear ho hmks eM hml hput hno ka la'
      generalize a.map[q].1 = key at *
      generalize a.map[q].2 = x at *
      go_wp2_with fail
      refine (tget_b rfl rfl _ _ _ (HRT.out.keep (Below.new _ _)) HKT.out).mono ?_
      rintro e w2 ⟨v2, rfl, hr2, hb2⟩
      obtain ⟨la4, lc4, ma4, mc4, rfl, -⟩ := hr2.inv
      generalize (getT t key).getD T.zero = gx at *
      have hbq := Below.next (Below.new wr (.cells #[.string key, .int .i64 x.kind, .bool x.bool, .int .i64 x.int, .string x.str, .slice la3 x.list.length lc3, .slice ma3 x.map.length mc3] 38)) hb2
      have hbz := Below.new w2 (.cells #[.int .i64 gx.kind, .bool gx.bool, .int .i64 gx.int, .string gx.str, .slice la4 gx.list.length lc4, .slice ma4 gx.map.length mc4] 25)
      have HPB := Lib.hid (((Blk.new wr 38 #[.string key, .int .i64 x.kind, .bool x.bool, .int .i64 x.int, .string x.str, .slice la3 x.list.length lc3, .slice ma3 x.map.length mc3]).keep hb2).keep hbz)
      replace HO := Lib.hid ((HO.out.keep hbq).keep hbz)
      replace HA := Lib.hid ((HA.out.keep hbq).keep hbz)
      replace HB := Lib.hid ((HB.out.keep hbq).keep hbz)
      clear hr2 hb2 hbq hbz k1 l1 kb lb HRT
      generalize hbo : (getT t key).isSome = bo at *
      have kp := HPB.out.cell
      have lp := HPB.out.lt
      have k2 := HO.out.box.cell
      have l2 := HO.out.box.lt
      cases bo
      · have HNX := Lib.hid (HPUT.out rfl)
        clear hbo
        go_wp2_with fail
        go_region_with (first
          | (go_at_call 20; refine (tnull _).mono ?_; rintro e w4 ⟨v4, rfl, hr4, hb4⟩; obtain ⟨la6, lc6, ma6, mc6, rfl, -⟩ := hr4.inv; have hbq := Below.next (Below.drew (Below.refl _ _)) hb4; have k4 := (HO.out.keep hbq).box.cell; have l4 := (HO.out.keep hbq).box.lt; have kp4 := (HPB.out.keep hbq).cell; have lp4 := (HPB.out.keep hbq).lt; have HO4 := Lib.hid (HO.out.keep hbq); have HA4 := Lib.hid (HA.out.keep hbq); have HB4 := Lib.hid (HB.out.keep hbq); have HR4 := Lib.hid hr4; clear hbq hr4 hb4)
          | (go_at_call 25; go_must (refine (tput M' T.zero key _ _ _ _ _ HO4.out.any HR4.out hkz hl104).mono ?_); rintro e w5 ⟨v5, rfl, hr5, hb5⟩; obtain ⟨la5, lc5, ma5, mc5, rfl, -⟩ := hr5.inv; have k3 := (HO4.out.keep hb5).box.cell; have z3 := (HO4.out.keep hb5).box.frozen; have l3 := (HO4.out.keep hb5).box.lt; have HB5 := Lib.hid hb5; have HR5 := Lib.hid hr5; clear hb5 hr5))
        all_goals
          go_wp2_with fail
          go_roundw
          have htop := HO4.out.top
          case rel => exact ⟨q + 1, putT M' key T.zero, _, _, _, _, by omega, by go_num, HNX, (HA4.out.keep HB5.out).set6 (by omega), (HB4.out.keep HB5.out).set6 (by omega), HO4.out.put HB5.out HR5.out⟩
          case measure => simp [intOf]; omega
      · have HNX := Lib.hid (HNO.out rfl)
        clear hbo
        go_wp2_with fail
        go_roundw
        case rel => exact ⟨q + 1, M', _, _, _, _, by omega, by go_num, HNX, HA.out, HB.out, HO.out⟩
        case measure => simp [intOf]; omega
    · obtain rfl : q = a.map.length := by omega
      rw [List.take_length] at hM
      obtain ⟨l0, el0, hks0, hlen0⟩ := HD0.out
      obtain rfl : M = mkMap l0 := hM.out.trans el0
      have HKS0 := Lib.hid hks0
      have HE2 := Lib.hid (HE.out.trans (by rw [el0]))
      clear ho hM el0 hks0 k1 l1 HE HS0 HD0
      go_wp2_with fail
      clear ka la' kb lb
      go_loopw [40] (fun x wr => ∃ (q : Nat) (M : T) (la2 : Option Addr) (lc2 : Nat) (ma2 : Option Addr) (mc2 : Nat), q ≤ t.map.length ∧ x = .int .i64 q ∧ Hid (M = T.diffM (t.map.take q) a (mkMap l0)) ∧ Hid (Blk wr w.heap.size 25 #[.int .i64 a.kind, .bool a.bool, .int .i64 a.int, .string a.str, .slice la0 a.list.length lc0, .slice ma0 a.map.length mc0]) ∧ OutInv w wr (w.heap.size + 3) w1.heap.size (w.heap.size + 1 + 1) M la2 lc2 ma2 mc2) (fun x _ => t.map.length - (intOf x).toNat)
      case atStart => exact ⟨0, mkMap l0, _, _, _, _, Nat.zero_le _, rfl, by rw [List.take_zero, T.diffM]; rfl, HA, HO.out⟩
      case round =>
        obtain ⟨q, M, la2, lc2, ma2, mc2, hq, rfl, hM, ha, ho⟩ := hrel
        clear HO HA HB
        have HA := Lib.hid ha.out
        have HO := Lib.hid ho
        have k1 := ho.box.cell
        have l1 := ho.box.lt
        have ka := ha.out.cell
        have la' := ha.out.lt
        clear ha
        by_cases hlt : q < t.map.length
        · obtain ⟨b, o, la3, lc3, ma3, mc3, rfl, -, hbl, hkz, ⟨c0, c1, c2, c3, c4, c5, c6⟩, hr⟩ := (HM.out.keep ho.bel).at_ hlt
          obtain ⟨M', eM, hmks, hml, hwn, hnone, hsome⟩ := HSM.out l0 q HKS0.out hlt
          obtain rfl : M' = M := eM.trans hM.out.symm
          have HMK := Lib.hid hmks
          have hl104 : (M'.map.length + 1) * 104 ≤ 140737488355328 := by have := HLT.out; omega
          have HRT := Lib.hid (HRA.out.keep ho.bel)
          have HR := Lib.hid hr
          have HNONE := Lib.hid hnone
          have HSOME := Lib.hid hsome
          have HI := Lib.hid (HIH.out t.map[q] (List.getElem_mem hlt) _ hwn)
          clear ho hmks eM hml hnone hsome hwn hr
          generalize t.map[q].1 = key at *
          generalize t.map[q].2 = x at *
          go_wp2_with fail
          refine (tget_b rfl rfl _ _ _ (HRT.out.keep (Below.new _ _)) HKA.out).mono ?_
          rintro e w2 ⟨v2, rfl, hr2, hb2⟩
          obtain ⟨la4, lc4, ma4, mc4, rfl, -⟩ := hr2.inv
          generalize (getT a key).getD T.zero = gx at *
          have hbq := Below.next (Below.new wr (.cells #[.string key, .int .i64 x.kind, .bool x.bool, .int .i64 x.int, .string x.str, .slice la3 x.list.length lc3, .slice ma3 x.map.length mc3] 38)) hb2
          have hbz := Below.new w2 (.cells #[.int .i64 gx.kind, .bool gx.bool, .int .i64 gx.int, .string gx.str, .slice la4 gx.list.length lc4, .slice ma4 gx.map.length mc4] 25)
          have HPB := Lib.hid (((Blk.new wr 38 #[.string key, .int .i64 x.kind, .bool x.bool, .int .i64 x.int, .string x.str, .slice la3 x.list.length lc3, .slice ma3 x.map.length mc3]).keep hb2).keep hbz)
          have HGB := Lib.hid (Blk.new w2 25 #[.int .i64 gx.kind, .bool gx.bool, .int .i64 gx.int, .string gx.str, .slice la4 gx.list.length lc4, .slice ma4 gx.map.length mc4])
          have HRG := Lib.hid ((hr2.weak (S' := fun _ => True) (fun _ _ _ => trivial)).keep hbz)
          replace HO := Lib.hid ((HO.out.keep hbq).keep hbz)
          replace HA := Lib.hid ((HA.out.keep hbq).keep hbz)
          replace HR := Lib.hid ((HR.out.keep hbq).keep hbz)
          clear hr2 hb2 hbq hbz k1 l1 ka la' HRT
          generalize hbo : (getT a key).isSome = bo at *
          have kp := HPB.out.cell
          have lp := HPB.out.lt
          have kg := HGB.out.cell
          have lg := HGB.out.lt
          have k2 := HO.out.box.cell
          have l2 := HO.out.box.lt
          have k2f := HO.out.box.frozen
          cases bo
          · have HNX := Lib.hid (HNONE.out rfl)
            clear hbo HSOME
            go_wp2_with fail
            refine (tput M' x key _ _ _ _ _ HO.out.any HR.out hkz hl104).mono ?_
            rintro e w5 ⟨v5, rfl, hr5, hb5⟩
            obtain ⟨la5, lc5, ma5, mc5, rfl, -⟩ := hr5.inv
            have k3 := (HO.out.keep hb5).box.cell
            have z3 := (HO.out.keep hb5).box.frozen
            have l3 := (HO.out.keep hb5).box.lt
            have HB5 := Lib.hid hb5
            have HR5 := Lib.hid hr5
            clear hb5 hr5 k2 l2 k2f kp lp kg lg
            go_wp2_with fail
            go_roundw
            have htop := HO.out.top
            case rel => exact ⟨q + 1, putT M' key x, _, _, _, _, by omega, by go_num, HNX, (HA.out.keep HB5.out).set6 (by omega), HO.out.put HB5.out HR5.out⟩
            case measure => simp [intOf]; omega
          · have HSO := Lib.hid (HSOME.out rfl)
            clear hbo HNONE HSOME
            go_wp2_with fail
            refine (tsame gx x _ _ _ _ _ HRG.out HR.out).mono ?_
            rintro e w4 ⟨rfl, hb4⟩
            replace HO := Lib.hid (HO.out.keep hb4)
            replace HA := Lib.hid (HA.out.keep hb4)
            replace HR := Lib.hid (HR.out.keep hb4)
            replace HRG := Lib.hid (HRG.out.keep hb4)
            replace HPB := Lib.hid (HPB.out.keep hb4)
            replace HGB := Lib.hid (HGB.out.keep hb4)
            clear kp lp kg lg k2 l2 k2f hb4
            have kp := HPB.out.cell
            have lp := HPB.out.lt
            have kg := HGB.out.cell
            have lg := HGB.out.lt
            have k2 := HO.out.box.cell
            have l2 := HO.out.box.lt
            have k2f := HO.out.box.frozen
            by_cases hc : T.cmp gx x = 0
            · have HNX := Lib.hid (HSO.out.1 hc)
              have hcd : decide (T.cmp gx x = 0) = true := by rw [hc]; rfl
              clear hc
              rw [hcd]
              clear hcd
              go_wp2_with fail
              go_roundw
              case rel => exact ⟨q + 1, M', _, _, _, _, by omega, by go_num, HNX, HA.out, HO.out⟩
              case measure => simp [intOf]; omega
            · have HS2 := Lib.hid (HSO.out.2 hc)
              have hcd : decide (T.cmp gx x = 0) = false := by simp [hc]
              clear hc HSO
              rw [hcd]
              clear hcd
              by_cases h5 : gx.kind = 5
              · have hg5 : (gx.kind == 5) = true := by rw [h5]; rfl
                by_cases h6 : x.kind = 5
                · have hx5 : (x.kind == 5) = true := by rw [h6]; rfl
                  have HNX := Lib.hid (HS2.out.1 ⟨h5, h6⟩)
                  clear h5 h6 HS2
                  go_wp2_with fail
                  go_region_with (first
                    | (go_at_call 13; refine (HI.out _ _ _ _ _ (HRG.out.keep (by exact Below.drew (Below.refl _ _))) (HR.out.keep (by exact Below.drew (Below.refl _ _)))).mono ?_; rintro e w5 ⟨v5, rfl, hr5, hb5⟩; obtain ⟨la6, lc6, ma6, mc6, rfl, -⟩ := hr5.inv; have hbq := Below.next (Below.drew (Below.refl _ _)) hb5; have k5 := (HO.out.keep hbq).box.cell; have l5 := (HO.out.keep hbq).box.lt; have kp5 := (HPB.out.keep hbq).cell; have lp5 := (HPB.out.keep hbq).lt; have HO5 := Lib.hid (HO.out.keep hbq); have HA5 := Lib.hid (HA.out.keep hbq); have HR5 := Lib.hid hr5; clear hbq hr5 hb5)
                    | (go_at_call 25; go_must (refine (tput M' (x.diff gx) key _ _ _ _ _ HO5.out.any HR5.out hkz hl104).mono ?_); rintro e w6 ⟨v6, rfl, hr6, hb6⟩; obtain ⟨la5, lc5, ma5, mc5, rfl, -⟩ := hr6.inv; have k3 := (HO5.out.keep hb6).box.cell; have z3 := (HO5.out.keep hb6).box.frozen; have l3 := (HO5.out.keep hb6).box.lt; have HB6 := Lib.hid hb6; have HR6 := Lib.hid hr6; clear hb6 hr6))
                  all_goals
                    go_wp2_with fail
                    go_roundw
                    have htop := HO5.out.top
                    case rel => exact ⟨q + 1, putT M' key (x.diff gx), _, _, _, _, by omega, by go_num, HNX, (HA5.out.keep HB6.out).set6 (by omega), HO5.out.put HB6.out HR6.out⟩
                    case measure => simp [intOf]; omega
                · have hx5 : (x.kind == 5) = false := beq_eq_false_iff_ne.2 h6
                  have HNX := Lib.hid (HS2.out.2 (fun h => h6 h.2))
                  clear h5 h6 HS2
                  go_wp2_with fail
                  refine (tput M' x key _ _ _ _ _ HO.out.any HR.out hkz hl104).mono ?_
                  rintro e w5 ⟨v5, rfl, hr5, hb5⟩
                  obtain ⟨la5, lc5, ma5, mc5, rfl, -⟩ := hr5.inv
                  have k3 := (HO.out.keep hb5).box.cell
                  have z3 := (HO.out.keep hb5).box.frozen
                  have l3 := (HO.out.keep hb5).box.lt
                  have HB5 := Lib.hid hb5
                  have HR5 := Lib.hid hr5
                  clear hb5 hr5 k2 l2 k2f kp lp kg lg
                  go_wp2_with fail
                  go_roundw
                  have htop := HO.out.top
                  case rel => exact ⟨q + 1, putT M' key x, _, _, _, _, by omega, by go_num, HNX, (HA.out.keep HB5.out).set6 (by omega), HO.out.put HB5.out HR5.out⟩
                  case measure => simp [intOf]; omega
              · have hg5 : (gx.kind == 5) = false := beq_eq_false_iff_ne.2 h5
                have HNX := Lib.hid (HS2.out.2 (fun h => h5 h.1))
                clear h5 HS2
                go_wp2_with fail
                refine (tput M' x key _ _ _ _ _ HO.out.any HR.out hkz hl104).mono ?_
                rintro e w5 ⟨v5, rfl, hr5, hb5⟩
                obtain ⟨la5, lc5, ma5, mc5, rfl, -⟩ := hr5.inv
                have k3 := (HO.out.keep hb5).box.cell
                have z3 := (HO.out.keep hb5).box.frozen
                have l3 := (HO.out.keep hb5).box.lt
                have HB5 := Lib.hid hb5
                have HR5 := Lib.hid hr5
                clear hb5 hr5 k2 l2 k2f kp lp kg lg
                go_wp2_with fail
                go_roundw
                have htop := HO.out.top
                case rel => exact ⟨q + 1, putT M' key x, _, _, _, _, by omega, by go_num, HNX, (HA.out.keep HB5.out).set6 (by omega), HO.out.put HB5.out HR5.out⟩
                case measure => simp [intOf]; omega
        · obtain rfl : q = t.map.length := by omega
          rw [List.take_length] at hM
          have hk0 := ho.res.cell
          have hf0 := ho.res.frozen
          have hl0 := ho.res.lt
          clear ho ka la'
          go_wp2_with fail
          obtain ⟨d1, d2⟩ := HO.out.done
          exact ret_cell rfl rfl d1 Try.underlying25 val_size rfl (by rw [HE2.out, ← hM.out]; exact d2)
end Go.Proofs.Ythkkmnmejciomaa
