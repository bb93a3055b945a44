/- Several texts as one. -/
import Derived.Test.YtgbbojnigicnoaaDoorSchCD
import Derived.Test.YtgbbojnigicnoaaDoorSeqCut
import Derived.Test.YtgbbojnigicnoaaDoorCmpW
import Derived.Deep.QuietTactic
import Derived.BigQuiet
import Derived.Test.YtgbbojnigicnoaaDoorSchPQ
import Derived.Lib.AppendIntMem
import Derived.Lib.ItoaLen
/- schema.size; checker.own. -/
namespace Go.Proofs.YtgbbojnigicnoaaDoor
open Go.RowKit Go.Lib
attribute [local go_sem ↓] Go.wp_at_zero Go.wp_at_succ

/-- A kind that a value may have. -/
def KindOk (t : T) : Prop := 0 ≤ t.kind ∧ t.kind ≤ 5
set_option maxRecDepth 100000 in
theorem tsize25 (t : T) (v : Value) (w : World) (S : Nat → Prop) (h : RepT w S v t) (hk : KindOk t) : Calls Tryd.prog 50 #[v] w fun e w' => ∃ n : Int, e = .returned (.tuple #[.int .i64 n, .bool (decide (2 ≤ t.kind))]) ∧ (2 ≤ t.kind → n = sizeT t) ∧ Below w.heap.size w w' := by
  obtain ⟨la, lc, ma, mc, rfl, hp⟩ := h.inv
  obtain ⟨-, -, hs, hl, hm, -⟩ := hp
  obtain ⟨h0, h5⟩ := hk
  have h6 : t.kind = 2 ∨ t.kind = 3 ∨ t.kind = 4 ∨ t.kind = 5 ∨ t.kind < 2 := by omega
  have hw1 : IntKind.i64.wrap ((t.str.size : Int) + (t.list.length : Int)) = (t.str.size : Int) + (t.list.length : Int) := wrap_fit (by omega) (by omega)
  have hw2 : IntKind.i64.wrap ((t.str.size : Int) + (t.list.length : Int) + (t.map.length : Int)) = (t.str.size : Int) + (t.list.length : Int) + (t.map.length : Int) := wrap_fit (by omega) (by omega)
  clear h
  rcases h6 with h6 | h6 | h6 | h6 | h6
  · have g2 : (t.kind == 2) = true := by rw [h6]; rfl
    have g3 : (t.kind == 3) = false := by rw [h6]; rfl
    have g4 : (t.kind == 4) = false := by rw [h6]; rfl
    have g5 : (t.kind == 5) = false := by rw [h6]; rfl
    have HS := Lib.hid (show sizeT t = t.int from by unfold sizeT; rw [h6]; rfl)
    rw [show decide (2 ≤ t.kind) = true from by rw [h6]; rfl]
    clear h6 h0 h5 hs hl hm
    go_enter Tryd.func50, Tryd.ntmps50
    go_wp2_with fail
    go_ret2
    exact ⟨_, rfl, fun _ => HS.out.symm, Below.new _ _⟩
  · have g2 : (t.kind == 2) = false := by rw [h6]; rfl
    have g3 : (t.kind == 3) = true := by rw [h6]; rfl
    have g4 : (t.kind == 4) = false := by rw [h6]; rfl
    have g5 : (t.kind == 5) = false := by rw [h6]; rfl
    have HS := Lib.hid (show sizeT t = (t.str.size : Int) + (t.list.length : Int) + (t.map.length : Int) from by unfold sizeT; rw [h6]; rw [if_neg (by decide)]; omega)
    rw [show decide (2 ≤ t.kind) = true from by rw [h6]; rfl]
    clear h6 h0 h5 hs hl hm
    go_enter Tryd.func50, Tryd.ntmps50
    go_wp2_with fail
    go_ret2
    exact ⟨_, rfl, fun _ => HS.out.symm, Below.new _ _⟩
  · have g2 : (t.kind == 2) = false := by rw [h6]; rfl
    have g3 : (t.kind == 3) = false := by rw [h6]; rfl
    have g4 : (t.kind == 4) = true := by rw [h6]; rfl
    have g5 : (t.kind == 5) = false := by rw [h6]; rfl
    have HS := Lib.hid (show sizeT t = (t.str.size : Int) + (t.list.length : Int) + (t.map.length : Int) from by unfold sizeT; rw [h6]; rw [if_neg (by decide)]; omega)
    rw [show decide (2 ≤ t.kind) = true from by rw [h6]; rfl]
    clear h6 h0 h5 hs hl hm
    go_enter Tryd.func50, Tryd.ntmps50
    go_wp2_with fail
    go_ret2
    exact ⟨_, rfl, fun _ => HS.out.symm, Below.new _ _⟩
  · have g2 : (t.kind == 2) = false := by rw [h6]; rfl
    have g3 : (t.kind == 3) = false := by rw [h6]; rfl
    have g4 : (t.kind == 4) = false := by rw [h6]; rfl
    have g5 : (t.kind == 5) = true := by rw [h6]; rfl
    have HS := Lib.hid (show sizeT t = (t.str.size : Int) + (t.list.length : Int) + (t.map.length : Int) from by unfold sizeT; rw [h6]; rw [if_neg (by decide)]; omega)
    rw [show decide (2 ≤ t.kind) = true from by rw [h6]; rfl]
    clear h6 h0 h5 hs hl hm
    go_enter Tryd.func50, Tryd.ntmps50
    go_wp2_with fail
    go_ret2
    exact ⟨_, rfl, fun _ => HS.out.symm, Below.new _ _⟩
  · have g2 : (t.kind == 2) = false := beq_eq_false_iff_ne.2 (by omega)
    have g3 : (t.kind == 3) = false := beq_eq_false_iff_ne.2 (by omega)
    have g4 : (t.kind == 4) = false := beq_eq_false_iff_ne.2 (by omega)
    have g5 : (t.kind == 5) = false := beq_eq_false_iff_ne.2 (by omega)
    have HS := Lib.hid (show ¬ 2 ≤ t.kind from by omega)
    rw [decide_eq_false HS.out]
    clear h6 h0 h5 hs hl hm
    go_enter Tryd.func50, Tryd.ntmps50
    go_wp2_with fail
    go_ret2
    exact ⟨_, rfl, fun h => absurd h (by have h9 := HS.out; omega), Below.new _ _⟩

set_option maxRecDepth 100000 in
theorem own1 (x t : T) (v : Value) (g : Nat) (la : Option Addr) (lc : Nat) (ma : Option Addr) (mc : Nat) (w : World) (S S' : Nat → Prop) (h : RepT w S v x) (ht : RepT w S' (.agg #[.int .i64 t.kind, .bool t.bool, .int .i64 t.int, .string t.str, .slice la t.list.length lc, .slice ma t.map.length mc]) t) (hb : Blk w g 25 #[.int .i64 t.kind, .bool t.bool, .int .i64 t.int, .string t.str, .slice la t.list.length lc, .slice ma t.map.length mc]) :
    Calls Tryd.prog 52 #[v, .pointer (some ⟨g, 0, none⟩)] w fun e w2 => e = .returned (.bool (decide (T.cmp x t = 0))) ∧ Below w.heap.size w w2 := by
  obtain ⟨la1, lc1, ma1, mc1, rfl, -⟩ := h.inv
  have CS := Lib.hid (fun w2 h1 h2 => tsame x t w2 S S' (.agg #[.int .i64 x.kind, .bool x.bool, .int .i64 x.int, .string x.str, .slice la1 x.list.length lc1, .slice ma1 x.map.length mc1]) (.agg #[.int .i64 t.kind, .bool t.bool, .int .i64 t.int, .string t.str, .slice la t.list.length lc, .slice ma t.map.length mc]) h1 h2)
  have HX := Lib.hid h
  have HT := Lib.hid ht
  have HB := Lib.hid hb
  have hgl := hb.lt
  have kb := hb.cell
  clear h ht hb
  generalize decide (T.cmp x t = 0) = r at *
  go_enter Tryd.func52, Tryd.ntmps52
  go_wp2_with fail
  refine (CS.out _ (HX.out.keep (by exact Below.new _ _)) (HT.out.keep (by exact Below.new _ _))).mono ?_
  rintro e w1 ⟨rfl, hb⟩
  have HW := Lib.hid (Below.next (Below.new _ _) hb)
  clear hb
  go_wp2_with fail
  go_ret
  exact ⟨rfl, HW.out⟩

def OwnPostC (B gc : Nat) (A : Option Addr) (c : Nat) (F : List FlawT) (s t : T) (l : List ByteArray) (w : World) (e : Ending) (w' : World) : Prop :=
  if typeBad s t = true then ChkPost B gc A c F [(1, l)] (.bool false) w e w' else ChkPost B gc A c F (leastF s t l ++ mostF s t l ++ oneF s t l) (.bool true) w e w'
theorem kind_cell {w : World} (h : SchV w) {t : T} (hk : KindOk t) : w.cell? ⟨0, t.kind.toNat, none⟩ = some (.string (kindW t.kind)) := by
  have := h.cell t.kind.toNat (by have := hk.2; have := hk.1; show _ < 6; omega)
  rw [this]; rfl
theorem leastF_len (s t : T) (l : List ByteArray) : (leastF s t l).length ≤ 1 := by unfold leastF; split <;> (try split) <;> simp
theorem mostF_len (s t : T) (l : List ByteArray) : (mostF s t l).length ≤ 1 := by unfold mostF; split <;> (try split) <;> simp
theorem oneF_len (s t : T) (l : List ByteArray) : (oneF s t l).length ≤ 1 := by unfold oneF; split <;> (try split) <;> simp
theorem ChkPost.of {w w0 w1 : World} {B gc : Nat} {A A1 : Option Addr} {c c1 : Nat} {F N F1 : List FlawT} {r : Value} (hF : Hid (F1 = F ++ N)) (hc : Chk w1 B gc A1 c1 F1) (h0 : Below w.heap.size w w0) (hg : Grow w0 w1 gc (Value.ownBlock (.slice A F.length c)) (Value.ownBlock (.slice A1 F1.length c1))) : ChkPost B gc A c F N r w (.returned r) w1 :=
  ⟨A1, c1, F1, rfl, hF, hc, (Grow.of h0).trans hg⟩

set_option maxRecDepth 100000 in
set_option maxHeartbeats 16000000 in
theorem town (s t : T) (l : List ByteArray) (a : Option Addr) (ac : Nat) (sla : Option Addr) (slc : Nat) (sma : Option Addr) (smc : Nat) (la : Option Addr) (lc : Nat) (ma : Option Addr) (mc : Nat) (w : World) (B gc : Nat) (A : Option Addr) (c : Nat) (F : List FlawT) (h : Chk w B gc A c F)
    (hs : RepT w (Aw gc (Value.ownBlock (.slice A F.length c))) (.agg #[.int .i64 s.kind, .bool s.bool, .int .i64 s.int, .string s.str, .slice sla s.list.length slc, .slice sma s.map.length smc]) s) (ht : RepT w (Aw gc (Value.ownBlock (.slice A F.length c))) (.agg #[.int .i64 t.kind, .bool t.bool, .int .i64 t.int, .string t.str, .slice la t.list.length lc, .slice ma t.map.length mc]) t) (hl : RepS w (Aw gc (Value.ownBlock (.slice A F.length c))) a l) (hv : SchV w) (hB : SchV w → ∀ w2, Below B w w2 → SchV w2) (hks : KS s.map) (hk : KindOk t) (hn : l.length ≤ 1000000) (hF : F.length ≤ 999999990) (hol : ∀ x, getT s oneW = some x → x.list.length ≤ 1000000000) :
    Calls Tryd.prog 33 #[.pointer (some ⟨gc, 0, none⟩), .agg #[.int .i64 s.kind, .bool s.bool, .int .i64 s.int, .string s.str, .slice sla s.list.length slc, .slice sma s.map.length smc], .agg #[.int .i64 t.kind, .bool t.bool, .int .i64 t.int, .string t.str, .slice la t.list.length lc, .slice ma t.map.length mc], .slice a l.length ac] w (OwnPostC B gc A c F s t l w) := by
  obtain ⟨r, hr⟩ : ∃ r, r = Value.ownBlock (.slice A F.length c) := ⟨_, rfl⟩
  rw [← hr] at hs ht hl
  have HRR := Lib.hid hr
  have hb0 : Below w.heap.size w ((w.alloc (.cells #[.int .i64 s.kind, .bool s.bool, .int .i64 s.int, .string s.str, .slice sla s.list.length slc, .slice sma s.map.length smc] 25)).alloc (.cells #[.int .i64 t.kind, .bool t.bool, .int .i64 t.int, .string t.str, .slice la t.list.length lc, .slice ma t.map.length mc] 25)) := (Below.new _ _).alloc (by simp) _
  have hl1 : Blk ((w.alloc (.cells #[.int .i64 s.kind, .bool s.bool, .int .i64 s.int, .string s.str, .slice sla s.list.length slc, .slice sma s.map.length smc] 25)).alloc (.cells #[.int .i64 t.kind, .bool t.bool, .int .i64 t.int, .string t.str, .slice la t.list.length lc, .slice ma t.map.length mc] 25)) w.heap.size 25 #[.int .i64 s.kind, .bool s.bool, .int .i64 s.int, .string s.str, .slice sla s.list.length slc, .slice sma s.map.length smc] := (Blk.new _ _ _).alloc _
  have hl2 : Blk ((w.alloc (.cells #[.int .i64 s.kind, .bool s.bool, .int .i64 s.int, .string s.str, .slice sla s.list.length slc, .slice sma s.map.length smc] 25)).alloc (.cells #[.int .i64 t.kind, .bool t.bool, .int .i64 t.int, .string t.str, .slice la t.list.length lc, .slice ma t.map.length mc] 25)) (w.heap.size + 1) 25 #[.int .i64 t.kind, .bool t.bool, .int .i64 t.int, .string t.str, .slice la t.list.length lc, .slice ma t.map.length mc] := Blk.new_at _ _ _ (by simp)
  have HA1 := Lib.hid (show Aw gc r w.heap.size from hr ▸ h.aw (Nat.le_refl _))
  have HA2 := Lib.hid (show Aw gc r (w.heap.size + 1) from hr ▸ h.aw (Nat.le_succ _))
  obtain ⟨W0, e0⟩ : ∃ z, z = ((w.alloc (.cells #[.int .i64 s.kind, .bool s.bool, .int .i64 s.int, .string s.str, .slice sla s.list.length slc, .slice sma s.map.length smc] 25)).alloc (.cells #[.int .i64 t.kind, .bool t.bool, .int .i64 t.int, .string t.str, .slice la t.list.length lc, .slice ma t.map.length mc] 25)) := ⟨_, rfl⟩
  rw [← e0] at hb0 hl1 hl2
  have E0 := Lib.hid e0
  have HB0 := Lib.hid hb0; have L1 := Lib.hid hl1; have L2 := Lib.hid hl2
  have HC := Lib.hid (h.keep hb0); have HS := Lib.hid (hs.keep hb0); have HT := Lib.hid (ht.keep hb0); have HL := Lib.hid (hl.mono (w' := W0) (fun _ h _ => h) (fun b o _ hlt => hb0.cell hlt))
  have HV := Lib.hid (hv.keep hb0)
  have HVB := Lib.hid (show ∀ w2, Below B W0 w2 → SchV w2 from fun w2 h2 => hB hv w2 ((hb0.mono h.top).trans h2))
  have HTOP := Lib.hid h.top
  have HLOW := Lib.hid h.low
  clear e0 hb0 hl1 hl2 h hs ht hl hv hB hr
  go_enter Tryd.func33, Tryd.ntmps33
  refine wp_seq_cut (fun K0 hK0 => ?_)
  go_wp2_with fail
  refine hK0.out _ _ ?_
  rw [← E0.out]
  clear E0 hK0 K0
  -- the type
  refine wp_seq_cut (fun K1 hK1 => ?_)
  go_cut [] (fun wx => Hid (typeBad s t = false) ∧ Hid (Below W0.heap.size W0 wx))
  case first =>
    have k1 := L1.out.cell; have l1 := L1.out.lt
    go_wp2_with fail
    refine (tpart s typeW _ _ _ HS.out hks).mono ?_
    rintro e w1 ⟨v1, rfl, hr1, hb1⟩
    obtain ⟨qa, qc, qm, qn, rfl, -⟩ := hr1.inv
    have HW1 := Lib.hid hb1
    have M2 := Lib.hid (L2.out.keep hb1)
    obtain ⟨o, ho⟩ : ∃ o, o = getT s typeW := ⟨_, rfl⟩
    have HO := Lib.hid ho
    rw [← ho]
    clear hr1 hb1 k1 l1 ho
    cases o with
    | none =>
      go_wp2_with fail
      go_quiet (fail)
      go_wp2_with fail
      go_meet
      case rel => exact ⟨Lib.hid (by unfold typeBad; rw [← HO.out]), Lib.hid (Below.drewN (HW1.out.alloc HW1.out.size _) _)⟩
    | some x =>
      have hba : Below W0.heap.size W0 (w1.alloc (.cells #[.int .i64 x.kind, .bool x.bool, .int .i64 x.int, .string x.str, .slice qa x.list.length qc, .slice qm x.map.length qn] 25)) := HW1.out.alloc HW1.out.size _
      have hma : Blk (w1.alloc (.cells #[.int .i64 x.kind, .bool x.bool, .int .i64 x.int, .string x.str, .slice qa x.list.length qc, .slice qm x.map.length qn] 25)) w1.heap.size 25 #[.int .i64 x.kind, .bool x.bool, .int .i64 x.int, .string x.str, .slice qa x.list.length qc, .slice qm x.map.length qn] := Blk.new _ _ _
      have hmt : Blk (w1.alloc (.cells #[.int .i64 x.kind, .bool x.bool, .int .i64 x.int, .string x.str, .slice qa x.list.length qc, .slice qm x.map.length qn] 25)) (w.heap.size + 1) 25 #[.int .i64 t.kind, .bool t.bool, .int .i64 t.int, .string t.str, .slice la t.list.length lc, .slice ma t.map.length mc] := M2.out.alloc _
      go_upto_region 2 with fail
      obtain ⟨WA, eA⟩ : ∃ z, z = w1.alloc (.cells #[.int .i64 x.kind, .bool x.bool, .int .i64 x.int, .string x.str, .slice qa x.list.length qc, .slice qm x.map.length qn] 25) := ⟨_, rfl⟩
      rw [← eA] at hba hma hmt
      rw [← eA]
      have HWA := Lib.hid hba; have MX := Lib.hid hma; have MT := Lib.hid hmt
      have hk0 := hk.1
      have hk5 : t.kind < 6 := by have := hk.2; omega
      have HGC := Lib.hid (kind_cell (HV.out.keep HWA.out) hk)
      clear eA hba hma hmt M2 HW1
      have HTB := Lib.hid (show typeBad s t = (decide (x.str ≠ anyW) && decide (x.str ≠ kindW t.kind)) from by unfold typeBad; rw [← HO.out])
      have hxs : ∀ y : ByteArray, (x.str.toList == y.toList) = decide (x.str = y) := fun y => keq_iff _ _
      clear HO
      by_cases ha : x.str = anyW
      · have g1 : (x.str.toList != [97, 110, 121]) = false := by show (!(x.str.toList == [97, 110, 121])) = false; rw [show ([97, 110, 121] : List UInt8) = anyW.toList from by rw [ByteArray.toList_eq]; rfl, hxs, decide_eq_true ha]; rfl
        have g1p : x.str.toList = [97, 110, 121] := by rw [ha, ByteArray.toList_eq]; rfl
        have HF := Lib.hid (show typeBad s t = false from by rw [HTB.out, ha]; simp)
        clear HTB ha hxs
        refine wp_region_held_drew (S := (fun w' => (∀ i, w'.cell? ⟨w1.heap.size, i, none⟩ = (#[.int .i64 x.kind, .bool x.bool, .int .i64 x.int, .string x.str, .slice qa x.list.length qc, .slice qm x.map.length qn] : Array Value)[i]?) ∧ (∀ i, w'.cell? ⟨w.heap.size + 1, i, none⟩ = (#[.int .i64 t.kind, .bool t.bool, .int .i64 t.int, .string t.str, .slice la t.list.length lc, .slice ma t.map.length mc] : Array Value)[i]?) ∧ w'.cell? ⟨0, t.kind.toNat, none⟩ = some (.string (kindW t.kind)))) (by kernel_rfl) (by exact ⟨(MX.out.keep (Below.refl _ _).drew).cell, (MT.out.keep (Below.refl _ _).drew).cell, HGC.out⟩) (fun hHeld => ?_)
        refine wpAnyH_take (i := 0) (v := ?vm1_0) (by conv => lhs; simp only [List.getElem?_toArray, List.getElem?_cons_succ, List.getElem?_cons_zero]) (by kernel_rfl) (by kernel_rfl) (by kernel_rfl) (by exact fun _ _ _ h => h) (Or.inl ⟨by rfl, ?hym1_0⟩) (by assumption) ?_
        case hym1_0 => (intro w0 hSw; (try dsimp only at hSw); go_simp; (try with_reducible rfl); (try assumption))
        try simp only [Act.put, List.setIfInBounds_toArray, List.set_cons_zero, List.set_cons_succ]
        refine wpAnyH_take (i := 1) (v := ?vm1_1) (by conv => lhs; simp only [List.getElem?_toArray, List.getElem?_cons_succ, List.getElem?_cons_zero]) (by kernel_rfl) (by kernel_rfl) (by kernel_rfl) (by exact fun _ _ _ h => h) (Or.inl ⟨by rfl, ?hym1_1⟩) (by assumption) ?_
        case hym1_1 => (intro w0 hSw; (try dsimp only at hSw); go_simp; (try with_reducible rfl); (try assumption))
        try simp only [Act.put, List.setIfInBounds_toArray, List.set_cons_zero, List.set_cons_succ]
        refine wpAnyH_take (i := 2) (v := ?vm1_2) (by conv => lhs; simp only [List.getElem?_toArray, List.getElem?_cons_succ, List.getElem?_cons_zero]) (by kernel_rfl) (by kernel_rfl) (by kernel_rfl) (by exact fun _ _ _ h => h) (Or.inl ⟨by rfl, ?hym1_2⟩) (by assumption) ?_
        case hym1_2 => (intro w0 hSw; (try dsimp only at hSw); go_simp; (try with_reducible rfl); (try assumption))
        try simp only [Act.put, List.setIfInBounds_toArray, List.set_cons_zero, List.set_cons_succ]
        refine wpAnyH_take (i := 3) (v := ?vm1_3) (by conv => lhs; simp only [List.getElem?_toArray, List.getElem?_cons_succ, List.getElem?_cons_zero]) (by kernel_rfl) (by kernel_rfl) (by kernel_rfl) (by exact fun _ _ _ h => h) (Or.inl ⟨by rfl, ?hym1_3⟩) (by assumption) ?_
        case hym1_3 => (intro w0 hSw; (try dsimp only at hSw); go_simp; (try with_reducible rfl); (try assumption))
        try simp only [Act.put, List.setIfInBounds_toArray, List.set_cons_zero, List.set_cons_succ]
        refine wpAnyH_take (i := 4) (v := .bool false) (by conv => lhs; simp only [List.getElem?_toArray, List.getElem?_cons_succ, List.getElem?_cons_zero]) (by kernel_rfl) (by kernel_rfl) (by kernel_rfl) (by exact fun _ _ _ h => h) (Or.inl ⟨by rfl, ?hym1_4⟩) (by assumption) ?_
        case hym1_4 => (intro w0 hSw; (try dsimp only at hSw); go_simp; (try with_reducible rfl); (try assumption))
        try simp only [Act.put, List.setIfInBounds_toArray, List.set_cons_zero, List.set_cons_succ]
        refine wpAnyH_take (i := 5) (v := .bool false) (by conv => lhs; simp only [List.getElem?_toArray, List.getElem?_cons_succ, List.getElem?_cons_zero]) (by kernel_rfl) (by kernel_rfl) (by kernel_rfl) (by exact fun _ _ _ h => h) (Or.inl ⟨by rfl, ?hym1_5⟩) (by assumption) ?_
        case hym1_5 => (intro w0 hSw; (try dsimp only at hSw); go_simp; (try with_reducible rfl); (try assumption))
        try simp only [Act.put, List.setIfInBounds_toArray, List.set_cons_zero, List.set_cons_succ]
        refine wpAnyH_take (i := 6) (v := .bool false) (by conv => lhs; simp only [List.getElem?_toArray, List.getElem?_cons_succ, List.getElem?_cons_zero]) (by kernel_rfl) (by kernel_rfl) (by kernel_rfl) (by exact fun _ _ _ h => h) (Or.inl ⟨by rfl, ?hym1_6⟩) (by assumption) ?_
        case hym1_6 => (intro w0 hSw; (try dsimp only at hSw); go_simp; (try with_reducible rfl); (try assumption))
        try simp only [Act.put, List.setIfInBounds_toArray, List.set_cons_zero, List.set_cons_succ]
        refine wpAnyH_take (i := 7) (v := undef) (by conv => lhs; simp only [List.getElem?_toArray, List.getElem?_cons_succ, List.getElem?_cons_zero]) (by kernel_rfl) (by kernel_rfl) (by kernel_rfl) (by exact fun _ _ _ h => h) (Or.inr ⟨by rfl, rfl⟩) (by assumption) ?_
        try simp only [Act.put, List.setIfInBounds_toArray, List.set_cons_zero, List.set_cons_succ]
        refine wpAnyH_take (i := 8) (v := undef) (by conv => lhs; simp only [List.getElem?_toArray, List.getElem?_cons_succ, List.getElem?_cons_zero]) (by kernel_rfl) (by kernel_rfl) (by kernel_rfl) (by exact fun _ _ _ h => h) (Or.inr ⟨by rfl, rfl⟩) (by assumption) ?_
        try simp only [Act.put, List.setIfInBounds_toArray, List.set_cons_zero, List.set_cons_succ]
        refine wpAnyH_take (i := 9) (v := undef) (by conv => lhs; simp only [List.getElem?_toArray, List.getElem?_cons_succ, List.getElem?_cons_zero]) (by kernel_rfl) (by kernel_rfl) (by kernel_rfl) (by exact fun _ _ _ h => h) (Or.inr ⟨by rfl, rfl⟩) (by assumption) ?_
        try simp only [Act.put, List.setIfInBounds_toArray, List.set_cons_zero, List.set_cons_succ]
        refine wpAnyH_take (i := 10) (v := undef) (by conv => lhs; simp only [List.getElem?_toArray, List.getElem?_cons_succ, List.getElem?_cons_zero]) (by kernel_rfl) (by kernel_rfl) (by kernel_rfl) (by exact fun _ _ _ h => h) (Or.inr ⟨by rfl, rfl⟩) (by assumption) ?_
        try simp only [Act.put, List.setIfInBounds_toArray, List.set_cons_zero, List.set_cons_succ]
        refine wpAnyH_take (i := 11) (v := undef) (by conv => lhs; simp only [List.getElem?_toArray, List.getElem?_cons_succ, List.getElem?_cons_zero]) (by kernel_rfl) (by kernel_rfl) (by kernel_rfl) (by exact fun _ _ _ h => h) (Or.inr ⟨by rfl, rfl⟩) (by assumption) ?_
        try simp only [Act.put, List.setIfInBounds_toArray, List.set_cons_zero, List.set_cons_succ]
        refine wpAnyH_take (i := 12) (v := undef) (by conv => lhs; simp only [List.getElem?_toArray, List.getElem?_cons_succ, List.getElem?_cons_zero]) (by kernel_rfl) (by kernel_rfl) (by kernel_rfl) (by exact fun _ _ _ h => h) (Or.inr ⟨by rfl, rfl⟩) (by assumption) ?_
        try simp only [Act.put, List.setIfInBounds_toArray, List.set_cons_zero, List.set_cons_succ]
        refine wpAnyH_take (i := 13) (v := undef) (by conv => lhs; simp only [List.getElem?_toArray, List.getElem?_cons_succ, List.getElem?_cons_zero]) (by kernel_rfl) (by kernel_rfl) (by kernel_rfl) (by exact fun _ _ _ h => h) (Or.inr ⟨by rfl, rfl⟩) (by assumption) ?_
        try simp only [Act.put, List.setIfInBounds_toArray, List.set_cons_zero, List.set_cons_succ]
        refine wpAnyH_take (i := 14) (v := .bool false) (by conv => lhs; simp only [List.getElem?_toArray, List.getElem?_cons_succ, List.getElem?_cons_zero]) (by kernel_rfl) (by kernel_rfl) (by kernel_rfl) (by exact fun _ _ _ h => h) (Or.inl ⟨by rfl, ?hym1_14⟩) (by assumption) ?_
        case hym1_14 => (intro w0 hSw; (try dsimp only at hSw); go_simp; (try with_reducible rfl); (try assumption))
        try simp only [Act.put, List.setIfInBounds_toArray, List.set_cons_zero, List.set_cons_succ]
        refine wpAnyH_done (by kernel_rfl) ?_ _
        go_wp2_with fail
        go_meet
        case rel => exact ⟨HF, Lib.hid (Below.drew HWA.out)⟩
      have g1 : (x.str.toList != [97, 110, 121]) = true := by show (!(x.str.toList == [97, 110, 121])) = true; rw [show ([97, 110, 121] : List UInt8) = anyW.toList from by rw [ByteArray.toList_eq]; rfl, hxs, decide_eq_false ha]; rfl
      have g1p : ¬ x.str.toList = [97, 110, 121] := fun e => ha (of_decide_eq_true ((hxs _).symm.trans (by rw [e, ByteArray.toList_eq]; rfl)))
      by_cases hkk : x.str = kindW t.kind
      · have g2 : ((kindW t.kind).toList != x.str.toList) = false := by show (!((kindW t.kind).toList == x.str.toList)) = false; rw [hkk]; simp
        have g2p : (kindW t.kind).toList = x.str.toList := by rw [hkk]
        have HF := Lib.hid (show typeBad s t = false from by rw [HTB.out]; simp [hkk])
        clear HTB ha hxs hkk
        refine wp_region_held_drew (S := (fun w' => (∀ i, w'.cell? ⟨w1.heap.size, i, none⟩ = (#[.int .i64 x.kind, .bool x.bool, .int .i64 x.int, .string x.str, .slice qa x.list.length qc, .slice qm x.map.length qn] : Array Value)[i]?) ∧ (∀ i, w'.cell? ⟨w.heap.size + 1, i, none⟩ = (#[.int .i64 t.kind, .bool t.bool, .int .i64 t.int, .string t.str, .slice la t.list.length lc, .slice ma t.map.length mc] : Array Value)[i]?) ∧ w'.cell? ⟨0, t.kind.toNat, none⟩ = some (.string (kindW t.kind)))) (by kernel_rfl) (by exact ⟨(MX.out.keep (Below.refl _ _).drew).cell, (MT.out.keep (Below.refl _ _).drew).cell, HGC.out⟩) (fun hHeld => ?_)
        refine wpAnyH_take (i := 0) (v := ?vm2_0) (by conv => lhs; simp only [List.getElem?_toArray, List.getElem?_cons_succ, List.getElem?_cons_zero]) (by kernel_rfl) (by kernel_rfl) (by kernel_rfl) (by exact fun _ _ _ h => h) (Or.inl ⟨by rfl, ?hym2_0⟩) (by assumption) ?_
        case hym2_0 => (intro w0 hSw; (try dsimp only at hSw); go_simp; (try with_reducible rfl); (try assumption))
        try simp only [Act.put, List.setIfInBounds_toArray, List.set_cons_zero, List.set_cons_succ]
        refine wpAnyH_take (i := 1) (v := ?vm2_1) (by conv => lhs; simp only [List.getElem?_toArray, List.getElem?_cons_succ, List.getElem?_cons_zero]) (by kernel_rfl) (by kernel_rfl) (by kernel_rfl) (by exact fun _ _ _ h => h) (Or.inl ⟨by rfl, ?hym2_1⟩) (by assumption) ?_
        case hym2_1 => (intro w0 hSw; (try dsimp only at hSw); go_simp; (try with_reducible rfl); (try assumption))
        try simp only [Act.put, List.setIfInBounds_toArray, List.set_cons_zero, List.set_cons_succ]
        refine wpAnyH_take (i := 2) (v := ?vm2_2) (by conv => lhs; simp only [List.getElem?_toArray, List.getElem?_cons_succ, List.getElem?_cons_zero]) (by kernel_rfl) (by kernel_rfl) (by kernel_rfl) (by exact fun _ _ _ h => h) (Or.inl ⟨by rfl, ?hym2_2⟩) (by assumption) ?_
        case hym2_2 => (intro w0 hSw; (try dsimp only at hSw); go_simp; (try with_reducible rfl); (try assumption))
        try simp only [Act.put, List.setIfInBounds_toArray, List.set_cons_zero, List.set_cons_succ]
        refine wpAnyH_take (i := 3) (v := ?vm2_3) (by conv => lhs; simp only [List.getElem?_toArray, List.getElem?_cons_succ, List.getElem?_cons_zero]) (by kernel_rfl) (by kernel_rfl) (by kernel_rfl) (by exact fun _ _ _ h => h) (Or.inl ⟨by rfl, ?hym2_3⟩) (by assumption) ?_
        case hym2_3 => (intro w0 hSw; (try dsimp only at hSw); go_simp; (try with_reducible rfl); (try assumption))
        try simp only [Act.put, List.setIfInBounds_toArray, List.set_cons_zero, List.set_cons_succ]
        refine wpAnyH_take (i := 4) (v := .bool true) (by conv => lhs; simp only [List.getElem?_toArray, List.getElem?_cons_succ, List.getElem?_cons_zero]) (by kernel_rfl) (by kernel_rfl) (by kernel_rfl) (by exact fun _ _ _ h => h) (Or.inl ⟨by rfl, ?hym2_4⟩) (by assumption) ?_
        case hym2_4 => (intro w0 hSw; (try dsimp only at hSw); go_simp; (try with_reducible rfl); (try assumption))
        try simp only [Act.put, List.setIfInBounds_toArray, List.set_cons_zero, List.set_cons_succ]
        refine wpAnyH_take (i := 5) (v := .bool true) (by conv => lhs; simp only [List.getElem?_toArray, List.getElem?_cons_succ, List.getElem?_cons_zero]) (by kernel_rfl) (by kernel_rfl) (by kernel_rfl) (by exact fun _ _ _ h => h) (Or.inl ⟨by rfl, ?hym2_5⟩) (by assumption) ?_
        case hym2_5 => (intro w0 hSw; (try dsimp only at hSw); go_simp; (try with_reducible rfl); (try assumption))
        try simp only [Act.put, List.setIfInBounds_toArray, List.set_cons_zero, List.set_cons_succ]
        refine wpAnyH_take (i := 6) (v := .bool true) (by conv => lhs; simp only [List.getElem?_toArray, List.getElem?_cons_succ, List.getElem?_cons_zero]) (by kernel_rfl) (by kernel_rfl) (by kernel_rfl) (by exact fun _ _ _ h => h) (Or.inl ⟨by rfl, ?hym2_6⟩) (by assumption) ?_
        case hym2_6 => (intro w0 hSw; (try dsimp only at hSw); go_simp; (try with_reducible rfl); (try assumption))
        try simp only [Act.put, List.setIfInBounds_toArray, List.set_cons_zero, List.set_cons_succ]
        refine wpAnyH_take (i := 7) (v := ?vm2_7) (by conv => lhs; simp only [List.getElem?_toArray, List.getElem?_cons_succ, List.getElem?_cons_zero]) (by kernel_rfl) (by kernel_rfl) (by kernel_rfl) (by exact fun _ _ _ h => h) (Or.inl ⟨by rfl, ?hym2_7⟩) (by assumption) ?_
        case hym2_7 => (intro w0 hSw; (try dsimp only at hSw); go_simp; (try with_reducible rfl); (try assumption))
        try simp only [Act.put, List.setIfInBounds_toArray, List.set_cons_zero, List.set_cons_succ]
        refine wpAnyH_take (i := 8) (v := ?vm2_8) (by conv => lhs; simp only [List.getElem?_toArray, List.getElem?_cons_succ, List.getElem?_cons_zero]) (by kernel_rfl) (by kernel_rfl) (by kernel_rfl) (by exact fun _ _ _ h => h) (Or.inl ⟨by rfl, ?hym2_8⟩) (by assumption) ?_
        case hym2_8 => (intro w0 hSw; (try dsimp only at hSw); go_simp; (try with_reducible rfl); (try assumption))
        try simp only [Act.put, List.setIfInBounds_toArray, List.set_cons_zero, List.set_cons_succ]
        refine wpAnyH_take (i := 9) (v := ?vm2_9) (by conv => lhs; simp only [List.getElem?_toArray, List.getElem?_cons_succ, List.getElem?_cons_zero]) (by kernel_rfl) (by kernel_rfl) (by kernel_rfl) (by exact fun _ _ _ h => h) (Or.inl ⟨by rfl, ?hym2_9⟩) (by assumption) ?_
        case hym2_9 => (intro w0 hSw; (try dsimp only at hSw); go_simp; (try with_reducible rfl); (try assumption))
        try simp only [Act.put, List.setIfInBounds_toArray, List.set_cons_zero, List.set_cons_succ]
        refine wpAnyH_take (i := 10) (v := ?vm2_10) (by conv => lhs; simp only [List.getElem?_toArray, List.getElem?_cons_succ, List.getElem?_cons_zero]) (by kernel_rfl) (by kernel_rfl) (by kernel_rfl) (by exact fun _ _ _ h => h) (Or.inl ⟨by rfl, ?hym2_10⟩) (by assumption) ?_
        case hym2_10 => (intro w0 hSw; (try dsimp only at hSw); go_simp; (try with_reducible rfl); (try assumption))
        try simp only [Act.put, List.setIfInBounds_toArray, List.set_cons_zero, List.set_cons_succ]
        refine wpAnyH_take (i := 11) (v := ?vm2_11) (by conv => lhs; simp only [List.getElem?_toArray, List.getElem?_cons_succ, List.getElem?_cons_zero]) (by kernel_rfl) (by kernel_rfl) (by kernel_rfl) (by exact fun _ _ _ h => h) (Or.inl ⟨by rfl, ?hym2_11⟩) (by assumption) ?_
        case hym2_11 => (intro w0 hSw; (try dsimp only at hSw); go_simp; (try with_reducible rfl); (try assumption))
        try simp only [Act.put, List.setIfInBounds_toArray, List.set_cons_zero, List.set_cons_succ]
        refine wpAnyH_take (i := 12) (v := ?vm2_12) (by conv => lhs; simp only [List.getElem?_toArray, List.getElem?_cons_succ, List.getElem?_cons_zero]) (by kernel_rfl) (by kernel_rfl) (by kernel_rfl) (by exact fun _ _ _ h => h) (Or.inl ⟨by rfl, ?hym2_12⟩) (by assumption) ?_
        case hym2_12 => (intro w0 hSw; (try dsimp only at hSw); go_simp; (try with_reducible rfl); (try assumption))
        try simp only [Act.put, List.setIfInBounds_toArray, List.set_cons_zero, List.set_cons_succ]
        refine wpAnyH_take (i := 13) (v := .bool false) (by conv => lhs; simp only [List.getElem?_toArray, List.getElem?_cons_succ, List.getElem?_cons_zero]) (by kernel_rfl) (by kernel_rfl) (by kernel_rfl) (by exact fun _ _ _ h => h) (Or.inl ⟨by rfl, ?hym2_13⟩) (by assumption) ?_
        case hym2_13 => (intro w0 hSw; (try dsimp only at hSw); go_simp; (try with_reducible rfl); (try assumption))
        try simp only [Act.put, List.setIfInBounds_toArray, List.set_cons_zero, List.set_cons_succ]
        refine wpAnyH_take (i := 14) (v := .bool false) (by conv => lhs; simp only [List.getElem?_toArray, List.getElem?_cons_succ, List.getElem?_cons_zero]) (by kernel_rfl) (by kernel_rfl) (by kernel_rfl) (by exact fun _ _ _ h => h) (Or.inl ⟨by rfl, ?hym2_14⟩) (by assumption) ?_
        case hym2_14 => (intro w0 hSw; (try dsimp only at hSw); go_simp; (try with_reducible rfl); (try assumption))
        try simp only [Act.put, List.setIfInBounds_toArray, List.set_cons_zero, List.set_cons_succ]
        refine wpAnyH_done (by kernel_rfl) ?_ _
        go_wp2_with fail
        go_meet
        case rel => exact ⟨HF, Lib.hid (Below.drew HWA.out)⟩
      have g2 : ((kindW t.kind).toList != x.str.toList) = true := by show (!((kindW t.kind).toList == x.str.toList)) = true; rw [keq_iff, decide_eq_false (fun e => hkk e.symm)]; rfl
      have g2p : ¬ (kindW t.kind).toList = x.str.toList := fun e => hkk (of_decide_eq_true ((hxs _).symm.trans (by rw [e]; simp)))
      have HF := Lib.hid (show typeBad s t = true from by rw [HTB.out]; simp [ha, hkk])
      clear HTB ha hxs hkk
      refine wp_region_held_drew (S := (fun w' => (∀ i, w'.cell? ⟨w1.heap.size, i, none⟩ = (#[.int .i64 x.kind, .bool x.bool, .int .i64 x.int, .string x.str, .slice qa x.list.length qc, .slice qm x.map.length qn] : Array Value)[i]?) ∧ (∀ i, w'.cell? ⟨w.heap.size + 1, i, none⟩ = (#[.int .i64 t.kind, .bool t.bool, .int .i64 t.int, .string t.str, .slice la t.list.length lc, .slice ma t.map.length mc] : Array Value)[i]?) ∧ w'.cell? ⟨0, t.kind.toNat, none⟩ = some (.string (kindW t.kind)))) (by kernel_rfl) (by exact ⟨(MX.out.keep (Below.refl _ _).drew).cell, (MT.out.keep (Below.refl _ _).drew).cell, HGC.out⟩) (fun hHeld => ?_)
      refine wpAnyH_take (i := 0) (v := ?vm3_0) (by conv => lhs; simp only [List.getElem?_toArray, List.getElem?_cons_succ, List.getElem?_cons_zero]) (by kernel_rfl) (by kernel_rfl) (by kernel_rfl) (by exact fun _ _ _ h => h) (Or.inl ⟨by rfl, ?hym3_0⟩) (by assumption) ?_
      case hym3_0 => (intro w0 hSw; (try dsimp only at hSw); go_simp; (try with_reducible rfl); (try assumption))
      try simp only [Act.put, List.setIfInBounds_toArray, List.set_cons_zero, List.set_cons_succ]
      refine wpAnyH_take (i := 1) (v := ?vm3_1) (by conv => lhs; simp only [List.getElem?_toArray, List.getElem?_cons_succ, List.getElem?_cons_zero]) (by kernel_rfl) (by kernel_rfl) (by kernel_rfl) (by exact fun _ _ _ h => h) (Or.inl ⟨by rfl, ?hym3_1⟩) (by assumption) ?_
      case hym3_1 => (intro w0 hSw; (try dsimp only at hSw); go_simp; (try with_reducible rfl); (try assumption))
      try simp only [Act.put, List.setIfInBounds_toArray, List.set_cons_zero, List.set_cons_succ]
      refine wpAnyH_take (i := 2) (v := ?vm3_2) (by conv => lhs; simp only [List.getElem?_toArray, List.getElem?_cons_succ, List.getElem?_cons_zero]) (by kernel_rfl) (by kernel_rfl) (by kernel_rfl) (by exact fun _ _ _ h => h) (Or.inl ⟨by rfl, ?hym3_2⟩) (by assumption) ?_
      case hym3_2 => (intro w0 hSw; (try dsimp only at hSw); go_simp; (try with_reducible rfl); (try assumption))
      try simp only [Act.put, List.setIfInBounds_toArray, List.set_cons_zero, List.set_cons_succ]
      refine wpAnyH_take (i := 3) (v := ?vm3_3) (by conv => lhs; simp only [List.getElem?_toArray, List.getElem?_cons_succ, List.getElem?_cons_zero]) (by kernel_rfl) (by kernel_rfl) (by kernel_rfl) (by exact fun _ _ _ h => h) (Or.inl ⟨by rfl, ?hym3_3⟩) (by assumption) ?_
      case hym3_3 => (intro w0 hSw; (try dsimp only at hSw); go_simp; (try with_reducible rfl); (try assumption))
      try simp only [Act.put, List.setIfInBounds_toArray, List.set_cons_zero, List.set_cons_succ]
      refine wpAnyH_take (i := 4) (v := .bool true) (by conv => lhs; simp only [List.getElem?_toArray, List.getElem?_cons_succ, List.getElem?_cons_zero]) (by kernel_rfl) (by kernel_rfl) (by kernel_rfl) (by exact fun _ _ _ h => h) (Or.inl ⟨by rfl, ?hym3_4⟩) (by assumption) ?_
      case hym3_4 => (intro w0 hSw; (try dsimp only at hSw); go_simp; (try with_reducible rfl); (try assumption))
      try simp only [Act.put, List.setIfInBounds_toArray, List.set_cons_zero, List.set_cons_succ]
      refine wpAnyH_take (i := 5) (v := .bool true) (by conv => lhs; simp only [List.getElem?_toArray, List.getElem?_cons_succ, List.getElem?_cons_zero]) (by kernel_rfl) (by kernel_rfl) (by kernel_rfl) (by exact fun _ _ _ h => h) (Or.inl ⟨by rfl, ?hym3_5⟩) (by assumption) ?_
      case hym3_5 => (intro w0 hSw; (try dsimp only at hSw); go_simp; (try with_reducible rfl); (try assumption))
      try simp only [Act.put, List.setIfInBounds_toArray, List.set_cons_zero, List.set_cons_succ]
      refine wpAnyH_take (i := 6) (v := .bool true) (by conv => lhs; simp only [List.getElem?_toArray, List.getElem?_cons_succ, List.getElem?_cons_zero]) (by kernel_rfl) (by kernel_rfl) (by kernel_rfl) (by exact fun _ _ _ h => h) (Or.inl ⟨by rfl, ?hym3_6⟩) (by assumption) ?_
      case hym3_6 => (intro w0 hSw; (try dsimp only at hSw); go_simp; (try with_reducible rfl); (try assumption))
      try simp only [Act.put, List.setIfInBounds_toArray, List.set_cons_zero, List.set_cons_succ]
      refine wpAnyH_take (i := 7) (v := ?vm3_7) (by conv => lhs; simp only [List.getElem?_toArray, List.getElem?_cons_succ, List.getElem?_cons_zero]) (by kernel_rfl) (by kernel_rfl) (by kernel_rfl) (by exact fun _ _ _ h => h) (Or.inl ⟨by rfl, ?hym3_7⟩) (by assumption) ?_
      case hym3_7 => (intro w0 hSw; (try dsimp only at hSw); go_simp; (try with_reducible rfl); (try assumption))
      try simp only [Act.put, List.setIfInBounds_toArray, List.set_cons_zero, List.set_cons_succ]
      refine wpAnyH_take (i := 8) (v := ?vm3_8) (by conv => lhs; simp only [List.getElem?_toArray, List.getElem?_cons_succ, List.getElem?_cons_zero]) (by kernel_rfl) (by kernel_rfl) (by kernel_rfl) (by exact fun _ _ _ h => h) (Or.inl ⟨by rfl, ?hym3_8⟩) (by assumption) ?_
      case hym3_8 => (intro w0 hSw; (try dsimp only at hSw); go_simp; (try with_reducible rfl); (try assumption))
      try simp only [Act.put, List.setIfInBounds_toArray, List.set_cons_zero, List.set_cons_succ]
      refine wpAnyH_take (i := 9) (v := ?vm3_9) (by conv => lhs; simp only [List.getElem?_toArray, List.getElem?_cons_succ, List.getElem?_cons_zero]) (by kernel_rfl) (by kernel_rfl) (by kernel_rfl) (by exact fun _ _ _ h => h) (Or.inl ⟨by rfl, ?hym3_9⟩) (by assumption) ?_
      case hym3_9 => (intro w0 hSw; (try dsimp only at hSw); go_simp; (try with_reducible rfl); (try assumption))
      try simp only [Act.put, List.setIfInBounds_toArray, List.set_cons_zero, List.set_cons_succ]
      refine wpAnyH_take (i := 10) (v := ?vm3_10) (by conv => lhs; simp only [List.getElem?_toArray, List.getElem?_cons_succ, List.getElem?_cons_zero]) (by kernel_rfl) (by kernel_rfl) (by kernel_rfl) (by exact fun _ _ _ h => h) (Or.inl ⟨by rfl, ?hym3_10⟩) (by assumption) ?_
      case hym3_10 => (intro w0 hSw; (try dsimp only at hSw); go_simp; (try with_reducible rfl); (try assumption))
      try simp only [Act.put, List.setIfInBounds_toArray, List.set_cons_zero, List.set_cons_succ]
      refine wpAnyH_take (i := 11) (v := ?vm3_11) (by conv => lhs; simp only [List.getElem?_toArray, List.getElem?_cons_succ, List.getElem?_cons_zero]) (by kernel_rfl) (by kernel_rfl) (by kernel_rfl) (by exact fun _ _ _ h => h) (Or.inl ⟨by rfl, ?hym3_11⟩) (by assumption) ?_
      case hym3_11 => (intro w0 hSw; (try dsimp only at hSw); go_simp; (try with_reducible rfl); (try assumption))
      try simp only [Act.put, List.setIfInBounds_toArray, List.set_cons_zero, List.set_cons_succ]
      refine wpAnyH_take (i := 12) (v := ?vm3_12) (by conv => lhs; simp only [List.getElem?_toArray, List.getElem?_cons_succ, List.getElem?_cons_zero]) (by kernel_rfl) (by kernel_rfl) (by kernel_rfl) (by exact fun _ _ _ h => h) (Or.inl ⟨by rfl, ?hym3_12⟩) (by assumption) ?_
      case hym3_12 => (intro w0 hSw; (try dsimp only at hSw); go_simp; (try with_reducible rfl); (try assumption))
      try simp only [Act.put, List.setIfInBounds_toArray, List.set_cons_zero, List.set_cons_succ]
      refine wpAnyH_take (i := 13) (v := .bool true) (by conv => lhs; simp only [List.getElem?_toArray, List.getElem?_cons_succ, List.getElem?_cons_zero]) (by kernel_rfl) (by kernel_rfl) (by kernel_rfl) (by exact fun _ _ _ h => h) (Or.inl ⟨by rfl, ?hym3_13⟩) (by assumption) ?_
      case hym3_13 => (intro w0 hSw; (try dsimp only at hSw); go_simp; (try with_reducible rfl); (try assumption))
      try simp only [Act.put, List.setIfInBounds_toArray, List.set_cons_zero, List.set_cons_succ]
      refine wpAnyH_take (i := 14) (v := .bool true) (by conv => lhs; simp only [List.getElem?_toArray, List.getElem?_cons_succ, List.getElem?_cons_zero]) (by kernel_rfl) (by kernel_rfl) (by kernel_rfl) (by exact fun _ _ _ h => h) (Or.inl ⟨by rfl, ?hym3_14⟩) (by assumption) ?_
      case hym3_14 => (intro w0 hSw; (try dsimp only at hSw); go_simp; (try with_reducible rfl); (try assumption))
      try simp only [Act.put, List.setIfInBounds_toArray, List.set_cons_zero, List.set_cons_succ]
      refine wpAnyH_done (by kernel_rfl) ?_ _
      go_wp2_with fail
      have HW2 := Lib.hid (Below.drew HWA.out)
      refine (tadd 1 l a ac _ B gc A c F (HC.out.keep HW2.out) (by rw [← HRR.out]; exact HL.out.mono (fun _ h _ => h) (fun b o _ hlt => HW2.out.cell hlt)) hn (by omega)).mono ?_
      rintro e w2 ⟨A2, c2, F2, rfl, hF2, hc2, hg2⟩
      have HF2 := Lib.hid hF2; have HC2 := Lib.hid hc2; have HG2 := Lib.hid hg2
      clear hF2 hc2 hg2
      go_wp2_with fail
      go_ret
      unfold OwnPostC
      rw [if_pos HF.out]
      exact ChkPost.of HF2.out HC2.out HB0.out (Grow.trans (HRR.out ▸ Grow.of HW2.out) HG2.out)
  case rest =>
    obtain ⟨HTF, HX1⟩ := hcut
    refine hK1.out _ _ ?_
    clear hK1 K1
    -- the size
    refine wp_seq_cut (fun K2 hK2 => ?_)
    have M2 := Lib.hid (L2.out.keep HX1.out)
    have k2 := M2.out.cell; have l2 := M2.out.lt
    go_wp2_with fail
    refine (tsize25 t _ _ _ (HT.out.keep HX1.out) hk).mono ?_
    obtain ⟨z, hz⟩ : ∃ z : Bool, z = decide (2 ≤ t.kind) := ⟨_, rfl⟩
    rw [← hz]
    rintro e w1 ⟨n, rfl, hn2, hb1⟩
    have HX2 := Lib.hid (Below.next HX1.out hb1)
    have HN2 := Lib.hid hn2
    have HZ := Lib.hid hz
    clear hb1 hn2 k2 l2 M2 HX1 hz
    go_wp2_with fail
    refine hK2.out _ _ ?_
    clear hK2 K2
    have HG0 := Lib.hid (show Grow W0 w1 gc r (Value.ownBlock (.slice A F.length c)) from HRR.out ▸ Grow.of HX2.out)
    have HC0 := Lib.hid (HC.out.keep HX2.out)
    clear HX2
    refine wp_seq_cut (fun K3 hK3 => ?_)
    have M1 := Lib.hid (HG0.out.blk L1.out HA1.out); have M2 := Lib.hid (HG0.out.blk L2.out HA2.out); have HSk := Lib.hid (HS.out.grow HG0.out); have HTk := Lib.hid (HT.out.grow HG0.out); have HLk := Lib.hid (HL.out.grow HG0.out); have HAk := Lib.hid (HG0.out.aw HA2.out L2.out.lt)
    go_cut [] (fun wx => ∃ A' c' F', Hid (F' = F ++ leastF s t l) ∧ Hid (Chk wx B gc A' c' F') ∧ Hid (Grow W0 wx gc r (Value.ownBlock (.slice A' F'.length c'))))
    case first =>
      have k1 := M1.out.cell; have l1 := M1.out.lt
      go_wp2_with fail
      refine (tpart s leastW _ _ _ HSk.out hks).mono ?_
      rintro e wb ⟨v1, rfl, hr1, hb1⟩
      obtain ⟨qa, qc, qm, qn, rfl, hpx⟩ := hr1.inv
      obtain ⟨o, ho⟩ : ∃ o, o = getT s leastW := ⟨_, rfl⟩
      have HO := Lib.hid ho
      have HWb := Lib.hid hb1
      have HPX := Lib.hid hpx.2.2.2.2.2.2.2.2.2.1
      rw [← ho]
      rw [← ho] at HPX
      clear hr1 hb1 k1 l1 ho hpx
      cases o with
      | none =>
        have HLF := Lib.hid (show leastF s t l = [] from by unfold leastF; rw [← HO.out])
        go_wp2_with fail
        go_meet
        case rel => exact ⟨A, c, F, Lib.hid (by rw [HLF.out, List.append_nil]), Lib.hid (HC0.out.keep (HWb.out.alloc HWb.out.size _)), Lib.hid (HG0.out.trans (Grow.of (HWb.out.alloc HWb.out.size _)))⟩
      | some x =>
        have HLF0 := Lib.hid (show leastF s t l = if 2 ≤ t.kind ∧ sizeT t < x.int then [(4, l)] else [] from by unfold leastF; rw [← HO.out])
        clear HO
        cases z
        · have HLF := Lib.hid (show leastF s t l = [] from by rw [HLF0.out, if_neg (fun e => by have h9 := HZ.out; rw [decide_eq_true e.1] at h9; cases h9)])
          go_wp2_with fail
          go_meet
          case rel => exact ⟨A, c, F, Lib.hid (by rw [HLF.out, List.append_nil]), Lib.hid (HC0.out.keep (HWb.out.alloc HWb.out.size _)), Lib.hid (HG0.out.trans (Grow.of (HWb.out.alloc HWb.out.size _)))⟩
        · have hz2 : 2 ≤ t.kind := of_decide_eq_true HZ.out.symm
          have HNN := Lib.hid (HN2.out hz2)
          have HZ2 := Lib.hid hz2
          clear hz2
          by_cases hlt : n < x.int
          · have HLF := Lib.hid (show leastF s t l = [(4, l)] from by rw [HLF0.out, if_pos ⟨HZ2.out, HNN.out ▸ hlt⟩])
            go_wp2_with fail
            refine (tadd 4 l a ac _ B gc A c F (HC0.out.keep (HWb.out.alloc HWb.out.size _)) (HLk.out.mono (fun _ h _ => h) (fun b o _ hlt => ((HWb.out.alloc HWb.out.size _)).cell hlt)) hn (by omega)).mono ?_
            rintro e wd ⟨A3, c3, F3, rfl, hF3, hc3, hg3⟩
            have HFd := Lib.hid hF3; have HCd := Lib.hid hc3; have HGd := Lib.hid hg3
            clear hF3 hc3 hg3
            go_wp2_with fail
            go_meet
            case rel => exact ⟨A3, c3, F3, Lib.hid (by rw [HFd.out, HLF.out]), HCd, Lib.hid (HG0.out.trans ((Grow.of (HWb.out.alloc HWb.out.size _)).trans HGd.out))⟩
          · have HLF := Lib.hid (show leastF s t l = [] from by rw [HLF0.out, if_neg (fun e => hlt (HNN.out ▸ e.2))])
            go_wp2_with fail
            go_meet
            case rel => exact ⟨A, c, F, Lib.hid (by rw [HLF.out, List.append_nil]), Lib.hid (HC0.out.keep (HWb.out.alloc HWb.out.size _)), Lib.hid (HG0.out.trans (Grow.of (HWb.out.alloc HWb.out.size _)))⟩
    case rest =>
    obtain ⟨A1, c1, F1, HF1, HC1, HG1⟩ := hcut
    refine hK3.out _ _ ?_
    clear hK3 K3 M1 M2 HSk HTk HLk HAk
    refine wp_seq_cut (fun K4 hK4 => ?_)
    have M1 := Lib.hid (HG1.out.blk L1.out HA1.out); have M2 := Lib.hid (HG1.out.blk L2.out HA2.out); have HSk := Lib.hid (HS.out.grow HG1.out); have HTk := Lib.hid (HT.out.grow HG1.out); have HLk := Lib.hid (HL.out.grow HG1.out); have HAk := Lib.hid (HG1.out.aw HA2.out L2.out.lt)
    go_cut [] (fun wx => ∃ A' c' F', Hid (F' = F1 ++ mostF s t l) ∧ Hid (Chk wx B gc A' c' F') ∧ Hid (Grow W0 wx gc r (Value.ownBlock (.slice A' F'.length c'))))
    case first =>
      have k1 := M1.out.cell; have l1 := M1.out.lt
      go_wp2_with fail
      refine (tpart s mostW _ _ _ HSk.out hks).mono ?_
      rintro e wb ⟨v1, rfl, hr1, hb1⟩
      obtain ⟨qa, qc, qm, qn, rfl, hpx⟩ := hr1.inv
      obtain ⟨o, ho⟩ : ∃ o, o = getT s mostW := ⟨_, rfl⟩
      have HO := Lib.hid ho
      have HWb := Lib.hid hb1
      have HPX := Lib.hid hpx.2.2.2.2.2.2.2.2.2.1
      rw [← ho]
      rw [← ho] at HPX
      clear hr1 hb1 k1 l1 ho hpx
      cases o with
      | none =>
        have HLF := Lib.hid (show mostF s t l = [] from by unfold mostF; rw [← HO.out])
        go_wp2_with fail
        go_meet
        case rel => exact ⟨A1, c1, F1, Lib.hid (by rw [HLF.out, List.append_nil]), Lib.hid (HC1.out.keep (HWb.out.alloc HWb.out.size _)), Lib.hid (HG1.out.trans (Grow.of (HWb.out.alloc HWb.out.size _)))⟩
      | some x =>
        have HLF0 := Lib.hid (show mostF s t l = if 2 ≤ t.kind ∧ x.int < sizeT t then [(5, l)] else [] from by unfold mostF; rw [← HO.out])
        clear HO
        cases z
        · have HLF := Lib.hid (show mostF s t l = [] from by rw [HLF0.out, if_neg (fun e => by have h9 := HZ.out; rw [decide_eq_true e.1] at h9; cases h9)])
          go_wp2_with fail
          go_meet
          case rel => exact ⟨A1, c1, F1, Lib.hid (by rw [HLF.out, List.append_nil]), Lib.hid (HC1.out.keep (HWb.out.alloc HWb.out.size _)), Lib.hid (HG1.out.trans (Grow.of (HWb.out.alloc HWb.out.size _)))⟩
        · have hz2 : 2 ≤ t.kind := of_decide_eq_true HZ.out.symm
          have HNN := Lib.hid (HN2.out hz2)
          have HZ2 := Lib.hid hz2
          clear hz2
          by_cases hlt : x.int < n
          · have HLF := Lib.hid (show mostF s t l = [(5, l)] from by rw [HLF0.out, if_pos ⟨HZ2.out, HNN.out ▸ hlt⟩])
            go_wp2_with fail
            refine (tadd 5 l a ac _ B gc A1 c1 F1 (HC1.out.keep (HWb.out.alloc HWb.out.size _)) (HLk.out.mono (fun _ h _ => h) (fun b o _ hlt => ((HWb.out.alloc HWb.out.size _)).cell hlt)) hn (by have h7 := congrArg List.length HF1.out; simp only [List.length_append] at h7; have h6 := leastF_len s t l; omega)).mono ?_
            rintro e wd ⟨A3, c3, F3, rfl, hF3, hc3, hg3⟩
            have HFd := Lib.hid hF3; have HCd := Lib.hid hc3; have HGd := Lib.hid hg3
            clear hF3 hc3 hg3
            go_wp2_with fail
            go_meet
            case rel => exact ⟨A3, c3, F3, Lib.hid (by rw [HFd.out, HLF.out]), HCd, Lib.hid (HG1.out.trans ((Grow.of (HWb.out.alloc HWb.out.size _)).trans HGd.out))⟩
          · have HLF := Lib.hid (show mostF s t l = [] from by rw [HLF0.out, if_neg (fun e => hlt (HNN.out ▸ e.2))])
            go_wp2_with fail
            go_meet
            case rel => exact ⟨A1, c1, F1, Lib.hid (by rw [HLF.out, List.append_nil]), Lib.hid (HC1.out.keep (HWb.out.alloc HWb.out.size _)), Lib.hid (HG1.out.trans (Grow.of (HWb.out.alloc HWb.out.size _)))⟩
    case rest =>
    obtain ⟨A2, c2, F2, HF2, HC2, HG2⟩ := hcut
    refine hK4.out _ _ ?_
    clear hK4 K4 M1 M2 HSk HTk HLk HAk
    refine wp_seq_cut (fun K5 hK5 => ?_)
    have M1 := Lib.hid (HG2.out.blk L1.out HA1.out); have M2 := Lib.hid (HG2.out.blk L2.out HA2.out); have HSk := Lib.hid (HS.out.grow HG2.out); have HTk := Lib.hid (HT.out.grow HG2.out); have HLk := Lib.hid (HL.out.grow HG2.out); have HAk := Lib.hid (HG2.out.aw HA2.out L2.out.lt)
    go_cut [] (fun wx => ∃ A' c' F', Hid (F' = F2 ++ oneF s t l) ∧ Hid (Chk wx B gc A' c' F') ∧ Hid (Grow W0 wx gc r (Value.ownBlock (.slice A' F'.length c'))))
    case first =>
      have k1 := M1.out.cell; have l1 := M1.out.lt
      go_wp2_with fail
      refine (tpart s oneW _ _ _ HSk.out hks).mono ?_
      rintro e wb ⟨v1, rfl, hr1, hb1⟩
      obtain ⟨qa, qc, qm, qn, rfl, hpx⟩ := hr1.inv
      obtain ⟨o, ho⟩ : ∃ o, o = getT s oneW := ⟨_, rfl⟩
      have HO := Lib.hid ho
      have HWb := Lib.hid hb1
      have HPX := Lib.hid hpx.2.2.2.2.2.2.2.2.2.1
      rw [← ho]
      rw [← ho] at HPX
      clear hr1 hb1 k1 l1 ho hpx
      cases o with
      | none =>
        have HLF := Lib.hid (show oneF s t l = [] from by unfold oneF; rw [← HO.out])
        go_wp2_with fail
        go_meet
        case rel => exact ⟨A2, c2, F2, Lib.hid (by rw [HLF.out, List.append_nil]), Lib.hid (HC2.out.keep (HWb.out.alloc HWb.out.size _)), Lib.hid (HG2.out.trans (Grow.of (HWb.out.alloc HWb.out.size _)))⟩
      | some x =>
        have HLF0 := Lib.hid (show oneF s t l = if x.list.any (fun y => decide (T.cmp y t = 0)) then [] else [(6, l)] from by unfold oneF; rw [← HO.out])
        have hxl := hol x HO.out.symm
        clear HO
        have CC := Lib.hid (fun (w2 : World) (S9 : Nat → Prop) (h2 : Below wc.heap.size wc w2) (h3 : RepL w2 S9 qa x.list) => conVO x.list (fun y => decide (T.cmp y t = 0)) qa qc w2 S9 h3 hxl (w.heap.size + 1) (fun y _ w3 v3 hb3 hr3 => own1 y t v3 (w.heap.size + 1) la lc ma mc w3 _ _ hr3 (HTk.out.keep (Below.next h2 hb3)) (M2.out.keep (Below.next h2 hb3))))
        clear hxl
        generalize (x.list.any fun y => decide (T.cmp y t = 0)) = rr at *
        have hba : Below wc.heap.size wc (wb.alloc (.cells #[.int .i64 x.kind, .bool x.bool, .int .i64 x.int, .string x.str, .slice qa x.list.length qc, .slice qm x.map.length qn] 25)) := HWb.out.alloc HWb.out.size _
        have hma : Blk (wb.alloc (.cells #[.int .i64 x.kind, .bool x.bool, .int .i64 x.int, .string x.str, .slice qa x.list.length qc, .slice qm x.map.length qn] 25)) wb.heap.size 25 #[.int .i64 x.kind, .bool x.bool, .int .i64 x.int, .string x.str, .slice qa x.list.length qc, .slice qm x.map.length qn] := Blk.new _ _ _
        have HPW := RepL.keep HPX.out (Below.new wb (.cells #[.int .i64 x.kind, .bool x.bool, .int .i64 x.int, .string x.str, .slice qa x.list.length qc, .slice qm x.map.length qn] 25))
        go_upto_region 13 with fail
        obtain ⟨WA, eA⟩ : ∃ z, z = wb.alloc (.cells #[.int .i64 x.kind, .bool x.bool, .int .i64 x.int, .string x.str, .slice qa x.list.length qc, .slice qm x.map.length qn] 25) := ⟨_, rfl⟩
        rw [← eA] at hba hma HPW
        rw [← eA]
        have HWA := Lib.hid hba; have MX := Lib.hid hma
        clear eA hba hma
        cases rr
        · have HLF := Lib.hid (show oneF s t l = [(6, l)] from by rw [HLF0.out]; rfl)
          have mk := MX.out.cell
          go_wp2_with fail
          refine (CC.out _ _ HWA.out HPW).mono ?_
          rintro e we ⟨rfl, hbe⟩
          have HWE := Lib.hid (Below.next HWA.out hbe)
          clear hbe mk
          go_wp2_with fail
          refine (tadd 6 l a ac _ B gc A2 c2 F2 (HC2.out.keep HWE.out) (HLk.out.mono (fun _ h _ => h) (fun b o _ hlt => (HWE.out).cell hlt)) hn (by have h7 := congrArg List.length HF1.out; simp only [List.length_append] at h7; have h6 := leastF_len s t l; have h5 := congrArg List.length HF2.out; simp only [List.length_append] at h5; have h4 := mostF_len s t l; omega)).mono ?_
          rintro e wd ⟨A3, c3, F3, rfl, hF3, hc3, hg3⟩
          have HFd := Lib.hid hF3; have HCd := Lib.hid hc3; have HGd := Lib.hid hg3
          clear hF3 hc3 hg3
          go_wp2_with fail
          go_meet
          case rel => exact ⟨A3, c3, F3, Lib.hid (by rw [HFd.out, HLF.out]), HCd, Lib.hid (HG2.out.trans ((Grow.of HWE.out).trans HGd.out))⟩
        · have HLF := Lib.hid (show oneF s t l = [] from by rw [HLF0.out]; rfl)
          have mk := MX.out.cell
          go_wp2_with fail
          refine (CC.out _ _ HWA.out HPW).mono ?_
          rintro e we ⟨rfl, hbe⟩
          have HWE := Lib.hid (Below.next HWA.out hbe)
          clear hbe mk
          go_wp2_with fail
          go_meet
          case rel => exact ⟨A2, c2, F2, Lib.hid (by rw [HLF.out, List.append_nil]), Lib.hid (HC2.out.keep HWE.out), Lib.hid (HG2.out.trans (Grow.of HWE.out))⟩
    case rest =>
    obtain ⟨A3, c3, F3, HF3, HC3, HG3⟩ := hcut
    refine hK5.out _ _ ?_
    clear hK5 K5 M1 M2 HSk HTk HLk HAk
    go_wp2_with fail
    go_ret
    unfold OwnPostC
    rw [if_neg (by rw [HTF.out]; decide)]
    exact ChkPost.of (Lib.hid (by rw [HF3.out, HF2.out, HF1.out]; simp only [List.append_assoc])) HC3.out HB0.out (HRR.out ▸ HG3.out)
end Go.Proofs.YtgbbojnigicnoaaDoor

/- A checker on its way: what a walk keeps of the world. -/
namespace Go.Proofs.YtgbbojnigicnoaaDoor
open Go.RowKit Go.Lib

theorem RepL.grow {w w' : World} {gc : Nat} {r r' : Option Nat} {a : Option Addr} {l : List T} (h : RepL w (Aw gc r) a l) (g : Grow w w' gc r r') : RepL w' (Aw gc r') a l :=
  h.mono (fun _ hb hlt => g.aw hb hlt) (fun b o hb hlt => World.cell?_of_block (a := ⟨b, o, none⟩) (g.block b hlt hb.1 hb.2))
theorem RepM.grow {w w' : World} {gc : Nat} {r r' : Option Nat} {a : Option Addr} {l : List (ByteArray × T)} (h : RepM w (Aw gc r) a l) (g : Grow w w' gc r r') : RepM w' (Aw gc r') a l :=
  h.mono (fun _ hb hlt => g.aw hb hlt) (fun b o hb hlt => World.cell?_of_block (a := ⟨b, o, none⟩) (g.block b hlt hb.1 hb.2))
/-- The words of kinds, and the library's table. -/
def Tabs (w : World) : Prop := SchV w ∧ Lib.TabIs Tryd.prog w "internal/strconv.uint64pow10" .u64 Lib.pow10Tab
/-- Both lie under the checker. -/
def Above (gc : Nat) : Prop := 0 < gc ∧ 2 < gc
theorem var_block {P : Program} {w w' : World} {n : String} {cs : Array Value} {g : Nat} (hg : P.globalNamed n = some g) (h : w.var? P n = some cs) (e : w'.heap[g]? = w.heap[g]?) : w'.var? P n = some cs := by
  unfold World.var? at h ⊢
  simp only [hg, Option.bind_some] at h ⊢
  rw [e]
  exact h
theorem Tabs.grow {w w' : World} {gc : Nat} {r r' : Option Nat} (h : Tabs w) (g : Grow w w' gc r r') (ha : Above gc) (hlt : gc < w.heap.size) (hr : ∀ b, r = some b → gc < b) : Tabs w' :=
  ⟨var_block (g := 0) (by kernel_rfl) h.1 (g.block _ (Nat.lt_trans ha.1 hlt) (Nat.ne_of_lt ha.1) (fun e => Nat.lt_asymm ha.1 (hr _ e))),
    var_block (g := 2) (by kernel_rfl) h.2 (g.block _ (Nat.lt_trans ha.2 hlt) (Nat.ne_of_lt ha.2) (fun e => Nat.lt_asymm ha.2 (hr _ e)))⟩
theorem Tabs.keep {w w' : World} (h : Tabs w) (hb : Below w.heap.size w w') : Tabs w' := ⟨h.1.keep hb, var_keep h.2 hb⟩
theorem SchV.below {w w' : World} {B : Nat} (h : SchV w) (hb : Below B w w') (hB : 0 < B) : SchV w' := var_block (g := 0) (by kernel_rfl) h (hb.block _ hB)

/-- A value's box. -/
structure VBox (w : World) (gc : Nat) (r : Option Nat) (n : Nat) (t : T) (la : Option Addr) (lc : Nat) (ma : Option Addr) (mc : Nat) : Prop where
  blk : Blk w n 25 #[.int .i64 t.kind, .bool t.bool, .int .i64 t.int, .string t.str, .slice la t.list.length lc, .slice ma t.map.length mc]
  aw : Aw gc r n
  rep : RepT w (Aw gc r) (.agg #[.int .i64 t.kind, .bool t.bool, .int .i64 t.int, .string t.str, .slice la t.list.length lc, .slice ma t.map.length mc]) t
theorem VBox.grow {w w' : World} {gc : Nat} {r r' : Option Nat} {n : Nat} {t : T} {la : Option Addr} {lc : Nat} {ma : Option Addr} {mc : Nat} (h : VBox w gc r n t la lc ma mc) (g : Grow w w' gc r r') : VBox w' gc r' n t la lc ma mc :=
  ⟨g.blk h.blk h.aw, g.aw h.aw h.blk.lt, h.rep.grow g⟩
theorem VBox.keep {w w' : World} {gc : Nat} {r : Option Nat} {n : Nat} {t : T} {la : Option Addr} {lc : Nat} {ma : Option Addr} {mc : Nat} (h : VBox w gc r n t la lc ma mc) (hb : Below w.heap.size w w') : VBox w' gc r n t la lc ma mc := h.grow (Grow.of hb)
theorem VBox.list {w : World} {gc : Nat} {r : Option Nat} {n : Nat} {t : T} {la : Option Addr} {lc : Nat} {ma : Option Addr} {mc : Nat} (h : VBox w gc r n t la lc ma mc) : RepL w (Aw gc r) la t.list := by
  obtain ⟨la', lc', ma', mc', e, hp⟩ := h.rep.inv
  injection e with e
  have e4 := congrArg (fun cs : Array Value => cs[4]?) e
  simp at e4
  obtain ⟨rfl, -⟩ := e4
  exact hp.2.2.2.2.2.2.2.2.2.1
theorem VBox.map {w : World} {gc : Nat} {r : Option Nat} {n : Nat} {t : T} {la : Option Addr} {lc : Nat} {ma : Option Addr} {mc : Nat} (h : VBox w gc r n t la lc ma mc) : RepM w (Aw gc r) ma t.map := by
  obtain ⟨la', lc', ma', mc', e, hp⟩ := h.rep.inv
  injection e with e
  have e4 := congrArg (fun cs : Array Value => cs[5]?) e
  simp at e4
  obtain ⟨rfl, -⟩ := e4
  exact hp.2.2.2.2.2.2.2.2.2.2
/-- What a checker has come to: from w to W, F being F1 with N more. -/
structure Ctx (w W : World) (B gc : Nat) (r0 : Option Nat) (A : Option Addr) (c : Nat) (F F1 N : List FlawT) (a : Option Addr) (l : List ByteArray) : Prop where
  eq : F = F1 ++ N
  chk : Chk W B gc A c F
  gro : Grow w W gc r0 (Value.ownBlock (.slice A F.length c))
  steps : RepS W (Aw gc (Value.ownBlock (.slice A F.length c))) a l
  tabs : Tabs W
theorem Ctx.keep {w W W' : World} {B gc : Nat} {r0 : Option Nat} {A : Option Addr} {c : Nat} {F F1 N : List FlawT} {a : Option Addr} {l : List ByteArray} (h : Ctx w W B gc r0 A c F F1 N a l) (hb : Below W.heap.size W W') : Ctx w W' B gc r0 A c F F1 N a l :=
  ⟨h.eq, h.chk.keep hb, h.gro.trans (Grow.of hb), h.steps.grow (Grow.of hb), h.tabs.keep hb⟩
theorem Chk.rowlt {w : World} {B gc : Nat} {A : Option Addr} {c : Nat} {F : List FlawT} (h : Chk w B gc A c F) : ∀ b, Value.ownBlock (.slice A F.length c) = some b → gc < b := fun b e => Nat.lt_of_lt_of_le h.low (h.own.own b e).1
theorem Ctx.post {w W W' : World} {B gc : Nat} {r0 : Option Nat} {A : Option Addr} {c : Nat} {F F1 N N2 : List FlawT} {a : Option Addr} {l : List ByteArray} {v : Value} {e : Ending} (h : Ctx w W B gc r0 A c F F1 N a l) (hab : Above gc) (hp : ChkPost B gc A c F N2 v W e W') :
    ∃ A' c' F', e = .returned v ∧ Ctx w W' B gc r0 A' c' F' F1 (N ++ N2) a l ∧ Grow W W' gc (Value.ownBlock (.slice A F.length c)) (Value.ownBlock (.slice A' F'.length c')) := by
  obtain ⟨A', c', F', rfl, hF, hc, hg⟩ := hp
  exact ⟨A', c', F', rfl, ⟨by rw [hF.out, h.eq, List.append_assoc], hc, h.gro.trans hg, h.steps.grow hg, h.tabs.grow hg hab h.chk.box.lt h.chk.rowlt⟩, hg⟩
theorem Ctx.fin {w W : World} {B gc : Nat} {A0 : Option Addr} {c0 : Nat} {A : Option Addr} {c : Nat} {F F1 N M : List FlawT} {a : Option Addr} {l : List ByteArray} {v : Value} (h : Ctx w W B gc (Value.ownBlock (.slice A0 F1.length c0)) A c F F1 N a l) (hM : N = M) : ChkPost B gc A0 c0 F1 M v w (.returned v) W :=
  ⟨A, c, F, rfl, Lib.hid (hM ▸ h.eq), h.chk, h.gro⟩
/-- A value that is found goes into a box. -/
theorem VBox.made {w W w1 : World} {B gc : Nat} {r0 : Option Nat} {A : Option Addr} {c : Nat} {F F1 N : List FlawT} {a : Option Addr} {l : List ByteArray} {t : T} {la : Option Addr} {lc : Nat} {ma : Option Addr} {mc : Nat} (h : Ctx w W B gc r0 A c F F1 N a l) (hr : RepT w1 (fun b => W.heap.size ≤ b) (.agg #[.int .i64 t.kind, .bool t.bool, .int .i64 t.int, .string t.str, .slice la t.list.length lc, .slice ma t.map.length mc]) t) (hb : Below W.heap.size W w1) :
    VBox (w1.alloc (.cells #[.int .i64 t.kind, .bool t.bool, .int .i64 t.int, .string t.str, .slice la t.list.length lc, .slice ma t.map.length mc] 25)) gc (Value.ownBlock (.slice A F.length c)) w1.heap.size t la lc ma mc :=
  ⟨Blk.new _ _ _, h.chk.aw hb.size, (hr.mono (w' := w1) (fun _ hb2 _ => h.chk.aw hb2) (fun _ _ _ _ => rfl)).keep (Below.new _ _)⟩
/-- A value that stands somewhere goes into a box. -/
theorem VBox.new {w W : World} {B gc : Nat} {r0 : Option Nat} {A : Option Addr} {c : Nat} {F F1 N : List FlawT} {a : Option Addr} {l : List ByteArray} {t : T} {la : Option Addr} {lc : Nat} {ma : Option Addr} {mc : Nat} (h : Ctx w W B gc r0 A c F F1 N a l) (hr : RepT W (Aw gc (Value.ownBlock (.slice A F.length c))) (.agg #[.int .i64 t.kind, .bool t.bool, .int .i64 t.int, .string t.str, .slice la t.list.length lc, .slice ma t.map.length mc]) t) :
    VBox (W.alloc (.cells #[.int .i64 t.kind, .bool t.bool, .int .i64 t.int, .string t.str, .slice la t.list.length lc, .slice ma t.map.length mc] 25)) gc (Value.ownBlock (.slice A F.length c)) W.heap.size t la lc ma mc :=
  ⟨Blk.new _ _ _, h.chk.aw (Nat.le_refl _), hr.keep (Below.new _ _)⟩
theorem titoa (q : Nat) (hq : q ≤ 1000000) (w : World) (h : Tabs w) : Calls Tryd.prog 36 #[.int .i64 q] w fun e w' => e = .returned (.string (itoaB q)) ∧ Below w.heap.size w w' := by
  refine (Tryd.strconv_Itoa (q : Int) (by omega) (by omega) w h.2).mono ?_
  rintro e w2 ⟨rfl, nd, os, rfl⟩
  exact ⟨rfl, Lib.below_grow _ _ (Nat.le_refl _) nd os⟩
theorem itoaB_size (q : Nat) (hq : q ≤ 1000000) : (itoaB q).size ≤ 140737488351232 := by
  have := Lib.itoa_length_le (q : Int) (by omega) (by omega)
  have h2 : (itoaB q).size = (Lib.itoa (q : Int)).length := by unfold itoaB ByteArray.size; simp
  omega
/-- One step more, the step standing in a block. -/
theorem own_snocS2 {w : World} {B g : Nat} {S : Nat → Prop} {A : Option Addr} {c : Nat} {l : List ByteArray} {s : ByteArray} (h : OwnE eltS w B S A c l) (hk : Blk w g 9 #[.string s]) (hB : B ≤ w.heap.size) (hs : s.size ≤ 140737488351232) (hl : l.length ≤ 1000000) :
    ∃ A' c' w', (Builtin.append_ #[43, 43] 43 #[.slice A l.length c, .slice (some ⟨g, 0, none⟩) 1 1]).run Tryd.prog w = .ok (.slice A' (l ++ [s]).length c') w' ∧ OwnE eltS w' B S A' c' (l ++ [s]) ∧ Below B w w' := by
  obtain ⟨A', c', w', hrun, ho, hgr⟩ := own_append (E := eltS) (l2 := [s]) (es := [.string s]) (ad := ⟨g, 0, none⟩) (cc := 1) (ty := 43) (t := 43) rfl h (by show (l.length + 1) * 16 ≤ _; omega) (by simp; unfold maxLen; omega) hB (by rfl)
    (fun j u hu => by rw [show (⟨g, 0, none⟩ : Addr).add j = ⟨g, 0 + j, none⟩ from by unfold Addr.add; split <;> simp_all, Nat.zero_add, hk.cell]; simpa using hu)
    (fun i hi => by
      obtain rfl : i = 0 := by simpa using hi
      exact ⟨rfl, hs⟩)
  exact ⟨A', c', w', hrun, ho, below_grownS hgr (fun g e => (h.own g e).1) hB⟩
/-- The steps of what is made on the way. -/
theorem made_steps {w w1 W : World} {B gc B1 : Nat} {r0 : Option Nat} {A A1 : Option Addr} {c c1 : Nat} {F F1 N : List FlawT} {a : Option Addr} {l l1 : List ByteArray} (h : Ctx w W B gc r0 A c F F1 N a l) (ho : OwnE eltS w1 B1 (fun _ => True) A1 c1 l1) (hB : W.heap.size ≤ B1) : RepS w1 (Aw gc (Value.ownBlock (.slice A F.length c))) A1 l1 :=
  ho.repS.mono (fun _ hb2 _ => h.chk.aw (Nat.le_trans hB hb2.1)) (fun _ _ _ _ => rfl)
/-- A pair's box. -/
structure PBox (w : World) (gc : Nat) (r : Option Nat) (n : Nat) (key : ByteArray) (t : T) (la : Option Addr) (lc : Nat) (ma : Option Addr) (mc : Nat) : Prop where
  blk : Blk w n 41 #[.string key, .int .i64 t.kind, .bool t.bool, .int .i64 t.int, .string t.str, .slice la t.list.length lc, .slice ma t.map.length mc]
  aw : Aw gc r n
  rep : RepT w (Aw gc r) (.agg #[.int .i64 t.kind, .bool t.bool, .int .i64 t.int, .string t.str, .slice la t.list.length lc, .slice ma t.map.length mc]) t
theorem PBox.grow {w w' : World} {gc : Nat} {r r' : Option Nat} {n : Nat} {key : ByteArray} {t : T} {la : Option Addr} {lc : Nat} {ma : Option Addr} {mc : Nat} (h : PBox w gc r n key t la lc ma mc) (g : Grow w w' gc r r') : PBox w' gc r' n key t la lc ma mc :=
  ⟨g.blk h.blk h.aw, g.aw h.aw h.blk.lt, h.rep.grow g⟩
theorem PBox.keep {w w' : World} {gc : Nat} {r : Option Nat} {n : Nat} {key : ByteArray} {t : T} {la : Option Addr} {lc : Nat} {ma : Option Addr} {mc : Nat} (h : PBox w gc r n key t la lc ma mc) (hb : Below w.heap.size w w') : PBox w' gc r n key t la lc ma mc := h.grow (Grow.of hb)
theorem PBox.new {w W : World} {B gc : Nat} {r0 : Option Nat} {A : Option Addr} {c : Nat} {F F1 N : List FlawT} {a : Option Addr} {l : List ByteArray} {key : ByteArray} {t : T} {la : Option Addr} {lc : Nat} {ma : Option Addr} {mc : Nat} (h : Ctx w W B gc r0 A c F F1 N a l) (hr : RepT W (Aw gc (Value.ownBlock (.slice A F.length c))) (.agg #[.int .i64 t.kind, .bool t.bool, .int .i64 t.int, .string t.str, .slice la t.list.length lc, .slice ma t.map.length mc]) t) :
    PBox (W.alloc (.cells #[.string key, .int .i64 t.kind, .bool t.bool, .int .i64 t.int, .string t.str, .slice la t.list.length lc, .slice ma t.map.length mc] 41)) gc (Value.ownBlock (.slice A F.length c)) W.heap.size key t la lc ma mc :=
  ⟨Blk.new _ _ _, h.chk.aw (Nat.le_refl _), hr.keep (Below.new _ _)⟩
/-- check as it ought to be. -/
def CheckOk (t : T) : Prop := ∀ (s : T) (l : List ByteArray) (a : Option Addr) (ac : Nat) (sla : Option Addr) (slc : Nat) (sma : Option Addr) (smc : Nat) (la : Option Addr) (lc : Nat) (ma : Option Addr) (mc : Nat) (w : World) (B gc : Nat) (A : Option Addr) (c : Nat) (F : List FlawT), Chk w B gc A c F →
    RepT w (Aw gc (Value.ownBlock (.slice A F.length c))) (.agg #[.int .i64 s.kind, .bool s.bool, .int .i64 s.int, .string s.str, .slice sla s.list.length slc, .slice sma s.map.length smc]) s → RepT w (Aw gc (Value.ownBlock (.slice A F.length c))) (.agg #[.int .i64 t.kind, .bool t.bool, .int .i64 t.int, .string t.str, .slice la t.list.length lc, .slice ma t.map.length mc]) t → RepS w (Aw gc (Value.ownBlock (.slice A F.length c))) a l → Tabs w → Above gc → FineT s → FineT t → l.length + t.wt ≤ 1000000 → F.length + (t.chk s l).length ≤ 999999000 →
    Calls Tryd.prog 16 #[.pointer (some ⟨gc, 0, none⟩), .agg #[.int .i64 s.kind, .bool s.bool, .int .i64 s.int, .string s.str, .slice sla s.list.length slc, .slice sma s.map.length smc], .agg #[.int .i64 t.kind, .bool t.bool, .int .i64 t.int, .string t.str, .slice la t.list.length lc, .slice ma t.map.length mc], .slice a l.length ac] w (ChkPost B gc A c F (t.chk s l) (.tuple #[]) w)
end Go.Proofs.YtgbbojnigicnoaaDoor

