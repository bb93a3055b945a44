/- Several texts as one. -/
import Derived.Test.YtjnbjehcmckdeaaDoorObjWR
import Derived.Test.YtjnbjehcmckdeaaDoorObjOA
import Derived.Test.YtjnbjehcmckdeaaDoorRefs
import Derived.Test.YtjnbjehcmckdeaaDoorPWB
import Derived.Deep.QuietTactic
import Derived.BigQuiet
import Derived.Deep.RegionHeld3
import Derived.Deep.DrawnRows
/- mizzenref12.Key. -/
namespace Go.Proofs.YtjnbjehcmckdeaaDoor
open Go.RowKit
attribute [local go_sem ↓] Go.wp_at_zero Go.wp_at_succ

set_option maxRecDepth 100000 in
set_option maxHeartbeats 4000000 in
theorem rkeyO (a : ID3) (hs : a.small) (w : World) : Calls Tryd.prog 25 #[.agg #[.string a.k, .string a.s, .string a.n]] w fun e w' => ∃ v : ByteArray, e = .returned (.string v) ∧ v.data.toList = keyL a ∧ Below w.heap.size w w' := by
  have HK := Lib.hid (show ((((a.k ++ ⟨#[47]⟩) ++ a.s) ++ ⟨#[47]⟩) ++ a.n : ByteArray).data.toList = keyL a from by simp only [app_list, keyL, List.append_assoc]; rfl)
  obtain ⟨ak, sa, an⟩ := a
  obtain ⟨h1, h2, h3⟩ := hs
  simp only at *
  have h47 : (⟨#[47]⟩ : ByteArray).size = 1 := rfl
  have z1 : (ak ++ ⟨#[47]⟩ : ByteArray).size ≤ 1000001 := by rw [ByteArray.size_append, h47]; omega
  have z2 : ((ak ++ ⟨#[47]⟩) ++ sa : ByteArray).size ≤ 2000001 := by rw [ByteArray.size_append]; omega
  have z3 : (((ak ++ ⟨#[47]⟩) ++ sa) ++ ⟨#[47]⟩ : ByteArray).size ≤ 2000002 := by rw [ByteArray.size_append, h47]; omega
  have z4 : ((((ak ++ ⟨#[47]⟩) ++ sa) ++ ⟨#[47]⟩) ++ an : ByteArray).size ≤ 3000002 := by rw [ByteArray.size_append]; omega
  clear h47
  go_enter Tryd.func25, Tryd.ntmps25
  go_wp2_with fail
  go_ret
  exact ⟨_, rfl, HK.out, Below.new _ _⟩
end Go.Proofs.YtjnbjehcmckdeaaDoor

/- object.Hook and the reference's. -/
namespace Go.Proofs.YtjnbjehcmckdeaaDoor
open Go.RowKit
attribute [local go_sem ↓] Go.wp_at_zero Go.wp_at_succ

def hookW : ByteArray := ⟨#[104, 111, 111, 107]⟩
def hookS (t : T) : ByteArray := ((getT (metaT t) hookW).getD T.zero).str
set_option maxRecDepth 100000 in
set_option maxHeartbeats 4000000 in
theorem thook (i : ID3) (t : T) (hp : t.parts = 0) (la : Option Addr) (lc : Nat) (ma : Option Addr) (mc : Nat) (w : World) (S : Nat → Prop) (h : RepT w S (.agg #[.int .i64 t.kind, .bool t.bool, .int .i64 t.int, .string t.str, .slice la t.list.length lc, .slice ma t.map.length mc]) t) :
    Calls Tryd.prog 26 #[.agg #[.string i.k, .string i.s, .string i.n, .int .i64 t.kind, .bool t.bool, .int .i64 t.int, .string t.str, .slice la t.list.length lc, .slice ma t.map.length mc]] w fun e w' => e = .returned (.string (hookS t)) ∧ Below w.heap.size w w' := by
  have HT := Lib.hid (h.weak (S' := fun _ => True) (fun _ _ _ => trivial))
  obtain ⟨bm, hbm⟩ : ∃ b, (getT t metaW).isSome = b := ⟨_, rfl⟩
  obtain ⟨mt, hmt⟩ : ∃ x, (getT t metaW).getD T.zero = x := ⟨_, rfl⟩
  have hpm : mt.parts = 0 := hmt ▸ getT_parts hp metaW
  obtain ⟨bh, hbh⟩ : ∃ b, (getT mt hookW).isSome = b := ⟨_, rfl⟩
  obtain ⟨x, hx⟩ : ∃ x, (getT mt hookW).getD T.zero = x := ⟨_, rfl⟩
  have CM := Lib.hid (fun w2 v2 (h : RepT w2 (fun _ => True) v2 t) => tget_b hbm hmt v2 w2 _ h (parts_KS hp))
  have CH := Lib.hid (fun w2 v2 (h : RepT w2 (fun _ => True) v2 mt) => tget_b hbh hx v2 w2 _ h (parts_KS hpm))
  have HE := Lib.hid (show hookS t = x.str from by unfold hookS metaT; rw [hmt, hx])
  clear h hp hpm hbm hmt hbh hx
  go_enter Tryd.func26, Tryd.ntmps26
  go_wp2_with fail
  refine (CM.out _ _ (HT.out.keep (Below.new _ _))).mono ?_
  rintro e w1 ⟨v1, rfl, hr, hb⟩
  obtain ⟨qa, qc, qm, qn, rfl, -⟩ := hr.inv
  have HR := Lib.hid hr.any
  have HB := Lib.hid (Below.next (Below.new _ _) hb)
  clear hr hb
  go_wp2_with fail
  refine (CH.out _ _ (HR.out.keep (Below.new _ _))).mono ?_
  rintro e w2 ⟨v2, rfl, hr, hb⟩
  obtain ⟨ra, rc, rm, rn, rfl, -⟩ := hr.inv
  have HB2 := Lib.hid (Below.next (Below.next HB.out (Below.new _ _)) hb)
  clear hr hb
  go_wp2_with fail
  go_ret
  exact ⟨by rw [HE.out]; rfl, Below.next HB2.out (Below.new _ _)⟩

/-- What stands under a key, the reference's way: of a value that may be. -/
theorem look_parts {t : T} (h : t.parts = 0) (k : ByteArray) : look t.map k = getT t k := by
  unfold getT
  by_cases h5 : t.kind = 5
  · rw [if_pos h5]
  · rw [if_neg h5]
    have hb := parts_isbare h
    simp [T.bareB, h5] at hb
    rw [hb.2]; rfl
theorem rget_b {t x : T} {b : Bool} {key : ByteArray} (hp : t.parts = 0) (hb : (getT t key).isSome = b) (hx : (getT t key).getD T.zero = x) (v : Value) (w : World) (h : RepT w (fun _ => True) v t) : Calls Tryd.prog 66 #[v, .string key] w (GotR w b x) := by
  have := rget t key v w h
  rw [look_parts hp, hb, hx] at this
  exact this
set_option maxRecDepth 100000 in
set_option maxHeartbeats 4000000 in
theorem rhook (i : ID3) (t : T) (hp : t.parts = 0) (la : Option Addr) (lc : Nat) (ma : Option Addr) (mc : Nat) (w : World) (S : Nat → Prop) (h : RepT w S (.agg #[.int .i64 t.kind, .bool t.bool, .int .i64 t.int, .string t.str, .slice la t.list.length lc, .slice ma t.map.length mc]) t) :
    Calls Tryd.prog 27 #[.agg #[.string i.k, .string i.s, .string i.n, .int .i64 t.kind, .bool t.bool, .int .i64 t.int, .string t.str, .slice la t.list.length lc, .slice ma t.map.length mc]] w fun e w' => e = .returned (.string (hookS t)) ∧ Below w.heap.size w w' := by
  have HT := Lib.hid (h.weak (S' := fun _ => True) (fun _ _ _ => trivial))
  obtain ⟨bm, hbm⟩ : ∃ b, (getT t metaW).isSome = b := ⟨_, rfl⟩
  obtain ⟨mt, hmt⟩ : ∃ x, (getT t metaW).getD T.zero = x := ⟨_, rfl⟩
  have hpm : mt.parts = 0 := hmt ▸ getT_parts hp metaW
  obtain ⟨bh, hbh⟩ : ∃ b, (getT mt hookW).isSome = b := ⟨_, rfl⟩
  obtain ⟨x, hx⟩ : ∃ x, (getT mt hookW).getD T.zero = x := ⟨_, rfl⟩
  have CM := Lib.hid (fun w2 v2 (h : RepT w2 (fun _ => True) v2 t) => rget_b hp hbm hmt v2 w2 h)
  have CH := Lib.hid (fun w2 v2 (h : RepT w2 (fun _ => True) v2 mt) => rget_b hpm hbh hx v2 w2 h)
  have HE := Lib.hid (show hookS t = x.str from by unfold hookS metaT; rw [hmt, hx])
  clear h hp hpm hbm hmt hbh hx
  go_enter Tryd.func27, Tryd.ntmps27
  go_wp2_with fail
  refine (CM.out _ _ (HT.out.keep (Below.new _ _))).mono ?_
  rintro e w1 ⟨v1, rfl, hr, hb⟩
  obtain ⟨qa, qc, qm, qn, rfl, -⟩ := hr.inv
  have HR := Lib.hid hr
  have HB := Lib.hid (Below.next (Below.new _ _) hb)
  clear hr hb
  go_wp2_with fail
  refine (CH.out _ _ (HR.out.keep (Below.new _ _))).mono ?_
  rintro e w2 ⟨v2, rfl, hr, hb⟩
  obtain ⟨ra, rc, rm, rn, rfl, -⟩ := hr.inv
  have HB2 := Lib.hid (Below.next (Below.next HB.out (Below.new _ _)) hb)
  clear hr hb
  go_wp2_with fail
  go_ret
  exact ⟨by rw [HE.out]; rfl, Below.next HB2.out (Below.new _ _)⟩
end Go.Proofs.YtjnbjehcmckdeaaDoor

/- object.Parse. -/
namespace Go.Proofs.YtjnbjehcmckdeaaDoor
open Go.RowKit
attribute [local go_sem ↓] Go.wp_at_zero Go.wp_at_succ

/-- A text's pieces between slashes. -/
def piecesO (s : ByteArray) : List ByteArray := (splitL 47 s.data.toList).map fun l => ⟨l.toArray⟩
theorem piecesO_size {s : ByteArray} : ∀ j (hj : j < (piecesO s).length), (piecesO s)[j].size ≤ s.size := fun j hj => by
  have hm : (piecesO s)[j] ∈ piecesO s := List.getElem_mem hj
  unfold piecesO at hm
  obtain ⟨p, hp, he⟩ := List.mem_map.1 hm
  have := (splitL_len 47 s.data.toList).1 p hp
  rw [show (piecesO s)[j] = (⟨p.toArray⟩ : ByteArray) from he.symm, size_list, size_list]
  exact this
theorem tsplit47 (s : ByteArray) (hs : s.size ≤ 1000000) (w : World) (hm : MaxP w) : Calls Tryd.prog 67 #[.string s, .string ⟨#[47]⟩] w fun e w' => ∃ b, e = .returned (.slice (some ⟨b, 0, none⟩) (piecesO s).length (piecesO s).length) ∧ w.heap.size ≤ b ∧ RepS w' (fun b => w.heap.size ≤ b) (some ⟨b, 0, none⟩) (piecesO s) ∧ Below w.heap.size w w' := by
  obtain ⟨m, hm⟩ := hm
  refine (Tryd.strings_Split s ⟨#[47]⟩ m w (by omega) hm (by decide)).mono ?_
  rintro e w' ⟨rfl, rfl⟩
  obtain ⟨h1, h2⟩ := splitB_one 47 s
  have hl : Lib.countB s ⟨#[47]⟩ + 1 = (piecesO s).length := by rw [h2, piecesO, List.length_map]
  rw [h1, hl]
  refine ⟨_, rfl, Nat.le_refl _, fun i hi => ⟨_, 0, rfl, Nat.le_refl _, by simp, ?_, by have := piecesO_size i hi; omega⟩, Below.new _ _⟩
  have hc := (Blk.new w 9 ((piecesO s).map Value.string).toArray).cell i
  rw [Nat.zero_add]
  exact hc.trans (by simp [hi])
def idZ : ID3 := ⟨⟨#[]⟩, ⟨#[]⟩, ⟨#[]⟩⟩
/-- What a text tells an object by. -/
def parseO (s : ByteArray) : ID3 × Int := match piecesO s with
  | [a, b, c] => if Right3 ⟨a, b, c⟩ then (⟨a, b, c⟩, 0) else (idZ, 26)
  | _ => (idZ, 26)
/-- What is read as an ID is written so. -/
theorem parseO_ok {s : ByteArray} {i : ID3} (h : parseO s = (i, 0)) : Right3 i ∧ keyL i = s.data.toList := by
  unfold parseO at h
  split at h
  · next a b c hp =>
    split at h
    · next hr =>
      injection h with h _
      subst h
      refine ⟨hr, ?_⟩
      have h3 : splitL 47 s.data.toList = [a.data.toList, b.data.toList, c.data.toList] := by
        have e := congrArg (List.map fun x : ByteArray => x.data.toList) hp
        rw [piecesO, List.map_map] at e
        have e2 : ((fun x : ByteArray => x.data.toList) ∘ fun l : List UInt8 => (⟨l.toArray⟩ : ByteArray)) = id := by funext l; rfl
        rw [e2, List.map_id] at e
        exact e
      rw [split_three h3]
      rfl
    · injection h with _ h; cases h
  · injection h with _ h; cases h
theorem parseO_key {i : ID3} {s : ByteArray} (hi : Right3 i) (hs : s.data.toList = keyL i) : parseO s = (i, 0) := by
  have h3 := key_split hi
  have e : piecesO s = [i.k, i.s, i.n] := by
    rw [piecesO, hs, h3]
    rfl
  unfold parseO
  rw [e]
  simp only
  rw [if_pos hi]
theorem parseO_two (s : ByteArray) : (parseO s).2 = 0 ∨ parseO s = (idZ, 26) := by
  unfold parseO
  split
  · split
    · exact .inl rfl
    · exact .inr rfl
  · exact .inr rfl

theorem id_size : (Tryd.prog.info? 23).map (·.size) = some 3 := by kernel_rfl
set_option maxRecDepth 100000 in
set_option maxHeartbeats 4000000 in
theorem toparse (s : ByteArray) (hs : s.size ≤ 100000) (w : World) (hm : MaxP w) : Calls Tryd.prog 24 #[.string s] w fun e w' => e = .returned (.tuple #[.agg #[.string (parseO s).1.k, .string (parseO s).1.s, .string (parseO s).1.n], .int .i64 (parseO s).2]) ∧ Below w.heap.size w w' := by
  have hB : Blk (w.alloc (.cells #[.string ⟨#[]⟩, .string ⟨#[]⟩, .string ⟨#[]⟩] 23)) w.heap.size 23 #[.string ⟨#[]⟩, .string ⟨#[]⟩, .string ⟨#[]⟩] := Blk.new _ _ _
  have hm' : MaxP (w.alloc (.cells #[.string ⟨#[]⟩, .string ⟨#[]⟩, .string ⟨#[]⟩] 23)) := by
    obtain ⟨m, hm⟩ := hm
    exact ⟨m, ((Below.new w _).cell (block_lt_of_cell (a := ⟨1, 0, none⟩) hm)).trans hm⟩
  have CS := Lib.hid (tsplit47 s (by omega) _ hm')
  have hlz := piecesO_size (s := s)
  have HP := Lib.hid (show parseO s = match piecesO s with
    | [a, b, c] => if Right3 ⟨a, b, c⟩ then (⟨a, b, c⟩, 0) else (idZ, 26)
    | _ => (idZ, 26) from rfl)
  generalize parseO s = r at *
  generalize piecesO s = l at *
  go_enter Tryd.func24, Tryd.ntmps24
  go_wp2_with fail
  refine CS.out.mono ?_
  rintro e w1 ⟨b, rfl, hb0, hr, hb⟩
  have L := hB.keep hb
  have HL := Lib.hid L
  have HW := Lib.hid (show Below w.heap.size w w1 from Below.next (Below.new _ _) hb)
  by_cases h3 : l.length = 3
  case neg =>
    have g3 : ((l.length : Int) != 3) = true := bne_iff_ne.2 (by omega)
    have HR := Lib.hid (show r = (idZ, 26) from by
      rw [HP.out]
      split
      · next a b c => exact absurd rfl h3
      · rfl)
    have zf := L.frozen; have zl := L.lt; have zk := L.cell
    clear hr hb hb0 h3 hlz hB L HP CS hm' hm
    go_wp2_with fail
    go_quiet (fail)
    all_goals
      go_wp2_with fail
      refine ret_cell2 (t := 23) (cs := #[.string ⟨#[]⟩, .string ⟨#[]⟩, .string ⟨#[]⟩]) rfl rfl rfl ?_ Tryd.underlying23 id_size rfl ?_
      · exact (((HL.out.drewN _).set_ 0 _).set_ 1 _).set_ 2 _
      · exact ⟨by rw [HR.out]; rfl, (((Below.drewN HW.out _).setCell (p := ⟨w.heap.size, 0, none⟩) (Nat.le_refl _) _).setCell (p := ⟨w.heap.size, 1, none⟩) (Nat.le_refl _) _).setCell (p := ⟨w.heap.size, 2, none⟩) (Nat.le_refl _) _⟩
  case pos =>
    match l, h3 with
    | [x, y, z], _ =>
    have z0 := hlz 0 (by simp); have z1 := hlz 1 (by simp); have z2 := hlz 2 (by simp)
    simp only [List.getElem_cons_zero, List.getElem_cons_succ] at z0 z1 z2
    have hq0 := hr 0 (by simp); have hq1 := hr 1 (by simp); have hq2 := hr 2 (by simp)
    obtain ⟨b', o', e0, -, hbl, q0, -⟩ := hq0
    injection e0 with e0; injection e0 with e0 e1; subst e0 e1
    obtain ⟨b', o', e0, -, -, q1, -⟩ := hq1
    injection e0 with e0; injection e0 with e0 e1; subst e0 e1
    obtain ⟨b', o', e0, -, -, q2, -⟩ := hq2
    injection e0 with e0; injection e0 with e0 e1; subst e0 e1
    simp only [List.getElem_cons_zero, List.getElem_cons_succ] at q0 q1 q2
    have CR := Lib.hid (tright3 ⟨x, y, z⟩ ⟨by show x.size ≤ _; omega, by show y.size ≤ _; omega, by show z.size ≤ _; omega⟩)
    have HP2 := Lib.hid (show r = if Right3 ⟨x, y, z⟩ then (⟨x, y, z⟩, 0) else (idZ, 26) from HP.out)
    obtain ⟨br, hbr⟩ : ∃ br, decide (Right3 ⟨x, y, z⟩) = br := ⟨_, rfl⟩
    rw [hbr] at CR
    have HBR := Lib.hid hbr
    clear hbr HP hlz hr hb hb0 hB L CS hm' hm z0 z1 z2
    go_wp2_with fail
    go_region_held3 (fun wz => wz.cell? ⟨b, 0, none⟩ = some (.string x) ∧ wz.cell? ⟨b, 0 + 1, none⟩ = some (.string y) ∧ wz.cell? ⟨b, 0 + 2, none⟩ = some (.string z)) (exact ⟨q0, q1, q2⟩) (first
      | (go_at_call 28; refine (CR.out _).mono ?_; rintro e w2 ⟨rfl, hb2⟩; replace q0 := (hb2.cell (p := ⟨b, 0, none⟩) hbl).trans q0; replace q1 := (hb2.cell (p := ⟨b, 0 + 1, none⟩) hbl).trans q1; replace q2 := (hb2.cell (p := ⟨b, 0 + 2, none⟩) hbl).trans q2; replace HL := Lib.hid (HL.out.drew.keep hb2); replace HW := Lib.hid (Below.next HW.out.drew hb2); replace hbl := Nat.lt_of_lt_of_le hbl hb2.size; clear hb2))
    all_goals
      have zf := HL.out.frozen; have zl := HL.out.lt; have zk := HL.out.cell
      cases br
      · have HR := Lib.hid (show r = (idZ, 26) from by rw [HP2.out, if_neg (of_decide_eq_false HBR.out)])
        go_wp2_with fail
        refine ret_cell2 (t := 23) (cs := #[.string ⟨#[]⟩, .string ⟨#[]⟩, .string ⟨#[]⟩]) rfl rfl rfl ?_ Tryd.underlying23 id_size rfl ?_
        · exact ((HL.out.set_ 0 _).set_ 1 _).set_ 2 _
        · exact ⟨by rw [HR.out]; rfl, ((HW.out.setCell (p := ⟨w.heap.size, 0, none⟩) (Nat.le_refl _) _).setCell (p := ⟨w.heap.size, 1, none⟩) (Nat.le_refl _) _).setCell (p := ⟨w.heap.size, 2, none⟩) (Nat.le_refl _) _⟩
      · have HR := Lib.hid (show r = (⟨x, y, z⟩, 0) from by rw [HP2.out, if_pos (of_decide_eq_true HBR.out)])
        go_wp2_with fail
        go_region_with (fail)
        all_goals
          go_wp2_with fail
          refine ret_cell2 (t := 23) (cs := #[.string x, .string y, .string z]) rfl rfl rfl ?_ Tryd.underlying23 id_size rfl ?_
          · first | exact ((HL.out.drew.set_ 0 _).set_ 1 _).set_ 2 _ | exact (((HL.out.set_ 0 _).set_ 1 _).set_ 2 _).drew
          · exact ⟨by rw [HR.out]; rfl, by first | exact ((HW.out.drew.setCell (p := ⟨w.heap.size, 0, none⟩) (Nat.le_refl _) _).setCell (p := ⟨w.heap.size, 1, none⟩) (Nat.le_refl _) _).setCell (p := ⟨w.heap.size, 2, none⟩) (Nat.le_refl _) _ | exact (((HW.out.setCell (p := ⟨w.heap.size, 0, none⟩) (Nat.le_refl _) _).setCell (p := ⟨w.heap.size, 1, none⟩) (Nat.le_refl _) _).setCell (p := ⟨w.heap.size, 2, none⟩) (Nat.le_refl _) _).drew⟩
end Go.Proofs.YtjnbjehcmckdeaaDoor

/- mizzenref12.Of. -/
namespace Go.Proofs.YtjnbjehcmckdeaaDoor
open Go.RowKit
attribute [local go_sem ↓] Go.wp_at_zero Go.wp_at_succ

set_option maxRecDepth 100000 in
set_option maxHeartbeats 16000000 in
theorem rof (v : T) (vv : Value) (w : World) (hw : v.wt ≤ 6000) (hv : RepT w (fun _ => True) vv v) : Calls Tryd.prog 23 #[vv] w (OfPost w (ofI v) (ofT v) (ofE v)) := by
  obtain ⟨la, lc, ma, mc, rfl, -⟩ := hv.inv
  have H_v := Lib.hid hv
  have HV1 := Lib.hid (hv.weak (S' := fun b => b < w.heap.size) (fun _ _ h => h))
  clear hv
  have hsz : v.size < 4611686018427387904 := by have := size_le_wt v; omega
  by_cases hc : v.check = 0
  case neg =>
    have g0 : (v.check != 0) = true := bne_iff_ne.2 hc
    have HE := Lib.hid (show ofE v = v.check from by unfold ofE; rw [if_pos hc])
    have HN := Lib.hid (show ofE v ≠ 0 from by rw [HE.out]; exact hc)
    clear hc
    go_enter Tryd.func23, Tryd.ntmps23
    go_wp2_with fail
    refine (rcheck v _ _ _ (H_v.out.keep (by exact (Below.new _ _).alloc (by simp) _)) hsz).mono ?_
    rintro e w1 ⟨rfl, hb⟩
    have HD1 := Lib.hid (show Below w.heap.size w w1 from Below.next ((Below.new _ _).alloc (by simp) _) hb)
    have L1_0 := Lib.hid (((Blk.new w 38 #[.int .i64 v.kind, .bool v.bool, .int .i64 v.int, .string v.str, .slice la v.list.length lc, .slice ma v.map.length mc]).alloc (.cells #[.string ⟨#[]⟩, .string ⟨#[]⟩, .string ⟨#[]⟩, .int .i64 0, .bool false, .int .i64 0, .string ⟨#[]⟩, .slice none 0 0, .slice none 0 0] 40)).keep hb)
    have L1_1 := Lib.hid ((Blk.new_at (w.alloc (.cells #[.int .i64 v.kind, .bool v.bool, .int .i64 v.int, .string v.str, .slice la v.list.length lc, .slice ma v.map.length mc] 38)) 40 #[.string ⟨#[]⟩, .string ⟨#[]⟩, .string ⟨#[]⟩, .int .i64 0, .bool false, .int .i64 0, .string ⟨#[]⟩, .slice none 0 0, .slice none 0 0] (n := w.heap.size + 1) (by simp)).keep hb)
    have V1_v := Lib.hid (H_v.out.keep HD1.out)
    have HW1 := Lib.hid (show Below w.heap.size w w1 from HD1.out)
    clear hb HD1 H_v
    have k1_0 := L1_0.out.cell
    have l1_0 := L1_0.out.lt
    have k1_1 := L1_1.out.cell
    have l1_1 := L1_1.out.lt
    have f0 := L1_1.out.frozen 0; have f1 := L1_1.out.frozen 1; have f2 := L1_1.out.frozen 2; have f3 := L1_1.out.frozen 3; have f4 := L1_1.out.frozen 4; have f5 := L1_1.out.frozen 5; have f6 := L1_1.out.frozen 6; have f7 := L1_1.out.frozen 7; have f8 := L1_1.out.frozen 8
    go_wp2_with fail
    refine ret_cell2 (t := 40) (cs := #[.string ⟨#[]⟩, .string ⟨#[]⟩, .string ⟨#[]⟩, .int .i64 0, .bool false, .int .i64 0, .string ⟨#[]⟩, .slice none 0 0, .slice none 0 0]) rfl rfl rfl ?_ Tryd.underlying40 obj_size rfl ?_
    · exact blk_set9 L1_1.out
    · exact of_none HE.out HN.out (bel_set9 HW1.out (Nat.le_succ _))
  have g0 : (v.check != 0) = false := by rw [hc]; rfl
  have HP := Lib.hid (check_parts hc)
  obtain ⟨bk, hbk⟩ : ∃ b, (getT v kindW).isSome = b := ⟨_, rfl⟩
  obtain ⟨kd, hkd⟩ : ∃ x, (getT v kindW).getD T.zero = x := ⟨_, rfl⟩
  obtain ⟨bm, hbm⟩ : ∃ b, (getT v metaW).isSome = b := ⟨_, rfl⟩
  obtain ⟨mt, hmt⟩ : ∃ x, (getT v metaW).getD T.zero = x := ⟨_, rfl⟩
  have HPM := Lib.hid (show mt.parts = 0 from hmt ▸ getT_parts HP.out metaW)
  obtain ⟨bn, hbn⟩ : ∃ b, (getT mt nameW).isSome = b := ⟨_, rfl⟩
  obtain ⟨nm, hnm⟩ : ∃ x, (getT mt nameW).getD T.zero = x := ⟨_, rfl⟩
  obtain ⟨bs, hbs⟩ : ∃ b, (getT mt spaceW).isSome = b := ⟨_, rfl⟩
  obtain ⟨sp, hsp⟩ : ∃ x, (getT mt spaceW).getD T.zero = x := ⟨_, rfl⟩
  have CK := Lib.hid (fun w2 v2 (h : RepT w2 (fun _ => True) v2 v) => rget_b HP.out hbk hkd v2 w2 h)
  have CM := Lib.hid (fun w2 v2 (h : RepT w2 (fun _ => True) v2 v) => rget_b HP.out hbm hmt v2 w2 h)
  have CN := Lib.hid (fun w2 v2 (h : RepT w2 (fun _ => True) v2 mt) => rget_b HPM.out hbn hnm v2 w2 h)
  have CS := Lib.hid (fun w2 v2 (h : RepT w2 (fun _ => True) v2 mt) => rget_b HPM.out hbs hsp v2 w2 h)
  have HI := Lib.hid (show idT v = ⟨kd.str, (if bs then sp.str else defW), nm.str⟩ from by
    unfold idT metaT
    rw [hkd, hmt, hnm, ← hbs, ← hsp]
    cases getT mt spaceW <;> rfl)
  have HZ := Lib.hid (show (idT v).small from idT_small hw)
  have HC := Lib.hid (show v.check = 0 from hc)
  have hck : ∀ w2 v2, RepT w2 (fun _ => True) v2 v → Calls Tryd.prog 65 #[v2] w2 fun e w' => e = .returned (.int .i64 0) ∧ Below w2.heap.size w2 w' := fun w2 v2 h => by have := rcheck v w2 _ v2 h hsz; rw [hc] at this; exact this
  have CH := Lib.hid hck
  clear hck hc hkd hmt hnm hsp hbk hbm hbn hbs hw hsz
  go_enter Tryd.func23, Tryd.ntmps23
  go_wp2_with fail
  refine (CH.out _ _ (H_v.out.keep (by exact (Below.new _ _).alloc (by simp) _))).mono ?_
  rintro e w1 ⟨rfl, hb⟩
  have HD1 := Lib.hid (show Below w.heap.size w w1 from Below.next ((Below.new _ _).alloc (by simp) _) hb)
  have L1_0 := Lib.hid (((Blk.new w 38 #[.int .i64 v.kind, .bool v.bool, .int .i64 v.int, .string v.str, .slice la v.list.length lc, .slice ma v.map.length mc]).alloc (.cells #[.string ⟨#[]⟩, .string ⟨#[]⟩, .string ⟨#[]⟩, .int .i64 0, .bool false, .int .i64 0, .string ⟨#[]⟩, .slice none 0 0, .slice none 0 0] 40)).keep hb)
  have L1_1 := Lib.hid ((Blk.new_at (w.alloc (.cells #[.int .i64 v.kind, .bool v.bool, .int .i64 v.int, .string v.str, .slice la v.list.length lc, .slice ma v.map.length mc] 38)) 40 #[.string ⟨#[]⟩, .string ⟨#[]⟩, .string ⟨#[]⟩, .int .i64 0, .bool false, .int .i64 0, .string ⟨#[]⟩, .slice none 0 0, .slice none 0 0] (n := w.heap.size + 1) (by simp)).keep hb)
  have V1_v := Lib.hid (H_v.out.keep HD1.out)
  have HW1 := Lib.hid (show Below w.heap.size w w1 from HD1.out)
  clear hb HD1 H_v
  have k1_0 := L1_0.out.cell
  have l1_0 := L1_0.out.lt
  have k1_1 := L1_1.out.cell
  have l1_1 := L1_1.out.lt
  go_wp2_with fail
  refine (CK.out _ _ (V1_v.out)).mono ?_
  rintro e w2 ⟨v2, rfl, hr, hb⟩
  obtain ⟨qa2, qc2, qm2, qn2, rfl, -⟩ := hr.inv
  have N2 := Lib.hid hr
  clear hr
  have HD2 := Lib.hid (show Below w1.heap.size w1 w2 from hb)
  have L2_0 := Lib.hid (L1_0.out.keep HD2.out)
  have L2_1 := Lib.hid (L1_1.out.keep HD2.out)
  have V2_v := Lib.hid (V1_v.out.keep HD2.out)
  have HW2 := Lib.hid (Below.next HW1.out HD2.out)
  clear k1_0 l1_0 k1_1 l1_1 hb HD2 L1_0 L1_1 V1_v HW1
  have k2_0 := L2_0.out.cell
  have l2_0 := L2_0.out.lt
  have k2_1 := L2_1.out.cell
  have l2_1 := L2_1.out.lt
  go_wp2_with fail
  refine (CM.out _ _ (V2_v.out.keep (by exact Below.new _ _))).mono ?_
  rintro e w3 ⟨v3, rfl, hr, hb⟩
  obtain ⟨qa3, qc3, qm3, qn3, rfl, -⟩ := hr.inv
  have N3 := Lib.hid hr
  clear hr
  have HD3 := Lib.hid (show Below w2.heap.size w2 w3 from Below.next (Below.new _ _) hb)
  have L3_0 := Lib.hid (L2_0.out.keep HD3.out)
  have L3_1 := Lib.hid (L2_1.out.keep HD3.out)
  have L3_2 := Lib.hid ((Blk.new w2 38 #[.int .i64 kd.kind, .bool kd.bool, .int .i64 kd.int, .string kd.str, .slice qa2 kd.list.length qc2, .slice qm2 kd.map.length qn2]).keep hb)
  have V3_v := Lib.hid (V2_v.out.keep HD3.out)
  have V3_kd := Lib.hid (N2.out.keep HD3.out)
  have HW3 := Lib.hid (Below.next HW2.out HD3.out)
  clear k2_0 l2_0 k2_1 l2_1 hb HD3 L2_0 L2_1 V2_v N2 HW2
  have k3_0 := L3_0.out.cell
  have l3_0 := L3_0.out.lt
  have k3_1 := L3_1.out.cell
  have l3_1 := L3_1.out.lt
  have k3_2 := L3_2.out.cell
  have l3_2 := L3_2.out.lt
  go_wp2_with fail
  refine (CN.out _ _ (N3.out.keep (by exact Below.new _ _))).mono ?_
  rintro e w4 ⟨v4, rfl, hr, hb⟩
  obtain ⟨qa4, qc4, qm4, qn4, rfl, -⟩ := hr.inv
  have N4 := Lib.hid hr
  clear hr
  have HD4 := Lib.hid (show Below w3.heap.size w3 w4 from Below.next (Below.new _ _) hb)
  have L4_0 := Lib.hid (L3_0.out.keep HD4.out)
  have L4_1 := Lib.hid (L3_1.out.keep HD4.out)
  have L4_2 := Lib.hid (L3_2.out.keep HD4.out)
  have L4_3 := Lib.hid ((Blk.new w3 38 #[.int .i64 mt.kind, .bool mt.bool, .int .i64 mt.int, .string mt.str, .slice qa3 mt.list.length qc3, .slice qm3 mt.map.length qn3]).keep hb)
  have V4_v := Lib.hid (V3_v.out.keep HD4.out)
  have V4_kd := Lib.hid (V3_kd.out.keep HD4.out)
  have V4_mt := Lib.hid (N3.out.keep HD4.out)
  have HW4 := Lib.hid (Below.next HW3.out HD4.out)
  clear k3_0 l3_0 k3_1 l3_1 k3_2 l3_2 hb HD4 L3_0 L3_1 L3_2 V3_v V3_kd N3 HW3
  have k4_0 := L4_0.out.cell
  have l4_0 := L4_0.out.lt
  have k4_1 := L4_1.out.cell
  have l4_1 := L4_1.out.lt
  have k4_2 := L4_2.out.cell
  have l4_2 := L4_2.out.lt
  have k4_3 := L4_3.out.cell
  have l4_3 := L4_3.out.lt
  go_wp2_with fail
  refine (CS.out _ _ (V4_mt.out.keep (by exact Below.new _ _))).mono ?_
  rintro e w5 ⟨v5, rfl, hr, hb⟩
  obtain ⟨qa5, qc5, qm5, qn5, rfl, -⟩ := hr.inv
  have N5 := Lib.hid hr
  clear hr
  have HD5 := Lib.hid (show Below w4.heap.size w4 w5 from Below.next (Below.new _ _) hb)
  have L5_0 := Lib.hid (L4_0.out.keep HD5.out)
  have L5_1 := Lib.hid (L4_1.out.keep HD5.out)
  have L5_2 := Lib.hid (L4_2.out.keep HD5.out)
  have L5_3 := Lib.hid (L4_3.out.keep HD5.out)
  have L5_4 := Lib.hid ((Blk.new w4 38 #[.int .i64 nm.kind, .bool nm.bool, .int .i64 nm.int, .string nm.str, .slice qa4 nm.list.length qc4, .slice qm4 nm.map.length qn4]).keep hb)
  have V5_v := Lib.hid (V4_v.out.keep HD5.out)
  have V5_kd := Lib.hid (V4_kd.out.keep HD5.out)
  have V5_mt := Lib.hid (V4_mt.out.keep HD5.out)
  have V5_nm := Lib.hid (N4.out.keep HD5.out)
  have HW5 := Lib.hid (Below.next HW4.out HD5.out)
  clear k4_0 l4_0 k4_1 l4_1 k4_2 l4_2 k4_3 l4_3 hb HD5 L4_0 L4_1 L4_2 L4_3 V4_v V4_kd V4_mt N4 HW4
  have k5_0 := L5_0.out.cell
  have l5_0 := L5_0.out.lt
  have k5_1 := L5_1.out.cell
  have l5_1 := L5_1.out.lt
  have k5_2 := L5_2.out.cell
  have l5_2 := L5_2.out.lt
  have k5_3 := L5_3.out.cell
  have l5_3 := L5_3.out.lt
  have k5_4 := L5_4.out.cell
  have l5_4 := L5_4.out.lt
  cases bs
  · have HID := Lib.hid (show idT v = ⟨kd.str, defW, nm.str⟩ from by rw [HI.out]; rfl)
    have CR := Lib.hid (fun w2 => show Calls Tryd.prog 12 #[.agg #[.string kd.str, .string defW, .string nm.str]] w2 (fun e w' => e = .returned (.bool (decide (Right3 (idT v)))) ∧ Below w2.heap.size w2 w') from by
      have h := rright (idT v) HZ.out w2
      have e := HID.out
      rw [show (idT v).k = kd.str by rw [e], show (idT v).s = defW by rw [e], show (idT v).n = nm.str by rw [e]] at h
      exact h)
    have hk : (idT v).k = kd.str := by rw [HID.out]
    go_wp2_with fail
    refine (CR.out _).mono ?_
    rintro e w9 ⟨rfl, hb⟩
    have hbW := Below.next ((Below.new w5 (.cells #[.int .i64 sp.kind, .bool sp.bool, .int .i64 sp.int, .string sp.str, .slice qa5 sp.list.length qc5, .slice qm5 sp.map.length qn5] 38)).alloc (by simp) (.cells #[.string kd.str, .string defW, .string nm.str] 23)) hb
    have R0 := Lib.hid (L5_0.out.keep hbW); have R1 := Lib.hid (L5_1.out.keep hbW)
    have R6 := Lib.hid ((Blk.new_at (w5.alloc (.cells #[.int .i64 sp.kind, .bool sp.bool, .int .i64 sp.int, .string sp.str, .slice qa5 sp.list.length qc5, .slice qm5 sp.map.length qn5] 38)) 23 #[.string kd.str, .string defW, .string nm.str] (n := w5.heap.size + 1) (by simp)).keep hb)
    have RVN := Lib.hid (HV1.out.keep (Below.next HW5.out hbW))
    have RV := Lib.hid (V5_v.out.keep hbW); have RW := Lib.hid (Below.next HW5.out hbW)
    clear hb hbW k5_0 l5_0 k5_1 l5_1 k5_2 l5_2 k5_3 l5_3 k5_4 l5_4
    have f0 := R1.out.frozen 0; have f1 := R1.out.frozen 1; have f2 := R1.out.frozen 2; have f3 := R1.out.frozen 3; have f4 := R1.out.frozen 4; have f5 := R1.out.frozen 5; have f6 := R1.out.frozen 6; have f7 := R1.out.frozen 7; have f8 := R1.out.frozen 8
    have k0 := R0.out.cell; have k6 := R6.out.cell; have k1 := R1.out.cell; have z0 := R0.out.lt; have z6 := R6.out.lt; have z1 := R1.out.lt
    by_cases hR : Right3 (idT v)
    case neg =>
      have HE := Lib.hid (show ofE v = 26 from by unfold ofE; rw [if_neg (by rw [HC.out]; simp), if_neg (fun h => hR h.1)])
      have HN := Lib.hid (show ofE v ≠ 0 from by rw [HE.out]; decide)
      rw [decide_eq_false hR]
      clear hR hk
      go_wp2_with fail
      refine ret_cell2 (t := 40) (cs := #[.string ⟨#[]⟩, .string ⟨#[]⟩, .string ⟨#[]⟩, .int .i64 0, .bool false, .int .i64 0, .string ⟨#[]⟩, .slice none 0 0, .slice none 0 0]) rfl rfl rfl ?_ Tryd.underlying40 obj_size rfl ?_
      · exact blk_set9 R1.out
      · exact of_none HE.out HN.out (bel_set9 RW.out (Nat.le_succ _))
    rw [decide_eq_true hR]
    by_cases hq : kd.str = relW
    case pos =>
      have gq : (kd.str.toList == [82, 101, 108, 101, 97, 115, 101]) = true := by rw [word_eq]; exact decide_eq_true (by rw [hq]; rfl)
      have HE := Lib.hid (show ofE v = 26 from by unfold ofE; rw [if_neg (by rw [HC.out]; simp), if_neg (fun h => h.2 (hk.trans hq))])
      have HN := Lib.hid (show ofE v ≠ 0 from by rw [HE.out]; decide)
      clear hR hk hq
      go_wp2_with fail
      refine ret_cell2 (t := 40) (cs := #[.string ⟨#[]⟩, .string ⟨#[]⟩, .string ⟨#[]⟩, .int .i64 0, .bool false, .int .i64 0, .string ⟨#[]⟩, .slice none 0 0, .slice none 0 0]) rfl rfl rfl ?_ Tryd.underlying40 obj_size rfl ?_
      · exact blk_set9 R1.out
      · exact of_none HE.out HN.out (bel_set9 RW.out (Nat.le_succ _))
    have gq : (kd.str.toList == [82, 101, 108, 101, 97, 115, 101]) = false := by rw [word_eq]; exact decide_eq_false (fun h => hq (list_ext h))
    have HE := Lib.hid (show ofE v = 0 from by unfold ofE; rw [if_neg (by rw [HC.out]; simp), if_pos ⟨hR, fun h => hq (hk.symm.trans h)⟩])
    clear hR hk hq
    go_wp2_with fail
    refine ret_cell2 (t := 40) (cs := #[.string kd.str, .string defW, .string nm.str, .int .i64 v.kind, .bool v.bool, .int .i64 v.int, .string v.str, .slice la v.list.length lc, .slice ma v.map.length mc]) rfl rfl rfl ?_ Tryd.underlying40 obj_size rfl ?_
    · exact blk_set9 R1.out
    · exact of_ok HE.out HID.out (RVN.out.mono (fun _ _ _ => trivial) (fun b o (hS : b < w.heap.size) _ => far_set9 (by omega))) (bel_set9 RW.out (Nat.le_succ _))
  · have HID := Lib.hid (show idT v = ⟨kd.str, sp.str, nm.str⟩ from by rw [HI.out]; rfl)
    have CR := Lib.hid (fun w2 => show Calls Tryd.prog 12 #[.agg #[.string kd.str, .string sp.str, .string nm.str]] w2 (fun e w' => e = .returned (.bool (decide (Right3 (idT v)))) ∧ Below w2.heap.size w2 w') from by
      have h := rright (idT v) HZ.out w2
      have e := HID.out
      rw [show (idT v).k = kd.str by rw [e], show (idT v).s = sp.str by rw [e], show (idT v).n = nm.str by rw [e]] at h
      exact h)
    have hk : (idT v).k = kd.str := by rw [HID.out]
    go_wp2_with fail
    refine (CR.out _).mono ?_
    rintro e w9 ⟨rfl, hb⟩
    have hbW := Below.next ((Below.new w5 (.cells #[.int .i64 sp.kind, .bool sp.bool, .int .i64 sp.int, .string sp.str, .slice qa5 sp.list.length qc5, .slice qm5 sp.map.length qn5] 38)).alloc (by simp) (.cells #[.string kd.str, .string sp.str, .string nm.str] 23)) hb
    have R0 := Lib.hid (L5_0.out.keep hbW); have R1 := Lib.hid (L5_1.out.keep hbW)
    have R6 := Lib.hid ((Blk.new_at (w5.alloc (.cells #[.int .i64 sp.kind, .bool sp.bool, .int .i64 sp.int, .string sp.str, .slice qa5 sp.list.length qc5, .slice qm5 sp.map.length qn5] 38)) 23 #[.string kd.str, .string sp.str, .string nm.str] (n := w5.heap.size + 1) (by simp)).keep hb)
    have RVN := Lib.hid (HV1.out.keep (Below.next HW5.out hbW))
    have RV := Lib.hid (V5_v.out.keep hbW); have RW := Lib.hid (Below.next HW5.out hbW)
    clear hb hbW k5_0 l5_0 k5_1 l5_1 k5_2 l5_2 k5_3 l5_3 k5_4 l5_4
    have f0 := R1.out.frozen 0; have f1 := R1.out.frozen 1; have f2 := R1.out.frozen 2; have f3 := R1.out.frozen 3; have f4 := R1.out.frozen 4; have f5 := R1.out.frozen 5; have f6 := R1.out.frozen 6; have f7 := R1.out.frozen 7; have f8 := R1.out.frozen 8
    have k0 := R0.out.cell; have k6 := R6.out.cell; have k1 := R1.out.cell; have z0 := R0.out.lt; have z6 := R6.out.lt; have z1 := R1.out.lt
    by_cases hR : Right3 (idT v)
    case neg =>
      have HE := Lib.hid (show ofE v = 26 from by unfold ofE; rw [if_neg (by rw [HC.out]; simp), if_neg (fun h => hR h.1)])
      have HN := Lib.hid (show ofE v ≠ 0 from by rw [HE.out]; decide)
      rw [decide_eq_false hR]
      clear hR hk
      go_wp2_with fail
      refine ret_cell2 (t := 40) (cs := #[.string ⟨#[]⟩, .string ⟨#[]⟩, .string ⟨#[]⟩, .int .i64 0, .bool false, .int .i64 0, .string ⟨#[]⟩, .slice none 0 0, .slice none 0 0]) rfl rfl rfl ?_ Tryd.underlying40 obj_size rfl ?_
      · exact blk_set9 R1.out
      · exact of_none HE.out HN.out (bel_set9 RW.out (Nat.le_succ _))
    rw [decide_eq_true hR]
    by_cases hq : kd.str = relW
    case pos =>
      have gq : (kd.str.toList == [82, 101, 108, 101, 97, 115, 101]) = true := by rw [word_eq]; exact decide_eq_true (by rw [hq]; rfl)
      have HE := Lib.hid (show ofE v = 26 from by unfold ofE; rw [if_neg (by rw [HC.out]; simp), if_neg (fun h => h.2 (hk.trans hq))])
      have HN := Lib.hid (show ofE v ≠ 0 from by rw [HE.out]; decide)
      clear hR hk hq
      go_wp2_with fail
      refine ret_cell2 (t := 40) (cs := #[.string ⟨#[]⟩, .string ⟨#[]⟩, .string ⟨#[]⟩, .int .i64 0, .bool false, .int .i64 0, .string ⟨#[]⟩, .slice none 0 0, .slice none 0 0]) rfl rfl rfl ?_ Tryd.underlying40 obj_size rfl ?_
      · exact blk_set9 R1.out
      · exact of_none HE.out HN.out (bel_set9 RW.out (Nat.le_succ _))
    have gq : (kd.str.toList == [82, 101, 108, 101, 97, 115, 101]) = false := by rw [word_eq]; exact decide_eq_false (fun h => hq (list_ext h))
    have HE := Lib.hid (show ofE v = 0 from by unfold ofE; rw [if_neg (by rw [HC.out]; simp), if_pos ⟨hR, fun h => hq (hk.symm.trans h)⟩])
    clear hR hk hq
    go_wp2_with fail
    refine ret_cell2 (t := 40) (cs := #[.string kd.str, .string sp.str, .string nm.str, .int .i64 v.kind, .bool v.bool, .int .i64 v.int, .string v.str, .slice la v.list.length lc, .slice ma v.map.length mc]) rfl rfl rfl ?_ Tryd.underlying40 obj_size rfl ?_
    · exact blk_set9 R1.out
    · exact of_ok HE.out HID.out (RVN.out.mono (fun _ _ _ => trivial) (fun b o (hS : b < w.heap.size) _ => far_set9 (by omega))) (bel_set9 RW.out (Nat.le_succ _))
end Go.Proofs.YtjnbjehcmckdeaaDoor

/- ObjectReads answers true for every input: the law. -/
namespace Go.Proofs.YtjnbjehcmckdeaaDoor
open Go.RowKit
attribute [local go_sem ↓] Go.wp_at_zero Go.wp_at_succ

theorem MaxP.keep {w w' : World} (h : MaxP w) (hb : Below w.heap.size w w') : MaxP w' := by
  obtain ⟨m, hm⟩ := h
  exact ⟨m, (hb.cell (block_lt_of_cell (a := ⟨1, 0, none⟩) hm)).trans hm⟩
theorem key_callR {a : ID3} {r : ByteArray} (h : keyL a = r.data.toList) (hs : a.small) (w : World) : Calls Tryd.prog 15 #[.agg #[.string a.k, .string a.s, .string a.n]] w fun e w' => e = .returned (.string r) ∧ Below w.heap.size w w' := by
  refine (tkeyO a hs w).mono ?_
  rintro e w' ⟨v, rfl, hv, hb⟩
  obtain rfl : v = r := list_ext (by rw [hv, h])
  exact ⟨rfl, hb⟩
theorem rkey_callR {a : ID3} {r : ByteArray} (h : keyL a = r.data.toList) (hs : a.small) (w : World) : Calls Tryd.prog 25 #[.agg #[.string a.k, .string a.s, .string a.n]] w fun e w' => e = .returned (.string r) ∧ Below w.heap.size w w' := by
  refine (rkeyO a hs w).mono ?_
  rintro e w' ⟨v, rfl, hv, hb⟩
  obtain rfl : v = r := list_ext (by rw [hv, h])
  exact ⟨rfl, hb⟩
theorem key_size {a : ID3} {r : ByteArray} (h : keyL a = r.data.toList) (ha : Right3 a) : r.size ≤ 100000 := by
  have h1 := ha.1.2.2; have h2 := ha.2.1.2.2; have h3 := ha.2.2.2.2
  have e := congrArg List.length h
  unfold keyL at e
  simp only [List.length_append, List.length_cons] at e
  rw [size_list]; omega
theorem of_facts {v : T} (h : ofE v = 0) : Right3 (ofI v) ∧ ofT v = v ∧ v.parts = 0 ∧ ofI v = idT v := by
  unfold ofE at h
  split at h
  · next h2 => exact absurd h h2
  · next h2 =>
    split at h
    · next h3 =>
      have h4 : v.check = 0 := by simpa using h2
      have h5 : ofE v = 0 := by unfold ofE; rw [if_neg h2, if_pos h3]
      refine ⟨?_, by unfold ofT; rw [if_pos h5], check_parts h4, by unfold ofI; rw [if_pos h5]⟩
      unfold ofI; rw [if_pos h5]; exact h3.1
    · cases h

set_option maxRecDepth 100000 in
set_option maxHeartbeats 16000000 in
theorem readsL (v : T) (s : ByteArray) (vv : Value) (w : World) (hv : RepT w (fun _ => True) vv v) (hx : MaxP w) (ho : ObjV w) :
    Calls Tryd.prog 5 #[vv, .string s] w fun e w' => e = .returned (.bool true) ∧ Below w.heap.size w w' := by
  obtain ⟨la, lc, ma, mc, rfl, -⟩ := hv.inv
  have H_v := Lib.hid hv
  have HX := Lib.hid hx
  have HO := Lib.hid ho
  clear hv hx ho
  go_enter Tryd.func5, Tryd.ntmps5
  go_wp2_with fail
  refine (light v _ _ _ (H_v.out.keep (by exact Below.new _ _))).mono ?_
  rintro e w1 ⟨r, rfl, hr, hb⟩
  have HD1 := Lib.hid (show Below w.heap.size w w1 from Below.next (Below.new _ _) hb)
  have L1_0 := Lib.hid ((Blk.new w 38 #[.int .i64 v.kind, .bool v.bool, .int .i64 v.int, .string v.str, .slice la v.list.length lc, .slice ma v.map.length mc]).keep hb)
  have V1_v := Lib.hid (H_v.out.keep HD1.out)
  have HW1 := Lib.hid (show Below w.heap.size w w1 from HD1.out)
  clear hb HD1 H_v
  have k1_0 := L1_0.out.cell
  have l1_0 := L1_0.out.lt
  have HR := Lib.hid hr; clear hr
  cases r
  case false =>
    go_wp2_with (go_at_call 13; refine (awake12 _ (HO.out.keep HW1.out)).mono ?_; rintro e w9 ⟨rfl, hb9⟩)
    go_ret
    exact ⟨rfl, Below.next HW1.out hb9⟩
  have hw : v.wt ≤ 6000 := HR.out rfl
  clear HR
  by_cases hz : s.size ≤ 500
  case neg =>
    have gz : (500 : Int) < (s.size : Int) := by omega
    clear hw
    go_wp2_with (go_at_call 13; refine (awake12 _ (HO.out.keep HW1.out)).mono ?_; rintro e w9 ⟨rfl, hb9⟩)
    go_ret
    exact ⟨rfl, Below.next HW1.out hb9⟩
  have gz : ¬ (500 : Int) < (s.size : Int) := by omega
  have C1 := Lib.hid (fun w2 c0 (h : RepT w2 (fun _ => True) c0 v) => tof v c0 w2 hw h)
  have C2 := Lib.hid (fun w2 c0 (h : RepT w2 (fun _ => True) c0 v) => rof v c0 w2 hw h)
  have HFA := Lib.hid (fun h : ofE v = 0 => of_facts h)
  have HSM := Lib.hid (show ofE v = 0 → (ofI v).small from fun h => by rw [(of_facts h).2.2.2]; exact idT_small hw)
  clear hw
  generalize ofE v = ec at *
  generalize ofI v = oi at *
  generalize ofT v = t at *
  go_wp2_with fail
  refine (C1.out _ _ (V1_v.out)).mono ?_
  rintro e w2 ⟨pa, pc, pm, pn, rfl, hr, hb⟩
  have N2 := Lib.hid hr; clear hr
  have HD2 := Lib.hid (show Below w1.heap.size w1 w2 from hb)
  have L2_0 := Lib.hid (L1_0.out.keep HD2.out)
  have V2_v := Lib.hid (V1_v.out.keep HD2.out)
  have HW2 := Lib.hid (Below.next HW1.out HD2.out)
  clear k1_0 l1_0 hb HD2 L1_0 V1_v HW1
  have k2_0 := L2_0.out.cell
  have l2_0 := L2_0.out.lt
  go_wp2_with fail
  refine (C2.out _ _ (V2_v.out.keep (by exact Below.new _ _))).mono ?_
  rintro e w3 ⟨qa, qc, qm, qn, rfl, hr, hb⟩
  have N3 := Lib.hid hr; clear hr
  have HD3 := Lib.hid (show Below w2.heap.size w2 w3 from Below.next (Below.new _ _) hb)
  have L3_0 := Lib.hid (L2_0.out.keep HD3.out)
  have L3_1 := Lib.hid ((Blk.new w2 40 #[.string oi.k, .string oi.s, .string oi.n, .int .i64 t.kind, .bool t.bool, .int .i64 t.int, .string t.str, .slice pa t.list.length pc, .slice pm t.map.length pn]).keep hb)
  have V3_v := Lib.hid (V2_v.out.keep HD3.out)
  have V3_o := Lib.hid (N2.out.keep HD3.out)
  have HW3 := Lib.hid (Below.next HW2.out HD3.out)
  clear k2_0 l2_0 hb HD3 L2_0 V2_v N2 HW2
  have k3_0 := L3_0.out.cell
  have l3_0 := L3_0.out.lt
  have k3_1 := L3_1.out.cell
  have l3_1 := L3_1.out.lt
  have ge : (ec != ec) = false := by simp
  have gk : (oi.k.toList == oi.k.toList) = true := by simp
  have gs : (oi.s.toList == oi.s.toList) = true := by simp
  have gn : (oi.n.toList == oi.n.toList) = true := by simp
  go_wp2_with fail
  refine (rsame_true (rfl : t = t) _ _ _ _ _ (V3_o.out.keep (by exact Below.new _ _)) (N3.out.keep (by exact Below.new _ _))).mono ?_
  rintro e w4 ⟨rfl, hb⟩
  have HD4 := Lib.hid (show Below w3.heap.size w3 w4 from Below.next (Below.new _ _) hb)
  have L4_0 := Lib.hid (L3_0.out.keep HD4.out)
  have L4_1 := Lib.hid (L3_1.out.keep HD4.out)
  have L4_2 := Lib.hid ((Blk.new w3 40 #[.string oi.k, .string oi.s, .string oi.n, .int .i64 t.kind, .bool t.bool, .int .i64 t.int, .string t.str, .slice qa t.list.length qc, .slice qm t.map.length qn]).keep hb)
  have V4_v := Lib.hid (V3_v.out.keep HD4.out)
  have V4_o := Lib.hid (V3_o.out.keep HD4.out)
  have V4_p := Lib.hid (N3.out.keep HD4.out)
  have HW4 := Lib.hid (Below.next HW3.out HD4.out)
  clear k3_0 l3_0 k3_1 l3_1 hb HD4 L3_0 L3_1 V3_v V3_o N3 HW3
  have k4_0 := L4_0.out.cell
  have l4_0 := L4_0.out.lt
  have k4_1 := L4_1.out.cell
  have l4_1 := L4_1.out.lt
  have k4_2 := L4_2.out.cell
  have l4_2 := L4_2.out.lt
  obtain ⟨pj, pg, hjg⟩ : ∃ j g, parseO s = (j, g) := ⟨_, _, rfl⟩
  have CPS := Lib.hid (fun w2 h => toparse s (by omega) w2 h)
  rw [hjg] at CPS
  have hnop : True := trivial
  have HPO := Lib.hid (show pg = 0 ∧ Right3 pj ∧ keyL pj = s.data.toList ∨ pj = idZ ∧ pg = 26 from by
    rcases parseO_two s with h | h
    · rw [hjg] at h
      have h2 : pg = 0 := h
      subst h2
      exact .inl ⟨rfl, parseO_ok hjg⟩
    · rw [hjg] at h
      injection h with h1 h2
      exact .inr ⟨h1, h2⟩)
  clear hjg
  by_cases h0 : ec = 0
  case' pos =>
    obtain ⟨hR3, htv, hpp, -⟩ := HFA.out h0
    have hsm := HSM.out h0
    subst h0
    have hpt : t.parts = 0 := by rw [htv]; exact hpp
    obtain ⟨kv, hkv⟩ : ∃ kv : ByteArray, keyL oi = kv.data.toList := ⟨⟨(keyL oi).toArray⟩, by simp⟩
    have CK := Lib.hid (fun w2 => key_callR hkv hsm w2); have CKR := Lib.hid (fun w2 => rkey_callR hkv hsm w2)
    have CP := Lib.hid (fun w2 h => toparse kv (key_size hkv hR3) w2 h)
    rw [parseO_key hR3 hkv.symm] at CP
    have CRT := Lib.hid (fun w2 => tright3 oi hsm w2)
    rw [decide_eq_true hR3] at CRT
    obtain ⟨hk9, hhk⟩ : ∃ x, hookS t = x := ⟨_, rfl⟩
    have CH := Lib.hid (fun la lc ma mc w2 (h : RepT w2 (fun _ => True) (.agg #[.int .i64 t.kind, .bool t.bool, .int .i64 t.int, .string t.str, .slice la t.list.length lc, .slice ma t.map.length mc]) t) => show Calls Tryd.prog 26 #[.agg #[.string oi.k, .string oi.s, .string oi.n, .int .i64 t.kind, .bool t.bool, .int .i64 t.int, .string t.str, .slice la t.list.length lc, .slice ma t.map.length mc]] w2 (fun e w' => e = .returned (.string hk9) ∧ Below w2.heap.size w2 w') from hhk ▸ thook oi t hpt la lc ma mc w2 _ h)
    have CHR := Lib.hid (fun la lc ma mc w2 (h : RepT w2 (fun _ => True) (.agg #[.int .i64 t.kind, .bool t.bool, .int .i64 t.int, .string t.str, .slice la t.list.length lc, .slice ma t.map.length mc]) t) => show Calls Tryd.prog 27 #[.agg #[.string oi.k, .string oi.s, .string oi.n, .int .i64 t.kind, .bool t.bool, .int .i64 t.int, .string t.str, .slice la t.list.length lc, .slice ma t.map.length mc]] w2 (fun e w' => e = .returned (.string hk9) ∧ Below w2.heap.size w2 w') from hhk ▸ rhook oi t hpt la lc ma mc w2 _ h)
    clear hR3 htv hpp hsm hpt hkv hhk HFA HSM
    go_wp2_with fail
    refine (CK.out _).mono ?_
    rintro e w5 ⟨rfl, hb⟩
    have HD5 := Lib.hid (show Below w4.heap.size w4 w5 from hb)
    have L5_0 := Lib.hid (L4_0.out.keep HD5.out)
    have L5_1 := Lib.hid (L4_1.out.keep HD5.out)
    have L5_2 := Lib.hid (L4_2.out.keep HD5.out)
    have V5_v := Lib.hid (V4_v.out.keep HD5.out)
    have V5_o := Lib.hid (V4_o.out.keep HD5.out)
    have V5_p := Lib.hid (V4_p.out.keep HD5.out)
    have HW5 := Lib.hid (Below.next HW4.out HD5.out)
    clear k4_0 l4_0 k4_1 l4_1 k4_2 l4_2 hb HD5 L4_0 L4_1 L4_2 V4_v V4_o V4_p HW4
    have k5_0 := L5_0.out.cell
    have l5_0 := L5_0.out.lt
    have k5_1 := L5_1.out.cell
    have l5_1 := L5_1.out.lt
    have k5_2 := L5_2.out.cell
    have l5_2 := L5_2.out.lt
    go_wp2_with fail
    refine (CP.out _ (HX.out.keep HW5.out)).mono ?_
    rintro e w6 ⟨rfl, hb⟩
    have HD6 := Lib.hid (show Below w5.heap.size w5 w6 from hb)
    have L6_0 := Lib.hid (L5_0.out.keep HD6.out)
    have L6_1 := Lib.hid (L5_1.out.keep HD6.out)
    have L6_2 := Lib.hid (L5_2.out.keep HD6.out)
    have V6_v := Lib.hid (V5_v.out.keep HD6.out)
    have V6_o := Lib.hid (V5_o.out.keep HD6.out)
    have V6_p := Lib.hid (V5_p.out.keep HD6.out)
    have HW6 := Lib.hid (Below.next HW5.out HD6.out)
    clear k5_0 l5_0 k5_1 l5_1 k5_2 l5_2 hb HD6 L5_0 L5_1 L5_2 V5_v V5_o V5_p HW5
    have k6_0 := L6_0.out.cell
    have l6_0 := L6_0.out.lt
    have k6_1 := L6_1.out.cell
    have l6_1 := L6_1.out.lt
    have k6_2 := L6_2.out.cell
    have l6_2 := L6_2.out.lt
    go_wp2_with fail
    obtain ⟨w7, hwz⟩ : ∃ x, x = (w6.alloc (.cells #[.string oi.k, .string oi.s, .string oi.n] 23)) := ⟨_, rfl⟩
    have hb : Below (w6.alloc (.cells #[.string oi.k, .string oi.s, .string oi.n] 23)).heap.size (w6.alloc (.cells #[.string oi.k, .string oi.s, .string oi.n] 23)) w7 := by rw [hwz]; exact Below.refl _ _
    rw [← hwz]
    clear hwz
    have HD7 := Lib.hid (show Below w6.heap.size w6 w7 from Below.next (Below.new _ _) hb)
    have L7_0 := Lib.hid (L6_0.out.keep HD7.out)
    have L7_1 := Lib.hid (L6_1.out.keep HD7.out)
    have L7_2 := Lib.hid (L6_2.out.keep HD7.out)
    have L7_3 := Lib.hid ((Blk.new w6 23 #[.string oi.k, .string oi.s, .string oi.n]).keep hb)
    have V7_v := Lib.hid (V6_v.out.keep HD7.out)
    have V7_o := Lib.hid (V6_o.out.keep HD7.out)
    have V7_p := Lib.hid (V6_p.out.keep HD7.out)
    have HW7 := Lib.hid (Below.next HW6.out HD7.out)
    clear k6_0 l6_0 k6_1 l6_1 k6_2 l6_2 hb HD7 L6_0 L6_1 L6_2 V6_v V6_o V6_p HW6
    have k7_0 := L7_0.out.cell
    have l7_0 := L7_0.out.lt
    have k7_1 := L7_1.out.cell
    have l7_1 := L7_1.out.lt
    have k7_2 := L7_2.out.cell
    have l7_2 := L7_2.out.lt
    have k7_3 := L7_3.out.cell
    have l7_3 := L7_3.out.lt
    have gkv : (kv.toList == kv.toList) = true := by simp
    have ghk : (hk9.toList == hk9.toList) = true := by simp
    go_wp2_with fail
    have HVv := V7_v; have HVo := V7_o; have HVp := V7_p; have HWc := HW7
    clear k7_0 k7_1 k7_2 k7_3
    have LB0 := L7_0
    have LB1 := L7_1
    have LB2 := L7_2
    have LB3 := L7_3
    have q_0 := LB0.out.cell; have q_1 := LB1.out.cell; have q_2 := LB2.out.cell; have q_3 := LB3.out.cell
    clear V7_v V7_o V7_p HW7 L7_0 L7_1 L7_2 L7_3
    go_region_held3 (fun w' => (∀ i, w'.cell? ⟨w.heap.size, i, none⟩ = (#[.int .i64 v.kind, .bool v.bool, .int .i64 v.int, .string v.str, .slice la v.list.length lc, .slice ma v.map.length mc] : Array Value)[i]?) ∧ (∀ i, w'.cell? ⟨w2.heap.size, i, none⟩ = (#[.string oi.k, .string oi.s, .string oi.n, .int .i64 t.kind, .bool t.bool, .int .i64 t.int, .string t.str, .slice pa t.list.length pc, .slice pm t.map.length pn] : Array Value)[i]?) ∧ (∀ i, w'.cell? ⟨w3.heap.size, i, none⟩ = (#[.string oi.k, .string oi.s, .string oi.n, .int .i64 t.kind, .bool t.bool, .int .i64 t.int, .string t.str, .slice qa t.list.length qc, .slice qm t.map.length qn] : Array Value)[i]?) ∧ (∀ i, w'.cell? ⟨w6.heap.size, i, none⟩ = (#[.string oi.k, .string oi.s, .string oi.n] : Array Value)[i]?)) (first | (with_reducible exact ⟨q_0, q_1, q_2, q_3⟩) | (refine ⟨fun i => ?_, fun i => ?_, fun i => ?_, fun i => ?_⟩ <;> (simp only [cell_drew]; first | (with_reducible exact q_0 i) | (with_reducible exact q_1 i) | (with_reducible exact q_2 i) | (with_reducible exact q_3 i)))) (first
        | (go_at_call 15; refine at_world HWc (by first | (with_reducible exact Below.refl _ _) | (with_reducible exact (Below.refl _ _).drew) | (with_reducible exact Below.new _ _) | (with_reducible exact (Below.new _ _).drew) | (with_reducible exact (Below.new _ _).alloc (by simp) _) | (with_reducible exact ((Below.new _ _).alloc (by simp) _).drew)) (fun HBW => ?_); ((with_reducible refine (CK.out _).mono ?_); rintro e wn1 ⟨rfl, hb⟩; have HBN := Below.next HBW hb; replace HVv := Lib.hid (HVv.out.keep (HBN)); replace HVo := Lib.hid (HVo.out.keep (HBN)); replace HVp := Lib.hid (HVp.out.keep (HBN)); replace LB0 := Lib.hid (LB0.out.keep (HBN)); replace LB1 := Lib.hid (LB1.out.keep (HBN)); replace LB2 := Lib.hid (LB2.out.keep (HBN)); replace LB3 := Lib.hid (LB3.out.keep (HBN)); replace HWc := Lib.hid (Below.next HWc.out (HBN)); clear q_0; have q_0 := LB0.out.cell; clear q_1; have q_1 := LB1.out.cell; clear q_2; have q_2 := LB2.out.cell; clear q_3; have q_3 := LB3.out.cell; clear hb HBW HBN))
        | (go_at_call 25; refine at_world HWc (by first | (with_reducible exact Below.refl _ _) | (with_reducible exact (Below.refl _ _).drew) | (with_reducible exact Below.new _ _) | (with_reducible exact (Below.new _ _).drew) | (with_reducible exact (Below.new _ _).alloc (by simp) _) | (with_reducible exact ((Below.new _ _).alloc (by simp) _).drew)) (fun HBW => ?_); ((with_reducible refine (CKR.out _).mono ?_); rintro e wn2 ⟨rfl, hb⟩; have HBN := Below.next HBW hb; replace HVv := Lib.hid (HVv.out.keep (HBN)); replace HVo := Lib.hid (HVo.out.keep (HBN)); replace HVp := Lib.hid (HVp.out.keep (HBN)); replace LB0 := Lib.hid (LB0.out.keep (HBN)); replace LB1 := Lib.hid (LB1.out.keep (HBN)); replace LB2 := Lib.hid (LB2.out.keep (HBN)); replace LB3 := Lib.hid (LB3.out.keep (HBN)); replace HWc := Lib.hid (Below.next HWc.out (HBN)); clear q_0; have q_0 := LB0.out.cell; clear q_1; have q_1 := LB1.out.cell; clear q_2; have q_2 := LB2.out.cell; clear q_3; have q_3 := LB3.out.cell; clear hb HBW HBN))
        | (go_at_call 26; refine at_world HWc (by first | (with_reducible exact Below.refl _ _) | (with_reducible exact (Below.refl _ _).drew) | (with_reducible exact Below.new _ _) | (with_reducible exact (Below.new _ _).drew) | (with_reducible exact (Below.new _ _).alloc (by simp) _) | (with_reducible exact ((Below.new _ _).alloc (by simp) _).drew)) (fun HBW => ?_); ((with_reducible refine (CH.out _ _ _ _ _ (HVo.out.keep HBW)).mono ?_); rintro e wn3 ⟨rfl, hb⟩; have HBN := Below.next HBW hb; replace HVv := Lib.hid (HVv.out.keep (HBN)); replace HVo := Lib.hid (HVo.out.keep (HBN)); replace HVp := Lib.hid (HVp.out.keep (HBN)); replace LB0 := Lib.hid (LB0.out.keep (HBN)); replace LB1 := Lib.hid (LB1.out.keep (HBN)); replace LB2 := Lib.hid (LB2.out.keep (HBN)); replace LB3 := Lib.hid (LB3.out.keep (HBN)); replace HWc := Lib.hid (Below.next HWc.out (HBN)); clear q_0; have q_0 := LB0.out.cell; clear q_1; have q_1 := LB1.out.cell; clear q_2; have q_2 := LB2.out.cell; clear q_3; have q_3 := LB3.out.cell; clear hb HBW HBN))
        | (go_at_call 27; refine at_world HWc (by first | (with_reducible exact Below.refl _ _) | (with_reducible exact (Below.refl _ _).drew) | (with_reducible exact Below.new _ _) | (with_reducible exact (Below.new _ _).drew) | (with_reducible exact (Below.new _ _).alloc (by simp) _) | (with_reducible exact ((Below.new _ _).alloc (by simp) _).drew)) (fun HBW => ?_); ((with_reducible refine (CHR.out _ _ _ _ _ (HVp.out.keep HBW)).mono ?_); rintro e wn4 ⟨rfl, hb⟩; have HBN := Below.next HBW hb; replace HVv := Lib.hid (HVv.out.keep (HBN)); replace HVo := Lib.hid (HVo.out.keep (HBN)); replace HVp := Lib.hid (HVp.out.keep (HBN)); replace LB0 := Lib.hid (LB0.out.keep (HBN)); replace LB1 := Lib.hid (LB1.out.keep (HBN)); replace LB2 := Lib.hid (LB2.out.keep (HBN)); replace LB3 := Lib.hid (LB3.out.keep (HBN)); replace HWc := Lib.hid (Below.next HWc.out (HBN)); clear q_0; have q_0 := LB0.out.cell; clear q_1; have q_1 := LB1.out.cell; clear q_2; have q_2 := LB2.out.cell; clear q_3; have q_3 := LB3.out.cell; clear hb HBW HBN))
        | (go_at_call 28; refine at_world HWc (by first | (with_reducible exact Below.refl _ _) | (with_reducible exact (Below.refl _ _).drew) | (with_reducible exact Below.new _ _) | (with_reducible exact (Below.new _ _).drew) | (with_reducible exact (Below.new _ _).alloc (by simp) _) | (with_reducible exact ((Below.new _ _).alloc (by simp) _).drew)) (fun HBW => ?_); ((with_reducible refine (CRT.out _).mono ?_); rintro e wn5 ⟨rfl, hb⟩; have HBN := Below.next HBW hb; replace HVv := Lib.hid (HVv.out.keep (HBN)); replace HVo := Lib.hid (HVo.out.keep (HBN)); replace HVp := Lib.hid (HVp.out.keep (HBN)); replace LB0 := Lib.hid (LB0.out.keep (HBN)); replace LB1 := Lib.hid (LB1.out.keep (HBN)); replace LB2 := Lib.hid (LB2.out.keep (HBN)); replace LB3 := Lib.hid (LB3.out.keep (HBN)); replace HWc := Lib.hid (Below.next HWc.out (HBN)); clear q_0; have q_0 := LB0.out.cell; clear q_1; have q_1 := LB1.out.cell; clear q_2; have q_2 := LB2.out.cell; clear q_3; have q_3 := LB3.out.cell; clear hb HBW HBN)))
    all_goals go_wp2_with fail
  case' neg =>
    have g0 : (ec == 0) = false := beq_eq_false_iff_ne.2 h0
    have HWc := HW4
    clear HFA HSM h0
    go_wp2_with fail
  all_goals
    refine (CPS.out _ (HX.out.keep HWc.out)).mono ?_
    rintro e wz ⟨rfl, hbz⟩
    have HWZ := Lib.hid (Below.next HWc.out hbz); clear hbz
    have hE : (⟨#[]⟩ : ByteArray).toList = [] := by rw [ByteArray.toList_eq]
    rcases HPO.out with ⟨rfl, hR, hK⟩ | ⟨rfl, rfl⟩
    · have hsj : pj.small := by
        have h1 := hR.1.2.2; have h2 := hR.2.1.2.2; have h3 := hR.2.2.2.2
        rw [← size_list] at h1 h2 h3
        exact ⟨by omega, by omega, by omega⟩
      have CRJ := Lib.hid (fun w2 => rright pj hsj w2); rw [decide_eq_true hR] at CRJ
      have CKJ := Lib.hid (fun w2 => rkey_callR hK hsj w2)
      have gss : (s.toList == s.toList) = true := by simp
      clear hR hK hsj
      have hBJ : Blk (wz.alloc (.cells #[.string pj.k, .string pj.s, .string pj.n] 23)) wz.heap.size 23 #[.string pj.k, .string pj.s, .string pj.n] := Blk.new _ _ _
      go_wp2_with fail
      refine (awake12 _ (HO.out.keep (Below.next HWZ.out (Below.new _ _)))).mono ?_
      rintro e w10 ⟨rfl, hb10⟩
      have k10 := (hBJ.keep hb10).cell; have l10 := (hBJ.keep hb10).lt; have HBJ := Lib.hid (hBJ.keep hb10)
      have HW10 := Lib.hid (Below.next (Below.next HWZ.out (Below.new _ _)) hb10); clear hb10 hBJ
      go_wp2_with fail
      refine (CRJ.out _).mono ?_
      rintro e w11 ⟨rfl, hb11⟩
      have k11 := (HBJ.out.keep hb11).cell; have l11 := (HBJ.out.keep hb11).lt
      have HW11 := Lib.hid (Below.next HW10.out hb11); clear hb11 k10 l10
      go_wp2_with fail
      refine (CKJ.out _).mono ?_
      rintro e w12 ⟨rfl, hb12⟩
      go_wp2_with fail
      go_ret
      exact ⟨rfl, Below.next HW11.out hb12⟩
    · have hBJ : Blk (wz.alloc (.cells #[.string ⟨#[]⟩, .string ⟨#[]⟩, .string ⟨#[]⟩] 23)) wz.heap.size 23 #[.string ⟨#[]⟩, .string ⟨#[]⟩, .string ⟨#[]⟩] := Blk.new _ _ _
      simp only [idZ]
      go_wp2_with fail
      refine (awake12 _ (HO.out.keep (Below.next HWZ.out (Below.new _ _)))).mono ?_
      rintro e w10 ⟨rfl, hb10⟩
      have k10 := (hBJ.keep hb10).cell; have l10 := (hBJ.keep hb10).lt
      have HW10 := Lib.hid (Below.next (Below.next HWZ.out (Below.new _ _)) hb10); clear hb10 hBJ
      go_wp2_with fail
      go_ret
      exact ⟨rfl, HW10.out⟩

end Go.Proofs.YtjnbjehcmckdeaaDoor
