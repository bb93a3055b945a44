/- layer.All and layer.Plain; the laws' pair. -/
import Derived.Test.YthkkmnmejciomaaOver
import Derived.Test.YthkkmnmejciomaaLayPQ
import Derived.Test.YthkkmnmejciomaaCmpW
namespace Go.Proofs.Ythkkmnmejciomaa
open Go.RowKit
attribute [local go_sem ↓] Go.wp_at_zero Go.wp_at_succ

/-- Layers laid over each other, from below. -/
def allT (l : List T) : T := l.foldl (fun o v => v.over o) (mkMap [])
theorem neat_m0 : Neat 0 (mkMap []) := Neat.mkMap KS.nil (by simp) (by simp)
theorem allT_snoc (l : List T) (x : T) : allT (l ++ [x]) = x.over (allT l) := by unfold allT; rw [List.foldl_append]; rfl
theorem allT_neat {n : Nat} {l : List T} (h : ∀ x ∈ l, Neat n x) : ∀ q, q ≤ l.length → Neat (n * q) (allT (l.take q)) := by
  intro q
  induction q with
  | zero => intro _; exact neat_m0
  | succ q ih =>
    intro hq
    rw [List.take_succ_eq_append_getElem hq, allT_snoc, Nat.mul_succ]
    exact over_neat (h _ (List.getElem_mem hq)) (ih (by omega))

set_option maxRecDepth 100000 in
set_option maxHeartbeats 4000000 in
theorem tall {n : Nat} (l : List T) (hl : ∀ x ∈ l, Neat n x) (hn : n * (l.length + 1) ≤ 1000000) (hlen : l.length ≤ 1000000) (a : Option Addr) (cc : Nat) (w : World) (S : Nat → Prop) (h : RepL w S a l) :
    Calls Try.prog 9 #[.slice a l.length cc] w (NewPost w (allT l)) := by
  have HL := Lib.hid h
  have HNE := Lib.hid (allT_neat hl)
  have HLE := Lib.hid hl
  clear h hl
  go_enter Try.func9, Try.ntmps9
  go_wp2_with fail
  have hB2 : Blk (w.alloc (.cells #[.int .i64 0, .bool false, .int .i64 0, .string ⟨#[]⟩, .slice none 0 0, .slice none 0 0] 25)) w.heap.size 25 #[.int .i64 0, .bool false, .int .i64 0, .string ⟨#[]⟩, .slice none 0 0, .slice none 0 0] := Blk.new _ _ _
  have hBW : Below w.heap.size w (w.alloc (.cells #[.int .i64 0, .bool false, .int .i64 0, .string ⟨#[]⟩, .slice none 0 0, .slice none 0 0] 25)) := Below.new _ _
  refine (tmap0 _).mono ?_
  rintro e w1 ⟨v1, rfl, hr1, hb1⟩
  obtain ⟨la1, lc1, ma1, mc1, rfl, -⟩ := hr1.inv
  have HO := Lib.hid (OutInv.start (B := w.heap.size + 1) (R := w.heap.size) hBW hB2 (by omega) (by omega) (by simp) hb1 hr1)
  clear hb1 hr1 hB2 hBW
  go_wp2_with fail
  go_loopw [9] (fun x wr => ∃ (q : Nat) (M : T) (la2 : Option Addr) (lc2 : Nat) (ma2 : Option Addr) (mc2 : Nat), q ≤ l.length ∧ x = .int .i64 q ∧ Hid (M = allT (l.take q)) ∧ OutInv w wr (w.heap.size + 1) w1.heap.size w.heap.size M la2 lc2 ma2 mc2) (fun x _ => l.length - (intOf x).toNat)
  case atStart => exact ⟨0, mkMap [], _, _, _, _, Nat.zero_le _, rfl, rfl, HO.out⟩
  case round =>
    obtain ⟨q, M, la2, lc2, ma2, mc2, hq, rfl, hM, ho⟩ := hrel
    clear HO
    have HO := Lib.hid ho
    have k1 := ho.box.cell
    have l1 := ho.box.lt
    by_cases hlt : q < l.length
    · obtain ⟨b, o, la3, lc3, ma3, mc3, rfl, -, hbl, ⟨c0, c1, c2, c3, c4, c5⟩, hr⟩ := (HL.out.keep ho.bel).at_ hlt
      have HR := Lib.hid hr
      have HNX := Lib.hid (show l[q].over M = allT (l.take (q + 1)) by rw [List.take_succ_eq_append_getElem hlt, allT_snoc, hM.out])
      have HN1 := Lib.hid (show Neat (n * q) M by rw [hM.out]; exact HNE.out q hq)
      have HN2 := Lib.hid (HLE.out l[q] (List.getElem_mem hlt))
      have hnn : n * q + n ≤ 1000000 := by
        have : n * (q + 1) ≤ n * (l.length + 1) := Nat.mul_le_mul_left _ (by omega)
        rw [Nat.mul_succ] at this
        omega
      clear hr ho
      generalize l[q] = x at *
      go_wp2_with fail
      refine (tover hnn x M HN1.out HN2.out _ _ _ _ _ (HO.out.keep (Below.new _ _)).any (HR.out.keep (Below.new _ _))).mono ?_
      rintro e w3 ⟨v3, rfl, hr3, hb3⟩
      obtain ⟨la5, lc5, ma5, mc5, rfl, -⟩ := hr3.inv
      have k3 := ((HO.out.keep (Below.new wr (.cells #[.int .i64 x.kind, .bool x.bool, .int .i64 x.int, .string x.str, .slice la3 x.list.length lc3, .slice ma3 x.map.length mc3] 25))).keep hb3).box.cell
      have z3 := ((HO.out.keep (Below.new wr (.cells #[.int .i64 x.kind, .bool x.bool, .int .i64 x.int, .string x.str, .slice la3 x.list.length lc3, .slice ma3 x.map.length mc3] 25))).keep hb3).box.frozen
      have l3 := ((HO.out.keep (Below.new wr (.cells #[.int .i64 x.kind, .bool x.bool, .int .i64 x.int, .string x.str, .slice la3 x.list.length lc3, .slice ma3 x.map.length mc3] 25))).keep hb3).box.lt
      have HB3 := Lib.hid hb3
      have HR3 := Lib.hid hr3
      clear hb3 hr3
      go_wp2_with fail
      go_roundw
      case rel => exact ⟨q + 1, x.over M, _, _, _, _, by omega, by go_num, HNX, (HO.out.keep (Below.new _ _)).put HB3.out HR3.out⟩
      case measure => simp [intOf]; omega
    · obtain rfl : q = l.length := by omega
      rw [List.take_length] at hM
      have hk0 := ho.res.cell
      have hf0 := ho.res.frozen
      have hl0 := ho.res.lt
      clear ho
      go_wp2_with fail
      obtain ⟨d1, d2⟩ := HO.out.done
      exact ret_cell rfl rfl d1 Try.underlying25 val_size rfl (by rw [← hM.out]; exact d2)

set_option maxRecDepth 100000 in
set_option maxHeartbeats 4000000 in
theorem tplain {n : Nat} (hn1 : n ≤ 1000000) (t : T) (hn : Neat n t) (b : Bool) (hb : b = true ↔ PlainT t) (v : Value) (w : World) (S : Nat → Prop) (h : RepT w S v t) :
    Calls Try.prog 11 #[v] w fun e w' => e = .returned (.bool b) ∧ Below w.heap.size w w' := by
  have HB : Hid (decide (T.cmp t.strip t = 0) = b) := by
    show _ = _
    rw [Bool.eq_iff_iff, decide_eq_true_eq, hb]
    exact ⟨cmp_is (strip_neat hn).parts hn.parts, fun e => by unfold PlainT at e; rw [e]; exact (cmp_1 t).refl⟩
  have HN := Lib.hid hn
  have HR := Lib.hid h
  obtain ⟨la, lc, ma, mc, rfl, -⟩ := h.inv
  clear h hn hb
  go_enter Try.func11, Try.ntmps11
  go_wp2_with fail
  go_region_with (first
    | (go_at_call 22; refine (tstrip hn1 t HN.out _ _ S (HR.out.keep (by exact Below.drew (Below.new _ _)))).mono ?_; rintro e w2 ⟨v2, rfl, hr2, hb2⟩; obtain ⟨la4, lc4, ma4, mc4, rfl, -⟩ := hr2.inv; have hbq := Below.next (Below.drew (Below.new w (.cells #[.int .i64 t.kind, .bool t.bool, .int .i64 t.int, .string t.str, .slice la t.list.length lc, .slice ma t.map.length mc] 25))) hb2; have k2 := ((Blk.new w 25 #[.int .i64 t.kind, .bool t.bool, .int .i64 t.int, .string t.str, .slice la t.list.length lc, .slice ma t.map.length mc]).drew.keep hb2).cell; have l2 := ((Blk.new w 25 #[.int .i64 t.kind, .bool t.bool, .int .i64 t.int, .string t.str, .slice la t.list.length lc, .slice ma t.map.length mc]).drew.keep hb2).lt; have HBQ := Lib.hid hbq; have HR2 := Lib.hid hr2; clear hbq hr2 hb2)
    | (go_at_call 26; refine (tsame t.strip t _ _ _ _ _ HR2.out (HR.out.keep HBQ.out)).mono ?_; rintro e w3 ⟨rfl, hb3⟩; have HB3 := Lib.hid (Below.next HBQ.out hb3); clear hb3))
  all_goals
    go_wp2_with fail
    go_ret
    exact ⟨by rw [← HB.out]; rfl, HB3.out⟩
end Go.Proofs.Ythkkmnmejciomaa
