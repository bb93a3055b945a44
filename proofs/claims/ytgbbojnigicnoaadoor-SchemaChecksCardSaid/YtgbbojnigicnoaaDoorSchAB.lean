/- Several texts as one. -/
import Derived.Test.YtgbbojnigicnoaaDoorGetB
import Derived.Deep.DrawnRows
import Derived.Deep.Cut
import Derived.Test.YtgbbojnigicnoaaDoorSchPQ
import Derived.Test.YtgbbojnigicnoaaDoorScalV
import Derived.Test.YtgbbojnigicnoaaDoorTailB
import Derived.Lib.SlicesS
/- slices.ContainsFunc at values and at pairs, by what the function says of each. -/
namespace Go.Proofs.YtgbbojnigicnoaaDoor
open Go.RowKit
attribute [local go_sem ↓] Go.wp_at_zero Go.wp_at_succ

/-- What a function says of the values of a row. -/
def SaysVT (n : Nat) (w : World) (S : Nat → Prop) (p : T → Bool) (x : T) : Prop :=
  ∀ (w' : World) (v : Value), Below n w w' → RepT w' S v x → Calls Tryd.prog 56 #[v] w' fun e w2 => e = .returned (.bool (p x)) ∧ Below w'.heap.size w' w2
set_option maxRecDepth 100000 in
set_option maxHeartbeats 1000000 in
theorem idxVT (l : List T) (p : T → Bool) (a : Option Addr) (c : Nat) (w : World) (S : Nat → Prop) (h : RepL w S a l) (hl : l.length ≤ 1000000000) (hf : ∀ x ∈ l, SaysVT w.heap.size w S p x) :
    Calls Tryd.prog 59 #[.slice a l.length c, .func (.func 56) #[] #[]] w fun e w' => ∃ r : Int, e = .returned (.int .i64 r) ∧ decide (0 ≤ r) = l.any p ∧ Below w.heap.size w w' := by
  have HL := Lib.hid h
  have HF := Lib.hid hf
  clear h hf
  go_enter Tryd.func59, Tryd.ntmps59
  go_wp2_with fail
  go_loopw [8] (fun y wr => ∃ q : Nat, q ≤ l.length ∧ y = .int .i64 q ∧ Hid ((l.take q).any p = false) ∧ Hid (Below w.heap.size w wr)) (fun y _ => l.length - (intOf y).toNat)
  case atStart => exact ⟨0, Nat.zero_le _, rfl, Lib.hid (by simp), Lib.hid (Below.refl _ _)⟩
  case round =>
    obtain ⟨q, hq, rfl, hP, HB⟩ := hrel
    by_cases hlt : q < l.length
    · obtain ⟨b, o, la, lc, ma, mc, rfl, -, hbl, ⟨c0, c1, c2, c3, c4, c5⟩, hr⟩ := (HL.out.keep HB.out).at_ hlt
      have CF := Lib.hid (HF.out l[q] (List.getElem_mem hlt) wr _ HB.out hr)
      have HTK := Lib.hid (show (l.take (q + 1)).any p = ((l.take q).any p || p l[q]) from by rw [List.take_succ_eq_append_getElem hlt, List.any_append, List.any_cons, List.any_nil, Bool.or_false])
      have HAN := Lib.hid (show p l[q] = true → l.any p = true from fun e => List.any_eq_true.2 ⟨_, List.getElem_mem hlt, e⟩)
      have gi1 : (0 : Int) ≤ (q : Int) := by omega
      have gi2 : (q : Int) < (l.length : Int) := by omega
      clear hr
      generalize hpb : p l[q] = pb at *
      generalize l[q] = x at *
      go_wp2_with fail
      refine CF.out.mono ?_
      rintro e w1 ⟨rfl, hb1⟩
      have HB1 := Lib.hid (Below.next HB.out hb1)
      clear hb1 hpb
      cases pb
      · go_wp2_with fail
        go_roundw
        case rel => exact ⟨q + 1, by omega, by go_num, Lib.hid (by rw [HTK.out, hP.out]; rfl), HB1⟩
        case measure => simp [intOf]; omega
      · go_wp2_with fail
        go_ret
        exact ⟨(q : Int), rfl, by rw [show l.any p = true from by first | exact HAN.out rfl | exact HAN.out trivial]; exact decide_eq_true gi1, HB1.out⟩
    · obtain rfl : q = l.length := by omega
      have HN := Lib.hid (show l.any p = false from by have h9 := hP.out; rwa [List.take_length] at h9)
      go_wp2_with fail
      go_ret
      exact ⟨-1, rfl, by rw [HN.out]; rfl, HB.out⟩
set_option maxRecDepth 100000 in
theorem conVT (l : List T) (p : T → Bool) (a : Option Addr) (c : Nat) (w : World) (S : Nat → Prop) (h : RepL w S a l) (hl : l.length ≤ 1000000000) (hf : ∀ x ∈ l, SaysVT w.heap.size w S p x) :
    Calls Tryd.prog 51 #[.slice a l.length c, .func (.func 56) #[] #[]] w fun e w' => e = .returned (.bool (l.any p)) ∧ Below w.heap.size w w' := by
  have CI := Lib.hid (idxVT l p a c w S h hl hf)
  clear h hf hl
  generalize l.any p = r at *
  generalize l.length = n at *
  go_enter Tryd.func51, Tryd.ntmps51
  go_wp2_with fail
  refine CI.out.mono ?_
  rintro e w1 ⟨k, rfl, hk, hb⟩
  have HB := Lib.hid hb
  have HK := Lib.hid hk
  clear hb hk
  go_wp2_with fail
  go_ret
  exact ⟨by rw [← HK.out]; rfl, HB.out⟩
/-- What a function says of the values of a row. -/
def SaysVO (n : Nat) (w : World) (S : Nat → Prop) (g : Nat) (p : T → Bool) (x : T) : Prop :=
  ∀ (w' : World) (v : Value), Below n w w' → RepT w' S v x → Calls Tryd.prog 52 #[v, .pointer (some ⟨g, 0, none⟩)] w' fun e w2 => e = .returned (.bool (p x)) ∧ Below w'.heap.size w' w2
set_option maxRecDepth 100000 in
set_option maxHeartbeats 1000000 in
theorem idxVO (l : List T) (p : T → Bool) (a : Option Addr) (c : Nat) (w : World) (S : Nat → Prop) (h : RepL w S a l) (hl : l.length ≤ 1000000000) (g : Nat) (hf : ∀ x ∈ l, SaysVO w.heap.size w S g p x) :
    Calls Tryd.prog 59 #[.slice a l.length c, .func (.func 52) #[] #[.pointer (some ⟨g, 0, none⟩)]] w fun e w' => ∃ r : Int, e = .returned (.int .i64 r) ∧ decide (0 ≤ r) = l.any p ∧ Below w.heap.size w w' := by
  have HL := Lib.hid h
  have HF := Lib.hid hf
  clear h hf
  go_enter Tryd.func59, Tryd.ntmps59
  go_wp2_with fail
  go_loopw [8] (fun y wr => ∃ q : Nat, q ≤ l.length ∧ y = .int .i64 q ∧ Hid ((l.take q).any p = false) ∧ Hid (Below w.heap.size w wr)) (fun y _ => l.length - (intOf y).toNat)
  case atStart => exact ⟨0, Nat.zero_le _, rfl, Lib.hid (by simp), Lib.hid (Below.refl _ _)⟩
  case round =>
    obtain ⟨q, hq, rfl, hP, HB⟩ := hrel
    by_cases hlt : q < l.length
    · obtain ⟨b, o, la, lc, ma, mc, rfl, -, hbl, ⟨c0, c1, c2, c3, c4, c5⟩, hr⟩ := (HL.out.keep HB.out).at_ hlt
      have CF := Lib.hid (HF.out l[q] (List.getElem_mem hlt) wr _ HB.out hr)
      have HTK := Lib.hid (show (l.take (q + 1)).any p = ((l.take q).any p || p l[q]) from by rw [List.take_succ_eq_append_getElem hlt, List.any_append, List.any_cons, List.any_nil, Bool.or_false])
      have HAN := Lib.hid (show p l[q] = true → l.any p = true from fun e => List.any_eq_true.2 ⟨_, List.getElem_mem hlt, e⟩)
      have gi1 : (0 : Int) ≤ (q : Int) := by omega
      have gi2 : (q : Int) < (l.length : Int) := by omega
      clear hr
      generalize hpb : p l[q] = pb at *
      generalize l[q] = x at *
      go_wp2_with fail
      refine CF.out.mono ?_
      rintro e w1 ⟨rfl, hb1⟩
      have HB1 := Lib.hid (Below.next HB.out hb1)
      clear hb1 hpb
      cases pb
      · go_wp2_with fail
        go_roundw
        case rel => exact ⟨q + 1, by omega, by go_num, Lib.hid (by rw [HTK.out, hP.out]; rfl), HB1⟩
        case measure => simp [intOf]; omega
      · go_wp2_with fail
        go_ret
        exact ⟨(q : Int), rfl, by rw [show l.any p = true from by first | exact HAN.out rfl | exact HAN.out trivial]; exact decide_eq_true gi1, HB1.out⟩
    · obtain rfl : q = l.length := by omega
      have HN := Lib.hid (show l.any p = false from by have h9 := hP.out; rwa [List.take_length] at h9)
      go_wp2_with fail
      go_ret
      exact ⟨-1, rfl, by rw [HN.out]; rfl, HB.out⟩
set_option maxRecDepth 100000 in
theorem conVO (l : List T) (p : T → Bool) (a : Option Addr) (c : Nat) (w : World) (S : Nat → Prop) (h : RepL w S a l) (hl : l.length ≤ 1000000000) (g : Nat) (hf : ∀ x ∈ l, SaysVO w.heap.size w S g p x) :
    Calls Tryd.prog 51 #[.slice a l.length c, .func (.func 52) #[] #[.pointer (some ⟨g, 0, none⟩)]] w fun e w' => e = .returned (.bool (l.any p)) ∧ Below w.heap.size w w' := by
  have CI := Lib.hid (idxVO l p a c w S h hl g hf)
  clear h hf hl
  generalize l.any p = r at *
  generalize l.length = n at *
  go_enter Tryd.func51, Tryd.ntmps51
  go_wp2_with fail
  refine CI.out.mono ?_
  rintro e w1 ⟨k, rfl, hk, hb⟩
  have HB := Lib.hid hb
  have HK := Lib.hid hk
  clear hb hk
  go_wp2_with fail
  go_ret
  exact ⟨by rw [← HK.out]; rfl, HB.out⟩
/-- What a function says of the pairs of a row. -/
def SaysMR (n : Nat) (w : World) (S : Nat → Prop) (p : ByteArray × T → Bool) (x : ByteArray × T) : Prop :=
  ∀ (w' : World) (la : Option Addr) (lc : Nat) (ma : Option Addr) (mc : Nat), Below n w w' → RepT w' S (.agg #[.int .i64 x.2.kind, .bool x.2.bool, .int .i64 x.2.int, .string x.2.str, .slice la x.2.list.length lc, .slice ma x.2.map.length mc]) x.2 → x.1.size ≤ 140737488351232 → Calls Tryd.prog 18 #[.agg #[.string x.1, .int .i64 x.2.kind, .bool x.2.bool, .int .i64 x.2.int, .string x.2.str, .slice la x.2.list.length lc, .slice ma x.2.map.length mc]] w' fun e w2 => e = .returned (.bool (p x)) ∧ Below w'.heap.size w' w2
set_option maxRecDepth 100000 in
set_option maxHeartbeats 1000000 in
theorem idxMR (l : List (ByteArray × T)) (p : ByteArray × T → Bool) (a : Option Addr) (c : Nat) (w : World) (S : Nat → Prop) (h : RepM w S a l) (hl : l.length ≤ 1000000000) (hf : ∀ x ∈ l, SaysMR w.heap.size w S p x) :
    Calls Tryd.prog 39 #[.slice a l.length c, .func (.func 18) #[] #[]] w fun e w' => ∃ r : Int, e = .returned (.int .i64 r) ∧ decide (0 ≤ r) = l.any p ∧ Below w.heap.size w w' := by
  have HL := Lib.hid h
  have HF := Lib.hid hf
  clear h hf
  go_enter Tryd.func39, Tryd.ntmps39
  go_wp2_with fail
  go_loopw [8] (fun y wr => ∃ q : Nat, q ≤ l.length ∧ y = .int .i64 q ∧ Hid ((l.take q).any p = false) ∧ Hid (Below w.heap.size w wr)) (fun y _ => l.length - (intOf y).toNat)
  case atStart => exact ⟨0, Nat.zero_le _, rfl, Lib.hid (by simp), Lib.hid (Below.refl _ _)⟩
  case round =>
    obtain ⟨q, hq, rfl, hP, HB⟩ := hrel
    by_cases hlt : q < l.length
    · obtain ⟨b, o, la, lc, ma, mc, rfl, -, hbl, hkz, ⟨c0, c1, c2, c3, c4, c5, c6⟩, hr⟩ := (HL.out.keep HB.out).at_ hlt
      have CF := Lib.hid (HF.out l[q] (List.getElem_mem hlt) wr _ _ _ _ HB.out hr hkz)
      have HTK := Lib.hid (show (l.take (q + 1)).any p = ((l.take q).any p || p l[q]) from by rw [List.take_succ_eq_append_getElem hlt, List.any_append, List.any_cons, List.any_nil, Bool.or_false])
      have HAN := Lib.hid (show p l[q] = true → l.any p = true from fun e => List.any_eq_true.2 ⟨_, List.getElem_mem hlt, e⟩)
      have gi1 : (0 : Int) ≤ (q : Int) := by omega
      have gi2 : (q : Int) < (l.length : Int) := by omega
      clear hr
      generalize hpb : p l[q] = pb at *
      generalize l[q] = x at *
      go_wp2_with fail
      refine CF.out.mono ?_
      rintro e w1 ⟨rfl, hb1⟩
      have HB1 := Lib.hid (Below.next HB.out hb1)
      clear hb1 hpb
      cases pb
      · go_wp2_with fail
        go_roundw
        case rel => exact ⟨q + 1, by omega, by go_num, Lib.hid (by rw [HTK.out, hP.out]; rfl), HB1⟩
        case measure => simp [intOf]; omega
      · go_wp2_with fail
        go_ret
        exact ⟨(q : Int), rfl, by rw [show l.any p = true from by first | exact HAN.out rfl | exact HAN.out trivial]; exact decide_eq_true gi1, HB1.out⟩
    · obtain rfl : q = l.length := by omega
      have HN := Lib.hid (show l.any p = false from by have h9 := hP.out; rwa [List.take_length] at h9)
      go_wp2_with fail
      go_ret
      exact ⟨-1, rfl, by rw [HN.out]; rfl, HB.out⟩
set_option maxRecDepth 100000 in
theorem conMR (l : List (ByteArray × T)) (p : ByteArray × T → Bool) (a : Option Addr) (c : Nat) (w : World) (S : Nat → Prop) (h : RepM w S a l) (hl : l.length ≤ 1000000000) (hf : ∀ x ∈ l, SaysMR w.heap.size w S p x) :
    Calls Tryd.prog 17 #[.slice a l.length c, .func (.func 18) #[] #[]] w fun e w' => e = .returned (.bool (l.any p)) ∧ Below w.heap.size w w' := by
  have CI := Lib.hid (idxMR l p a c w S h hl hf)
  clear h hf hl
  generalize l.any p = r at *
  generalize l.length = n at *
  go_enter Tryd.func17, Tryd.ntmps17
  go_wp2_with fail
  refine CI.out.mono ?_
  rintro e w1 ⟨k, rfl, hk, hb⟩
  have HB := Lib.hid hb
  have HK := Lib.hid hk
  clear hb hk
  go_wp2_with fail
  go_ret
  exact ⟨by rw [← HK.out]; rfl, HB.out⟩
/-- What a function says of the pairs of a row. -/
def SaysMW (n : Nat) (w : World) (S : Nat → Prop) (p : ByteArray × T → Bool) (x : ByteArray × T) : Prop :=
  ∀ (w' : World) (la : Option Addr) (lc : Nat) (ma : Option Addr) (mc : Nat), Below n w w' → RepT w' S (.agg #[.int .i64 x.2.kind, .bool x.2.bool, .int .i64 x.2.int, .string x.2.str, .slice la x.2.list.length lc, .slice ma x.2.map.length mc]) x.2 → x.1.size ≤ 140737488351232 → Calls Tryd.prog 42 #[.agg #[.string x.1, .int .i64 x.2.kind, .bool x.2.bool, .int .i64 x.2.int, .string x.2.str, .slice la x.2.list.length lc, .slice ma x.2.map.length mc]] w' fun e w2 => e = .returned (.bool (p x)) ∧ Below w'.heap.size w' w2
set_option maxRecDepth 100000 in
set_option maxHeartbeats 1000000 in
theorem idxMW (l : List (ByteArray × T)) (p : ByteArray × T → Bool) (a : Option Addr) (c : Nat) (w : World) (S : Nat → Prop) (h : RepM w S a l) (hl : l.length ≤ 1000000000) (hf : ∀ x ∈ l, SaysMW w.heap.size w S p x) :
    Calls Tryd.prog 39 #[.slice a l.length c, .func (.func 42) #[] #[]] w fun e w' => ∃ r : Int, e = .returned (.int .i64 r) ∧ decide (0 ≤ r) = l.any p ∧ Below w.heap.size w w' := by
  have HL := Lib.hid h
  have HF := Lib.hid hf
  clear h hf
  go_enter Tryd.func39, Tryd.ntmps39
  go_wp2_with fail
  go_loopw [8] (fun y wr => ∃ q : Nat, q ≤ l.length ∧ y = .int .i64 q ∧ Hid ((l.take q).any p = false) ∧ Hid (Below w.heap.size w wr)) (fun y _ => l.length - (intOf y).toNat)
  case atStart => exact ⟨0, Nat.zero_le _, rfl, Lib.hid (by simp), Lib.hid (Below.refl _ _)⟩
  case round =>
    obtain ⟨q, hq, rfl, hP, HB⟩ := hrel
    by_cases hlt : q < l.length
    · obtain ⟨b, o, la, lc, ma, mc, rfl, -, hbl, hkz, ⟨c0, c1, c2, c3, c4, c5, c6⟩, hr⟩ := (HL.out.keep HB.out).at_ hlt
      have CF := Lib.hid (HF.out l[q] (List.getElem_mem hlt) wr _ _ _ _ HB.out hr hkz)
      have HTK := Lib.hid (show (l.take (q + 1)).any p = ((l.take q).any p || p l[q]) from by rw [List.take_succ_eq_append_getElem hlt, List.any_append, List.any_cons, List.any_nil, Bool.or_false])
      have HAN := Lib.hid (show p l[q] = true → l.any p = true from fun e => List.any_eq_true.2 ⟨_, List.getElem_mem hlt, e⟩)
      have gi1 : (0 : Int) ≤ (q : Int) := by omega
      have gi2 : (q : Int) < (l.length : Int) := by omega
      clear hr
      generalize hpb : p l[q] = pb at *
      generalize l[q] = x at *
      go_wp2_with fail
      refine CF.out.mono ?_
      rintro e w1 ⟨rfl, hb1⟩
      have HB1 := Lib.hid (Below.next HB.out hb1)
      clear hb1 hpb
      cases pb
      · go_wp2_with fail
        go_roundw
        case rel => exact ⟨q + 1, by omega, by go_num, Lib.hid (by rw [HTK.out, hP.out]; rfl), HB1⟩
        case measure => simp [intOf]; omega
      · go_wp2_with fail
        go_ret
        exact ⟨(q : Int), rfl, by rw [show l.any p = true from by first | exact HAN.out rfl | exact HAN.out trivial]; exact decide_eq_true gi1, HB1.out⟩
    · obtain rfl : q = l.length := by omega
      have HN := Lib.hid (show l.any p = false from by have h9 := hP.out; rwa [List.take_length] at h9)
      go_wp2_with fail
      go_ret
      exact ⟨-1, rfl, by rw [HN.out]; rfl, HB.out⟩
set_option maxRecDepth 100000 in
theorem conMW (l : List (ByteArray × T)) (p : ByteArray × T → Bool) (a : Option Addr) (c : Nat) (w : World) (S : Nat → Prop) (h : RepM w S a l) (hl : l.length ≤ 1000000000) (hf : ∀ x ∈ l, SaysMW w.heap.size w S p x) :
    Calls Tryd.prog 17 #[.slice a l.length c, .func (.func 42) #[] #[]] w fun e w' => e = .returned (.bool (l.any p)) ∧ Below w.heap.size w w' := by
  have CI := Lib.hid (idxMW l p a c w S h hl hf)
  clear h hf hl
  generalize l.any p = r at *
  generalize l.length = n at *
  go_enter Tryd.func17, Tryd.ntmps17
  go_wp2_with fail
  refine CI.out.mono ?_
  rintro e w1 ⟨k, rfl, hk, hb⟩
  have HB := Lib.hid hb
  have HK := Lib.hid hk
  clear hb hk
  go_wp2_with fail
  go_ret
  exact ⟨by rw [← HK.out]; rfl, HB.out⟩
end Go.Proofs.YtgbbojnigicnoaaDoor

/- schema.part, texts, size, wrong, Right. -/
namespace Go.Proofs.YtgbbojnigicnoaaDoor
open Go.RowKit
attribute [local go_sem ↓] Go.wp_at_zero Go.wp_at_succ

/-- What schema reads of the world: the words of kinds. -/
def SchV (w : World) : Prop := w.var? Tryd.prog "mizzen/schema.types" = some (kindsW.map Value.string).toArray
theorem SchV.keep {w w' : World} (h : SchV w) (hb : Below w.heap.size w w') : SchV w' := var_keep h hb
theorem SchV.cell {w : World} (h : SchV w) (j : Nat) (hj : j < kindsW.length) : w.cell? ⟨0, j, none⟩ = some (.string (kindsW.getD j ByteArray.empty)) := by
  have := World.var?_cell (show Tryd.prog.globalNamed "mizzen/schema.types" = some 0 by kernel_rfl) h j
  rw [this]
  simp [List.getD, hj]

set_option maxRecDepth 100000 in
theorem tpart (t : T) (key : ByteArray) (v : Value) (w : World) (S : Nat → Prop) (h : RepT w S v t) (hks : KS t.map) : Calls Tryd.prog 34 #[v, .string key] w (GetPost w (getT t key)) := by
  obtain ⟨la, lc, ma, mc, rfl, -⟩ := h.inv
  have CG := Lib.hid (fun w v h => tget t key v w S h hks)
  have HB0 := Lib.hid (show Blk ((w.alloc (.cells #[.int .i64 t.kind, .bool t.bool, .int .i64 t.int, .string t.str, .slice la t.list.length lc, .slice ma t.map.length mc] 25)).alloc (.cells #[.int .i64 0, .bool false, .int .i64 0, .string ⟨#[]⟩, .slice none 0 0, .slice none 0 0] 25)) (w.heap.size + 1) 25 #[.int .i64 0, .bool false, .int .i64 0, .string ⟨#[]⟩, .slice none 0 0, .slice none 0 0] from Blk.new_at _ _ _ (by simp))
  have HBW := Lib.hid (show Below w.heap.size w ((w.alloc (.cells #[.int .i64 t.kind, .bool t.bool, .int .i64 t.int, .string t.str, .slice la t.list.length lc, .slice ma t.map.length mc] 25)).alloc (.cells #[.int .i64 0, .bool false, .int .i64 0, .string ⟨#[]⟩, .slice none 0 0, .slice none 0 0] 25)) from (Below.new _ _).alloc (by simp) _)
  have HR := Lib.hid (h.keep HBW.out)
  obtain ⟨o, ho⟩ : ∃ o, o = getT t key := ⟨_, rfl⟩
  rw [← ho] at CG ⊢
  clear h ho
  go_enter Tryd.func34, Tryd.ntmps34
  go_wp2_with fail
  refine (CG.out _ _ HR.out).mono ?_
  rintro e w1 ⟨v1, rfl, hr, hb⟩
  obtain ⟨qa, qc, qm, qn, rfl, -⟩ := hr.inv
  have L2 := Lib.hid (HB0.out.keep hb)
  have HW1 := Lib.hid (Below.next HBW.out hb)
  have HR1 := Lib.hid (hr.weak (S' := fun b => w.heap.size + 2 ≤ b) (fun b h _ => by have h2 := h; simp at h2; omega))
  clear hb hr
  have zk := L2.out.cell; have zf := L2.out.frozen; have zl := L2.out.lt
  go_wp2_with fail
  refine ret_cell2 rfl rfl rfl ((((((L2.out.set_ 0 _).set_ 1 _).set_ 2 _).set_ 3 _).set_ 4 _).set_ 5 _) Tryd.underlying25 val_size rfl ⟨_, rfl, ?_, set6_below (o := 0) HW1.out (by omega)⟩
  exact HR1.out.mono (fun b h _ => by have h2 : w.heap.size + 2 ≤ b := h; omega) (fun b o h _ => World.cell?_of_block (set6_heap (o := 0) (show b ≠ w.heap.size + 1 by have h2 : w.heap.size + 2 ≤ b := h; omega)))

set_option maxRecDepth 100000 in
theorem texts1 (x : T) (v : Value) (w : World) (S : Nat → Prop) (h : RepT w S v x) : Calls Tryd.prog 56 #[v] w fun e w2 => e = .returned (.bool (!decide (x.kind = 3))) ∧ Below w.heap.size w w2 := by
  obtain ⟨la, lc, ma, mc, rfl, -⟩ := h.inv
  clear h
  go_enter Tryd.func56, Tryd.ntmps56
  go_wp2_with fail
  go_ret
  exact ⟨by first | rfl | (congr 2; rw [Bool.eq_iff_iff]; simp), Below.new _ _⟩
set_option maxRecDepth 100000 in
theorem ttexts (x : T) (v : Value) (w : World) (S : Nat → Prop) (h : RepT w S v x) (hl : x.list.length ≤ 1000000000) : Calls Tryd.prog 41 #[v] w fun e w2 => e = .returned (.bool (decide (x.kind = 4) && x.list.all fun y => decide (y.kind = 3))) ∧ Below w.heap.size w w2 := by
  obtain ⟨la, lc, ma, mc, rfl, hp⟩ := h.inv
  obtain ⟨-, -, -, -, -, -, -, -, -, hL, -⟩ := hp
  by_cases h4 : x.kind = 4
  · have g : (x.kind == 4) = true := by rw [h4]; rfl
    rw [decide_eq_true h4, Bool.true_and]
    have HN := Lib.hid (show (x.list.all fun y => decide (y.kind = 3)) = !(x.list.any fun y => !decide (y.kind = 3)) from by rw [List.not_any_eq_all_not]; simp)
    rw [HN.out]
    have CC := Lib.hid (fun (w2 : World) (h2 : RepL w2 S la x.list) => conVT x.list (fun y => !decide (y.kind = 3)) la lc w2 S h2 hl (fun y _ w' v' _ hr => texts1 y v' w' S hr))
    have HL := Lib.hid hL
    clear h4 HN h hL hl
    generalize (x.list.any fun y => !decide (y.kind = 3)) = r at *
    go_enter Tryd.func41, Tryd.ntmps41
    go_wp2_with fail
    refine (CC.out _ (HL.out.keep (by exact Below.new _ _))).mono ?_
    rintro e w1 ⟨rfl, hb⟩
    have HB := Lib.hid (Below.next (Below.new _ _) hb)
    clear hb
    go_wp2_with fail
    go_ret
    exact ⟨rfl, HB.out⟩
  · have g : (x.kind == 4) = false := beq_eq_false_iff_ne.2 h4
    rw [decide_eq_false h4, Bool.false_and]
    clear h4 h hL hl
    go_enter Tryd.func41, Tryd.ntmps41
    go_wp2_with fail
    go_ret
    exact ⟨rfl, Below.new _ _⟩

def RightOk (t : T) : Prop := ∀ (w : World) (S : Nat → Prop) (v : Value), RepT w S v t → SchV w → t.wt ≤ 1000000 → Calls Tryd.prog 7 #[v] w fun e w2 => e = .returned (.bool t.sch) ∧ Below w.heap.size w w2
def WrongOk (word : ByteArray) (t : T) : Prop := ∀ (w : World) (S : Nat → Prop) (v : Value), RepT w S v t → SchV w → t.wt ≤ 1000000 → Calls Tryd.prog 19 #[.string word, v] w fun e w2 => e = .returned (.bool (!T.schP (word, t))) ∧ Below w.heap.size w w2

theorem wt_list (t : T) : t.list.length ≤ t.wt := by
  rw [T.wt_eq]
  have : ∀ l : List T, l.length ≤ T.wtL l := by
    intro l
    induction l with
    | nil => simp
    | cons x r ih => rw [T.wtL, T.wt_eq]; simp; omega
  have := this t.list
  omega
theorem wt_map (t : T) : t.map.length ≤ t.wt := by rw [T.wt_eq]; have := len_wt t.map; omega

set_option maxRecDepth 100000 in
theorem right1 (p : ByteArray × T) (hw : WrongOk p.1 p.2) (la : Option Addr) (lc : Nat) (ma : Option Addr) (mc : Nat) (w : World) (S : Nat → Prop) (h : RepT w S (.agg #[.int .i64 p.2.kind, .bool p.2.bool, .int .i64 p.2.int, .string p.2.str, .slice la p.2.list.length lc, .slice ma p.2.map.length mc]) p.2) (hv : SchV w) (hz : p.2.wt ≤ 1000000) :
    Calls Tryd.prog 18 #[.agg #[.string p.1, .int .i64 p.2.kind, .bool p.2.bool, .int .i64 p.2.int, .string p.2.str, .slice la p.2.list.length lc, .slice ma p.2.map.length mc]] w fun e w2 => e = .returned (.bool (!T.schP p)) ∧ Below w.heap.size w w2 := by
  have CW := Lib.hid (fun w2 v2 h2 hv2 => hw w2 S v2 h2 hv2 hz)
  have HR := Lib.hid h
  have HV := Lib.hid hv
  obtain ⟨k, x⟩ := p
  clear h hv hw
  simp only at *
  generalize T.schP (k, x) = r at *
  go_enter Tryd.func18, Tryd.ntmps18
  go_wp2_with fail
  refine (CW.out _ _ (HR.out.keep (by exact Below.new _ _)) (HV.out.keep (by exact Below.new _ _))).mono ?_
  rintro e w1 ⟨rfl, hb⟩
  have HB := Lib.hid (Below.next (Below.new _ _) hb)
  clear hb
  go_wp2_with fail
  go_ret
  exact ⟨rfl, HB.out⟩
set_option maxRecDepth 100000 in
theorem wrong1 (p : ByteArray × T) (hw : RightOk p.2) (la : Option Addr) (lc : Nat) (ma : Option Addr) (mc : Nat) (w : World) (S : Nat → Prop) (h : RepT w S (.agg #[.int .i64 p.2.kind, .bool p.2.bool, .int .i64 p.2.int, .string p.2.str, .slice la p.2.list.length lc, .slice ma p.2.map.length mc]) p.2) (hv : SchV w) (hz : p.2.wt ≤ 1000000) :
    Calls Tryd.prog 42 #[.agg #[.string p.1, .int .i64 p.2.kind, .bool p.2.bool, .int .i64 p.2.int, .string p.2.str, .slice la p.2.list.length lc, .slice ma p.2.map.length mc]] w fun e w2 => e = .returned (.bool (!p.2.sch)) ∧ Below w.heap.size w w2 := by
  have CW := Lib.hid (fun w2 v2 h2 hv2 => hw w2 S v2 h2 hv2 hz)
  have HR := Lib.hid h
  have HV := Lib.hid hv
  obtain ⟨k, x⟩ := p
  clear h hv hw
  simp only at *
  generalize x.sch = r at *
  go_enter Tryd.func42, Tryd.ntmps42
  go_wp2_with fail
  refine (CW.out _ _ (HR.out.keep (by exact Below.new _ _)) (HV.out.keep (by exact Below.new _ _))).mono ?_
  rintro e w1 ⟨rfl, hb⟩
  have HB := Lib.hid (Below.next (Below.new _ _) hb)
  clear hb
  go_wp2_with fail
  go_ret
  exact ⟨rfl, HB.out⟩
theorem all_any {α : Type} (l : List α) (p : α → Bool) : l.all p = !(l.any fun x => !p x) := by rw [List.not_any_eq_all_not]; simp

set_option maxRecDepth 100000 in
set_option maxHeartbeats 1000000 in
theorem right_step (t : T) (hm : ∀ p ∈ t.map, WrongOk p.1 p.2) : RightOk t := by
  intro w S v h hv hz
  obtain ⟨la, lc, ma, mc, rfl, hp⟩ := h.inv
  obtain ⟨-, -, -, -, -, -, -, -, -, -, hM⟩ := hp
  have hml := wt_map t
  by_cases h5 : t.kind = 5
  · have g : (t.kind == 5) = true := by rw [h5]; rfl
    have HN := Lib.hid (show t.sch = !(t.map.any fun p => !T.schP p) from by rw [sch_eq, decide_eq_true h5, Bool.true_and, all_any])
    rw [HN.out]
    have CC := Lib.hid (fun (w2 : World) (hb2 : Below w.heap.size w w2) => conMR t.map (fun p => !T.schP p) ma mc w2 S (hM.keep hb2) (by omega) (fun p hp w' a1 c1 a2 c2 hb hr _ => right1 p (hm p hp) a1 c1 a2 c2 w' S hr (hv.keep (Below.next hb2 hb)) (Nat.le_trans (wt_sub p hp) hz)))
    clear h5 HN h hM hm hz hml
    generalize (t.map.any fun p => !T.schP p) = r at *
    go_enter Tryd.func7, Tryd.ntmps7
    go_wp2_with fail
    refine (CC.out _ (by exact Below.new _ _)).mono ?_
    rintro e w1 ⟨rfl, hb⟩
    have HB := Lib.hid (Below.next (Below.new _ _) hb)
    clear hb
    go_wp2_with fail
    go_ret
    exact ⟨rfl, HB.out⟩
  · have g : (t.kind == 5) = false := beq_eq_false_iff_ne.2 h5
    rw [sch_eq, decide_eq_false h5, Bool.false_and]
    clear h5 h hM hm hz hml
    go_enter Tryd.func7, Tryd.ntmps7
    go_wp2_with fail
    go_ret
    exact ⟨rfl, Below.new _ _⟩

theorem kinds_any (s : ByteArray) : Lib.containsS kindsW s = kindsW.any fun z => decide (s = z) := by
  rw [Bool.eq_iff_iff, Lib.containsS_iff, List.any_eq_true]
  constructor
  · intro h; exact ⟨s, h, by simp⟩
  · rintro ⟨x, hx, h⟩; rw [of_decide_eq_true h]; exact hx

set_option maxRecDepth 100000 in
set_option maxHeartbeats 8000000 in
theorem wrong_step (word : ByteArray) (t : T) (hR : RightOk t) (hm : ∀ p ∈ t.map, RightOk p.2) : WrongOk word t := by
  intro w S v h hv hz
  obtain ⟨la, lc, ma, mc, rfl, hp⟩ := h.inv
  obtain ⟨-, -, -, -, -, -, -, -, -, -, hM⟩ := hp
  have hml := wt_map t
  have hll := wt_list t
  have HR := Lib.hid h
  have HV := Lib.hid hv
  have HBW := Lib.hid (show Below w.heap.size w (w.alloc (.cells #[.int .i64 t.kind, .bool t.bool, .int .i64 t.int, .string t.str, .slice la t.list.length lc, .slice ma t.map.length mc] 25)) from Below.new _ _)
  by_cases h0 : word = typeW
  · subst h0
    have g0 : ((⟨#[116, 121, 112, 101]⟩ : ByteArray).toList == (⟨#[116, 121, 112, 101]⟩ : ByteArray).toList) = true := by rw [keq_iff]; exact decide_eq_true rfl
    have HE := Lib.hid (show T.schP (typeW, t) = _ from by rw [schP_eq, if_pos rfl])
    rw [HE.out]
    clear HE
    show Calls Tryd.prog 19 #[.string ⟨#[116, 121, 112, 101]⟩, _] w _
    have L1 := Lib.hid (show Blk (w.alloc (.cells #[.int .i64 t.kind, .bool t.bool, .int .i64 t.int, .string t.str, .slice la t.list.length lc, .slice ma t.map.length mc] 25)) w.heap.size 25 #[.int .i64 t.kind, .bool t.bool, .int .i64 t.int, .string t.str, .slice la t.list.length lc, .slice ma t.map.length mc] from Blk.new _ _ _)
    have HV1 := Lib.hid (HV.out.keep HBW.out)
    obtain ⟨w1, e1⟩ : ∃ z, z = w.alloc (.cells #[.int .i64 t.kind, .bool t.bool, .int .i64 t.int, .string t.str, .slice la t.list.length lc, .slice ma t.map.length mc] 25) := ⟨_, rfl⟩
    rw [← e1] at HBW L1 HV1
    have E1 := Lib.hid e1
    clear e1
    by_cases h3 : t.kind = 3
    case neg =>
      have g9 : (t.kind != 3) = true := bne_iff_ne.2 h3
      rw [decide_eq_false h3]
      clear h3 h hM hR hm hz hml hll
      go_enter Tryd.func19, Tryd.ntmps19
      go_upto_region 3 with fail
      rw [← E1.out]
      clear E1
      refine wp_region_held_drew (S := (fun w' => ∀ i, w'.cell? ⟨w.heap.size, i, none⟩ = (#[.int .i64 t.kind, .bool t.bool, .int .i64 t.int, .string t.str, .slice la t.list.length lc, .slice ma t.map.length mc] : Array Value)[i]?)) (by kernel_rfl) (by exact (L1.out.keep (Below.refl _ _).drew).cell) (fun hHeld => ?_)
      refine wpAnyH_take (i := 0) (v := ?vm1_0) (by conv => lhs; simp only [List.getElem?_toArray, List.getElem?_cons_succ, List.getElem?_cons_zero]) (by kernel_rfl) (by kernel_rfl) (by kernel_rfl) (by exact fun _ _ _ h => h) (Or.inl ⟨by rfl, ?hym1_0⟩) (by assumption) ?_
      case hym1_0 => (intro w0 hSw; (try dsimp only at hSw); go_simp; try with_reducible rfl)
      try simp only [Act.put, List.setIfInBounds_toArray, List.set_cons_zero, List.set_cons_succ]
      refine wpAnyH_take (i := 1) (v := ?vm1_1) (by conv => lhs; simp only [List.getElem?_toArray, List.getElem?_cons_succ, List.getElem?_cons_zero]) (by kernel_rfl) (by kernel_rfl) (by kernel_rfl) (by exact fun _ _ _ h => h) (Or.inl ⟨by rfl, ?hym1_1⟩) (by assumption) ?_
      case hym1_1 => (intro w0 hSw; (try dsimp only at hSw); go_simp; try with_reducible rfl)
      try simp only [Act.put, List.setIfInBounds_toArray, List.set_cons_zero, List.set_cons_succ]
      refine wpAnyH_take (i := 2) (v := ?vm1_2) (by conv => lhs; simp only [List.getElem?_toArray, List.getElem?_cons_succ, List.getElem?_cons_zero]) (by kernel_rfl) (by kernel_rfl) (by kernel_rfl) (by exact fun _ _ _ h => h) (Or.inl ⟨by rfl, ?hym1_2⟩) (by assumption) ?_
      case hym1_2 => (intro w0 hSw; (try dsimp only at hSw); go_simp; try with_reducible rfl)
      try simp only [Act.put, List.setIfInBounds_toArray, List.set_cons_zero, List.set_cons_succ]
      refine wpAnyH_take (i := 3) (v := ?vm1_3) (by conv => lhs; simp only [List.getElem?_toArray, List.getElem?_cons_succ, List.getElem?_cons_zero]) (by kernel_rfl) (by kernel_rfl) (by kernel_rfl) (by exact fun _ _ _ h => h) (Or.inl ⟨by rfl, ?hym1_3⟩) (by assumption) ?_
      case hym1_3 => (intro w0 hSw; (try dsimp only at hSw); go_simp; try with_reducible rfl)
      try simp only [Act.put, List.setIfInBounds_toArray, List.set_cons_zero, List.set_cons_succ]
      refine wpAnyH_take (i := 4) (v := undef) (by conv => lhs; simp only [List.getElem?_toArray, List.getElem?_cons_succ, List.getElem?_cons_zero]) (by kernel_rfl) (by kernel_rfl) (by kernel_rfl) (by exact fun _ _ _ h => h) (Or.inr ⟨by rfl, rfl⟩) (by assumption) ?_
      try simp only [Act.put, List.setIfInBounds_toArray, List.set_cons_zero, List.set_cons_succ]
      refine wpAnyH_take (i := 5) (v := undef) (by conv => lhs; simp only [List.getElem?_toArray, List.getElem?_cons_succ, List.getElem?_cons_zero]) (by kernel_rfl) (by kernel_rfl) (by kernel_rfl) (by exact fun _ _ _ h => h) (Or.inr ⟨by rfl, rfl⟩) (by assumption) ?_
      try simp only [Act.put, List.setIfInBounds_toArray, List.set_cons_zero, List.set_cons_succ]
      refine wpAnyH_take (i := 6) (v := undef) (by conv => lhs; simp only [List.getElem?_toArray, List.getElem?_cons_succ, List.getElem?_cons_zero]) (by kernel_rfl) (by kernel_rfl) (by kernel_rfl) (by exact fun _ _ _ h => h) (Or.inr ⟨by rfl, rfl⟩) (by assumption) ?_
      try simp only [Act.put, List.setIfInBounds_toArray, List.set_cons_zero, List.set_cons_succ]
      refine wpAnyH_take (i := 7) (v := undef) (by conv => lhs; simp only [List.getElem?_toArray, List.getElem?_cons_succ, List.getElem?_cons_zero]) (by kernel_rfl) (by kernel_rfl) (by kernel_rfl) (by exact fun _ _ _ h => h) (Or.inr ⟨by rfl, rfl⟩) (by assumption) ?_
      try simp only [Act.put, List.setIfInBounds_toArray, List.set_cons_zero, List.set_cons_succ]
      refine wpAnyH_take (i := 8) (v := undef) (by conv => lhs; simp only [List.getElem?_toArray, List.getElem?_cons_succ, List.getElem?_cons_zero]) (by kernel_rfl) (by kernel_rfl) (by kernel_rfl) (by exact fun _ _ _ h => h) (Or.inr ⟨by rfl, rfl⟩) (by assumption) ?_
      try simp only [Act.put, List.setIfInBounds_toArray, List.set_cons_zero, List.set_cons_succ]
      refine wpAnyH_take (i := 9) (v := undef) (by conv => lhs; simp only [List.getElem?_toArray, List.getElem?_cons_succ, List.getElem?_cons_zero]) (by kernel_rfl) (by kernel_rfl) (by kernel_rfl) (by exact fun _ _ _ h => h) (Or.inr ⟨by rfl, rfl⟩) (by assumption) ?_
      try simp only [Act.put, List.setIfInBounds_toArray, List.set_cons_zero, List.set_cons_succ]
      refine wpAnyH_take (i := 10) (v := undef) (by conv => lhs; simp only [List.getElem?_toArray, List.getElem?_cons_succ, List.getElem?_cons_zero]) (by kernel_rfl) (by kernel_rfl) (by kernel_rfl) (by exact fun _ _ _ h => h) (Or.inr ⟨by rfl, rfl⟩) (by assumption) ?_
      try simp only [Act.put, List.setIfInBounds_toArray, List.set_cons_zero, List.set_cons_succ]
      refine wpAnyH_take (i := 11) (v := undef) (by conv => lhs; simp only [List.getElem?_toArray, List.getElem?_cons_succ, List.getElem?_cons_zero]) (by kernel_rfl) (by kernel_rfl) (by kernel_rfl) (by exact fun _ _ _ h => h) (Or.inr ⟨by rfl, rfl⟩) (by assumption) ?_
      try simp only [Act.put, List.setIfInBounds_toArray, List.set_cons_zero, List.set_cons_succ]
      refine wpAnyH_take (i := 12) (v := undef) (by conv => lhs; simp only [List.getElem?_toArray, List.getElem?_cons_succ, List.getElem?_cons_zero]) (by kernel_rfl) (by kernel_rfl) (by kernel_rfl) (by exact fun _ _ _ h => h) (Or.inr ⟨by rfl, rfl⟩) (by assumption) ?_
      try simp only [Act.put, List.setIfInBounds_toArray, List.set_cons_zero, List.set_cons_succ]
      refine wpAnyH_take (i := 13) (v := undef) (by conv => lhs; simp only [List.getElem?_toArray, List.getElem?_cons_succ, List.getElem?_cons_zero]) (by kernel_rfl) (by kernel_rfl) (by kernel_rfl) (by exact fun _ _ _ h => h) (Or.inr ⟨by rfl, rfl⟩) (by assumption) ?_
      try simp only [Act.put, List.setIfInBounds_toArray, List.set_cons_zero, List.set_cons_succ]
      refine wpAnyH_take (i := 14) (v := ?vm1_14) (by conv => lhs; simp only [List.getElem?_toArray, List.getElem?_cons_succ, List.getElem?_cons_zero]) (by kernel_rfl) (by kernel_rfl) (by kernel_rfl) (by exact fun _ _ _ h => h) (Or.inl ⟨by rfl, ?hym1_14⟩) (by assumption) ?_
      case hym1_14 => (intro w0 hSw; (try dsimp only at hSw); go_simp; try with_reducible rfl)
      try simp only [Act.put, List.setIfInBounds_toArray, List.set_cons_zero, List.set_cons_succ]
      refine wpAnyH_take (i := 15) (v := ?vm1_15) (by conv => lhs; simp only [List.getElem?_toArray, List.getElem?_cons_succ, List.getElem?_cons_zero]) (by kernel_rfl) (by kernel_rfl) (by kernel_rfl) (by exact fun _ _ _ h => h) (Or.inl ⟨by rfl, ?hym1_15⟩) (by assumption) ?_
      case hym1_15 => (intro w0 hSw; (try dsimp only at hSw); go_simp; try with_reducible rfl)
      try simp only [Act.put, List.setIfInBounds_toArray, List.set_cons_zero, List.set_cons_succ]
      refine wpAnyH_done (by kernel_rfl) ?_ _
      go_wp2_with fail
      go_ret
      exact ⟨rfl, Below.drew HBW.out⟩
    have g9 : (t.kind != 3) = false := by rw [h3]; rfl
    rw [decide_eq_true h3, Bool.true_and]
    by_cases ha : t.str = anyW
    case pos =>
      have g10 : (t.str.toList != (⟨#[97, 110, 121]⟩ : ByteArray).toList) = false := by show (!(t.str.toList == anyW.toList)) = false; rw [keq_iff, decide_eq_true ha]; rfl
      have g11 : t.str.toList = [97, 110, 121] := by rw [ha, ByteArray.toList_eq]; rfl
      rw [decide_eq_true ha, Bool.true_or]
      clear h3 ha h hM hR hm hz hml hll
      go_enter Tryd.func19, Tryd.ntmps19
      go_upto_region 3 with fail
      rw [← E1.out]
      clear E1
      refine wp_region_held_drew (S := (fun w' => ∀ i, w'.cell? ⟨w.heap.size, i, none⟩ = (#[.int .i64 t.kind, .bool t.bool, .int .i64 t.int, .string t.str, .slice la t.list.length lc, .slice ma t.map.length mc] : Array Value)[i]?)) (by kernel_rfl) (by exact (L1.out.keep (Below.refl _ _).drew).cell) (fun hHeld => ?_)
      refine wpAnyH_take (i := 0) (v := ?vm2_0) (by conv => lhs; simp only [List.getElem?_toArray, List.getElem?_cons_succ, List.getElem?_cons_zero]) (by kernel_rfl) (by kernel_rfl) (by kernel_rfl) (by exact fun _ _ _ h => h) (Or.inl ⟨by rfl, ?hym2_0⟩) (by assumption) ?_
      case hym2_0 => (intro w0 hSw; (try dsimp only at hSw); go_simp; try with_reducible rfl)
      try simp only [Act.put, List.setIfInBounds_toArray, List.set_cons_zero, List.set_cons_succ]
      refine wpAnyH_take (i := 1) (v := ?vm2_1) (by conv => lhs; simp only [List.getElem?_toArray, List.getElem?_cons_succ, List.getElem?_cons_zero]) (by kernel_rfl) (by kernel_rfl) (by kernel_rfl) (by exact fun _ _ _ h => h) (Or.inl ⟨by rfl, ?hym2_1⟩) (by assumption) ?_
      case hym2_1 => (intro w0 hSw; (try dsimp only at hSw); go_simp; try with_reducible rfl)
      try simp only [Act.put, List.setIfInBounds_toArray, List.set_cons_zero, List.set_cons_succ]
      refine wpAnyH_take (i := 2) (v := .bool false) (by conv => lhs; simp only [List.getElem?_toArray, List.getElem?_cons_succ, List.getElem?_cons_zero]) (by kernel_rfl) (by kernel_rfl) (by kernel_rfl) (by exact fun _ _ _ h => h) (Or.inl ⟨by rfl, ?hym2_2⟩) (by assumption) ?_
      case hym2_2 => (intro w0 hSw; (try dsimp only at hSw); go_simp; try with_reducible rfl)
      try simp only [Act.put, List.setIfInBounds_toArray, List.set_cons_zero, List.set_cons_succ]
      refine wpAnyH_take (i := 3) (v := .bool false) (by conv => lhs; simp only [List.getElem?_toArray, List.getElem?_cons_succ, List.getElem?_cons_zero]) (by kernel_rfl) (by kernel_rfl) (by kernel_rfl) (by exact fun _ _ _ h => h) (Or.inl ⟨by rfl, ?hym2_3⟩) (by assumption) ?_
      case hym2_3 => (intro w0 hSw; (try dsimp only at hSw); go_simp; try with_reducible rfl)
      try simp only [Act.put, List.setIfInBounds_toArray, List.set_cons_zero, List.set_cons_succ]
      refine wpAnyH_take (i := 4) (v := ?vm2_4) (by conv => lhs; simp only [List.getElem?_toArray, List.getElem?_cons_succ, List.getElem?_cons_zero]) (by kernel_rfl) (by kernel_rfl) (by kernel_rfl) (by exact fun _ _ _ h => h) (Or.inl ⟨by rfl, ?hym2_4⟩) (by assumption) ?_
      case hym2_4 => (intro w0 hSw; (try dsimp only at hSw); go_simp; try with_reducible rfl)
      try simp only [Act.put, List.setIfInBounds_toArray, List.set_cons_zero, List.set_cons_succ]
      refine wpAnyH_take (i := 5) (v := ?vm2_5) (by conv => lhs; simp only [List.getElem?_toArray, List.getElem?_cons_succ, List.getElem?_cons_zero]) (by kernel_rfl) (by kernel_rfl) (by kernel_rfl) (by exact fun _ _ _ h => h) (Or.inl ⟨by rfl, ?hym2_5⟩) (by assumption) ?_
      case hym2_5 => (intro w0 hSw; (try dsimp only at hSw); go_simp; try with_reducible rfl)
      try simp only [Act.put, List.setIfInBounds_toArray, List.set_cons_zero, List.set_cons_succ]
      refine wpAnyH_take (i := 6) (v := .bool false) (by conv => lhs; simp only [List.getElem?_toArray, List.getElem?_cons_succ, List.getElem?_cons_zero]) (by kernel_rfl) (by kernel_rfl) (by kernel_rfl) (by exact fun _ _ _ h => h) (Or.inl ⟨by rfl, ?hym2_6⟩) (by assumption) ?_
      case hym2_6 => (intro w0 hSw; (try dsimp only at hSw); go_simp; try with_reducible rfl)
      try simp only [Act.put, List.setIfInBounds_toArray, List.set_cons_zero, List.set_cons_succ]
      refine wpAnyH_take (i := 7) (v := .bool false) (by conv => lhs; simp only [List.getElem?_toArray, List.getElem?_cons_succ, List.getElem?_cons_zero]) (by kernel_rfl) (by kernel_rfl) (by kernel_rfl) (by exact fun _ _ _ h => h) (Or.inl ⟨by rfl, ?hym2_7⟩) (by assumption) ?_
      case hym2_7 => (intro w0 hSw; (try dsimp only at hSw); go_simp; try with_reducible rfl)
      try simp only [Act.put, List.setIfInBounds_toArray, List.set_cons_zero, List.set_cons_succ]
      refine wpAnyH_take (i := 8) (v := undef) (by conv => lhs; simp only [List.getElem?_toArray, List.getElem?_cons_succ, List.getElem?_cons_zero]) (by kernel_rfl) (by kernel_rfl) (by kernel_rfl) (by exact fun _ _ _ h => h) (Or.inr ⟨by rfl, rfl⟩) (by assumption) ?_
      try simp only [Act.put, List.setIfInBounds_toArray, List.set_cons_zero, List.set_cons_succ]
      refine wpAnyH_take (i := 9) (v := undef) (by conv => lhs; simp only [List.getElem?_toArray, List.getElem?_cons_succ, List.getElem?_cons_zero]) (by kernel_rfl) (by kernel_rfl) (by kernel_rfl) (by exact fun _ _ _ h => h) (Or.inr ⟨by rfl, rfl⟩) (by assumption) ?_
      try simp only [Act.put, List.setIfInBounds_toArray, List.set_cons_zero, List.set_cons_succ]
      refine wpAnyH_take (i := 10) (v := undef) (by conv => lhs; simp only [List.getElem?_toArray, List.getElem?_cons_succ, List.getElem?_cons_zero]) (by kernel_rfl) (by kernel_rfl) (by kernel_rfl) (by exact fun _ _ _ h => h) (Or.inr ⟨by rfl, rfl⟩) (by assumption) ?_
      try simp only [Act.put, List.setIfInBounds_toArray, List.set_cons_zero, List.set_cons_succ]
      refine wpAnyH_take (i := 11) (v := undef) (by conv => lhs; simp only [List.getElem?_toArray, List.getElem?_cons_succ, List.getElem?_cons_zero]) (by kernel_rfl) (by kernel_rfl) (by kernel_rfl) (by exact fun _ _ _ h => h) (Or.inr ⟨by rfl, rfl⟩) (by assumption) ?_
      try simp only [Act.put, List.setIfInBounds_toArray, List.set_cons_zero, List.set_cons_succ]
      refine wpAnyH_take (i := 12) (v := undef) (by conv => lhs; simp only [List.getElem?_toArray, List.getElem?_cons_succ, List.getElem?_cons_zero]) (by kernel_rfl) (by kernel_rfl) (by kernel_rfl) (by exact fun _ _ _ h => h) (Or.inr ⟨by rfl, rfl⟩) (by assumption) ?_
      try simp only [Act.put, List.setIfInBounds_toArray, List.set_cons_zero, List.set_cons_succ]
      refine wpAnyH_take (i := 13) (v := .bool false) (by conv => lhs; simp only [List.getElem?_toArray, List.getElem?_cons_succ, List.getElem?_cons_zero]) (by kernel_rfl) (by kernel_rfl) (by kernel_rfl) (by exact fun _ _ _ h => h) (Or.inl ⟨by rfl, ?hym2_13⟩) (by assumption) ?_
      case hym2_13 => (intro w0 hSw; (try dsimp only at hSw); go_simp; try with_reducible rfl)
      try simp only [Act.put, List.setIfInBounds_toArray, List.set_cons_zero, List.set_cons_succ]
      refine wpAnyH_take (i := 14) (v := .bool false) (by conv => lhs; simp only [List.getElem?_toArray, List.getElem?_cons_succ, List.getElem?_cons_zero]) (by kernel_rfl) (by kernel_rfl) (by kernel_rfl) (by exact fun _ _ _ h => h) (Or.inl ⟨by rfl, ?hym2_14⟩) (by assumption) ?_
      case hym2_14 => (intro w0 hSw; (try dsimp only at hSw); go_simp; try with_reducible rfl)
      try simp only [Act.put, List.setIfInBounds_toArray, List.set_cons_zero, List.set_cons_succ]
      refine wpAnyH_take (i := 15) (v := .bool false) (by conv => lhs; simp only [List.getElem?_toArray, List.getElem?_cons_succ, List.getElem?_cons_zero]) (by kernel_rfl) (by kernel_rfl) (by kernel_rfl) (by exact fun _ _ _ h => h) (Or.inl ⟨by rfl, ?hym2_15⟩) (by assumption) ?_
      case hym2_15 => (intro w0 hSw; (try dsimp only at hSw); go_simp; try with_reducible rfl)
      try simp only [Act.put, List.setIfInBounds_toArray, List.set_cons_zero, List.set_cons_succ]
      refine wpAnyH_done (by kernel_rfl) ?_ _
      go_wp2_with fail
      go_ret
      exact ⟨rfl, Below.drew HBW.out⟩
    have g10 : (t.str.toList != (⟨#[97, 110, 121]⟩ : ByteArray).toList) = true := by
      show (!(t.str.toList == anyW.toList)) = true; rw [keq_iff, decide_eq_false ha]; rfl
    have g11 : ¬ t.str.toList = [97, 110, 121] := fun e => ha (of_decide_eq_true ((keq_iff _ _).symm.trans (by rw [e, ByteArray.toList_eq]; rfl)))
    rw [decide_eq_false ha, Bool.false_or]
    have CI := Lib.hid (fun (w2 : World) (hv2 : SchV w2) => Tryd.slices_Contains_string 0 0 6 6 kindsW t.str w2 (Nat.le_refl _) (by omega) (fun j hj => by rw [Nat.zero_add]; exact hv2.cell j hj))
    have h10 : kindsW.take 6 = kindsW := rfl
    rw [h10, kinds_any] at CI
    clear h10 h3 ha h hM hR hm hz hml hll
    generalize (kindsW.any fun z => decide (t.str = z)) = r at *
    go_enter Tryd.func19, Tryd.ntmps19
    go_upto_region 3 with fail
    rw [← E1.out]
    clear E1
    refine wp_region_held_drew (S := (fun w' => ∀ i, w'.cell? ⟨w.heap.size, i, none⟩ = (#[.int .i64 t.kind, .bool t.bool, .int .i64 t.int, .string t.str, .slice la t.list.length lc, .slice ma t.map.length mc] : Array Value)[i]?)) (by kernel_rfl) (by exact (L1.out.keep (Below.refl _ _).drew).cell) (fun hHeld => ?_)
    refine wpAnyH_take (i := 0) (v := ?vm3_0) (by conv => lhs; simp only [List.getElem?_toArray, List.getElem?_cons_succ, List.getElem?_cons_zero]) (by kernel_rfl) (by kernel_rfl) (by kernel_rfl) (by exact fun _ _ _ h => h) (Or.inl ⟨by rfl, ?hym3_0⟩) (by assumption) ?_
    case hym3_0 => (intro w0 hSw; (try dsimp only at hSw); go_simp; try with_reducible rfl)
    try simp only [Act.put, List.setIfInBounds_toArray, List.set_cons_zero, List.set_cons_succ]
    refine wpAnyH_take (i := 1) (v := ?vm3_1) (by conv => lhs; simp only [List.getElem?_toArray, List.getElem?_cons_succ, List.getElem?_cons_zero]) (by kernel_rfl) (by kernel_rfl) (by kernel_rfl) (by exact fun _ _ _ h => h) (Or.inl ⟨by rfl, ?hym3_1⟩) (by assumption) ?_
    case hym3_1 => (intro w0 hSw; (try dsimp only at hSw); go_simp; try with_reducible rfl)
    try simp only [Act.put, List.setIfInBounds_toArray, List.set_cons_zero, List.set_cons_succ]
    refine wpAnyH_take (i := 2) (v := .bool false) (by conv => lhs; simp only [List.getElem?_toArray, List.getElem?_cons_succ, List.getElem?_cons_zero]) (by kernel_rfl) (by kernel_rfl) (by kernel_rfl) (by exact fun _ _ _ h => h) (Or.inl ⟨by rfl, ?hym3_2⟩) (by assumption) ?_
    case hym3_2 => (intro w0 hSw; (try dsimp only at hSw); go_simp; try with_reducible rfl)
    try simp only [Act.put, List.setIfInBounds_toArray, List.set_cons_zero, List.set_cons_succ]
    refine wpAnyH_take (i := 3) (v := .bool false) (by conv => lhs; simp only [List.getElem?_toArray, List.getElem?_cons_succ, List.getElem?_cons_zero]) (by kernel_rfl) (by kernel_rfl) (by kernel_rfl) (by exact fun _ _ _ h => h) (Or.inl ⟨by rfl, ?hym3_3⟩) (by assumption) ?_
    case hym3_3 => (intro w0 hSw; (try dsimp only at hSw); go_simp; try with_reducible rfl)
    try simp only [Act.put, List.setIfInBounds_toArray, List.set_cons_zero, List.set_cons_succ]
    refine wpAnyH_take (i := 4) (v := ?vm3_4) (by conv => lhs; simp only [List.getElem?_toArray, List.getElem?_cons_succ, List.getElem?_cons_zero]) (by kernel_rfl) (by kernel_rfl) (by kernel_rfl) (by exact fun _ _ _ h => h) (Or.inl ⟨by rfl, ?hym3_4⟩) (by assumption) ?_
    case hym3_4 => (intro w0 hSw; (try dsimp only at hSw); go_simp; try with_reducible rfl)
    try simp only [Act.put, List.setIfInBounds_toArray, List.set_cons_zero, List.set_cons_succ]
    refine wpAnyH_take (i := 5) (v := ?vm3_5) (by conv => lhs; simp only [List.getElem?_toArray, List.getElem?_cons_succ, List.getElem?_cons_zero]) (by kernel_rfl) (by kernel_rfl) (by kernel_rfl) (by exact fun _ _ _ h => h) (Or.inl ⟨by rfl, ?hym3_5⟩) (by assumption) ?_
    case hym3_5 => (intro w0 hSw; (try dsimp only at hSw); go_simp; try with_reducible rfl)
    try simp only [Act.put, List.setIfInBounds_toArray, List.set_cons_zero, List.set_cons_succ]
    refine wpAnyH_take (i := 6) (v := .bool true) (by conv => lhs; simp only [List.getElem?_toArray, List.getElem?_cons_succ, List.getElem?_cons_zero]) (by kernel_rfl) (by kernel_rfl) (by kernel_rfl) (by exact fun _ _ _ h => h) (Or.inl ⟨by rfl, ?hym3_6⟩) (by assumption) ?_
    case hym3_6 => (intro w0 hSw; (try dsimp only at hSw); go_simp; try with_reducible rfl)
    try simp only [Act.put, List.setIfInBounds_toArray, List.set_cons_zero, List.set_cons_succ]
    refine wpAnyH_take (i := 7) (v := .bool true) (by conv => lhs; simp only [List.getElem?_toArray, List.getElem?_cons_succ, List.getElem?_cons_zero]) (by kernel_rfl) (by kernel_rfl) (by kernel_rfl) (by exact fun _ _ _ h => h) (Or.inl ⟨by rfl, ?hym3_7⟩) (by assumption) ?_
    case hym3_7 => (intro w0 hSw; (try dsimp only at hSw); go_simp; try with_reducible rfl)
    try simp only [Act.put, List.setIfInBounds_toArray, List.set_cons_zero, List.set_cons_succ]
    refine wpAnyH_take (i := 8) (v := ?vm3_8) (by conv => lhs; simp only [List.getElem?_toArray, List.getElem?_cons_succ, List.getElem?_cons_zero]) (by kernel_rfl) (by kernel_rfl) (by kernel_rfl) (by exact fun _ _ _ h => h) (Or.inl ⟨by rfl, ?hym3_8⟩) (by assumption) ?_
    case hym3_8 => (intro w0 hSw; (try dsimp only at hSw); go_simp; try with_reducible rfl)
    try simp only [Act.put, List.setIfInBounds_toArray, List.set_cons_zero, List.set_cons_succ]
    refine wpAnyH_take (i := 9) (v := ?vm3_9) (by conv => lhs; simp only [List.getElem?_toArray, List.getElem?_cons_succ, List.getElem?_cons_zero]) (by kernel_rfl) (by kernel_rfl) (by kernel_rfl) (by exact fun _ _ _ h => h) (Or.inl ⟨by rfl, ?hym3_9⟩) (by assumption) ?_
    case hym3_9 => (intro w0 hSw; (try dsimp only at hSw); go_simp; try with_reducible rfl)
    try simp only [Act.put, List.setIfInBounds_toArray, List.set_cons_zero, List.set_cons_succ]
    refine wpAnyH_take (i := 10) (v := ?vm3_10) (by conv => lhs; simp only [List.getElem?_toArray, List.getElem?_cons_succ, List.getElem?_cons_zero]) (by kernel_rfl) (by kernel_rfl) (by kernel_rfl) (by exact fun _ _ _ h => h) (Or.inl ⟨by rfl, ?hym3_10⟩) (by assumption) ?_
    case hym3_10 => (intro w0 hSw; (try dsimp only at hSw); go_simp; try with_reducible rfl)
    try simp only [Act.put, List.setIfInBounds_toArray, List.set_cons_zero, List.set_cons_succ]
    refine wpAnyH_ready (rs := [11]) (by kernel_rfl) (by simp) ?_
    refine AllReadyH.cons (by conv => lhs; simp only [List.getElem?_toArray, List.getElem?_cons_succ, List.getElem?_cons_zero]) (fun K hK => ?_) AllReadyH.nil
    go_simp
    refine (CI.out _ (SchV.keep HV1.out (Below.refl _ _).drew)).mono ?_
    rintro e w9 ⟨rfl, rfl⟩
    go_wp2_with fail
    refine hK.out _ _ (by exact (L1.out.keep (Below.refl _ _).drew).cell) (fun hHeld => ?_)
    clear hK K
    try simp only [Act.put, List.setIfInBounds_toArray, List.set_cons_zero, List.set_cons_succ]
    refine wpAnyH_take (i := 12) (v := ?vm4_12) (by conv => lhs; simp only [List.getElem?_toArray, List.getElem?_cons_succ, List.getElem?_cons_zero]) (by kernel_rfl) (by kernel_rfl) (by kernel_rfl) (by exact fun _ _ _ h => h) (Or.inl ⟨by rfl, ?hym4_12⟩) (by assumption) ?_
    case hym4_12 => (intro w0 hSw; (try dsimp only at hSw); go_simp; try with_reducible rfl)
    try simp only [Act.put, List.setIfInBounds_toArray, List.set_cons_zero, List.set_cons_succ]
    refine wpAnyH_take (i := 13) (v := ?vm4_13) (by conv => lhs; simp only [List.getElem?_toArray, List.getElem?_cons_succ, List.getElem?_cons_zero]) (by kernel_rfl) (by kernel_rfl) (by kernel_rfl) (by exact fun _ _ _ h => h) (Or.inl ⟨by rfl, ?hym4_13⟩) (by assumption) ?_
    case hym4_13 => (intro w0 hSw; (try dsimp only at hSw); go_simp; try with_reducible rfl)
    try simp only [Act.put, List.setIfInBounds_toArray, List.set_cons_zero, List.set_cons_succ]
    refine wpAnyH_take (i := 14) (v := ?vm4_14) (by conv => lhs; simp only [List.getElem?_toArray, List.getElem?_cons_succ, List.getElem?_cons_zero]) (by kernel_rfl) (by kernel_rfl) (by kernel_rfl) (by exact fun _ _ _ h => h) (Or.inl ⟨by rfl, ?hym4_14⟩) (by assumption) ?_
    case hym4_14 => (intro w0 hSw; (try dsimp only at hSw); go_simp; try with_reducible rfl)
    try simp only [Act.put, List.setIfInBounds_toArray, List.set_cons_zero, List.set_cons_succ]
    refine wpAnyH_take (i := 15) (v := ?vm4_15) (by conv => lhs; simp only [List.getElem?_toArray, List.getElem?_cons_succ, List.getElem?_cons_zero]) (by kernel_rfl) (by kernel_rfl) (by kernel_rfl) (by exact fun _ _ _ h => h) (Or.inl ⟨by rfl, ?hym4_15⟩) (by assumption) ?_
    case hym4_15 => (intro w0 hSw; (try dsimp only at hSw); go_simp; try with_reducible rfl)
    try simp only [Act.put, List.setIfInBounds_toArray, List.set_cons_zero, List.set_cons_succ]
    refine wpAnyH_done (by kernel_rfl) ?_ _
    go_wp2_with fail
    go_ret
    exact ⟨rfl, Below.drew HBW.out⟩
  by_cases h1 : word = closedW
  · subst h1
    have g0 : ((⟨#[99, 108, 111, 115, 101, 100]⟩ : ByteArray).toList == (⟨#[116, 121, 112, 101]⟩ : ByteArray).toList) = false := by rw [keq_iff]; exact decide_eq_false (by decide)
    have g1 : ((⟨#[99, 108, 111, 115, 101, 100]⟩ : ByteArray).toList == (⟨#[99, 108, 111, 115, 101, 100]⟩ : ByteArray).toList) = true := by rw [keq_iff]; exact decide_eq_true rfl
    have HE := Lib.hid (show T.schP (closedW, t) = _ from by rw [schP_eq, if_neg (show ¬ closedW = typeW by decide), if_pos rfl])
    rw [HE.out]
    clear HE h0
    show Calls Tryd.prog 19 #[.string ⟨#[99, 108, 111, 115, 101, 100]⟩, _] w _
    clear h hM hR hm hz hml hll
    go_enter Tryd.func19, Tryd.ntmps19
    go_wp2_with fail
    go_ret
    exact ⟨by first | rfl | (congr 2; rw [Bool.eq_iff_iff]; simp), HBW.out⟩
  by_cases h2 : word = leastW
  · subst h2
    have g0 : ((⟨#[108, 101, 97, 115, 116]⟩ : ByteArray).toList == (⟨#[116, 121, 112, 101]⟩ : ByteArray).toList) = false := by rw [keq_iff]; exact decide_eq_false (by decide)
    have g1 : ((⟨#[108, 101, 97, 115, 116]⟩ : ByteArray).toList == (⟨#[99, 108, 111, 115, 101, 100]⟩ : ByteArray).toList) = false := by rw [keq_iff]; exact decide_eq_false (by decide)
    have g2 : ((⟨#[108, 101, 97, 115, 116]⟩ : ByteArray).toList == (⟨#[108, 101, 97, 115, 116]⟩ : ByteArray).toList) = true := by rw [keq_iff]; exact decide_eq_true rfl
    have HE := Lib.hid (show T.schP (leastW, t) = _ from by rw [schP_eq, if_neg (show ¬ leastW = typeW by decide), if_neg (show ¬ leastW = closedW by decide), if_pos rfl])
    rw [HE.out]
    clear HE h0 h1
    show Calls Tryd.prog 19 #[.string ⟨#[108, 101, 97, 115, 116]⟩, _] w _
    clear h hM hR hm hz hml hll
    go_enter Tryd.func19, Tryd.ntmps19
    go_wp2_with fail
    go_ret
    exact ⟨by first | rfl | (congr 2; rw [Bool.eq_iff_iff]; simp), HBW.out⟩
  by_cases h3 : word = mostW
  · subst h3
    have g0 : ((⟨#[109, 111, 115, 116]⟩ : ByteArray).toList == (⟨#[116, 121, 112, 101]⟩ : ByteArray).toList) = false := by rw [keq_iff]; exact decide_eq_false (by decide)
    have g1 : ((⟨#[109, 111, 115, 116]⟩ : ByteArray).toList == (⟨#[99, 108, 111, 115, 101, 100]⟩ : ByteArray).toList) = false := by rw [keq_iff]; exact decide_eq_false (by decide)
    have g2 : ((⟨#[109, 111, 115, 116]⟩ : ByteArray).toList == (⟨#[108, 101, 97, 115, 116]⟩ : ByteArray).toList) = false := by rw [keq_iff]; exact decide_eq_false (by decide)
    have g3 : ((⟨#[109, 111, 115, 116]⟩ : ByteArray).toList == (⟨#[109, 111, 115, 116]⟩ : ByteArray).toList) = true := by rw [keq_iff]; exact decide_eq_true rfl
    have HE := Lib.hid (show T.schP (mostW, t) = _ from by rw [schP_eq, if_neg (show ¬ mostW = typeW by decide), if_neg (show ¬ mostW = closedW by decide), if_neg (show ¬ mostW = leastW by decide), if_pos rfl])
    rw [HE.out]
    clear HE h0 h1 h2
    show Calls Tryd.prog 19 #[.string ⟨#[109, 111, 115, 116]⟩, _] w _
    clear h hM hR hm hz hml hll
    go_enter Tryd.func19, Tryd.ntmps19
    go_wp2_with fail
    go_ret
    exact ⟨by first | rfl | (congr 2; rw [Bool.eq_iff_iff]; simp), HBW.out⟩
  by_cases h4 : word = oneW
  · subst h4
    have g0 : ((⟨#[111, 110, 101]⟩ : ByteArray).toList == (⟨#[116, 121, 112, 101]⟩ : ByteArray).toList) = false := by rw [keq_iff]; exact decide_eq_false (by decide)
    have g1 : ((⟨#[111, 110, 101]⟩ : ByteArray).toList == (⟨#[99, 108, 111, 115, 101, 100]⟩ : ByteArray).toList) = false := by rw [keq_iff]; exact decide_eq_false (by decide)
    have g2 : ((⟨#[111, 110, 101]⟩ : ByteArray).toList == (⟨#[108, 101, 97, 115, 116]⟩ : ByteArray).toList) = false := by rw [keq_iff]; exact decide_eq_false (by decide)
    have g3 : ((⟨#[111, 110, 101]⟩ : ByteArray).toList == (⟨#[109, 111, 115, 116]⟩ : ByteArray).toList) = false := by rw [keq_iff]; exact decide_eq_false (by decide)
    have g4 : ((⟨#[111, 110, 101]⟩ : ByteArray).toList == (⟨#[111, 110, 101]⟩ : ByteArray).toList) = true := by rw [keq_iff]; exact decide_eq_true rfl
    have HE := Lib.hid (show T.schP (oneW, t) = _ from by rw [schP_eq, if_neg (show ¬ oneW = typeW by decide), if_neg (show ¬ oneW = closedW by decide), if_neg (show ¬ oneW = leastW by decide), if_neg (show ¬ oneW = mostW by decide), if_pos rfl])
    rw [HE.out]
    clear HE h0 h1 h2 h3
    show Calls Tryd.prog 19 #[.string ⟨#[111, 110, 101]⟩, _] w _
    clear h hM hR hm hz hml hll
    go_enter Tryd.func19, Tryd.ntmps19
    go_wp2_with fail
    go_ret
    exact ⟨by first | rfl | (congr 2; rw [Bool.eq_iff_iff]; simp), HBW.out⟩
  by_cases h5 : word = reqW
  · subst h5
    have g0 : ((⟨#[114, 101, 113, 117, 105, 114, 101, 100]⟩ : ByteArray).toList == (⟨#[116, 121, 112, 101]⟩ : ByteArray).toList) = false := by rw [keq_iff]; exact decide_eq_false (by decide)
    have g1 : ((⟨#[114, 101, 113, 117, 105, 114, 101, 100]⟩ : ByteArray).toList == (⟨#[99, 108, 111, 115, 101, 100]⟩ : ByteArray).toList) = false := by rw [keq_iff]; exact decide_eq_false (by decide)
    have g2 : ((⟨#[114, 101, 113, 117, 105, 114, 101, 100]⟩ : ByteArray).toList == (⟨#[108, 101, 97, 115, 116]⟩ : ByteArray).toList) = false := by rw [keq_iff]; exact decide_eq_false (by decide)
    have g3 : ((⟨#[114, 101, 113, 117, 105, 114, 101, 100]⟩ : ByteArray).toList == (⟨#[109, 111, 115, 116]⟩ : ByteArray).toList) = false := by rw [keq_iff]; exact decide_eq_false (by decide)
    have g4 : ((⟨#[114, 101, 113, 117, 105, 114, 101, 100]⟩ : ByteArray).toList == (⟨#[111, 110, 101]⟩ : ByteArray).toList) = false := by rw [keq_iff]; exact decide_eq_false (by decide)
    have g5 : ((⟨#[114, 101, 113, 117, 105, 114, 101, 100]⟩ : ByteArray).toList == (⟨#[114, 101, 113, 117, 105, 114, 101, 100]⟩ : ByteArray).toList) = true := by rw [keq_iff]; exact decide_eq_true rfl
    have HE := Lib.hid (show T.schP (reqW, t) = _ from by rw [schP_eq, if_neg (show ¬ reqW = typeW by decide), if_neg (show ¬ reqW = closedW by decide), if_neg (show ¬ reqW = leastW by decide), if_neg (show ¬ reqW = mostW by decide), if_neg (show ¬ reqW = oneW by decide), if_pos rfl])
    rw [HE.out]
    clear HE h0 h1 h2 h3 h4
    show Calls Tryd.prog 19 #[.string ⟨#[114, 101, 113, 117, 105, 114, 101, 100]⟩, _] w _
    have CT := Lib.hid (fun (w2 : World) (h2 : RepT w2 S (.agg #[.int .i64 t.kind, .bool t.bool, .int .i64 t.int, .string t.str, .slice la t.list.length lc, .slice ma t.map.length mc]) t) => ttexts t _ w2 S h2 (by omega))
    clear h hM hR hm hz hml hll
    generalize (decide (t.kind = 4) && t.list.all fun y => decide (y.kind = 3)) = r at *
    go_enter Tryd.func19, Tryd.ntmps19
    go_wp2_with fail
    refine (CT.out _ (HR.out.keep HBW.out)).mono ?_
    rintro e w1 ⟨rfl, hb⟩
    have HB := Lib.hid (Below.next HBW.out hb)
    clear hb
    go_wp2_with fail
    go_ret
    exact ⟨rfl, HB.out⟩
  by_cases h6 : word = itemsW
  · subst h6
    have g0 : ((⟨#[105, 116, 101, 109, 115]⟩ : ByteArray).toList == (⟨#[116, 121, 112, 101]⟩ : ByteArray).toList) = false := by rw [keq_iff]; exact decide_eq_false (by decide)
    have g1 : ((⟨#[105, 116, 101, 109, 115]⟩ : ByteArray).toList == (⟨#[99, 108, 111, 115, 101, 100]⟩ : ByteArray).toList) = false := by rw [keq_iff]; exact decide_eq_false (by decide)
    have g2 : ((⟨#[105, 116, 101, 109, 115]⟩ : ByteArray).toList == (⟨#[108, 101, 97, 115, 116]⟩ : ByteArray).toList) = false := by rw [keq_iff]; exact decide_eq_false (by decide)
    have g3 : ((⟨#[105, 116, 101, 109, 115]⟩ : ByteArray).toList == (⟨#[109, 111, 115, 116]⟩ : ByteArray).toList) = false := by rw [keq_iff]; exact decide_eq_false (by decide)
    have g4 : ((⟨#[105, 116, 101, 109, 115]⟩ : ByteArray).toList == (⟨#[111, 110, 101]⟩ : ByteArray).toList) = false := by rw [keq_iff]; exact decide_eq_false (by decide)
    have g5 : ((⟨#[105, 116, 101, 109, 115]⟩ : ByteArray).toList == (⟨#[114, 101, 113, 117, 105, 114, 101, 100]⟩ : ByteArray).toList) = false := by rw [keq_iff]; exact decide_eq_false (by decide)
    have g6 : ((⟨#[105, 116, 101, 109, 115]⟩ : ByteArray).toList == (⟨#[105, 116, 101, 109, 115]⟩ : ByteArray).toList) = true := by rw [keq_iff]; exact decide_eq_true rfl
    have HE := Lib.hid (show T.schP (itemsW, t) = _ from by rw [schP_eq, if_neg (show ¬ itemsW = typeW by decide), if_neg (show ¬ itemsW = closedW by decide), if_neg (show ¬ itemsW = leastW by decide), if_neg (show ¬ itemsW = mostW by decide), if_neg (show ¬ itemsW = oneW by decide), if_neg (show ¬ itemsW = reqW by decide), if_pos rfl])
    rw [HE.out]
    clear HE h0 h1 h2 h3 h4 h5
    show Calls Tryd.prog 19 #[.string ⟨#[105, 116, 101, 109, 115]⟩, _] w _
    have CT := Lib.hid (fun (w2 : World) (h2 : RepT w2 S (.agg #[.int .i64 t.kind, .bool t.bool, .int .i64 t.int, .string t.str, .slice la t.list.length lc, .slice ma t.map.length mc]) t) (hv2 : SchV w2) => hR w2 S _ h2 hv2 hz)
    clear h hM hR hm hz hml hll
    generalize t.sch = r at *
    go_enter Tryd.func19, Tryd.ntmps19
    go_wp2_with fail
    refine (CT.out _ (HR.out.keep HBW.out) (HV.out.keep HBW.out)).mono ?_
    rintro e w1 ⟨rfl, hb⟩
    have HB := Lib.hid (Below.next HBW.out hb)
    clear hb
    go_wp2_with fail
    go_ret
    exact ⟨rfl, HB.out⟩
  by_cases h7 : word = keysW
  · subst h7
    have g0 : ((⟨#[107, 101, 121, 115]⟩ : ByteArray).toList == (⟨#[116, 121, 112, 101]⟩ : ByteArray).toList) = false := by rw [keq_iff]; exact decide_eq_false (by decide)
    have g1 : ((⟨#[107, 101, 121, 115]⟩ : ByteArray).toList == (⟨#[99, 108, 111, 115, 101, 100]⟩ : ByteArray).toList) = false := by rw [keq_iff]; exact decide_eq_false (by decide)
    have g2 : ((⟨#[107, 101, 121, 115]⟩ : ByteArray).toList == (⟨#[108, 101, 97, 115, 116]⟩ : ByteArray).toList) = false := by rw [keq_iff]; exact decide_eq_false (by decide)
    have g3 : ((⟨#[107, 101, 121, 115]⟩ : ByteArray).toList == (⟨#[109, 111, 115, 116]⟩ : ByteArray).toList) = false := by rw [keq_iff]; exact decide_eq_false (by decide)
    have g4 : ((⟨#[107, 101, 121, 115]⟩ : ByteArray).toList == (⟨#[111, 110, 101]⟩ : ByteArray).toList) = false := by rw [keq_iff]; exact decide_eq_false (by decide)
    have g5 : ((⟨#[107, 101, 121, 115]⟩ : ByteArray).toList == (⟨#[114, 101, 113, 117, 105, 114, 101, 100]⟩ : ByteArray).toList) = false := by rw [keq_iff]; exact decide_eq_false (by decide)
    have g6 : ((⟨#[107, 101, 121, 115]⟩ : ByteArray).toList == (⟨#[105, 116, 101, 109, 115]⟩ : ByteArray).toList) = false := by rw [keq_iff]; exact decide_eq_false (by decide)
    have g7 : ((⟨#[107, 101, 121, 115]⟩ : ByteArray).toList == (⟨#[107, 101, 121, 115]⟩ : ByteArray).toList) = true := by rw [keq_iff]; exact decide_eq_true rfl
    have HE := Lib.hid (show T.schP (keysW, t) = _ from by rw [schP_eq, if_neg (show ¬ keysW = typeW by decide), if_neg (show ¬ keysW = closedW by decide), if_neg (show ¬ keysW = leastW by decide), if_neg (show ¬ keysW = mostW by decide), if_neg (show ¬ keysW = oneW by decide), if_neg (show ¬ keysW = reqW by decide), if_neg (show ¬ keysW = itemsW by decide), if_pos rfl])
    rw [HE.out]
    clear HE h0 h1 h2 h3 h4 h5 h6
    show Calls Tryd.prog 19 #[.string ⟨#[107, 101, 121, 115]⟩, _] w _
    by_cases h5 : t.kind = 5
    · have g : (t.kind != 5) = false := by rw [h5]; rfl
      rw [decide_eq_true h5, Bool.true_and, all_any, Bool.not_not]
      have CC := Lib.hid (fun (w2 : World) (hb2 : Below w.heap.size w w2) => conMW t.map (fun p => !p.2.sch) ma mc w2 S (hM.keep hb2) (by omega) (fun p hp w' a1 c1 a2 c2 hb hr _ => wrong1 p (hm p hp) a1 c1 a2 c2 w' S hr (hv.keep (Below.next hb2 hb)) (Nat.le_trans (wt_sub p hp) hz)))
      clear h5 h hM hR hm hz hml hll
      generalize (t.map.any fun p => !p.2.sch) = r at *
      go_enter Tryd.func19, Tryd.ntmps19
      go_wp2_with fail
      refine (CC.out _ HBW.out).mono ?_
      rintro e w1 ⟨rfl, hb⟩
      have HB := Lib.hid (Below.next HBW.out hb)
      clear hb
      go_wp2_with fail
      go_ret
      exact ⟨rfl, HB.out⟩
    · have g : (t.kind != 5) = true := bne_iff_ne.2 h5
      rw [decide_eq_false h5, Bool.false_and]
      clear h5 h hM hR hm hz hml hll
      go_enter Tryd.func19, Tryd.ntmps19
      go_wp2_with fail
      go_ret
      exact ⟨rfl, HBW.out⟩
  have g0 : (word.toList == [116, 121, 112, 101]) = false := by rw [show ([116, 121, 112, 101] : List UInt8) = typeW.toList from by rw [ByteArray.toList_eq]; rfl, keq_iff]; exact decide_eq_false h0
  have g1 : (word.toList == [99, 108, 111, 115, 101, 100]) = false := by rw [show ([99, 108, 111, 115, 101, 100] : List UInt8) = closedW.toList from by rw [ByteArray.toList_eq]; rfl, keq_iff]; exact decide_eq_false h1
  have g2 : (word.toList == [108, 101, 97, 115, 116]) = false := by rw [show ([108, 101, 97, 115, 116] : List UInt8) = leastW.toList from by rw [ByteArray.toList_eq]; rfl, keq_iff]; exact decide_eq_false h2
  have g3 : (word.toList == [109, 111, 115, 116]) = false := by rw [show ([109, 111, 115, 116] : List UInt8) = mostW.toList from by rw [ByteArray.toList_eq]; rfl, keq_iff]; exact decide_eq_false h3
  have g4 : (word.toList == [111, 110, 101]) = false := by rw [show ([111, 110, 101] : List UInt8) = oneW.toList from by rw [ByteArray.toList_eq]; rfl, keq_iff]; exact decide_eq_false h4
  have g5 : (word.toList == [114, 101, 113, 117, 105, 114, 101, 100]) = false := by rw [show ([114, 101, 113, 117, 105, 114, 101, 100] : List UInt8) = reqW.toList from by rw [ByteArray.toList_eq]; rfl, keq_iff]; exact decide_eq_false h5
  have g6 : (word.toList == [105, 116, 101, 109, 115]) = false := by rw [show ([105, 116, 101, 109, 115] : List UInt8) = itemsW.toList from by rw [ByteArray.toList_eq]; rfl, keq_iff]; exact decide_eq_false h6
  have g7 : (word.toList == [107, 101, 121, 115]) = false := by rw [show ([107, 101, 121, 115] : List UInt8) = keysW.toList from by rw [ByteArray.toList_eq]; rfl, keq_iff]; exact decide_eq_false h7
  have HE := Lib.hid (show T.schP (word, t) = false from by rw [schP_eq, if_neg h0, if_neg h1, if_neg h2, if_neg h3, if_neg h4, if_neg h5, if_neg h6, if_neg h7])
  rw [HE.out]
  clear HE h hM hR hm hz hml hll h0 h1 h2 h3 h4 h5 h6 h7
  go_enter Tryd.func19, Tryd.ntmps19
  go_wp2_with fail
  go_ret
  exact ⟨rfl, HBW.out⟩
theorem tright_all (t : T) : RightOk t ∧ ∀ word, WrongOk word t := by
  induction t using T.ind' with
  | h t ihl ihm =>
  have hR : RightOk t := right_step t (fun p hp => (ihm p hp).2 p.1)
  exact ⟨hR, fun word => wrong_step word t hR (fun p hp => (ihm p hp).1)⟩
theorem tright (t : T) : RightOk t := (tright_all t).1
end Go.Proofs.YtgbbojnigicnoaaDoor

