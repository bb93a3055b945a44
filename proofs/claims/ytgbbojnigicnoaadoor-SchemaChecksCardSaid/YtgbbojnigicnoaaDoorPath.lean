/- Several texts as one. -/
import Derived.Test.YtgbbojnigicnoaaDoorNeat
import Derived.Test.YtgbbojnigicnoaaDoorRfPD
import Derived.Test.YtgbbojnigicnoaaDoorOut
import Derived.Test.YtgbbojnigicnoaaDoorLaw
import Derived.Deep.RegionHeld3
import Derived.Deep.CutRange
/- Paths as plain functions of trees: what stands at one, put, drop, prune. -/
namespace Go.Proofs.YtgbbojnigicnoaaDoor

def getP : List ByteArray → T → Option T
  | [], v => some v
  | s :: r, v => (getT v s).bind (getP r)
def putP : List ByteArray → T → T → T
  | [], x, _ => x
  | s :: r, x, v => putT v s (putP r x ((getT v s).getD T.zero))
def dropP : List ByteArray → T → T
  | [], _ => T.zero
  | [s], v => dropT v s
  | s :: r, v => match getT v s with
    | none => v
    | some y => putT v s (dropP r y)
/-- Prune's turns: n steps are still to be looked at. -/
def pruneN (l : List ByteArray) : Nat → T → T
  | 0, v => v
  | n + 1, v => if ((getP (l.take (n + 1)) v).getD T.zero).map ≠ [] then v else pruneN l n (dropP (l.take (n + 1)) v)
def pruneW (l : List ByteArray) (v : T) : T := if getP l v = none then v else pruneN l (l.length - 1) (dropP l v)
/-- The reference's way: from within. -/
def pruneP : List ByteArray → T → T
  | [], _ => T.zero
  | [s], v => if getP [s] v = none then v else dropT v s
  | s :: r, v => if getP (s :: r) v = none then v else if (pruneP r ((getT v s).getD T.zero)).map = [] then dropT v s else putT v s (pruneP r ((getT v s).getD T.zero))

section
variable {n : Nat} {v x : T}
theorem Neat.get (h : Neat n v) (s : ByteArray) : Neat n ((getT v s).getD T.zero) := by rw [getT_look h]; exact h.getD s
theorem Neat.got (h : Neat n v) {s : ByteArray} {y : T} (hy : getT v s = some y) : Neat n y := by rw [getT_look h] at hy; exact h.look hy
theorem getP_neat : ∀ {l : List ByteArray} {v y : T}, Neat n v → getP l v = some y → Neat n y
  | [], v, y, h, e => by injection e with e; exact e ▸ h
  | s :: r, v, y, h, e => by
    rw [getP] at e
    cases eg : getT v s with
    | none => rw [eg] at e; cases e
    | some z => rw [eg] at e; exact getP_neat (h.got eg) e
theorem putT_neat (h : Neat n v) {k : ByteArray} (hk : keyB k = true) {m : Nat} (hx : Neat m x) (hm : n + 1 ≤ m) : Neat m (putT v k x) := by
  rw [putT_ins h]
  have := ins_length v.map k x
  have := h.len
  refine Neat.mkMap (ins_KS h.KS k x) (by omega) fun p hp => ?_
  rcases ins_mem p hp with rfl | hp
  · exact ⟨hk, hx⟩
  · exact ⟨h.key p hp, (h.mem p hp).mono (by omega)⟩
theorem putT_neat_same (h : Neat n v) {k : ByteArray} {y : T} (hk : getT v k = some y) (hx : Neat n x) : Neat n (putT v k x) := by
  rw [putT_ins h]
  rw [getT_look h] at hk
  have hl : (ins v.map k x).length = v.map.length := by
    have : ∀ {m : List (ByteArray × T)}, KS m → look m k = some y → (ins m k x).length = m.length := by
      intro m
      induction m with
      | nil => intro _ h; simp [look] at h
      | cons p r ih =>
        intro hm hl
        rw [ins]
        rw [look] at hl
        split at hl
        · next he => subst he; rw [if_neg (by simp [klt_irrefl]), if_pos rfl]; simp
        · next he => rw [if_pos (hm.head _ (look_mem hl))]; simp [ih hm.tail hl]
    exact this h.KS hk
  refine Neat.mkMap (ins_KS h.KS k x) (by rw [hl]; exact h.len) fun p hp => ?_
  rcases ins_mem p hp with rfl | hp
  · exact ⟨h.keyl hk, hx⟩
  · exact ⟨h.key p hp, h.mem p hp⟩
theorem dropT_neat (h : Neat n v) (k : ByteArray) : Neat n (dropT v k) := by
  by_cases h5 : v.kind = 5
  · rw [h.map h5, dropT_mk]
    exact Neat.mkMap (del_KS h.KS k) (Nat.le_trans (del_len _ _) h.len) fun p hp => ⟨h.key p (mem_del hp), h.mem p (mem_del hp)⟩
  · have : dropT v k = v := by
      have hm := h.nomap h5
      cases v
      simp only [T.map] at hm
      subst hm
      rfl
    rw [this]; exact h
theorem putP_neat : ∀ {l : List ByteArray} {x v : T} {m : Nat}, (∀ s ∈ l, keyB s = true) → Neat n v → Neat m x → n + 1 ≤ m → Neat m (putP l x v)
  | [], x, v, m, _, _, hx, _ => hx
  | s :: r, x, v, m, hl, hv, hx, hm => putT_neat hv (hl s (by simp)) (putP_neat (fun z hz => hl z (by simp [hz])) (hv.get s) hx hm) hm
theorem dropP_neat : ∀ {l : List ByteArray} {v : T}, Neat n v → Neat n (dropP l v)
  | [], v, h => Neat.zero
  | [s], v, h => dropT_neat h s
  | s :: u :: r, v, h => by
    rw [dropP]
    split
    · exact h
    · next y e => exact putT_neat_same h e (dropP_neat (h.got e))
    · simp
theorem pruneN_neat {l : List ByteArray} : ∀ {k : Nat} {v : T}, Neat n v → Neat n (pruneN l k v)
  | 0, v, h => h
  | k + 1, v, h => by
    rw [pruneN]
    split
    · exact h
    · exact pruneN_neat (dropP_neat h)

theorem getT_put (h : Neat n v) (k j : ByteArray) (x : T) : getT (putT v k x) j = if k = j then some x else getT v j := by
  rw [putT_ins h, getT_mk, look_ins _ _ _ h.KS, getT_look h]
theorem getT_drop (h : Neat n v) (k j : ByteArray) : getT (dropT v k) j = if k = j then none else getT v j := by
  rw [getT_look (dropT_neat h k), show (dropT v k).map = del v.map k from rfl, look_del, getT_look h]
theorem putT_putT (h : Neat n v) (k : ByteArray) (x y : T) : putT (putT v k x) k y = putT v k y := by
  rw [putT_ins h, putT_ins h, putT_mk (ins_KS h.KS k x), ins_ins _ _ _ _ h.KS]
theorem dropT_putT (h : Neat n v) (k : ByteArray) (x : T) (h5 : v.kind = 5) : dropT (putT v k x) k = dropT v k := by
  rw [putT_ins h, dropT_mk, del_ins _ _ _ h.KS, h.map h5]; rfl
theorem putT_get (h : Neat n v) {k : ByteArray} {x : T} (hx : getT v k = some x) : putT v k x = v := by
  have h5 : v.kind = 5 := by
    unfold getT at hx
    split at hx
    · assumption
    · cases hx
  rw [getT_look h] at hx
  rw [putT_ins h, ins_look h.KS hx, ← h.map h5]
theorem getT_kind {k : ByteArray} {x : T} (hx : getT v k = some x) : v.kind = 5 := by
  unfold getT at hx
  split at hx
  · assumption
  · cases hx
theorem putT_kind (v : T) (k : ByteArray) (x : T) : (putT v k x).kind = 5 := rfl
theorem dropP_put {s : ByteArray} {r : List ByteArray} {y : T} (hr : r ≠ []) (h : Neat n v) : dropP (s :: r) (putT v s y) = putT v s (dropP r y) := by
  cases r with
  | nil => exact absurd rfl hr
  | cons u r =>
    rw [dropP]
    · rw [getT_put h, if_pos rfl]
      simp only
      rw [putT_putT h]
    · simp
theorem pruneN_put {s : ByteArray} {r : List ByteArray} (h : Neat n v) (h5 : v.kind = 5) : ∀ {k : Nat} {y : T}, k ≤ r.length → Neat n y → pruneN (s :: r) (k + 1) (putT v s y) = if (pruneN r k y).map = [] then dropT v s else putT v s (pruneN r k y)
  | 0, y, hk, hy => by
    rw [pruneN, pruneN, pruneN]
    have e : getP (List.take (0 + 1) (s :: r)) (putT v s y) = some y := by simp [getP, getT_put h]
    rw [e, Option.getD_some]
    by_cases hm : y.map = []
    · rw [if_neg (by simpa using hm), if_pos hm]
      show dropT (putT v s y) s = _
      exact dropT_putT h s y h5
    · rw [if_pos hm, if_neg hm]
  | k + 1, y, hk, hy => by
    have e : getP (List.take (k + 1 + 1) (s :: r)) (putT v s y) = getP (r.take (k + 1)) y := by simp [getP, getT_put h]
    rw [pruneN, e, pruneN.eq_def r]
    simp only
    by_cases hm : ((getP (r.take (k + 1)) y).getD T.zero).map ≠ []
    · rw [if_pos hm, if_pos hm, if_neg fun hy0 => hm ?_]
      cases r with
      | nil => simp at hk
      | cons u r =>
        rw [List.take_succ_cons, getP, getT_look hy, hy0]
        rfl
    · rw [if_neg hm, if_neg hm, List.take_succ_cons, dropP_put (by intro e; have := congrArg List.length e; rw [List.length_take, List.length_nil] at this; omega) h]
      exact pruneN_put h h5 (by omega) (dropP_neat hy)
/-- Both ways to prune are one. -/
theorem prune_one : ∀ {l : List ByteArray} {v : T}, Neat n v → pruneW l v = pruneP l v
  | [], v, h => by simp [pruneW, pruneP, getP, pruneN, dropP]
  | [s], v, h => by simp [pruneW, pruneP, pruneN, dropP]
  | s :: u :: r, v, h => by
    rw [pruneP]
    · unfold pruneW
      by_cases hg : getP (s :: u :: r) v = none
      · rw [if_pos hg, if_pos hg]
      · rw [if_neg hg, if_neg hg]
        cases e : getT v s with
        | none => rw [getP, e] at hg; exact absurd rfl hg
        | some y =>
          have hy := h.got e
          have hgy : getP (u :: r) y ≠ none := by rw [getP, e] at hg; exact hg
          rw [dropP, e, Option.getD_some, ← prune_one hy]
          · unfold pruneW
            rw [if_neg hgy]
            simp only [List.length_cons, Nat.add_sub_cancel]
            exact pruneN_put h (getT_kind e) (by simp) (dropP_neat hy)
          · simp
    · simp
end
end Go.Proofs.YtgbbojnigicnoaaDoor

/- Words for regions that make boxes of their own beside calls. -/
namespace Go.Proofs.YtgbbojnigicnoaaDoor
open Go.RowKit

theorem cell_alloc_lt (w : World) (o : Obj) (b i : Nat) (h : b < w.heap.size) : (w.alloc o).cell? ⟨b, i, none⟩ = w.cell? ⟨b, i, none⟩ := World.cell?_of_block (Below.heap_alloc w o b h)
theorem cell_set_ne (w : World) (g k b i : Nat) (u : Value) (h : b ≠ g) : (w.setCell ⟨g, k, none⟩ u).cell? ⟨b, i, none⟩ = w.cell? ⟨b, i, none⟩ := World.cell?_of_block (Below.heap_setCell w ⟨g, k, none⟩ u b h)
theorem size_alloc (w : World) (o : Obj) : (w.alloc o).heap.size = w.heap.size + 1 := by simp
theorem size_drew (w : World) : w.drew.heap.size = w.heap.size := rfl
theorem size_set (w : World) (p : Addr) (u : Value) : (w.setCell p u).heap.size = w.heap.size := by simp
theorem cell_drew (w : World) (b i : Nat) : w.drew.cell? ⟨b, i, none⟩ = w.cell? ⟨b, i, none⟩ := rfl
theorem Blk.set' {w : World} {g : Nat} {t : TypeId} {cs cs' : Array Value} {i : Nat} {u : Value} (h : Blk w g t cs) (e : cs.setIfInBounds i u = cs') : Blk (w.setCell ⟨g, i, none⟩ u) g t cs' := e ▸ h.set_ i u
theorem Blk.far' {w : World} {g h k : Nat} {t : TypeId} {cs : Array Value} {u : Value} (hb : Blk w g t cs) (e : g ≠ h) : Blk (w.setCell ⟨h, k, none⟩ u) g t cs := hb.far e u
theorem Below.set' {B : Nat} {a w : World} {g k : Nat} {u : Value} (h : Below B a w) (e : B ≤ g) : Below B a (w.setCell ⟨g, k, none⟩ u) := h.setCell e u
theorem Below.alloc' {B : Nat} {a w : World} {o : Obj} (h : Below B a w) (e : B ≤ w.heap.size) : Below B a (w.alloc o) := h.alloc e o
theorem Blk.new' (w : World) (o : TypeId) (cs : Array Value) {n : Nat} (hn : n = w.heap.size) : Blk (w.alloc (.cells cs o)) n o cs := Blk.new_at w o cs hn
theorem Blk.new2 (w : World) (o : Obj) (t : TypeId) (cs : Array Value) : Blk ((w.alloc o).alloc (.cells cs t)) (w.heap.size + 1) t cs := Blk.new_at _ t cs (by simp)
theorem at_world {B P W' : World} {p : Program} {n : Nat} {args : Array Value} {Q : Ending → World → Prop} (_ : Hid (Below B.heap.size B P)) (h : Below P.heap.size P W') (c : Below P.heap.size P W' → Calls p n args W' Q) : Calls p n args W' Q := c h
/-- Two values in boxes that a region made. -/
structure Boxed2 (W0 W' : World) (g h : Nat) (x : T) (la : Option Addr) (lc : Nat) (ma : Option Addr) (mc : Nat) (y : T) (la2 : Option Addr) (lc2 : Nat) (ma2 : Option Addr) (mc2 : Nat) : Prop where
  bel : Below W0.heap.size W0 W'
  boxg : Blk W' g 25 #[.int .i64 x.kind, .bool x.bool, .int .i64 x.int, .string x.str, .slice la x.list.length lc, .slice ma x.map.length mc]
  boxh : Blk W' h 25 #[.int .i64 y.kind, .bool y.bool, .int .i64 y.int, .string y.str, .slice la2 y.list.length lc2, .slice ma2 y.map.length mc2]
  repx : RepT W' (fun _ => True) (.agg #[.int .i64 x.kind, .bool x.bool, .int .i64 x.int, .string x.str, .slice la x.list.length lc, .slice ma x.map.length mc]) x
  repy : RepT W' (fun _ => True) (.agg #[.int .i64 y.kind, .bool y.bool, .int .i64 y.int, .string y.str, .slice la2 y.list.length lc2, .slice ma2 y.map.length mc2]) y

end Go.Proofs.YtgbbojnigicnoaaDoor

/- path.Get, and words for boxes that a region makes ahead of a call or behind it. -/
namespace Go.Proofs.YtgbbojnigicnoaaDoor
open Go.RowKit
attribute [local go_sem ↓] Go.wp_at_zero Go.wp_at_succ

theorem getP_app : ∀ (l m : List ByteArray) (v : T), getP (l ++ m) v = (getP l v).bind (getP m)
  | [], m, v => rfl
  | s :: r, m, v => by
    rw [List.cons_append, getP, getP]
    cases getT v s with
    | none => rfl
    | some y => exact getP_app r m y
theorem getP_one (s : ByteArray) (v : T) : getP [s] v = getT v s := by rw [getP]; cases getT v s <;> rfl
theorem getP_take {l : List ByteArray} {q : Nat} (hq : q < l.length) (v : T) : getP (l.take (q + 1)) v = (getP (l.take q) v).bind fun V => getT V l[q] := by
  rw [List.take_succ_eq_append_getElem hq, getP_app]
  congr 1
  funext V; exact getP_one _ _
theorem getP_none {l : List ByteArray} {q : Nat} {v : T} (h : getP (l.take q) v = none) : getP l v = none := by
  rw [← List.take_append_drop q l, getP_app, h]; rfl
theorem RepS.keep {w w' : World} {S : Nat → Prop} {a : Option Addr} {l : List ByteArray} (h : RepS w S a l) (hb : Below w.heap.size w w') : RepS w' S a l := fun i hi => by
  obtain ⟨b, o, e, hs, hlt, hc, hz⟩ := h i hi
  exact ⟨b, o, e, hs, Nat.lt_of_lt_of_le hlt hb.size, (hb.cell (p := ⟨b, o + i, none⟩) hlt).trans hc, hz⟩
theorem RepS.tail {w : World} {S : Nat → Prop} {b o : Nat} {s : ByteArray} {r : List ByteArray} (h : RepS w S (some ⟨b, o, none⟩) (s :: r)) : RepS w S (some ⟨b, o + 1, none⟩) r := fun i hi => by
  obtain ⟨b', o', e, hs, hlt, hc, hz⟩ := h (i + 1) (by simpa using hi)
  obtain ⟨rfl, rfl⟩ : b = b' ∧ o = o' := by simpa using e
  exact ⟨b, o + 1, rfl, hs, hlt, by rw [show o + 1 + i = o + (i + 1) by omega]; exact hc, hz⟩
theorem RepS.tail2 {w : World} {S : Nat → Prop} {b o c : Nat} {s : ByteArray} {r : List ByteArray} (h : RepS w S (some ⟨b, o, none⟩) (s :: r)) (hc : r.length + 1 ≤ c) : RepS w S (if c = 1 then some ⟨b, o, none⟩ else some ⟨b, o + 1, none⟩) r := by
  split
  · intro i hi; omega
  · exact h.tail
theorem RepS.take {w : World} {S : Nat → Prop} {a : Option Addr} {l : List ByteArray} (h : RepS w S a l) (k : Nat) : RepS w S a (l.take k) := fun i hi => by
  rw [List.length_take] at hi
  obtain ⟨b', o', e, hs, hlt, hc, hz⟩ := h i (by omega)
  exact ⟨b', o', e, hs, hlt, by rw [List.getElem_take]; exact hc, by rw [List.getElem_take]; exact hz⟩

theorem alloc_drew_size (W : World) (o : Obj) : (W.alloc o).drew.heap.size = W.heap.size + 1 := (by simp : (W.alloc o).heap.size = W.heap.size + 1)
/-- A value in a box that was made in a region, ahead of the call or behind it. -/
structure Boxed (W0 W' : World) (g : Nat) (x : T) (la : Option Addr) (lc : Nat) (ma : Option Addr) (mc : Nat) : Prop where
  bel : Below W0.heap.size W0 W'
  low : W0.heap.size ≤ g
  box : Blk W' g 25 #[.int .i64 x.kind, .bool x.bool, .int .i64 x.int, .string x.str, .slice la x.list.length lc, .slice ma x.map.length mc]
  rep : RepT W' (fun b => W0.heap.size ≤ b ∧ b ≠ g) (.agg #[.int .i64 x.kind, .bool x.bool, .int .i64 x.int, .string x.str, .slice la x.list.length lc, .slice ma x.map.length mc]) x
section
variable {W0 w1 : World} {x : T} {la : Option Addr} {lc : Nat} {ma : Option Addr} {mc : Nat}
theorem Boxed.ahead (hb : Below (W0.alloc (.cells #[.int .i64 0, .bool false, .int .i64 0, .string ⟨#[]⟩, .slice none 0 0, .slice none 0 0] 25)).drew.heap.size (W0.alloc (.cells #[.int .i64 0, .bool false, .int .i64 0, .string ⟨#[]⟩, .slice none 0 0, .slice none 0 0] 25)).drew w1) (hr : RepT w1 (fun b => (W0.alloc (.cells #[.int .i64 0, .bool false, .int .i64 0, .string ⟨#[]⟩, .slice none 0 0, .slice none 0 0] 25)).drew.heap.size ≤ b) (.agg #[.int .i64 x.kind, .bool x.bool, .int .i64 x.int, .string x.str, .slice la x.list.length lc, .slice ma x.map.length mc]) x) :
    Boxed W0 (set6 w1 W0.heap.size 0 (.int .i64 x.kind) (.bool x.bool) (.int .i64 x.int) (.string x.str) (.slice la x.list.length lc) (.slice ma x.map.length mc)) W0.heap.size x la lc ma mc := by
  have h0 : Below W0.heap.size W0 w1 := Below.next ((Below.new _ _).drew) hb
  have hn : Blk w1 W0.heap.size 25 #[.int .i64 0, .bool false, .int .i64 0, .string ⟨#[]⟩, .slice none 0 0, .slice none 0 0] := ((Blk.new W0 25 #[.int .i64 0, .bool false, .int .i64 0, .string ⟨#[]⟩, .slice none 0 0, .slice none 0 0]).drew).keep hb
  have h2 : (W0.alloc (.cells #[.int .i64 0, .bool false, .int .i64 0, .string ⟨#[]⟩, .slice none 0 0, .slice none 0 0] 25)).drew.heap.size = W0.heap.size + 1 := alloc_drew_size _ _
  rw [h2] at hr
  refine ⟨set6_below h0 (Nat.le_refl _), Nat.le_refl _, (((((hn.set_ 0 _).set_ 1 _).set_ 2 _).set_ 3 _).set_ 4 _).set_ 5 _, ?_⟩
  exact hr.mono (fun b (hb : W0.heap.size + 1 ≤ b) _ => ⟨by omega, by omega⟩) (fun b o (hb : W0.heap.size + 1 ≤ b) _ => World.cell?_of_block (w := w1) (set6_heap (o := 0) (show b ≠ W0.heap.size by omega)))
theorem Boxed.behind (hb : Below W0.drew.heap.size W0.drew w1) (hr : RepT w1 (fun b => W0.drew.heap.size ≤ b) (.agg #[.int .i64 x.kind, .bool x.bool, .int .i64 x.int, .string x.str, .slice la x.list.length lc, .slice ma x.map.length mc]) x) : Boxed W0 (w1.alloc (.cells #[.int .i64 x.kind, .bool x.bool, .int .i64 x.int, .string x.str, .slice la x.list.length lc, .slice ma x.map.length mc] 25)) w1.heap.size x la lc ma mc := by
  have h0 : Below W0.heap.size W0 w1 := Below.next ((Below.refl _ _).drew) hb
  have hs : W0.heap.size ≤ w1.heap.size := h0.size
  refine ⟨Below.next h0 (Below.new _ _), hs, Blk.new _ _ _, RepT.keep ?_ (Below.new _ _)⟩
  exact hr.mono (fun b (h : W0.heap.size ≤ b) h2 => ⟨h, by omega⟩) (fun _ _ _ _ => rfl)
end

end Go.Proofs.YtgbbojnigicnoaaDoor

/- path.Drop: a value without what stands at a path. -/
namespace Go.Proofs.YtgbbojnigicnoaaDoor
open Go.RowKit
attribute [local go_sem ↓] Go.wp_at_zero Go.wp_at_succ

theorem dropP_step (s u : ByteArray) (r : List ByteArray) (v : T) : ((getT v s).isSome = false → dropP (s :: u :: r) v = v) ∧ ((getT v s).isSome = true → dropP (s :: u :: r) v = putT v s (dropP (u :: r) ((getT v s).getD T.zero))) := by
  rw [dropP]
  · cases getT v s with
    | none => exact ⟨fun _ => rfl, fun h => by cases h⟩
    | some y => exact ⟨fun h => (by cases h), fun _ => rfl⟩
  · simp

end Go.Proofs.YtgbbojnigicnoaaDoor

/- path.Prune: a value without what stands at a path, nor maps on the way that are empty then. -/
namespace Go.Proofs.YtgbbojnigicnoaaDoor
open Go.RowKit
attribute [local go_sem ↓] Go.wp_at_zero Go.wp_at_succ

theorem RepS.low {w : World} {S : Nat → Prop} {a : Option Addr} {l : List ByteArray} (h : RepS w S a l) : RepS w (fun b => b < w.heap.size) a l := fun i hi => by
  obtain ⟨b, o, e, hs, hlt, hc, hz⟩ := h i hi
  exact ⟨b, o, e, hlt, hlt, hc, hz⟩
theorem RepS.weak {w : World} {S S' : Nat → Prop} {a : Option Addr} {l : List ByteArray} (h : RepS w S a l) (hS : ∀ b, S b → S' b) : RepS w S' a l := fun i hi => by
  obtain ⟨b, o, e, hs, hlt, hc, hz⟩ := h i hi
  exact ⟨b, o, e, hS b hs, hlt, hc, hz⟩
theorem RepS.set6 {w : World} {S : Nat → Prop} {a : Option Addr} {l : List ByteArray} {g : Nat} {c0 c1 c2 c3 c4 c5 : Value} (h : RepS w S a l) (hg : ¬ S g) : RepS (set6 w g 0 c0 c1 c2 c3 c4 c5) S a l := fun i hi => by
  obtain ⟨b, o, e, hs, hlt, hc, hz⟩ := h i hi
  have hne : b ≠ g := fun e => hg (e ▸ hs)
  exact ⟨b, o, e, hs, block_lt_of_cell (a := ⟨b, o + i, none⟩) ((World.cell?_of_block (w := w) (set6_heap hne)).trans hc), (World.cell?_of_block (w := w) (set6_heap hne)).trans hc, hz⟩
/-- How things stand in Prune's turns. -/
structure PrInv (w wr : World) (V : T) (la : Option Addr) (lc : Nat) (ma : Option Addr) (mc : Nat) (a : Option Addr) (l : List ByteArray) : Prop where
  box : Blk wr w.heap.size 25 #[.int .i64 V.kind, .bool V.bool, .int .i64 V.int, .string V.str, .slice la V.list.length lc, .slice ma V.map.length mc]
  res : Blk wr (w.heap.size + 1) 25 #[.int .i64 0, .bool false, .int .i64 0, .string ⟨#[]⟩, .slice none 0 0, .slice none 0 0]
  rep : RepT wr (fun b => w.heap.size + 1 < b) (.agg #[.int .i64 V.kind, .bool V.bool, .int .i64 V.int, .string V.str, .slice la V.list.length lc, .slice ma V.map.length mc]) V
  bel : Below w.heap.size w wr
  steps : RepS wr (fun b => b < w.heap.size) a l
section
variable {w wr w3 : World} {V V' : T} {la la' : Option Addr} {lc lc' : Nat} {ma ma' : Option Addr} {mc mc' : Nat} {a : Option Addr} {l : List ByteArray}
theorem PrInv.keep (h : PrInv w wr V la lc ma mc a l) (hb : Below wr.heap.size wr w3) : PrInv w w3 V la lc ma mc a l :=
  ⟨h.box.keep hb, h.res.keep hb, h.rep.keep hb, Below.next h.bel hb, h.steps.keep hb⟩
theorem PrInv.any (h : PrInv w wr V la lc ma mc a l) : RepT wr (fun _ => True) (.agg #[.int .i64 V.kind, .bool V.bool, .int .i64 V.int, .string V.str, .slice la V.list.length lc, .slice ma V.map.length mc]) V := h.rep.weak fun _ _ _ => trivial
theorem PrInv.first (hbox : Blk wr w.heap.size 25 #[.int .i64 V.kind, .bool V.bool, .int .i64 V.int, .string V.str, .slice la V.list.length lc, .slice ma V.map.length mc]) (hres : Blk wr (w.heap.size + 1) 25 #[.int .i64 0, .bool false, .int .i64 0, .string ⟨#[]⟩, .slice none 0 0, .slice none 0 0]) (hbel : Below w.heap.size w wr) (hst : RepS wr (fun b => b < w.heap.size) a l) (hr : RepT wr (fun b => w.heap.size + 1 < b) (.agg #[.int .i64 V'.kind, .bool V'.bool, .int .i64 V'.int, .string V'.str, .slice la' V'.list.length lc', .slice ma' V'.map.length mc']) V') :
    PrInv w (Go.Proofs.YtgbbojnigicnoaaDoor.set6 wr w.heap.size 0 (.int .i64 V'.kind) (.bool V'.bool) (.int .i64 V'.int) (.string V'.str) (.slice la' V'.list.length lc') (.slice ma' V'.map.length mc')) V' la' lc' ma' mc' a l :=
  ⟨(((((hbox.set_ 0 _).set_ 1 _).set_ 2 _).set_ 3 _).set_ 4 _).set_ 5 _, (set6_heap (by omega)).trans hres, hr.mono (fun _ h _ => h) (fun b o (hb : w.heap.size + 1 < b) _ => World.cell?_of_block (w := wr) (set6_heap (show b ≠ w.heap.size by omega))), set6_below hbel (Nat.le_refl _), hst.set6 (by omega)⟩
theorem PrInv.put (h : PrInv w wr V la lc ma mc a l) (hr : RepT wr (fun b => w.heap.size + 1 < b) (.agg #[.int .i64 V'.kind, .bool V'.bool, .int .i64 V'.int, .string V'.str, .slice la' V'.list.length lc', .slice ma' V'.map.length mc']) V') :
    PrInv w (Go.Proofs.YtgbbojnigicnoaaDoor.set6 wr w.heap.size 0 (.int .i64 V'.kind) (.bool V'.bool) (.int .i64 V'.int) (.string V'.str) (.slice la' V'.list.length lc') (.slice ma' V'.map.length mc')) V' la' lc' ma' mc' a l :=
  PrInv.first h.box h.res h.bel h.steps hr
theorem PrInv.done (h : PrInv w wr V la lc ma mc a l) :
    Blk (Go.Proofs.YtgbbojnigicnoaaDoor.set6 wr (w.heap.size + 1) 0 (.int .i64 V.kind) (.bool V.bool) (.int .i64 V.int) (.string V.str) (.slice la V.list.length lc) (.slice ma V.map.length mc)) (w.heap.size + 1) 25 #[.int .i64 V.kind, .bool V.bool, .int .i64 V.int, .string V.str, .slice la V.list.length lc, .slice ma V.map.length mc] ∧
    NewPost w V (.returned (.agg #[.int .i64 V.kind, .bool V.bool, .int .i64 V.int, .string V.str, .slice la V.list.length lc, .slice ma V.map.length mc])) (Go.Proofs.YtgbbojnigicnoaaDoor.set6 wr (w.heap.size + 1) 0 (.int .i64 V.kind) (.bool V.bool) (.int .i64 V.int) (.string V.str) (.slice la V.list.length lc) (.slice ma V.map.length mc)) :=
  ⟨(((((h.res.set_ 0 _).set_ 1 _).set_ 2 _).set_ 3 _).set_ 4 _).set_ 5 _, _, rfl, h.rep.mono (fun b (hb : w.heap.size + 1 < b) _ => by show w.heap.size ≤ b; omega) (fun b o (hb : w.heap.size + 1 < b) _ => World.cell?_of_block (w := wr) (set6_heap (show b ≠ w.heap.size + 1 by omega))), set6_below h.bel (by omega)⟩
end
end Go.Proofs.YtgbbojnigicnoaaDoor

