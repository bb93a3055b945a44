/- Several texts as one. -/
import Derived.Test.YtmdihildjblgnaaNeat
import Derived.Test.YtmdihildjblgnaaDelete
import Derived.Test.YtmdihildjblgnaaOut
import Derived.Test.YtmdihildjblgnaaLaw
import Derived.Deep.RegionHeld3
import Derived.Deep.CutRange
/- Paths as plain functions of trees: what stands at one, put, drop, prune. -/
namespace Go.Proofs.Ytmdihildjblgnaa

def getP : List ByteArray → T → Option T
  | [], v => some v
  | s :: r, v => (getT v s).bind (getP r)
def putP : List ByteArray → T → T → T
  | [], x, _ => x
  | s :: r, x, v => putT v s (putP r x ((getT v s).getD T.zero))
def dropP : List ByteArray → T → T
  | [], _ => T.zero
  | [s], v => dropT v s
  | s :: r, v => match getT v s with
    | none => v
    | some y => putT v s (dropP r y)
/-- Prune's turns: n steps are still to be looked at. -/
def pruneN (l : List ByteArray) : Nat → T → T
  | 0, v => v
  | n + 1, v => if ((getP (l.take (n + 1)) v).getD T.zero).map ≠ [] then v else pruneN l n (dropP (l.take (n + 1)) v)
def pruneW (l : List ByteArray) (v : T) : T := if getP l v = none then v else pruneN l (l.length - 1) (dropP l v)
/-- The reference's way: from within. -/
def pruneP : List ByteArray → T → T
  | [], _ => T.zero
  | [s], v => if getP [s] v = none then v else dropT v s
  | s :: r, v => if getP (s :: r) v = none then v else if (pruneP r ((getT v s).getD T.zero)).map = [] then dropT v s else putT v s (pruneP r ((getT v s).getD T.zero))

section
variable {n : Nat} {v x : T}
theorem Neat.get (h : Neat n v) (s : ByteArray) : Neat n ((getT v s).getD T.zero) := by rw [getT_look h]; exact h.getD s
theorem Neat.got (h : Neat n v) {s : ByteArray} {y : T} (hy : getT v s = some y) : Neat n y := by rw [getT_look h] at hy; exact h.look hy
theorem getP_neat : ∀ {l : List ByteArray} {v y : T}, Neat n v → getP l v = some y → Neat n y
  | [], v, y, h, e => by injection e with e; exact e ▸ h
  | s :: r, v, y, h, e => by
    rw [getP] at e
    cases eg : getT v s with
    | none => rw [eg] at e; cases e
    | some z => rw [eg] at e; exact getP_neat (h.got eg) e
theorem putT_neat (h : Neat n v) {k : ByteArray} (hk : keyB k = true) {m : Nat} (hx : Neat m x) (hm : n + 1 ≤ m) : Neat m (putT v k x) := by
  rw [putT_ins h]
  have := ins_length v.map k x
  have := h.len
  refine Neat.mkMap (ins_KS h.KS k x) (by omega) fun p hp => ?_
  rcases ins_mem p hp with rfl | hp
  · exact ⟨hk, hx⟩
  · exact ⟨h.key p hp, (h.mem p hp).mono (by omega)⟩
theorem putT_neat_same (h : Neat n v) {k : ByteArray} {y : T} (hk : getT v k = some y) (hx : Neat n x) : Neat n (putT v k x) := by
  rw [putT_ins h]
  rw [getT_look h] at hk
  have hl : (ins v.map k x).length = v.map.length := by
    have : ∀ {m : List (ByteArray × T)}, KS m → look m k = some y → (ins m k x).length = m.length := by
      intro m
      induction m with
      | nil => intro _ h; simp [look] at h
      | cons p r ih =>
        intro hm hl
        rw [ins]
        rw [look] at hl
        split at hl
        · next he => subst he; rw [if_neg (by simp [klt_irrefl]), if_pos rfl]; simp
        · next he => rw [if_pos (hm.head _ (look_mem hl))]; simp [ih hm.tail hl]
    exact this h.KS hk
  refine Neat.mkMap (ins_KS h.KS k x) (by rw [hl]; exact h.len) fun p hp => ?_
  rcases ins_mem p hp with rfl | hp
  · exact ⟨h.keyl hk, hx⟩
  · exact ⟨h.key p hp, h.mem p hp⟩
theorem dropT_neat (h : Neat n v) (k : ByteArray) : Neat n (dropT v k) := by
  by_cases h5 : v.kind = 5
  · rw [h.map h5, dropT_mk]
    exact Neat.mkMap (del_KS h.KS k) (Nat.le_trans (del_len _ _) h.len) fun p hp => ⟨h.key p (mem_del hp), h.mem p (mem_del hp)⟩
  · have : dropT v k = v := by
      have hm := h.nomap h5
      cases v
      simp only [T.map] at hm
      subst hm
      rfl
    rw [this]; exact h
theorem putP_neat : ∀ {l : List ByteArray} {x v : T} {m : Nat}, (∀ s ∈ l, keyB s = true) → Neat n v → Neat m x → n + 1 ≤ m → Neat m (putP l x v)
  | [], x, v, m, _, _, hx, _ => hx
  | s :: r, x, v, m, hl, hv, hx, hm => putT_neat hv (hl s (by simp)) (putP_neat (fun z hz => hl z (by simp [hz])) (hv.get s) hx hm) hm
theorem dropP_neat : ∀ {l : List ByteArray} {v : T}, Neat n v → Neat n (dropP l v)
  | [], v, h => Neat.zero
  | [s], v, h => dropT_neat h s
  | s :: u :: r, v, h => by
    rw [dropP]
    split
    · exact h
    · next y e => exact putT_neat_same h e (dropP_neat (h.got e))
    · simp
theorem pruneN_neat {l : List ByteArray} : ∀ {k : Nat} {v : T}, Neat n v → Neat n (pruneN l k v)
  | 0, v, h => h
  | k + 1, v, h => by
    rw [pruneN]
    split
    · exact h
    · exact pruneN_neat (dropP_neat h)

theorem getT_put (h : Neat n v) (k j : ByteArray) (x : T) : getT (putT v k x) j = if k = j then some x else getT v j := by
  rw [putT_ins h, getT_mk, look_ins _ _ _ h.KS, getT_look h]
theorem getT_drop (h : Neat n v) (k j : ByteArray) : getT (dropT v k) j = if k = j then none else getT v j := by
  rw [getT_look (dropT_neat h k), show (dropT v k).map = del v.map k from rfl, look_del, getT_look h]
theorem putT_putT (h : Neat n v) (k : ByteArray) (x y : T) : putT (putT v k x) k y = putT v k y := by
  rw [putT_ins h, putT_ins h, putT_mk (ins_KS h.KS k x), ins_ins _ _ _ _ h.KS]
theorem dropT_putT (h : Neat n v) (k : ByteArray) (x : T) (h5 : v.kind = 5) : dropT (putT v k x) k = dropT v k := by
  rw [putT_ins h, dropT_mk, del_ins _ _ _ h.KS, h.map h5]; rfl
theorem putT_get (h : Neat n v) {k : ByteArray} {x : T} (hx : getT v k = some x) : putT v k x = v := by
  have h5 : v.kind = 5 := by
    unfold getT at hx
    split at hx
    · assumption
    · cases hx
  rw [getT_look h] at hx
  rw [putT_ins h, ins_look h.KS hx, ← h.map h5]
theorem getT_kind {k : ByteArray} {x : T} (hx : getT v k = some x) : v.kind = 5 := by
  unfold getT at hx
  split at hx
  · assumption
  · cases hx
theorem putT_kind (v : T) (k : ByteArray) (x : T) : (putT v k x).kind = 5 := rfl
theorem dropP_put {s : ByteArray} {r : List ByteArray} {y : T} (hr : r ≠ []) (h : Neat n v) : dropP (s :: r) (putT v s y) = putT v s (dropP r y) := by
  cases r with
  | nil => exact absurd rfl hr
  | cons u r =>
    rw [dropP]
    · rw [getT_put h, if_pos rfl]
      simp only
      rw [putT_putT h]
    · simp
theorem pruneN_put {s : ByteArray} {r : List ByteArray} (h : Neat n v) (h5 : v.kind = 5) : ∀ {k : Nat} {y : T}, k ≤ r.length → Neat n y → pruneN (s :: r) (k + 1) (putT v s y) = if (pruneN r k y).map = [] then dropT v s else putT v s (pruneN r k y)
  | 0, y, hk, hy => by
    rw [pruneN, pruneN, pruneN]
    have e : getP (List.take (0 + 1) (s :: r)) (putT v s y) = some y := by simp [getP, getT_put h]
    rw [e, Option.getD_some]
    by_cases hm : y.map = []
    · rw [if_neg (by simpa using hm), if_pos hm]
      show dropT (putT v s y) s = _
      exact dropT_putT h s y h5
    · rw [if_pos hm, if_neg hm]
  | k + 1, y, hk, hy => by
    have e : getP (List.take (k + 1 + 1) (s :: r)) (putT v s y) = getP (r.take (k + 1)) y := by simp [getP, getT_put h]
    rw [pruneN, e, pruneN.eq_def r]
    simp only
    by_cases hm : ((getP (r.take (k + 1)) y).getD T.zero).map ≠ []
    · rw [if_pos hm, if_pos hm, if_neg fun hy0 => hm ?_]
      cases r with
      | nil => simp at hk
      | cons u r =>
        rw [List.take_succ_cons, getP, getT_look hy, hy0]
        rfl
    · rw [if_neg hm, if_neg hm, List.take_succ_cons, dropP_put (by intro e; have := congrArg List.length e; rw [List.length_take, List.length_nil] at this; omega) h]
      exact pruneN_put h h5 (by omega) (dropP_neat hy)
/-- Both ways to prune are one. -/
theorem prune_one : ∀ {l : List ByteArray} {v : T}, Neat n v → pruneW l v = pruneP l v
  | [], v, h => by simp [pruneW, pruneP, getP, pruneN, dropP]
  | [s], v, h => by simp [pruneW, pruneP, pruneN, dropP]
  | s :: u :: r, v, h => by
    rw [pruneP]
    · unfold pruneW
      by_cases hg : getP (s :: u :: r) v = none
      · rw [if_pos hg, if_pos hg]
      · rw [if_neg hg, if_neg hg]
        cases e : getT v s with
        | none => rw [getP, e] at hg; exact absurd rfl hg
        | some y =>
          have hy := h.got e
          have hgy : getP (u :: r) y ≠ none := by rw [getP, e] at hg; exact hg
          rw [dropP, e, Option.getD_some, ← prune_one hy]
          · unfold pruneW
            rw [if_neg hgy]
            simp only [List.length_cons, Nat.add_sub_cancel]
            exact pruneN_put h (getT_kind e) (by simp) (dropP_neat hy)
          · simp
    · simp
end
end Go.Proofs.Ytmdihildjblgnaa

/- Words for regions that make boxes of their own beside calls. -/
namespace Go.Proofs.Ytmdihildjblgnaa
open Go.RowKit

theorem cell_alloc_lt (w : World) (o : Obj) (b i : Nat) (h : b < w.heap.size) : (w.alloc o).cell? ⟨b, i, none⟩ = w.cell? ⟨b, i, none⟩ := World.cell?_of_block (Below.heap_alloc w o b h)
theorem cell_set_ne (w : World) (g k b i : Nat) (u : Value) (h : b ≠ g) : (w.setCell ⟨g, k, none⟩ u).cell? ⟨b, i, none⟩ = w.cell? ⟨b, i, none⟩ := World.cell?_of_block (Below.heap_setCell w ⟨g, k, none⟩ u b h)
theorem size_alloc (w : World) (o : Obj) : (w.alloc o).heap.size = w.heap.size + 1 := by simp
theorem size_drew (w : World) : w.drew.heap.size = w.heap.size := rfl
theorem size_set (w : World) (p : Addr) (u : Value) : (w.setCell p u).heap.size = w.heap.size := by simp
theorem cell_drew (w : World) (b i : Nat) : w.drew.cell? ⟨b, i, none⟩ = w.cell? ⟨b, i, none⟩ := rfl
theorem Blk.set' {w : World} {g : Nat} {t : TypeId} {cs cs' : Array Value} {i : Nat} {u : Value} (h : Blk w g t cs) (e : cs.setIfInBounds i u = cs') : Blk (w.setCell ⟨g, i, none⟩ u) g t cs' := e ▸ h.set_ i u
theorem Blk.far' {w : World} {g h k : Nat} {t : TypeId} {cs : Array Value} {u : Value} (hb : Blk w g t cs) (e : g ≠ h) : Blk (w.setCell ⟨h, k, none⟩ u) g t cs := hb.far e u
theorem Below.set' {B : Nat} {a w : World} {g k : Nat} {u : Value} (h : Below B a w) (e : B ≤ g) : Below B a (w.setCell ⟨g, k, none⟩ u) := h.setCell e u
theorem Below.alloc' {B : Nat} {a w : World} {o : Obj} (h : Below B a w) (e : B ≤ w.heap.size) : Below B a (w.alloc o) := h.alloc e o
theorem Blk.new' (w : World) (o : TypeId) (cs : Array Value) {n : Nat} (hn : n = w.heap.size) : Blk (w.alloc (.cells cs o)) n o cs := Blk.new_at w o cs hn
theorem Blk.new2 (w : World) (o : Obj) (t : TypeId) (cs : Array Value) : Blk ((w.alloc o).alloc (.cells cs t)) (w.heap.size + 1) t cs := Blk.new_at _ t cs (by simp)
theorem at_world {B P W' : World} {p : Program} {n : Nat} {args : Array Value} {Q : Ending → World → Prop} (_ : Hid (Below B.heap.size B P)) (h : Below P.heap.size P W') (c : Below P.heap.size P W' → Calls p n args W' Q) : Calls p n args W' Q := c h
/-- Two values in boxes that a region made. -/
structure Boxed2 (W0 W' : World) (g h : Nat) (x : T) (la : Option Addr) (lc : Nat) (ma : Option Addr) (mc : Nat) (y : T) (la2 : Option Addr) (lc2 : Nat) (ma2 : Option Addr) (mc2 : Nat) : Prop where
  bel : Below W0.heap.size W0 W'
  boxg : Blk W' g 25 #[.int .i64 x.kind, .bool x.bool, .int .i64 x.int, .string x.str, .slice la x.list.length lc, .slice ma x.map.length mc]
  boxh : Blk W' h 25 #[.int .i64 y.kind, .bool y.bool, .int .i64 y.int, .string y.str, .slice la2 y.list.length lc2, .slice ma2 y.map.length mc2]
  repx : RepT W' (fun _ => True) (.agg #[.int .i64 x.kind, .bool x.bool, .int .i64 x.int, .string x.str, .slice la x.list.length lc, .slice ma x.map.length mc]) x
  repy : RepT W' (fun _ => True) (.agg #[.int .i64 y.kind, .bool y.bool, .int .i64 y.int, .string y.str, .slice la2 y.list.length lc2, .slice ma2 y.map.length mc2]) y

end Go.Proofs.Ytmdihildjblgnaa

/- path.Get, and words for boxes that a region makes ahead of a call or behind it. -/
namespace Go.Proofs.Ytmdihildjblgnaa
open Go.RowKit
attribute [local go_sem ↓] Go.wp_at_zero Go.wp_at_succ

theorem getP_app : ∀ (l m : List ByteArray) (v : T), getP (l ++ m) v = (getP l v).bind (getP m)
  | [], m, v => rfl
  | s :: r, m, v => by
    rw [List.cons_append, getP, getP]
    cases getT v s with
    | none => rfl
    | some y => exact getP_app r m y
theorem getP_one (s : ByteArray) (v : T) : getP [s] v = getT v s := by rw [getP]; cases getT v s <;> rfl
theorem getP_take {l : List ByteArray} {q : Nat} (hq : q < l.length) (v : T) : getP (l.take (q + 1)) v = (getP (l.take q) v).bind fun V => getT V l[q] := by
  rw [List.take_succ_eq_append_getElem hq, getP_app]
  congr 1
  funext V; exact getP_one _ _
theorem getP_none {l : List ByteArray} {q : Nat} {v : T} (h : getP (l.take q) v = none) : getP l v = none := by
  rw [← List.take_append_drop q l, getP_app, h]; rfl
theorem RepS.keep {w w' : World} {S : Nat → Prop} {a : Option Addr} {l : List ByteArray} (h : RepS w S a l) (hb : Below w.heap.size w w') : RepS w' S a l := fun i hi => by
  obtain ⟨b, o, e, hs, hlt, hc, hz⟩ := h i hi
  exact ⟨b, o, e, hs, Nat.lt_of_lt_of_le hlt hb.size, (hb.cell (p := ⟨b, o + i, none⟩) hlt).trans hc, hz⟩
theorem RepS.tail {w : World} {S : Nat → Prop} {b o : Nat} {s : ByteArray} {r : List ByteArray} (h : RepS w S (some ⟨b, o, none⟩) (s :: r)) : RepS w S (some ⟨b, o + 1, none⟩) r := fun i hi => by
  obtain ⟨b', o', e, hs, hlt, hc, hz⟩ := h (i + 1) (by simpa using hi)
  obtain ⟨rfl, rfl⟩ : b = b' ∧ o = o' := by simpa using e
  exact ⟨b, o + 1, rfl, hs, hlt, by rw [show o + 1 + i = o + (i + 1) by omega]; exact hc, hz⟩
theorem RepS.tail2 {w : World} {S : Nat → Prop} {b o c : Nat} {s : ByteArray} {r : List ByteArray} (h : RepS w S (some ⟨b, o, none⟩) (s :: r)) (hc : r.length + 1 ≤ c) : RepS w S (if c = 1 then some ⟨b, o, none⟩ else some ⟨b, o + 1, none⟩) r := by
  split
  · intro i hi; omega
  · exact h.tail
theorem RepS.take {w : World} {S : Nat → Prop} {a : Option Addr} {l : List ByteArray} (h : RepS w S a l) (k : Nat) : RepS w S a (l.take k) := fun i hi => by
  rw [List.length_take] at hi
  obtain ⟨b', o', e, hs, hlt, hc, hz⟩ := h i (by omega)
  exact ⟨b', o', e, hs, hlt, by rw [List.getElem_take]; exact hc, by rw [List.getElem_take]; exact hz⟩

theorem alloc_drew_size (W : World) (o : Obj) : (W.alloc o).drew.heap.size = W.heap.size + 1 := (by simp : (W.alloc o).heap.size = W.heap.size + 1)
/-- A value in a box that was made in a region, ahead of the call or behind it. -/
structure Boxed (W0 W' : World) (g : Nat) (x : T) (la : Option Addr) (lc : Nat) (ma : Option Addr) (mc : Nat) : Prop where
  bel : Below W0.heap.size W0 W'
  low : W0.heap.size ≤ g
  box : Blk W' g 25 #[.int .i64 x.kind, .bool x.bool, .int .i64 x.int, .string x.str, .slice la x.list.length lc, .slice ma x.map.length mc]
  rep : RepT W' (fun b => W0.heap.size ≤ b ∧ b ≠ g) (.agg #[.int .i64 x.kind, .bool x.bool, .int .i64 x.int, .string x.str, .slice la x.list.length lc, .slice ma x.map.length mc]) x
section
variable {W0 w1 : World} {x : T} {la : Option Addr} {lc : Nat} {ma : Option Addr} {mc : Nat}
theorem Boxed.ahead (hb : Below (W0.alloc (.cells #[.int .i64 0, .bool false, .int .i64 0, .string ⟨#[]⟩, .slice none 0 0, .slice none 0 0] 25)).drew.heap.size (W0.alloc (.cells #[.int .i64 0, .bool false, .int .i64 0, .string ⟨#[]⟩, .slice none 0 0, .slice none 0 0] 25)).drew w1) (hr : RepT w1 (fun b => (W0.alloc (.cells #[.int .i64 0, .bool false, .int .i64 0, .string ⟨#[]⟩, .slice none 0 0, .slice none 0 0] 25)).drew.heap.size ≤ b) (.agg #[.int .i64 x.kind, .bool x.bool, .int .i64 x.int, .string x.str, .slice la x.list.length lc, .slice ma x.map.length mc]) x) :
    Boxed W0 (set6 w1 W0.heap.size 0 (.int .i64 x.kind) (.bool x.bool) (.int .i64 x.int) (.string x.str) (.slice la x.list.length lc) (.slice ma x.map.length mc)) W0.heap.size x la lc ma mc := by
  have h0 : Below W0.heap.size W0 w1 := Below.next ((Below.new _ _).drew) hb
  have hn : Blk w1 W0.heap.size 25 #[.int .i64 0, .bool false, .int .i64 0, .string ⟨#[]⟩, .slice none 0 0, .slice none 0 0] := ((Blk.new W0 25 #[.int .i64 0, .bool false, .int .i64 0, .string ⟨#[]⟩, .slice none 0 0, .slice none 0 0]).drew).keep hb
  have h2 : (W0.alloc (.cells #[.int .i64 0, .bool false, .int .i64 0, .string ⟨#[]⟩, .slice none 0 0, .slice none 0 0] 25)).drew.heap.size = W0.heap.size + 1 := alloc_drew_size _ _
  rw [h2] at hr
  refine ⟨set6_below h0 (Nat.le_refl _), Nat.le_refl _, (((((hn.set_ 0 _).set_ 1 _).set_ 2 _).set_ 3 _).set_ 4 _).set_ 5 _, ?_⟩
  exact hr.mono (fun b (hb : W0.heap.size + 1 ≤ b) _ => ⟨by omega, by omega⟩) (fun b o (hb : W0.heap.size + 1 ≤ b) _ => World.cell?_of_block (w := w1) (set6_heap (o := 0) (show b ≠ W0.heap.size by omega)))
theorem Boxed.behind (hb : Below W0.drew.heap.size W0.drew w1) (hr : RepT w1 (fun b => W0.drew.heap.size ≤ b) (.agg #[.int .i64 x.kind, .bool x.bool, .int .i64 x.int, .string x.str, .slice la x.list.length lc, .slice ma x.map.length mc]) x) : Boxed W0 (w1.alloc (.cells #[.int .i64 x.kind, .bool x.bool, .int .i64 x.int, .string x.str, .slice la x.list.length lc, .slice ma x.map.length mc] 25)) w1.heap.size x la lc ma mc := by
  have h0 : Below W0.heap.size W0 w1 := Below.next ((Below.refl _ _).drew) hb
  have hs : W0.heap.size ≤ w1.heap.size := h0.size
  refine ⟨Below.next h0 (Below.new _ _), hs, Blk.new _ _ _, RepT.keep ?_ (Below.new _ _)⟩
  exact hr.mono (fun b (h : W0.heap.size ≤ b) h2 => ⟨h, by omega⟩) (fun _ _ _ _ => rfl)
end

set_option maxRecDepth 100000 in
set_option maxHeartbeats 4000000 in
theorem tpget {n : Nat} (l : List ByteArray) (v : T) (hv : Neat n v) (a : Option Addr) (c : Nat) (vv : Value) (w : World) (S : Nat → Prop) (h : RepT w S vv v) (hl : RepS w (fun _ => True) a l) (hlen : l.length ≤ 140737488355328) :
    Calls Try.prog 45 #[vv, .slice a l.length c] w (GotB w (getP l v).isSome ((getP l v).getD T.zero)) := by
  obtain ⟨la, lc, ma, mc, rfl, -⟩ := h.inv
  have HL := Lib.hid hl
  have HN := Lib.hid (fun q V (e : getP (l.take q) v = some V) => getP_neat hv e)
  have HR := Lib.hid h
  clear h hl hv
  go_enter Try.func45, Try.ntmps45
  go_wp2_with fail
  have hi : ∃ W0, W0 = ((w.alloc (.cells #[.int .i64 v.kind, .bool v.bool, .int .i64 v.int, .string v.str, .slice la v.list.length lc, .slice ma v.map.length mc] 25)).alloc (.cells #[.int .i64 0, .bool false, .int .i64 0, .string ⟨#[]⟩, .slice none 0 0, .slice none 0 0] 25)) ∧ Blk W0 w.heap.size 25 #[.int .i64 v.kind, .bool v.bool, .int .i64 v.int, .string v.str, .slice la v.list.length lc, .slice ma v.map.length mc] ∧ Blk W0 (w.heap.size + 1) 25 #[.int .i64 0, .bool false, .int .i64 0, .string ⟨#[]⟩, .slice none 0 0, .slice none 0 0] ∧ Below w.heap.size w W0 ∧ RepT W0 (fun b => b ≠ w.heap.size ∧ b ≠ w.heap.size + 1) (.agg #[.int .i64 v.kind, .bool v.bool, .int .i64 v.int, .string v.str, .slice la v.list.length lc, .slice ma v.map.length mc]) v :=
    ⟨_, rfl, (Blk.new _ _ _).alloc _, Blk.new_at _ _ _ (by simp), (Below.new _ _).alloc (by simp) _, (HR.out.mono (w' := w) (S' := fun b => b ≠ w.heap.size ∧ b ≠ w.heap.size + 1) (fun b _ h => ⟨by omega, by omega⟩) (fun _ _ _ _ => rfl)).keep ((Below.new _ _).alloc (by simp) _)⟩
  obtain ⟨W0, e0, hi⟩ := hi
  rw [← e0]
  have HI := Lib.hid hi
  clear e0 hi HR
  go_loopw [11] (fun x wr => ∃ (q : Nat) (V : T) (la2 : Option Addr) (lc2 : Nat) (ma2 : Option Addr) (mc2 : Nat), q ≤ l.length ∧ x = .int .i64 q ∧ Hid (getP (l.take q) v = some V) ∧ Blk wr w.heap.size 25 #[.int .i64 V.kind, .bool V.bool, .int .i64 V.int, .string V.str, .slice la2 V.list.length lc2, .slice ma2 V.map.length mc2] ∧ Blk wr (w.heap.size + 1) 25 #[.int .i64 0, .bool false, .int .i64 0, .string ⟨#[]⟩, .slice none 0 0, .slice none 0 0] ∧ Below w.heap.size w wr ∧ RepT wr (fun b => b ≠ w.heap.size ∧ b ≠ w.heap.size + 1) (.agg #[.int .i64 V.kind, .bool V.bool, .int .i64 V.int, .string V.str, .slice la2 V.list.length lc2, .slice ma2 V.map.length mc2]) V) (fun x _ => l.length - (intOf x).toNat)
  case atStart => exact ⟨0, v, _, _, _, _, Nat.zero_le _, rfl, rfl, HI.out⟩
  case round =>
    obtain ⟨q, V, la2, lc2, ma2, mc2, hq, rfl, hV, hb1, hb2, hbw, hr⟩ := hrel
    have HB1 := Lib.hid hb1
    have HB2 := Lib.hid hb2
    have HBW := Lib.hid hbw
    have HR := Lib.hid hr
    have k1 := hb1.cell
    have l1 := hb1.lt
    have l2 := hb2.lt
    have k2 := hb2.cell
    have f2 := hb2.frozen
    have HNV := Lib.hid (HN.out q V hV.out)
    clear HI hb1 hb2 hr
    by_cases hlt : q < l.length
    · obtain ⟨b, o, rfl, -, hbl, hc, hz⟩ := HL.out q hlt
      have hc2 := (hbw.cell (p := ⟨b, o + q, none⟩) hbl).trans hc
      have hbl2 : b < wr.heap.size := Nat.lt_of_lt_of_le hbl hbw.size
      have HT := Lib.hid (show getP (l.take (q + 1)) v = getT V l[q] by rw [getP_take hlt, hV.out]; rfl)
      clear hc hbw hbl
      generalize l[q] = s at *
      go_wp2_with fail
      cases hg : getT V s with
      | none =>
        have HP := Lib.hid (getP_none (HT.out.trans hg))
        refine (tget_none hg _ _ _ HR.out HNV.out.KS).mono ?_
        rintro e w2 ⟨v2, rfl, hr2, hb2⟩
        obtain ⟨la4, lc4, ma4, mc4, rfl, -⟩ := hr2.inv
        have HZ := Lib.hid (HB2.out.keep hb2)
        have HY := Lib.hid (HB1.out.keep hb2)
        have HW2 := Lib.hid (Below.next HBW.out hb2)
        have j1 := (HB1.out.keep hb2).cell
        have j2 := HZ.out.cell
        have g1 := (HB1.out.keep hb2).frozen
        have g2 := HZ.out.frozen
        have m1 := (HB1.out.keep hb2).lt
        have m2 := HZ.out.lt
        clear hr2 hb2 hg
        go_wp2_with fail
        have hne : w.heap.size + 1 ≠ w.heap.size := by omega
        refine ret_cell2 rfl rfl rfl ((((((((((((HZ.out.far hne _).far hne _).far hne _).far hne _).far hne _).far hne _).set_ 0 _).set_ 1 _).set_ 2 _).set_ 3 _).set_ 4 _).set_ 5 _) Try.underlying25 val_size rfl ⟨_, by rw [HP.out]; rfl, by rw [HP.out]; exact rep_zero _ _, set6_below (o := 0) (set6_below (o := 0) HW2.out (Nat.le_refl _)) (by omega)⟩
      | some y =>
        have HTY := Lib.hid (HT.out.trans hg)
        refine (tget_some hg _ _ _ HR.out HNV.out.KS).mono ?_
        rintro e w2 ⟨v2, rfl, hr2, hb2⟩
        obtain ⟨la4, lc4, ma4, mc4, rfl, -⟩ := hr2.inv
        have HZ := Lib.hid (HB2.out.keep hb2)
        have HY := Lib.hid (HB1.out.keep hb2)
        have HW2 := Lib.hid (Below.next HBW.out hb2)
        have HR2 := Lib.hid hr2
        have j1 := (HB1.out.keep hb2).cell
        have g1 := (HB1.out.keep hb2).frozen
        have m1 := (HB1.out.keep hb2).lt
        clear hr2 hb2 hg
        go_wp2_with fail
        go_roundw
        case rel => exact ⟨q + 1, y, la4, lc4, ma4, mc4, by omega, by go_num, HTY, ((((((HY.out.set_ 0 _).set_ 1 _).set_ 2 _).set_ 3 _).set_ 4 _).set_ 5 _), (set6_heap (o := 0) (show w.heap.size + 1 ≠ w.heap.size by omega)).trans HZ.out, set6_below (o := 0) HW2.out (Nat.le_refl _), HR2.out.mono (fun b (hb : wr.heap.size ≤ b) _ => ⟨by omega, by omega⟩) (fun b o (hb : wr.heap.size ≤ b) _ => World.cell?_of_block (w := w2) (set6_heap (o := 0) (show b ≠ w.heap.size by omega)))⟩
        case measure => simp [intOf]; omega
    · obtain rfl : q = l.length := by omega
      rw [List.take_length] at hV
      go_wp2_with fail
      refine (clone_any V _ _ _ HR.out).mono ?_
      rintro e w2 ⟨v2, rfl, hr2, hb2⟩
      obtain ⟨la4, lc4, ma4, mc4, rfl, -⟩ := hr2.inv
      have HZ := Lib.hid (HB2.out.keep hb2)
      have HW2 := Lib.hid (Below.next HBW.out hb2)
      have HR2 := Lib.hid hr2
      have j2 := HZ.out.cell
      have g2 := HZ.out.frozen
      have m2 := HZ.out.lt
      have hsz := hbw.size
      clear hr2 hb2
      go_wp2_with fail
      exact ret_cell2 rfl rfl rfl ((((((HZ.out.set_ 0 _).set_ 1 _).set_ 2 _).set_ 3 _).set_ 4 _).set_ 5 _) Try.underlying25 val_size rfl ⟨_, by rw [hV.out]; rfl, by rw [hV.out]; exact HR2.out.mono (fun b (hb : wr.heap.size ≤ b) _ => by show w.heap.size ≤ b; omega) (fun b o (hb : wr.heap.size ≤ b) _ => World.cell?_of_block (w := w2) (set6_heap (o := 0) (show b ≠ w.heap.size + 1 by omega))), set6_below (o := 0) HW2.out (by omega)⟩
end Go.Proofs.Ytmdihildjblgnaa

/- path.Put: a value with another one at a path. -/
namespace Go.Proofs.Ytmdihildjblgnaa
open Go.RowKit
attribute [local go_sem ↓] Go.wp_at_zero Go.wp_at_succ

set_option maxRecDepth 100000 in
set_option maxHeartbeats 8000000 in
theorem tpput {n m : Nat} (hnm : n + 1 ≤ m) (hm1 : m ≤ 1000000) (l : List ByteArray) : ∀ (v x : T) (_ : Neat n v) (_ : Neat m x) (_ : ∀ s ∈ l, keyB s = true) (a : Option Addr) (c : Nat) (vv vx : Value) (w : World) (S S' : Nat → Prop), RepT w S vv v → RepT w S' vx x → RepS w (fun _ => True) a l → l.length ≤ c → c ≤ maxLen →
    Calls Try.prog 47 #[vv, vx, .slice a l.length c] w (NewPost w (putP l x v)) := by
  induction l with
  | nil =>
    intro v x hv hx hl a c vv vx w S S' h hxr hls hc1 hc2
    obtain ⟨la, lc, ma, mc, rfl, -⟩ := h.inv
    obtain ⟨la1, lc1, ma1, mc1, rfl, -⟩ := hxr.inv
    have HX := Lib.hid hxr
    clear h hxr hls hl hv hx
    go_enter Try.func47, Try.ntmps47
    go_wp2_with fail
    have hi : ∃ W0, W0 = (((w.alloc (.cells #[.int .i64 v.kind, .bool v.bool, .int .i64 v.int, .string v.str, .slice la v.list.length lc, .slice ma v.map.length mc] 25)).alloc (.cells #[.int .i64 x.kind, .bool x.bool, .int .i64 x.int, .string x.str, .slice la1 x.list.length lc1, .slice ma1 x.map.length mc1] 25)).alloc (.cells #[.int .i64 0, .bool false, .int .i64 0, .string ⟨#[]⟩, .slice none 0 0, .slice none 0 0] 25)) ∧ Blk W0 (w.heap.size + 1 + 1) 25 #[.int .i64 0, .bool false, .int .i64 0, .string ⟨#[]⟩, .slice none 0 0, .slice none 0 0] ∧ Below w.heap.size w W0 :=
      ⟨_, rfl, Blk.new_at _ _ _ (by simp), ((Below.new _ _).alloc (by simp) _).alloc (by simp; omega) _⟩
    obtain ⟨W0, e0, hz, hbw⟩ := hi
    rw [← e0]
    clear e0
    refine (clone_any x _ _ _ (HX.out.keep hbw)).mono ?_
    rintro e w2 ⟨v2, rfl, hr2, hb2⟩
    obtain ⟨la4, lc4, ma4, mc4, rfl, -⟩ := hr2.inv
    have HZ := Lib.hid (hz.keep hb2)
    have HW2 := Lib.hid (Below.next hbw hb2)
    have HR2 := Lib.hid hr2
    have j2 := HZ.out.cell
    have g2 := HZ.out.frozen
    have m2 := HZ.out.lt
    have hsz := hbw.size
    have hz1 := hz.lt
    clear hr2 hb2 hz hbw
    go_wp2_with fail
    exact ret_cell rfl rfl ((((((HZ.out.set_ 0 _).set_ 1 _).set_ 2 _).set_ 3 _).set_ 4 _).set_ 5 _) Try.underlying25 val_size rfl ⟨_, rfl, HR2.out.mono (fun b (hb : W0.heap.size ≤ b) _ => by show w.heap.size ≤ b; omega) (fun b o (hb : W0.heap.size ≤ b) _ => World.cell?_of_block (w := w2) (set6_heap (o := 0) (show b ≠ w.heap.size + 1 + 1 by omega))), set6_below (o := 0) HW2.out (by omega)⟩
  | cons s r ih =>
    intro v x hv hx hl a c vv vx w S S' h hxr hls hc1 hc2
    obtain ⟨la, lc, ma, mc, rfl, -⟩ := h.inv
    obtain ⟨la1, lc1, ma1, mc1, rfl, -⟩ := hxr.inv
    have HX := Lib.hid (hxr.weak (S' := fun _ => True) (fun _ _ _ => trivial))
    have HV := Lib.hid (h.weak (S' := fun _ => True) (fun _ _ _ => trivial))
    have HNV := Lib.hid hv
    have HE := Lib.hid (show putP (s :: r) x v = putT v s (putP r x ((getT v s).getD T.zero)) from rfl)
    have HI := Lib.hid (fun a c vv vx w => ih ((getT v s).getD T.zero) x (hv.get s) hx (fun z hz => hl z (by simp [hz])) a c vv vx w (fun _ => True) (fun _ => True))
    obtain ⟨b, o, rfl, -, hbl, hcs, hz⟩ := hls 0 (by simp)
    have HT := Lib.hid (hls.tail2 (c := c) (by simpa using hc1))
    simp only [List.getElem_cons_zero, Nat.add_zero] at hcs hz
    have hvl : (v.map.length + 1) * 104 ≤ 140737488355328 := by have := hv.len; omega
    rw [List.length_cons] at hc1 ⊢
    clear h hxr hls hl hv hx ih
    generalize hgi : (getT v s).getD T.zero = y at *
    have HG := Lib.hid hgi
    clear hgi
    generalize r.length = rl at *
    go_enter Try.func47, Try.ntmps47
    go_wp2_with fail
    have hi : ∃ W0, W0 = (((w.alloc (.cells #[.int .i64 v.kind, .bool v.bool, .int .i64 v.int, .string v.str, .slice la v.list.length lc, .slice ma v.map.length mc] 25)).alloc (.cells #[.int .i64 x.kind, .bool x.bool, .int .i64 x.int, .string x.str, .slice la1 x.list.length lc1, .slice ma1 x.map.length mc1] 25)).alloc (.cells #[.int .i64 0, .bool false, .int .i64 0, .string ⟨#[]⟩, .slice none 0 0, .slice none 0 0] 25)) ∧ Blk W0 w.heap.size 25 #[.int .i64 v.kind, .bool v.bool, .int .i64 v.int, .string v.str, .slice la v.list.length lc, .slice ma v.map.length mc] ∧ Blk W0 (w.heap.size + 1) 25 #[.int .i64 x.kind, .bool x.bool, .int .i64 x.int, .string x.str, .slice la1 x.list.length lc1, .slice ma1 x.map.length mc1] ∧ Blk W0 (w.heap.size + 1 + 1) 25 #[.int .i64 0, .bool false, .int .i64 0, .string ⟨#[]⟩, .slice none 0 0, .slice none 0 0] ∧ Below w.heap.size w W0 :=
      ⟨_, rfl, ((Blk.new _ _ _).alloc _).alloc _, (Blk.new_at _ _ _ (by simp)).alloc _, Blk.new_at _ _ _ (by simp), ((Below.new _ _).alloc (by simp) _).alloc (by simp; omega) _⟩
    obtain ⟨W0, e0, hb0, hb1, hb2, hbw⟩ := hi
    rw [← e0]
    clear e0
    have hcs0 := (hbw.cell (p := ⟨b, o, none⟩) hbl).trans hcs
    have hbl0 : b < W0.heap.size := Nat.lt_of_lt_of_le hbl hbw.size
    have L0 := Lib.hid hb0
    have L1 := Lib.hid hb1
    have L2 := Lib.hid hb2
    have HW := Lib.hid hbw
    have k0 := hb0.cell
    have l0 := hb0.lt
    have hla := hb1.lt
    have hlb := hb2.lt
    have HV0 := Lib.hid (HV.out.keep hbw)
    have HX0 := Lib.hid (HX.out.keep hbw)
    have HT0 := Lib.hid (HT.out.keep hbw)
    clear hb0 hb1 hb2 hbw hcs HV HX HT
    go_cut [7, 8] from 14 to 21 (fun p7 _ wx => ∃ (g : Nat) (la2 : Option Addr) (lc2 : Nat) (ma2 : Option Addr) (mc2 : Nat), p7 = .pointer (some ⟨g, 0, none⟩) ∧ Boxed W0 wx g y la2 lc2 ma2 mc2)
    case first =>
      go_region_with (first
        | (go_at_call 26; first
          | ((with_reducible refine (tget_b rfl HG.out _ _ _ (HV0.out.keep (by exact (Below.refl _ _).drew)) HNV.out.KS).mono ?_); rintro e w1 ⟨v1, rfl, hr1, hb1⟩; obtain ⟨la2, lc2, ma2, mc2, rfl, -⟩ := hr1.inv; have HBX := Lib.hid (Boxed.behind hb1 hr1); clear hb1 hr1)
          | ((with_reducible refine (tget_b rfl HG.out _ _ _ (HV0.out.keep (by exact (Below.new _ _).drew)) HNV.out.KS).mono ?_); rintro e w1 ⟨v1, rfl, hr1, hb1⟩; obtain ⟨la2, lc2, ma2, mc2, rfl, -⟩ := hr1.inv; have kz := (((Blk.new W0 25 #[.int .i64 0, .bool false, .int .i64 0, .string ⟨#[]⟩, .slice none 0 0, .slice none 0 0]).drew).keep hb1).cell; have fz := (((Blk.new W0 25 #[.int .i64 0, .bool false, .int .i64 0, .string ⟨#[]⟩, .slice none 0 0, .slice none 0 0]).drew).keep hb1).frozen; have lz := (((Blk.new W0 25 #[.int .i64 0, .bool false, .int .i64 0, .string ⟨#[]⟩, .slice none 0 0, .slice none 0 0]).drew).keep hb1).lt; have HBX := Lib.hid (Boxed.ahead hb1 hr1); clear hb1 hr1)))
      all_goals
        go_wp2_with fail
        go_meet
        exact ⟨_, _, _, _, _, rfl, HBX.out⟩
    case rest =>
    obtain ⟨g, la2, lc2, ma2, mc2, rfl, hbx⟩ := hcut
    have hblc : b < wc.heap.size := Nat.lt_of_lt_of_le hbl0 hbx.bel.size
    have q_3 := (hbx.bel.cell (p := ⟨b, o, none⟩) hbl0).trans hcs0
    have LG := Lib.hid hbx.box
    replace L0 := Lib.hid (L0.out.keep hbx.bel)
    replace L1 := Lib.hid (L1.out.keep hbx.bel)
    replace L2 := Lib.hid (L2.out.keep hbx.bel)
    have HWc := Lib.hid (Below.next HW.out hbx.bel)
    have HVc := Lib.hid (HV0.out.keep hbx.bel)
    have HXc := Lib.hid (HX0.out.keep hbx.bel)
    have HTc := Lib.hid (HT0.out.keep hbx.bel)
    have HYc := Lib.hid (hbx.rep.weak (S' := fun _ => True) (fun _ _ _ => trivial))
    have hgw : w.heap.size + 1 + 1 ≠ g := by have := hbx.low; omega
    clear hbx hcs0 k0 HW HV0 HX0 HT0 hbl0 l0 hla hlb
    rcases Classical.em (c = 1) with hone | hone
    · have HTd := Lib.hid (show RepS wc (fun _ => True) (some ⟨b, o, none⟩) r by have h := HTc.out; rw [if_pos hone] at h; exact h)
      subst hone
      obtain rfl : rl = 0 := by omega
      clear HTc
      go_wp2_with fail
      have q_0 := L0.out.cell; have q_1 := L1.out.cell; have q_2 := LG.out.cell
      have hn0 : w.heap.size ≠ w.heap.size + 1 + 1 := by omega
      have hn1 : w.heap.size + 1 ≠ w.heap.size + 1 + 1 := by omega
      have hn2 : g ≠ w.heap.size + 1 + 1 := fun e => hgw e.symm
      have hn3 : b ≠ w.heap.size + 1 + 1 := by omega
      go_region_held3 (fun w' => (∀ i, w'.cell? ⟨w.heap.size, i, none⟩ = (#[.int .i64 v.kind, .bool v.bool, .int .i64 v.int, .string v.str, .slice la v.list.length lc, .slice ma v.map.length mc] : Array Value)[i]?) ∧ (∀ i, w'.cell? ⟨w.heap.size + 1, i, none⟩ = (#[.int .i64 x.kind, .bool x.bool, .int .i64 x.int, .string x.str, .slice la1 x.list.length lc1, .slice ma1 x.map.length mc1] : Array Value)[i]?) ∧ (∀ i, w'.cell? ⟨g, i, none⟩ = (#[.int .i64 y.kind, .bool y.bool, .int .i64 y.int, .string y.str, .slice la2 y.list.length lc2, .slice ma2 y.map.length mc2] : Array Value)[i]?) ∧ w'.cell? ⟨b, o, none⟩ = some (.string s))
        (first
          | (with_reducible exact ⟨q_0, q_1, q_2, q_3⟩)
          | (refine ⟨fun i => ?_, fun i => ?_, fun i => ?_, ?_⟩ <;> (simp (disch := first | assumption | omega) only [cell_set_ne, cell_drew]; first | (with_reducible exact q_0 i) | (with_reducible exact q_1 i) | (with_reducible exact q_2 i) | (with_reducible exact q_3))))
        (first
        | (go_at_call 47; ((with_reducible refine (HI.out _ 0 _ _ _ (HYc.out.keep (by exact (Below.refl _ _).drew)) (HXc.out.keep (by exact (Below.refl _ _).drew)) (HTd.out.keep (by exact (Below.refl _ _).drew)) (by omega) (by unfold maxLen; omega)).mono ?_)); rintro e w2 ⟨v2, rfl, hr2, hb2⟩; obtain ⟨la3, lc3, ma3, mc3, rfl, -⟩ := hr2.inv; have hbq := Below.next ((Below.refl _ _).drew) hb2; replace q_3 := (hbq.cell (p := ⟨b, o, none⟩) hblc).trans q_3; replace hblc : b < w2.heap.size := Nat.lt_of_lt_of_le hblc hbq.size; replace L0 := Lib.hid (L0.out.keep hbq); replace L1 := Lib.hid (L1.out.keep hbq); replace L2 := Lib.hid (L2.out.keep hbq); replace LG := Lib.hid (LG.out.keep hbq); replace HWc := Lib.hid (Below.next HWc.out hbq); replace HVc := Lib.hid (HVc.out.keep hbq); have HR2 := Lib.hid hr2; clear q_0 q_1 q_2; have q_0 := L0.out.cell; have q_1 := L1.out.cell; have q_2 := LG.out.cell; clear hbq hr2 hb2 HXc HYc HTd)
        | (go_at_call 25; refine (tput v (putP r x y) s _ _ _ _ _ HVc.out HR2.out hz hvl).mono ?_; rintro e w3 ⟨v3, rfl, hr3, hb3⟩; obtain ⟨la5, lc5, ma5, mc5, rfl, -⟩ := hr3.inv; replace q_3 := (hb3.cell (p := ⟨b, o, none⟩) hblc).trans q_3; replace L0 := Lib.hid (L0.out.keep hb3); replace L1 := Lib.hid (L1.out.keep hb3); replace LG := Lib.hid (LG.out.keep hb3); have HN3 := Lib.hid L2.out.lt; have HS3 := Lib.hid HWc.out.size; replace L2 := Lib.hid (L2.out.keep hb3); replace HWc := Lib.hid (Below.next HWc.out hb3); have HR3 := Lib.hid hr3; clear q_0 q_1 q_2; have q_0 := L0.out.cell; have q_1 := L1.out.cell; have q_2 := LG.out.cell; have k3 := L2.out.cell; have z3 := L2.out.frozen; have l3 := L2.out.lt; clear hb3 hr3))
      all_goals
        go_wp2_with fail
        have hs3 := HS3.out
        have hn3 := HN3.out
        exact ret_cell rfl rfl ((((((L2.out.set_ 0 _).set_ 1 _).set_ 2 _).set_ 3 _).set_ 4 _).set_ 5 _) Try.underlying25 val_size rfl ⟨_, rfl, by rw [HE.out]; exact HR3.out.mono (fun b (hb : _ ≤ b) _ => by show w.heap.size ≤ b; omega) (fun b o (hb : _ ≤ b) _ => World.cell?_of_block (set6_heap (o := 0) (show b ≠ w.heap.size + 1 + 1 by omega))), set6_below (o := 0) HWc.out (by omega)⟩
    · have HTd := Lib.hid (show RepS wc (fun _ => True) (some ⟨b, o + 1, none⟩) r by have h := HTc.out; rw [if_neg hone] at h; exact h)
      clear HTc
      go_wp2_with fail
      have s1 : (1 : Int) ≤ (rl : Int) + 1 := by omega
      have s2 : (rl : Int) + 1 ≤ (c : Int) := by omega
      have s3 : (0 : Int) ≤ (rl : Int) + 1 := by omega
      have s4 : (0 : Int) ≤ (c : Int) := by omega
      have s5 : (1 : Int) ≤ (c : Int) := by omega
      have q_0 := L0.out.cell; have q_1 := L1.out.cell; have q_2 := LG.out.cell
      have hn0 : w.heap.size ≠ w.heap.size + 1 + 1 := by omega
      have hn1 : w.heap.size + 1 ≠ w.heap.size + 1 + 1 := by omega
      have hn2 : g ≠ w.heap.size + 1 + 1 := fun e => hgw e.symm
      have hn3 : b ≠ w.heap.size + 1 + 1 := by omega
      go_region_held3 (fun w' => (∀ i, w'.cell? ⟨w.heap.size, i, none⟩ = (#[.int .i64 v.kind, .bool v.bool, .int .i64 v.int, .string v.str, .slice la v.list.length lc, .slice ma v.map.length mc] : Array Value)[i]?) ∧ (∀ i, w'.cell? ⟨w.heap.size + 1, i, none⟩ = (#[.int .i64 x.kind, .bool x.bool, .int .i64 x.int, .string x.str, .slice la1 x.list.length lc1, .slice ma1 x.map.length mc1] : Array Value)[i]?) ∧ (∀ i, w'.cell? ⟨g, i, none⟩ = (#[.int .i64 y.kind, .bool y.bool, .int .i64 y.int, .string y.str, .slice la2 y.list.length lc2, .slice ma2 y.map.length mc2] : Array Value)[i]?) ∧ w'.cell? ⟨b, o, none⟩ = some (.string s))
        (first
          | (with_reducible exact ⟨q_0, q_1, q_2, q_3⟩)
          | (refine ⟨fun i => ?_, fun i => ?_, fun i => ?_, ?_⟩ <;> (simp (disch := first | assumption | omega) only [cell_set_ne, cell_drew]; first | (with_reducible exact q_0 i) | (with_reducible exact q_1 i) | (with_reducible exact q_2 i) | (with_reducible exact q_3))))
        (first
        | (go_at_call 47; ((with_reducible refine (HI.out _ _ _ _ _ (HYc.out.keep (by exact (Below.refl _ _).drew)) (HXc.out.keep (by exact (Below.refl _ _).drew)) (HTd.out.keep (by exact (Below.refl _ _).drew)) (by omega) (by unfold maxLen at *; omega)).mono ?_)); rintro e w2 ⟨v2, rfl, hr2, hb2⟩; obtain ⟨la3, lc3, ma3, mc3, rfl, -⟩ := hr2.inv; have hbq := Below.next ((Below.refl _ _).drew) hb2; replace q_3 := (hbq.cell (p := ⟨b, o, none⟩) hblc).trans q_3; replace hblc : b < w2.heap.size := Nat.lt_of_lt_of_le hblc hbq.size; replace L0 := Lib.hid (L0.out.keep hbq); replace L1 := Lib.hid (L1.out.keep hbq); replace L2 := Lib.hid (L2.out.keep hbq); replace LG := Lib.hid (LG.out.keep hbq); replace HWc := Lib.hid (Below.next HWc.out hbq); replace HVc := Lib.hid (HVc.out.keep hbq); have HR2 := Lib.hid hr2; clear q_0 q_1 q_2; have q_0 := L0.out.cell; have q_1 := L1.out.cell; have q_2 := LG.out.cell; clear hbq hr2 hb2 HXc HYc HTd)
        | (go_at_call 25; refine (tput v (putP r x y) s _ _ _ _ _ HVc.out HR2.out hz hvl).mono ?_; rintro e w3 ⟨v3, rfl, hr3, hb3⟩; obtain ⟨la5, lc5, ma5, mc5, rfl, -⟩ := hr3.inv; replace q_3 := (hb3.cell (p := ⟨b, o, none⟩) hblc).trans q_3; replace L0 := Lib.hid (L0.out.keep hb3); replace L1 := Lib.hid (L1.out.keep hb3); replace LG := Lib.hid (LG.out.keep hb3); have HN3 := Lib.hid L2.out.lt; have HS3 := Lib.hid HWc.out.size; replace L2 := Lib.hid (L2.out.keep hb3); replace HWc := Lib.hid (Below.next HWc.out hb3); have HR3 := Lib.hid hr3; clear q_0 q_1 q_2; have q_0 := L0.out.cell; have q_1 := L1.out.cell; have q_2 := LG.out.cell; have k3 := L2.out.cell; have z3 := L2.out.frozen; have l3 := L2.out.lt; clear hb3 hr3))
      all_goals
        go_wp2_with fail
        have hs3 := HS3.out
        have hn3 := HN3.out
        exact ret_cell rfl rfl ((((((L2.out.set_ 0 _).set_ 1 _).set_ 2 _).set_ 3 _).set_ 4 _).set_ 5 _) Try.underlying25 val_size rfl ⟨_, rfl, by rw [HE.out]; exact HR3.out.mono (fun b (hb : _ ≤ b) _ => by show w.heap.size ≤ b; omega) (fun b o (hb : _ ≤ b) _ => World.cell?_of_block (set6_heap (o := 0) (show b ≠ w.heap.size + 1 + 1 by omega))), set6_below (o := 0) HWc.out (by omega)⟩
end Go.Proofs.Ytmdihildjblgnaa

/- path.Drop: a value without what stands at a path. -/
namespace Go.Proofs.Ytmdihildjblgnaa
open Go.RowKit
attribute [local go_sem ↓] Go.wp_at_zero Go.wp_at_succ

theorem dropP_step (s u : ByteArray) (r : List ByteArray) (v : T) : ((getT v s).isSome = false → dropP (s :: u :: r) v = v) ∧ ((getT v s).isSome = true → dropP (s :: u :: r) v = putT v s (dropP (u :: r) ((getT v s).getD T.zero))) := by
  rw [dropP]
  · cases getT v s with
    | none => exact ⟨fun _ => rfl, fun h => by cases h⟩
    | some y => exact ⟨fun h => (by cases h), fun _ => rfl⟩
  · simp

set_option maxRecDepth 100000 in
set_option maxHeartbeats 8000000 in
theorem tpdrop {n : Nat} (hn1 : n ≤ 1000000) (l : List ByteArray) : ∀ (v : T) (_ : Neat n v) (a : Option Addr) (c : Nat) (vv : Value) (w : World) (S : Nat → Prop), RepT w S vv v → RepS w (fun _ => True) a l → l.length ≤ c → c ≤ maxLen →
    Calls Try.prog 49 #[vv, .slice a l.length c] w (NewPost w (dropP l v)) := by
  induction l with
  | nil =>
    intro v hv a c vv w S h hls hc1 hc2
    obtain ⟨la, lc, ma, mc, rfl, -⟩ := h.inv
    clear h hls hv
    go_enter Try.func49, Try.ntmps49
    go_wp2_with fail
    have hi : ∃ W0, W0 = ((w.alloc (.cells #[.int .i64 v.kind, .bool v.bool, .int .i64 v.int, .string v.str, .slice la v.list.length lc, .slice ma v.map.length mc] 25)).alloc (.cells #[.int .i64 0, .bool false, .int .i64 0, .string ⟨#[]⟩, .slice none 0 0, .slice none 0 0] 25)) ∧ Blk W0 (w.heap.size + 1) 25 #[.int .i64 0, .bool false, .int .i64 0, .string ⟨#[]⟩, .slice none 0 0, .slice none 0 0] ∧ Below w.heap.size w W0 :=
      ⟨_, rfl, Blk.new_at _ _ _ (by simp), (Below.new _ _).alloc (by simp) _⟩
    obtain ⟨W0, e0, hz, hbw⟩ := hi
    rw [← e0]
    clear e0
    refine (tnull _).mono ?_
    rintro e w2 ⟨v2, rfl, hr2, hb2⟩
    obtain ⟨la4, lc4, ma4, mc4, rfl, -⟩ := hr2.inv
    have HZ := Lib.hid (hz.keep hb2)
    have HW2 := Lib.hid (Below.next hbw hb2)
    have HR2 := Lib.hid hr2
    have j2 := HZ.out.cell
    have g2 := HZ.out.frozen
    have m2 := HZ.out.lt
    have hsz := hbw.size
    have hz1 := hz.lt
    clear hr2 hb2 hz hbw
    go_wp2_with fail
    exact ret_cell rfl rfl ((((((HZ.out.set_ 0 _).set_ 1 _).set_ 2 _).set_ 3 _).set_ 4 _).set_ 5 _) Try.underlying25 val_size rfl ⟨_, rfl, HR2.out.mono (fun b (hb : W0.heap.size ≤ b) _ => by show w.heap.size ≤ b; omega) (fun b o (hb : W0.heap.size ≤ b) _ => World.cell?_of_block (w := w2) (set6_heap (o := 0) (show b ≠ w.heap.size + 1 by omega))), set6_below (o := 0) HW2.out (by omega)⟩
  | cons s r ih =>
    intro v hv a c vv w S h hls hc1 hc2
    obtain ⟨la, lc, ma, mc, rfl, -⟩ := h.inv
    have HV := Lib.hid (h.weak (S' := fun _ => True) (fun _ _ _ => trivial))
    have HNV := Lib.hid hv
    obtain ⟨b, o, rfl, -, hbl, hcs, hz⟩ := hls 0 (by simp)
    simp only [List.getElem_cons_zero, Nat.add_zero] at hcs hz
    have hvl : (v.map.length + 1) * 104 ≤ 140737488355328 := by have := hv.len; omega
    have hi : ∃ W0, W0 = ((w.alloc (.cells #[.int .i64 v.kind, .bool v.bool, .int .i64 v.int, .string v.str, .slice la v.list.length lc, .slice ma v.map.length mc] 25)).alloc (.cells #[.int .i64 0, .bool false, .int .i64 0, .string ⟨#[]⟩, .slice none 0 0, .slice none 0 0] 25)) ∧ Blk W0 w.heap.size 25 #[.int .i64 v.kind, .bool v.bool, .int .i64 v.int, .string v.str, .slice la v.list.length lc, .slice ma v.map.length mc] ∧ Blk W0 (w.heap.size + 1) 25 #[.int .i64 0, .bool false, .int .i64 0, .string ⟨#[]⟩, .slice none 0 0, .slice none 0 0] ∧ Below w.heap.size w W0 :=
      ⟨_, rfl, (Blk.new _ _ _).alloc _, Blk.new_at _ _ _ (by simp), (Below.new _ _).alloc (by simp) _⟩
    obtain ⟨W0, e0, hb0, hb2, hbw⟩ := hi
    have hcs0 := (hbw.cell (p := ⟨b, o, none⟩) hbl).trans hcs
    have hbl0 : b < W0.heap.size := Nat.lt_of_lt_of_le hbl hbw.size
    have L0 := Lib.hid hb0
    have L2 := Lib.hid hb2
    have HW := Lib.hid hbw
    have HV0 := Lib.hid (HV.out.keep hbw)
    have hlb := hb2.lt
    have hn0 : w.heap.size ≠ w.heap.size + 1 := by omega
    have hn3 : b ≠ w.heap.size + 1 := by omega
    cases r with
    | nil =>
      have q_0 := hb0.cell
      have q_3 := hcs0
      have E0 := Lib.hid e0
      clear h hls hv ih HV HNV hb0 hb2 hbw hcs hcs0 e0 hvl
      show Calls Try.prog 49 #[.agg #[.int .i64 v.kind, .bool v.bool, .int .i64 v.int, .string v.str, .slice la v.list.length lc, .slice ma v.map.length mc], .slice (some ⟨b, o, none⟩) 1 c] w (NewPost w (dropT v s))
      go_enter Try.func49, Try.ntmps49
      go_wp2_with fail
      rw [← E0.out]
      go_region_held3 (fun w' => (∀ i, w'.cell? ⟨w.heap.size, i, none⟩ = (#[.int .i64 v.kind, .bool v.bool, .int .i64 v.int, .string v.str, .slice la v.list.length lc, .slice ma v.map.length mc] : Array Value)[i]?) ∧ w'.cell? ⟨b, o, none⟩ = some (.string s))
        (first
          | (with_reducible exact ⟨q_0, q_3⟩)
          | (refine ⟨fun i => ?_, ?_⟩ <;> (simp (disch := first | assumption | omega) only [cell_set_ne, cell_drew]; first | (with_reducible exact q_0 i) | (with_reducible exact q_3))))
        (first
        | (go_at_call 27; ((with_reducible refine (tdrop v s _ _ _ (HV0.out.keep (by exact (Below.refl _ _).drew))).mono ?_)); rintro e w2 ⟨v2, rfl, hr2, hb2⟩; obtain ⟨la3, lc3, ma3, mc3, rfl, -⟩ := hr2.inv; have hbq := Below.next ((Below.refl _ _).drew) hb2; have hs2 := hb2.size; simp only [size_drew] at hs2; replace q_3 := (hbq.cell (p := ⟨b, o, none⟩) hbl0).trans q_3; replace L0 := Lib.hid (L0.out.keep hbq); replace L2 := Lib.hid (L2.out.keep hbq); replace HW := Lib.hid (Below.next HW.out hbq); have HR2 := Lib.hid hr2; clear q_0; have q_0 := L0.out.cell; have k3 := L2.out.cell; have z3 := L2.out.frozen; have l3 := L2.out.lt; clear hbq hr2 hb2))
      all_goals
        go_wp2_with fail
        exact ret_cell rfl rfl ((((((L2.out.set_ 0 _).set_ 1 _).set_ 2 _).set_ 3 _).set_ 4 _).set_ 5 _) Try.underlying25 val_size rfl ⟨_, rfl, HR2.out.mono (fun b (hb : W0.heap.size ≤ b) _ => by show w.heap.size ≤ b; omega) (fun b o (hb : W0.heap.size ≤ b) _ => World.cell?_of_block (w := w2) (set6_heap (o := 0) (show b ≠ w.heap.size + 1 by omega))), set6_below (o := 0) HW.out (by omega)⟩
    | cons u r =>
      have HE := Lib.hid (dropP_step s u r v)
      have HI := Lib.hid (fun a c vv w => ih ((getT v s).getD T.zero) (by rw [getT_look hv]; exact hv.getD s) a c vv w (fun _ => True))
      have HT := Lib.hid (hls.tail2 (c := c) (by simpa using hc1))
      have E0 := Lib.hid e0
      have hr2 : (u :: r).length ≠ 0 := by simp
      rw [List.length_cons] at hc1 ⊢
      have k0 := hb0.cell
      have l0 := hb0.lt
      have HT0 := Lib.hid (HT.out.keep hbw)
      clear h hls hv ih HV hb0 hb2 hbw hcs e0 HT
      generalize hgi : (getT v s).getD T.zero = y at *
      generalize hgb : (getT v s).isSome = bo at *
      generalize hur : u :: r = r2 at *
      have HG := Lib.hid hgi
      have HGB := Lib.hid hgb
      clear hgi hgb hur
      generalize r2.length = rl at *
      have hc0 : c ≠ 1 := by omega
      have HTd := Lib.hid (show RepS W0 (fun _ => True) (some ⟨b, o + 1, none⟩) r2 by have h := HT0.out; rw [if_neg hc0] at h; exact h)
      have t1 : ((rl : Int) + 1 == 1) = false := beq_eq_false_iff_ne.2 (by omega)
      clear HT0
      go_enter Try.func49, Try.ntmps49
      go_wp2_with fail
      rw [← E0.out]
      go_cut [5, 6] from 19 to 26 (fun p5 p6 wx => ∃ (g : Nat) (la2 : Option Addr) (lc2 : Nat) (ma2 : Option Addr) (mc2 : Nat), p5 = .pointer (some ⟨g, 0, none⟩) ∧ p6 = .bool bo ∧ Boxed W0 wx g y la2 lc2 ma2 mc2)
      case first =>
        go_region_with (first
          | (go_at_call 26; first
            | ((with_reducible refine (tget_b HGB.out HG.out _ _ _ (HV0.out.keep (by exact (Below.refl _ _).drew)) HNV.out.KS).mono ?_); rintro e w1 ⟨v1, rfl, hr1, hb1⟩; obtain ⟨la2, lc2, ma2, mc2, rfl, -⟩ := hr1.inv; have HBX := Lib.hid (Boxed.behind hb1 hr1); clear hb1 hr1)
            | ((with_reducible refine (tget_b HGB.out HG.out _ _ _ (HV0.out.keep (by exact (Below.new _ _).drew)) HNV.out.KS).mono ?_); rintro e w1 ⟨v1, rfl, hr1, hb1⟩; obtain ⟨la2, lc2, ma2, mc2, rfl, -⟩ := hr1.inv; have kz := (((Blk.new W0 25 #[.int .i64 0, .bool false, .int .i64 0, .string ⟨#[]⟩, .slice none 0 0, .slice none 0 0]).drew).keep hb1).cell; have fz := (((Blk.new W0 25 #[.int .i64 0, .bool false, .int .i64 0, .string ⟨#[]⟩, .slice none 0 0, .slice none 0 0]).drew).keep hb1).frozen; have lz := (((Blk.new W0 25 #[.int .i64 0, .bool false, .int .i64 0, .string ⟨#[]⟩, .slice none 0 0, .slice none 0 0]).drew).keep hb1).lt; have HBX := Lib.hid (Boxed.ahead hb1 hr1); clear hb1 hr1)))
        all_goals
          go_wp2_with fail
          go_meet
          exact ⟨_, _, _, _, _, rfl, rfl, HBX.out⟩
      case rest =>
      obtain ⟨g, la2, lc2, ma2, mc2, rfl, rfl, hbx⟩ := hcut
      have hblc : b < wc.heap.size := Nat.lt_of_lt_of_le hbl0 hbx.bel.size
      have q_3 := (hbx.bel.cell (p := ⟨b, o, none⟩) hbl0).trans hcs0
      have LG := Lib.hid hbx.box
      replace L0 := Lib.hid (L0.out.keep hbx.bel)
      replace L2 := Lib.hid (L2.out.keep hbx.bel)
      have HWc := Lib.hid (Below.next HW.out hbx.bel)
      have HVc := Lib.hid (HV0.out.keep hbx.bel)
      have HTc := Lib.hid (HTd.out.keep hbx.bel)
      have HYc := Lib.hid (hbx.rep.weak (S' := fun _ => True) (fun _ _ _ => trivial))
      have hgw : g ≠ w.heap.size + 1 := by have := hbx.low; omega
      clear hbx hcs0 k0 HW HV0 HTd hbl0 l0 hlb E0
      have q_0 := L0.out.cell; have q_2 := LG.out.cell
      have z0 := L0.out.lt
      cases bo
      · have HE2 := Lib.hid (HE.out.1 rfl)
        go_wp2_with fail
        refine (clone_any v _ _ _ HVc.out).mono ?_
        rintro e w2 ⟨v2, rfl, hr2, hb2⟩
        obtain ⟨la4, lc4, ma4, mc4, rfl, -⟩ := hr2.inv
        have HN3 := Lib.hid L2.out.lt
        have HS3 := Lib.hid HWc.out.size
        have HZ := Lib.hid (L2.out.keep hb2)
        have HW2 := Lib.hid (Below.next HWc.out hb2)
        have HR2 := Lib.hid hr2
        have j2 := HZ.out.cell
        have g2 := HZ.out.frozen
        have m2 := HZ.out.lt
        clear hr2 hb2 q_0 q_2
        go_wp2_with fail
        have hs3 := HS3.out
        have hn3 := HN3.out
        exact ret_cell rfl rfl ((((((HZ.out.set_ 0 _).set_ 1 _).set_ 2 _).set_ 3 _).set_ 4 _).set_ 5 _) Try.underlying25 val_size rfl ⟨_, rfl, by rw [HE2.out]; exact HR2.out.mono (fun b (hb : _ ≤ b) _ => by show w.heap.size ≤ b; omega) (fun b o (hb : _ ≤ b) _ => World.cell?_of_block (w := w2) (set6_heap (o := 0) (show b ≠ w.heap.size + 1 by omega))), set6_below (o := 0) HW2.out (by omega)⟩
      · have HE2 := Lib.hid (HE.out.2 rfl)
        have s1 : (1 : Int) ≤ (rl : Int) + 1 := by omega
        have s2 : (rl : Int) + 1 ≤ (c : Int) := by omega
        have s3 : (0 : Int) ≤ (rl : Int) + 1 := by omega
        have s4 : (0 : Int) ≤ (c : Int) := by omega
        have s5 : (1 : Int) ≤ (c : Int) := by omega
        go_wp2_with fail
        go_region_held3 (fun w' => (∀ i, w'.cell? ⟨w.heap.size, i, none⟩ = (#[.int .i64 v.kind, .bool v.bool, .int .i64 v.int, .string v.str, .slice la v.list.length lc, .slice ma v.map.length mc] : Array Value)[i]?) ∧ (∀ i, w'.cell? ⟨g, i, none⟩ = (#[.int .i64 y.kind, .bool y.bool, .int .i64 y.int, .string y.str, .slice la2 y.list.length lc2, .slice ma2 y.map.length mc2] : Array Value)[i]?) ∧ w'.cell? ⟨b, o, none⟩ = some (.string s))
          (first
            | (with_reducible exact ⟨q_0, q_2, q_3⟩)
            | (refine ⟨fun i => ?_, fun i => ?_, ?_⟩ <;> (simp (disch := first | assumption | omega) only [cell_set_ne, cell_drew]; first | (with_reducible exact q_0 i) | (with_reducible exact q_2 i) | (with_reducible exact q_3))))
          (first
          | (go_at_call 49; ((with_reducible refine (HI.out _ _ _ _ (HYc.out.keep (by exact (Below.refl _ _).drew)) (HTc.out.keep (by exact (Below.refl _ _).drew)) (by omega) (by unfold maxLen at *; omega)).mono ?_)); rintro e w2 ⟨v2, rfl, hr2, hb2⟩; obtain ⟨la3, lc3, ma3, mc3, rfl, -⟩ := hr2.inv; have hbq := Below.next ((Below.refl _ _).drew) hb2; replace q_3 := (hbq.cell (p := ⟨b, o, none⟩) hblc).trans q_3; replace hblc : b < w2.heap.size := Nat.lt_of_lt_of_le hblc hbq.size; replace L0 := Lib.hid (L0.out.keep hbq); replace L2 := Lib.hid (L2.out.keep hbq); replace LG := Lib.hid (LG.out.keep hbq); replace HWc := Lib.hid (Below.next HWc.out hbq); replace HVc := Lib.hid (HVc.out.keep hbq); have HR2 := Lib.hid hr2; clear q_0 q_2; have q_0 := L0.out.cell; have q_2 := LG.out.cell; clear hbq hr2 hb2 HYc HTc)
          | (go_at_call 25; ((with_reducible refine (tput v (dropP r2 y) s _ _ _ _ _ HVc.out HR2.out hz hvl).mono ?_)); rintro e w3 ⟨v3, rfl, hr3, hb3⟩; obtain ⟨la5, lc5, ma5, mc5, rfl, -⟩ := hr3.inv; replace q_3 := (hb3.cell (p := ⟨b, o, none⟩) hblc).trans q_3; replace L0 := Lib.hid (L0.out.keep hb3); replace LG := Lib.hid (LG.out.keep hb3); have HN3 := Lib.hid L2.out.lt; have HS3 := Lib.hid HWc.out.size; replace L2 := Lib.hid (L2.out.keep hb3); replace HWc := Lib.hid (Below.next HWc.out hb3); have HR3 := Lib.hid hr3; clear q_0 q_2; have q_0 := L0.out.cell; have q_2 := LG.out.cell; have k3 := L2.out.cell; have z3 := L2.out.frozen; have l3 := L2.out.lt; clear hb3 hr3))
        all_goals
          go_wp2_with fail
          have hs3 := HS3.out
          have hn3 := HN3.out
          exact ret_cell rfl rfl ((((((L2.out.set_ 0 _).set_ 1 _).set_ 2 _).set_ 3 _).set_ 4 _).set_ 5 _) Try.underlying25 val_size rfl ⟨_, rfl, by rw [HE2.out]; exact HR3.out.mono (fun b (hb : _ ≤ b) _ => by show w.heap.size ≤ b; omega) (fun b o (hb : _ ≤ b) _ => World.cell?_of_block (set6_heap (o := 0) (show b ≠ w.heap.size + 1 by omega))), set6_below (o := 0) HWc.out (by omega)⟩
end Go.Proofs.Ytmdihildjblgnaa

/- path.Prune: a value without what stands at a path, nor maps on the way that are empty then. -/
namespace Go.Proofs.Ytmdihildjblgnaa
open Go.RowKit
attribute [local go_sem ↓] Go.wp_at_zero Go.wp_at_succ

theorem RepS.low {w : World} {S : Nat → Prop} {a : Option Addr} {l : List ByteArray} (h : RepS w S a l) : RepS w (fun b => b < w.heap.size) a l := fun i hi => by
  obtain ⟨b, o, e, hs, hlt, hc, hz⟩ := h i hi
  exact ⟨b, o, e, hlt, hlt, hc, hz⟩
theorem RepS.weak {w : World} {S S' : Nat → Prop} {a : Option Addr} {l : List ByteArray} (h : RepS w S a l) (hS : ∀ b, S b → S' b) : RepS w S' a l := fun i hi => by
  obtain ⟨b, o, e, hs, hlt, hc, hz⟩ := h i hi
  exact ⟨b, o, e, hS b hs, hlt, hc, hz⟩
theorem RepS.set6 {w : World} {S : Nat → Prop} {a : Option Addr} {l : List ByteArray} {g : Nat} {c0 c1 c2 c3 c4 c5 : Value} (h : RepS w S a l) (hg : ¬ S g) : RepS (set6 w g 0 c0 c1 c2 c3 c4 c5) S a l := fun i hi => by
  obtain ⟨b, o, e, hs, hlt, hc, hz⟩ := h i hi
  have hne : b ≠ g := fun e => hg (e ▸ hs)
  exact ⟨b, o, e, hs, block_lt_of_cell (a := ⟨b, o + i, none⟩) ((World.cell?_of_block (w := w) (set6_heap hne)).trans hc), (World.cell?_of_block (w := w) (set6_heap hne)).trans hc, hz⟩
/-- How things stand in Prune's turns. -/
structure PrInv (w wr : World) (V : T) (la : Option Addr) (lc : Nat) (ma : Option Addr) (mc : Nat) (a : Option Addr) (l : List ByteArray) : Prop where
  box : Blk wr w.heap.size 25 #[.int .i64 V.kind, .bool V.bool, .int .i64 V.int, .string V.str, .slice la V.list.length lc, .slice ma V.map.length mc]
  res : Blk wr (w.heap.size + 1) 25 #[.int .i64 0, .bool false, .int .i64 0, .string ⟨#[]⟩, .slice none 0 0, .slice none 0 0]
  rep : RepT wr (fun b => w.heap.size + 1 < b) (.agg #[.int .i64 V.kind, .bool V.bool, .int .i64 V.int, .string V.str, .slice la V.list.length lc, .slice ma V.map.length mc]) V
  bel : Below w.heap.size w wr
  steps : RepS wr (fun b => b < w.heap.size) a l
section
variable {w wr w3 : World} {V V' : T} {la la' : Option Addr} {lc lc' : Nat} {ma ma' : Option Addr} {mc mc' : Nat} {a : Option Addr} {l : List ByteArray}
theorem PrInv.keep (h : PrInv w wr V la lc ma mc a l) (hb : Below wr.heap.size wr w3) : PrInv w w3 V la lc ma mc a l :=
  ⟨h.box.keep hb, h.res.keep hb, h.rep.keep hb, Below.next h.bel hb, h.steps.keep hb⟩
theorem PrInv.any (h : PrInv w wr V la lc ma mc a l) : RepT wr (fun _ => True) (.agg #[.int .i64 V.kind, .bool V.bool, .int .i64 V.int, .string V.str, .slice la V.list.length lc, .slice ma V.map.length mc]) V := h.rep.weak fun _ _ _ => trivial
theorem PrInv.first (hbox : Blk wr w.heap.size 25 #[.int .i64 V.kind, .bool V.bool, .int .i64 V.int, .string V.str, .slice la V.list.length lc, .slice ma V.map.length mc]) (hres : Blk wr (w.heap.size + 1) 25 #[.int .i64 0, .bool false, .int .i64 0, .string ⟨#[]⟩, .slice none 0 0, .slice none 0 0]) (hbel : Below w.heap.size w wr) (hst : RepS wr (fun b => b < w.heap.size) a l) (hr : RepT wr (fun b => w.heap.size + 1 < b) (.agg #[.int .i64 V'.kind, .bool V'.bool, .int .i64 V'.int, .string V'.str, .slice la' V'.list.length lc', .slice ma' V'.map.length mc']) V') :
    PrInv w (Go.Proofs.Ytmdihildjblgnaa.set6 wr w.heap.size 0 (.int .i64 V'.kind) (.bool V'.bool) (.int .i64 V'.int) (.string V'.str) (.slice la' V'.list.length lc') (.slice ma' V'.map.length mc')) V' la' lc' ma' mc' a l :=
  ⟨(((((hbox.set_ 0 _).set_ 1 _).set_ 2 _).set_ 3 _).set_ 4 _).set_ 5 _, (set6_heap (by omega)).trans hres, hr.mono (fun _ h _ => h) (fun b o (hb : w.heap.size + 1 < b) _ => World.cell?_of_block (w := wr) (set6_heap (show b ≠ w.heap.size by omega))), set6_below hbel (Nat.le_refl _), hst.set6 (by omega)⟩
theorem PrInv.put (h : PrInv w wr V la lc ma mc a l) (hr : RepT wr (fun b => w.heap.size + 1 < b) (.agg #[.int .i64 V'.kind, .bool V'.bool, .int .i64 V'.int, .string V'.str, .slice la' V'.list.length lc', .slice ma' V'.map.length mc']) V') :
    PrInv w (Go.Proofs.Ytmdihildjblgnaa.set6 wr w.heap.size 0 (.int .i64 V'.kind) (.bool V'.bool) (.int .i64 V'.int) (.string V'.str) (.slice la' V'.list.length lc') (.slice ma' V'.map.length mc')) V' la' lc' ma' mc' a l :=
  PrInv.first h.box h.res h.bel h.steps hr
theorem PrInv.done (h : PrInv w wr V la lc ma mc a l) :
    Blk (Go.Proofs.Ytmdihildjblgnaa.set6 wr (w.heap.size + 1) 0 (.int .i64 V.kind) (.bool V.bool) (.int .i64 V.int) (.string V.str) (.slice la V.list.length lc) (.slice ma V.map.length mc)) (w.heap.size + 1) 25 #[.int .i64 V.kind, .bool V.bool, .int .i64 V.int, .string V.str, .slice la V.list.length lc, .slice ma V.map.length mc] ∧
    NewPost w V (.returned (.agg #[.int .i64 V.kind, .bool V.bool, .int .i64 V.int, .string V.str, .slice la V.list.length lc, .slice ma V.map.length mc])) (Go.Proofs.Ytmdihildjblgnaa.set6 wr (w.heap.size + 1) 0 (.int .i64 V.kind) (.bool V.bool) (.int .i64 V.int) (.string V.str) (.slice la V.list.length lc) (.slice ma V.map.length mc)) :=
  ⟨(((((h.res.set_ 0 _).set_ 1 _).set_ 2 _).set_ 3 _).set_ 4 _).set_ 5 _, _, rfl, h.rep.mono (fun b (hb : w.heap.size + 1 < b) _ => by show w.heap.size ≤ b; omega) (fun b o (hb : w.heap.size + 1 < b) _ => World.cell?_of_block (w := wr) (set6_heap (show b ≠ w.heap.size + 1 by omega))), set6_below h.bel (by omega)⟩
end
/-- The first steps of a path, as a slice. -/
theorem tpget_take {n k : Nat} {l : List ByteArray} (hk : k ≤ l.length) (v : T) (hv : Neat n v) (a : Option Addr) (c : Nat) (vv : Value) (w : World) (S : Nat → Prop) (h : RepT w S vv v) (hl : RepS w (fun _ => True) a l) (hlen : l.length ≤ 1000000) :
    Calls Try.prog 45 #[vv, .slice a k c] w (GotB w (getP (l.take k) v).isSome ((getP (l.take k) v).getD T.zero)) := by
  have := tpget (l.take k) v hv a c vv w S h (hl.take k) (by rw [List.length_take]; omega)
  rwa [List.length_take, Nat.min_eq_left hk] at this
theorem tpdrop_take {n k : Nat} (hn1 : n ≤ 1000000) {l : List ByteArray} (hk : k ≤ l.length) (v : T) (hv : Neat n v) (a : Option Addr) (c : Nat) (vv : Value) (w : World) (S : Nat → Prop) (h : RepT w S vv v) (hl : RepS w (fun _ => True) a l) (hlen : l.length ≤ c) (hc : c ≤ maxLen) :
    Calls Try.prog 49 #[vv, .slice a k c] w (NewPost w (dropP (l.take k) v)) := by
  have := tpdrop hn1 (l.take k) v hv a c vv w S h (hl.take k) (by rw [List.length_take]; omega) hc
  rwa [List.length_take, Nat.min_eq_left hk] at this

set_option maxRecDepth 100000 in
set_option maxHeartbeats 8000000 in
theorem tpprune {n : Nat} (hn1 : n ≤ 1000000) (l : List ByteArray) (v : T) (hv : Neat n v) (a : Option Addr) (c : Nat) (vv : Value) (w : World) (S : Nat → Prop) (h : RepT w S vv v) (hls : RepS w (fun _ => True) a l) (hll : l.length ≤ 1000000) (hc1 : l.length ≤ c) (hc2 : c ≤ maxLen) :
    Calls Try.prog 51 #[vv, .slice a l.length c] w (NewPost w (pruneW l v)) := by
  obtain ⟨la, lc, ma, mc, rfl, -⟩ := h.inv
  have hi : ∃ W0, W0 = ((w.alloc (.cells #[.int .i64 v.kind, .bool v.bool, .int .i64 v.int, .string v.str, .slice la v.list.length lc, .slice ma v.map.length mc] 25)).alloc (.cells #[.int .i64 0, .bool false, .int .i64 0, .string ⟨#[]⟩, .slice none 0 0, .slice none 0 0] 25)) ∧ Blk W0 w.heap.size 25 #[.int .i64 v.kind, .bool v.bool, .int .i64 v.int, .string v.str, .slice la v.list.length lc, .slice ma v.map.length mc] ∧ Blk W0 (w.heap.size + 1) 25 #[.int .i64 0, .bool false, .int .i64 0, .string ⟨#[]⟩, .slice none 0 0, .slice none 0 0] ∧ Below w.heap.size w W0 :=
    ⟨_, rfl, (Blk.new _ _ _).alloc _, Blk.new_at _ _ _ (by simp), (Below.new _ _).alloc (by simp) _⟩
  obtain ⟨W0, e0, hb0, hb2, hbw⟩ := hi
  have L0 := Lib.hid hb0
  have L2 := Lib.hid hb2
  have HW := Lib.hid hbw
  have HV0 := Lib.hid ((h.weak (S' := fun _ => True) (fun _ _ _ => trivial)).keep hbw)
  have HS0 := Lib.hid (hls.low.keep hbw)
  have E0 := Lib.hid e0
  have HN := Lib.hid hv
  have HDN := Lib.hid (dropP_neat (l := l) hv)
  have HPG := Lib.hid (tpget l v hv)
  have HPD := Lib.hid (tpdrop hn1 l v hv)
  have k0 := hb0.cell
  have l0 := hb0.lt
  have l2 := hb2.lt
  have hs0 := hbw.size
  obtain ⟨pr, hpr⟩ : ∃ x, x = pruneW l v := ⟨_, rfl⟩
  have hw : pr = if getP l v = none then v else pruneN l (l.length - 1) (dropP l v) := hpr
  rw [← hpr]
  clear h hls hv hb0 hb2 hbw e0 hpr
  go_enter Try.func51, Try.ntmps51
  cases hg : getP l v with
  | none =>
    rw [if_pos hg] at hw
    have HPR := Lib.hid hw
    have HG := Lib.hid hg
    clear hw hg
    go_wp2_with fail
    rw [← E0.out]
    refine (HPG.out _ _ _ _ _ HV0.out (HS0.out.weak fun _ _ => trivial) (by omega)).mono ?_
    rw [HG.out]
    rintro e w2 ⟨v2, rfl, hr2, hb2⟩
    obtain ⟨la2, lc2, ma2, mc2, rfl, -⟩ := hr2.inv
    replace L0 := Lib.hid ((L0.out.keep hb2).alloc (.cells #[.int .i64 T.zero.kind, .bool T.zero.bool, .int .i64 T.zero.int, .string T.zero.str, .slice la2 T.zero.list.length lc2, .slice ma2 T.zero.map.length mc2] 25))
    replace L2 := Lib.hid ((L2.out.keep hb2).alloc (.cells #[.int .i64 T.zero.kind, .bool T.zero.bool, .int .i64 T.zero.int, .string T.zero.str, .slice la2 T.zero.list.length lc2, .slice ma2 T.zero.map.length mc2] 25))
    replace HV0 := Lib.hid ((HV0.out.keep hb2).keep (Below.new _ (.cells #[.int .i64 T.zero.kind, .bool T.zero.bool, .int .i64 T.zero.int, .string T.zero.str, .slice la2 T.zero.list.length lc2, .slice ma2 T.zero.map.length mc2] 25)))
    replace HW := Lib.hid (Below.next (Below.next HW.out hb2) (Below.new _ (.cells #[.int .i64 T.zero.kind, .bool T.zero.bool, .int .i64 T.zero.int, .string T.zero.str, .slice la2 T.zero.list.length lc2, .slice ma2 T.zero.map.length mc2] 25)))
    have hs2 := hb2.size
    clear hr2 hb2 k0 l0
    have k0 := L0.out.cell
    have l0 := L0.out.lt
    go_wp2_with fail
    refine (clone_any v _ _ _ HV0.out).mono ?_
    rintro e w3 ⟨v3, rfl, hr3, hb3⟩
    obtain ⟨la4, lc4, ma4, mc4, rfl, -⟩ := hr3.inv
    have HZ := Lib.hid (L2.out.keep hb3)
    have HW3 := Lib.hid (Below.next HW.out hb3)
    have HR3 := Lib.hid hr3
    have j2 := HZ.out.cell
    have g2 := HZ.out.frozen
    have m2 := HZ.out.lt
    clear hr3 hb3 k0 l0
    go_wp2_with fail
    exact ret_cell rfl rfl ((((((HZ.out.set_ 0 _).set_ 1 _).set_ 2 _).set_ 3 _).set_ 4 _).set_ 5 _) Try.underlying25 val_size rfl ⟨_, rfl, by rw [HPR.out]; exact HR3.out.mono (fun b (hb : _ ≤ b) _ => by rw [size_alloc] at hb; show w.heap.size ≤ b; omega) (fun b o (hb : _ ≤ b) _ => World.cell?_of_block (w := w3) (set6_heap (o := 0) (show b ≠ w.heap.size + 1 by rw [size_alloc] at hb; omega))), set6_below (o := 0) HW3.out (by omega)⟩
  | some y =>
    rw [if_neg (by rw [hg]; simp)] at hw
    have HPR := Lib.hid hw
    have HG := Lib.hid hg
    clear hw hg
    go_wp2_with fail
    rw [← E0.out]
    refine (HPG.out _ _ _ _ _ HV0.out (HS0.out.weak fun _ _ => trivial) (by omega)).mono ?_
    rw [HG.out]
    rintro e w2 ⟨v2, rfl, hr2, hb2⟩
    simp only [Option.getD_some, Option.isSome_some] at *
    obtain ⟨la2, lc2, ma2, mc2, rfl, -⟩ := hr2.inv
    have hbn := Below.new w2 (.cells #[.int .i64 y.kind, .bool y.bool, .int .i64 y.int, .string y.str, .slice la2 y.list.length lc2, .slice ma2 y.map.length mc2] 25)
    replace L0 := Lib.hid ((L0.out.keep hb2).keep hbn)
    replace L2 := Lib.hid ((L2.out.keep hb2).keep hbn)
    replace HV0 := Lib.hid ((HV0.out.keep hb2).keep hbn)
    replace HS0 := Lib.hid ((HS0.out.keep hb2).keep hbn)
    replace HW := Lib.hid (Below.next (Below.next HW.out hb2) hbn)
    have hs2 := hb2.size
    clear hr2 hb2 k0 l0 hbn
    have k0 := L0.out.cell
    have l0 := L0.out.lt
    go_wp2_with fail
    refine (HPD.out _ _ _ _ _ HV0.out (HS0.out.weak fun _ _ => trivial) hc1 hc2).mono ?_
    rintro e w3 ⟨v3, rfl, hr3, hb3⟩
    obtain ⟨la4, lc4, ma4, mc4, rfl, -⟩ := hr3.inv
    have hs3 := hb3.size
    rw [size_alloc] at hs3
    replace L0 := Lib.hid (L0.out.keep hb3)
    replace L2 := Lib.hid (L2.out.keep hb3)
    replace HS0 := Lib.hid (HS0.out.keep hb3)
    replace HW := Lib.hid (Below.next HW.out hb3)
    have HR3 := Lib.hid hr3
    clear hr3 hb3 k0 l0
    have k0 := L0.out.cell
    have z0 := L0.out.frozen
    have l0 := L0.out.lt
    generalize hV : dropP l v = V0 at *
    have HV := Lib.hid hV
    clear hV
    go_wp2_with fail
    have HPI := Lib.hid (PrInv.first (V' := V0) L0.out L2.out HW.out HS0.out (HR3.out.mono (fun b (hb : _ ≤ b) _ => by rw [size_alloc] at hb; show w.heap.size + 1 < b; omega) (fun _ _ _ _ => rfl)))
    have HND := Lib.hid HDN.out
    clear k0 z0 l0 l2 hs0 hs2 hs3 HV0 HR3 L0 L2 HW HS0 HPG HPD HG HV E0 HDN
    have hl1 : (l.length : Int) ≤ 1000000 := by omega
    have hl2 : (0 : Int) ≤ (l.length : Int) := by omega
    go_loopw [7] (fun x wr => ∃ (k : Int) (V : T) (la2 : Option Addr) (lc2 : Nat) (ma2 : Option Addr) (mc2 : Nat), -1 ≤ k ∧ k < l.length ∧ x = .int .i64 k ∧ Hid (pr = pruneN l k.toNat V) ∧ Hid (Neat n V) ∧ PrInv w wr V la2 lc2 ma2 mc2 a l) (fun x _ => (intOf x).toNat)
    case atStart => exact ⟨(l.length : Int) - 1, V0, _, _, _, _, by omega, by omega, rfl, by rw [show ((l.length : Int) - 1).toNat = l.length - 1 by omega]; exact HPR.out, HND.out, HPI.out⟩
    case round =>
      obtain ⟨k, V, la2, lc2, ma2, mc2, hk1, hk2, rfl, hV, hVn, hpi⟩ := hrel
      clear HPI HND HPR
      have HPI := Lib.hid hpi
      have k1 := hpi.box.cell
      have l1 := hpi.box.lt
      have hv1 := hpi.res.cell
      have hv2 := hpi.res.frozen
      have hv3 := hpi.res.lt
      by_cases hlt : 0 < k
      · obtain ⟨m, rfl⟩ : ∃ m : Nat, k = (m : Int) + 1 := ⟨(k - 1).toNat, by omega⟩
        have hm : m + 1 ≤ l.length := by omega
        have HV1 := Lib.hid (show pr = pruneN l (m + 1) V from hV.out.trans (by rw [show ((m : Int) + 1).toNat = m + 1 by omega]))
        have HPG := Lib.hid (tpget_take hm V hVn.out a)
        have HPD := Lib.hid (tpdrop_take hn1 hm V hVn.out a)
        have HDN := Lib.hid (dropP_neat (l := l.take (m + 1)) hVn.out)
        have hx1 : ((V.map.length : Int)) ≤ 9223372036854775807 := by have := hVn.out.len; omega
        have kk1 : (0 : Int) ≤ (m : Int) + 1 := by omega
        have kk2 : (m : Int) + 1 ≤ (c : Int) := by omega
        have kk3 : (0 : Int) ≤ (c : Int) := by omega
        have kk4 : (m : Int) + 1 ≤ (l.length : Int) := by omega
        have s0 := hpi.res.lt
        clear hVn hpi hV
        go_wp2_with fail
        go_cut [8] from 30 to 37 (fun p8 wx => ∃ (g : Nat) (la5 : Option Addr) (lc5 : Nat) (ma5 : Option Addr) (mc5 : Nat), p8 = .pointer (some ⟨g, 0, none⟩) ∧ Boxed wr wx g ((getP (l.take (m + 1)) V).getD T.zero) la5 lc5 ma5 mc5)
        case first =>
          go_region_with (first
            | (go_at_call 45; first
              | ((with_reducible refine (HPG.out _ _ _ _ (HPI.out.any.keep (by exact (Below.refl _ _).drew)) ((HPI.out.steps.weak (fun _ _ => trivial)).keep (by exact (Below.refl _ _).drew)) hll).mono ?_); rintro e w1 ⟨v1, rfl, hr1, hb1⟩; obtain ⟨la2, lc2, ma2, mc2, rfl, -⟩ := hr1.inv; have HBX := Lib.hid (Boxed.behind hb1 hr1); clear hb1 hr1)
              | ((with_reducible refine (HPG.out _ _ _ _ (HPI.out.any.keep (by exact (Below.new _ _).drew)) ((HPI.out.steps.weak (fun _ _ => trivial)).keep (by exact (Below.new _ _).drew)) hll).mono ?_); rintro e w1 ⟨v1, rfl, hr1, hb1⟩; obtain ⟨la2, lc2, ma2, mc2, rfl, -⟩ := hr1.inv; have kz := (((Blk.new wr 25 #[.int .i64 0, .bool false, .int .i64 0, .string ⟨#[]⟩, .slice none 0 0, .slice none 0 0]).drew).keep hb1).cell; have fz := (((Blk.new wr 25 #[.int .i64 0, .bool false, .int .i64 0, .string ⟨#[]⟩, .slice none 0 0, .slice none 0 0]).drew).keep hb1).frozen; have lz := (((Blk.new wr 25 #[.int .i64 0, .bool false, .int .i64 0, .string ⟨#[]⟩, .slice none 0 0, .slice none 0 0]).drew).keep hb1).lt; have HBX := Lib.hid (Boxed.ahead hb1 hr1); clear hb1 hr1)))
          all_goals
            go_wp2_with fail
            go_meet
            exact ⟨_, _, _, _, _, rfl, HBX.out⟩
        case rest =>
          obtain ⟨g, la5, lc5, ma5, mc5, rfl, hbx⟩ := hcut
          obtain ⟨x, hx⟩ : ∃ x, x = (getP (l.take (m + 1)) V).getD T.zero := ⟨_, rfl⟩
          rw [← hx] at hbx
          have LG := Lib.hid hbx.box
          have q_2 := hbx.box.cell
          have q_3 := hbx.box.lt
          replace HPI := Lib.hid (HPI.out.keep hbx.bel)
          have s1 := hbx.bel.size
          clear hbx k1 l1 hv1 hv2 hv3 HPG
          have k1 := HPI.out.box.cell
          have k2 := HPI.out.box.frozen
          have l1 := HPI.out.box.lt
          have hv1 := HPI.out.res.cell
          have hv2 := HPI.out.res.frozen
          have hv3 := HPI.out.res.lt
          by_cases hxm : x.map = []
          · have hx0 : x.map.length = 0 := by rw [hxm]; rfl
            have HV2 := Lib.hid (show pr = pruneN l m (dropP (l.take (m + 1)) V) by rw [HV1.out, pruneN, if_neg (by rw [← hx]; simpa using hxm)])
            clear hx hxm HV1
            have hl0 : w.heap.size ≠ w.heap.size + 1 := by omega
            generalize dropP (l.take (m + 1)) V = D at *
            go_wp2_with fail
            go_region_with (first
              | (go_at_call 49; ((with_reducible refine (HPD.out _ _ _ _ (HPI.out.any.keep (by exact (Below.refl _ _).drew)) ((HPI.out.steps.weak (fun _ _ => trivial)).keep (by exact (Below.refl _ _).drew)) hc1 hc2).mono ?_)); rintro e w2 ⟨v2, rfl, hr2, hb2⟩; obtain ⟨la3, lc3, ma3, mc3, rfl, -⟩ := hr2.inv; have hbq := Below.next ((Below.refl _ _).drew) hb2; replace HPI := Lib.hid (HPI.out.keep hbq); have k1' := HPI.out.box.cell; have k2' := HPI.out.box.frozen; have l1' := HPI.out.box.lt; have HRD := Lib.hid (hr2.mono (S' := fun b => w.heap.size + 1 < b) (fun b (hb : _ ≤ b) _ => by rw [size_drew] at hb; show w.heap.size + 1 < b; omega) (fun _ _ _ _ => rfl)); clear hbq hr2 hb2))
            all_goals
              go_wp2_with fail
              go_roundw
              case rel => exact ⟨m, D, _, _, _, _, by omega, by omega, by go_num, HV2.out, HDN.out, PrInv.put HPI.out HRD.out⟩
              case measure => first | (simp [intOf]; done) | (simp [intOf]; omega)
          · have hx0 : 0 < x.map.length := List.length_pos_iff.2 hxm
            have HV2 := Lib.hid (show pr = V by rw [HV1.out, pruneN, if_pos (by rw [← hx]; exact hxm)])
            clear hx hxm HV1
            go_wp2_with fail
            obtain ⟨d1, d2⟩ := HPI.out.done
            exact ret_cell rfl rfl d1 Try.underlying25 val_size rfl (by rw [HV2.out]; exact d2)
      · have HV1 := Lib.hid (show pr = V from hV.out.trans (by rw [show k.toNat = 0 by omega, pruneN]))
        clear hpi
        go_wp2_with fail
        obtain ⟨d1, d2⟩ := HPI.out.done
        exact ret_cell rfl rfl d1 Try.underlying25 val_size rfl (by rw [HV1.out]; exact d2)
end Go.Proofs.Ytmdihildjblgnaa
