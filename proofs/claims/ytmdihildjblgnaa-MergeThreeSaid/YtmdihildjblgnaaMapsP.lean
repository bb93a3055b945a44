/- Rows of pairs of leaves, and how they grow beside a map that is made of them. -/
import Derived.Test.YtmdihildjblgnaaLaw
import Derived.Test.YtmdihildjblgnaaRefPut
import Derived.Test.YtmdihildjblgnaaTList
namespace Go.Proofs.Ytmdihildjblgnaa
open Go.RowKit Go.Lib

section
variable {α : Type} {E : Elt α} {w w' : World} {S S' : Nat → Prop} {a A : Option Addr} {B c : Nat} {l : List α}
/-- append of elements to a row of the call's own. -/
theorem own_append_at {l2 : List α} {es : List Value} {ad : Addr} {cc ty t : Nat} (ht : t = E.slt) (h : OwnE E w B S A c l) (hbig : (l.length + l2.length) * E.bytes ≤ 140737488355328) (hmax : l.length + l2.length ≤ maxLen) (hB : B ≤ w.heap.size)
    (hlen : es.length = l2.length * E.sz) (hes : ∀ j u, es[j]? = some u → w.cell? (ad.add j) = some u)
    (hx : ∀ i (hi : i < l2.length), E.R w (fun b => S b ∧ Value.ownBlock (.slice A l.length c) ≠ some b) ((es.drop (i * E.sz)).take E.sz) l2[i]) :
    ∃ A' c' w', (Builtin.append_ #[t, t] ty #[.slice A l.length c, .slice (some ad) l2.length cc]).run Try.prog w = .ok (.slice A' (l ++ l2).length c') w' ∧ OwnE E w' B S A' c' (l ++ l2) ∧ w.grownBy w' (Value.ownBlock (.slice A l.length c)) ∧ (Value.ownBlock (.slice A' (l ++ l2).length c') = Value.ownBlock (.slice A l.length c) ∨ Value.ownBlock (.slice A' (l ++ l2).length c') = some w.heap.size) := by
  subst ht
  obtain ⟨i0, hi0, hz0, hz1, hz2⟩ := info_parts E.hinfo
  obtain ⟨xs, h1, h2, h3⟩ := h
  have hone : ∀ u ∈ es, u.oneCell' = true := by
    intro u hu
    obtain ⟨j, hj, rfl⟩ := List.getElem_of_mem hu
    have hp := E.pos
    have hq : j / E.sz < l2.length := by rw [Nat.div_lt_iff_lt_mul hp]; omega
    have := E.one (hx (j / E.sz) hq) es[j] (by
      rw [List.mem_iff_getElem?]
      refine ⟨j % E.sz, ?_⟩
      rw [List.getElem?_take_of_lt (Nat.mod_lt _ hp), List.getElem?_drop, Nat.div_add_mod' j E.sz, List.getElem?_eq_getElem hj])
    exact this
  obtain ⟨v', w', hr, hown, hgr, hnl, hat⟩ := run_append_own_at (P := Try.prog) w B E.slt ty E.ty i0 E.zero E.sz E.bytes E.hund hi0 hz0 hz1 hz2 E.hzero E.pos (.slice A l.length c) l.length xs h1 ad l2.length cc es hlen hes hone hmax hbig hB
  have hx1 := h1.1
  obtain ⟨A', c', rfl⟩ : ∃ A' c', v' = .slice A' (l ++ l2).length c' := by
    rcases hown.2 with ⟨e, h0⟩ | ⟨g', cap', cur', e, _⟩
    · exact ⟨none, 0, by rw [e, List.length_append, h0]⟩
    · exact ⟨_, _, by rw [e, List.length_append]⟩
  have hS : ∀ b, S b ∧ Value.ownBlock (.slice A l.length c) ≠ some b → b < w.heap.size → S b ∧ Value.ownBlock (.slice A' (l ++ l2).length c') ≠ some b := fun b hb hlt => by
    refine ⟨hb.1, fun e => ?_⟩
    rcases hat with h | h
    · exact hb.2 (h.symm.trans e)
    · rw [h] at e
      injection e with e
      omega
  have hcl : ∀ b o, S b ∧ Value.ownBlock (.slice A l.length c) ≠ some b → b < w.heap.size → w'.cell? ⟨b, o, none⟩ = w.cell? ⟨b, o, none⟩ := fun b o hb hlt =>
    World.cell?_of_block (hgr.block b hlt (fun e => hb.2 e.symm))
  refine ⟨A', c', w', hr, ⟨xs ++ es, by rw [← List.length_append] at hown; exact hown, fun u hu => ?_, fun i hi => ?_⟩, hgr, hat⟩
  · rcases List.mem_append.1 hu with h | h
    · exact h2 u h
    · exact hone u h
  · have hd := drop_take_append (ys := es) (i := i) hx1
    by_cases h : i < l.length
    · rw [hd.1 h, List.getElem_append_left h]
      exact E.mono (h3 i h) hS hcl
    · rw [hd.2 (by omega), List.getElem_append_right (by omega)]
      exact E.mono (hx (i - l.length) (by rw [List.length_append] at hi; omega)) hS hcl
end

/-- What has no parts lies nowhere. -/
theorem leaf_any {w : World} {S S' : Nat → Prop} {v : Value} {t : T} (hl : t.list = []) (hm : t.map = []) (h : RepT w S v t) : RepT w S' v t := by
  obtain ⟨la, lc, ma, mc, rfl, h1, h2, h3, h4, h5, h6, h7, h8, h9, -, -⟩ := h.inv
  exact RepT.of ⟨h1, h2, h3, h4, h5, h6, h7, h8, h9, fun i hi => by rw [hl] at hi; simp at hi, fun i hi => by rw [hm] at hi; simp at hi⟩
def kvs (ks : List ByteArray) : List (ByteArray × T) := ks.mapIdx fun i k => (k, tI i)
theorem kvs_snoc (ks : List ByteArray) (k : ByteArray) : kvs (ks ++ [k]) = kvs ks ++ [(k, tI ks.length)] := by simp [kvs, List.mapIdx_append]
theorem kvs_take (ks : List ByteArray) (q : Nat) (h : q < ks.length) : kvs (ks.take (q + 1)) = kvs (ks.take q) ++ [(ks[q], tI q)] := by
  rw [List.take_succ_eq_append_getElem h, kvs_snoc, List.length_take, Nat.min_eq_left (by omega)]
theorem kvs_next (ks : List ByteArray) (q : Nat) (h : q < ks.length) : mkMap (rput ks[q] (tI q) false (mapT (kvs (ks.take q)))) = mkMap (mapT (kvs (ks.take (q + 1)))) := by
  rw [rput_ins (mapT_KS _), kvs_take ks q h, mapT_snoc]

theorem kvs_leaf (ks : List ByteArray) : ∀ p ∈ mapT (kvs ks), p.2.list = [] ∧ p.2.map = [] := by
  have h1 : ∀ p ∈ kvs ks, p.2.list = [] ∧ p.2.map = [] := fun p hp => by
    unfold kvs at hp
    obtain ⟨i, hi, rfl⟩ := List.mem_mapIdx.1 hp
    exact ⟨rfl, rfl⟩
  suffices ∀ (l m : List (ByteArray × T)), (∀ p ∈ l, p.2.list = [] ∧ p.2.map = []) → (∀ p ∈ m, p.2.list = [] ∧ p.2.map = []) → ∀ p ∈ l.foldl (fun m p => ins m p.1 p.2) m, p.2.list = [] ∧ p.2.map = [] from this _ [] h1 (by simp)
  intro l
  induction l with
  | nil => intro m _ h; exact h
  | cons q r ih =>
    intro m hl hm
    refine ih (ins m q.1 q.2) (fun p hp => hl p (by simp [hp])) fun p hp => ?_
    rcases ins_mem p hp with rfl | hp
    · exact hl q (by simp)
    · exact hm p hp
theorem kvs_len (ks : List ByteArray) : (kvs ks).length = ks.length := by simp [kvs]
/-- A number, as it is made by hand, lies nowhere. -/
theorem rep_num (w : World) (S : Nat → Prop) (n : Int) (hn : i64ok n) : RepT w S (.agg #[.int .i64 2, .bool false, .int .i64 n, .string ⟨#[]⟩, .slice none 0 0, .slice none 0 0]) (tI n) :=
  RepT.of (t := tI n) (la := none) (lc := 0) (ma := none) (mc := 0) ⟨(show i64ok 2 by unfold i64ok; omega), hn, by show ByteArray.size ⟨#[]⟩ ≤ _; simp [ByteArray.size], by simp [tI, T.list], by simp [tI, T.map], by simp [tI, T.list], by simp [tI, T.map], by unfold maxLen; omega, by unfold maxLen; omega, fun i hi => by simp [tI, T.list] at hi, fun i hi => by simp [tI, T.map] at hi⟩
/-- A list of two, made by hand. -/
theorem rep_two {w : World} {g : Nat} {v x : T} {la la2 : Option Addr} {lc lc2 : Nat} {ma ma2 : Option Addr} {mc mc2 : Nat} (hb : Blk w g 25 #[.int .i64 v.kind, .bool v.bool, .int .i64 v.int, .string v.str, .slice la v.list.length lc, .slice ma v.map.length mc, .int .i64 x.kind, .bool x.bool, .int .i64 x.int, .string x.str, .slice la2 x.list.length lc2, .slice ma2 x.map.length mc2]) (hv : RepT w (fun _ => True) (.agg #[.int .i64 v.kind, .bool v.bool, .int .i64 v.int, .string v.str, .slice la v.list.length lc, .slice ma v.map.length mc]) v) (hx : RepT w (fun _ => True) (.agg #[.int .i64 x.kind, .bool x.bool, .int .i64 x.int, .string x.str, .slice la2 x.list.length lc2, .slice ma2 x.map.length mc2]) x) :
    RepL w (fun _ => True) (some ⟨g, 0, none⟩) [v, x] := repE_L.1 (rep_block (E := eltV) (S := fun _ => True) (l := [v, x]) [[.int .i64 v.kind, .bool v.bool, .int .i64 v.int, .string v.str, .slice la v.list.length lc, .slice ma v.map.length mc], [.int .i64 x.kind, .bool x.bool, .int .i64 x.int, .string x.str, .slice la2 x.list.length lc2, .slice ma2 x.map.length mc2]] hb rfl trivial ⟨hv, hx, trivial⟩)
theorem lit_list {w : World} {g : Nat} {v x : T} (h : RepL w (fun _ => True) (some ⟨g, 0, none⟩) [v, x]) :
    RepT w (fun _ => True) (.agg #[.int .i64 4, .bool false, .int .i64 0, .string ⟨#[]⟩, .slice (some ⟨g, 0, none⟩) 2 2, .slice none 0 0]) (mkList [v, x]) :=
  RepT.of (t := mkList [v, x]) (la := some ⟨g, 0, none⟩) (lc := 2) (ma := none) (mc := 0) ⟨(show i64ok 4 by unfold i64ok; omega), (show i64ok 0 by unfold i64ok; omega), by show ByteArray.size ⟨#[]⟩ ≤ _; simp [ByteArray.size], by simp [mkList, T.list], by simp [mkList, T.map], by simp [mkList, T.list], by simp [mkList, T.map], by unfold maxLen; omega, by unfold maxLen; omega, h, fun i hi => by simp [mkList, T.map] at hi⟩

theorem Blk.new2 (w : World) (o : Obj) (t : TypeId) (cs : Array Value) : Blk ((w.alloc o).alloc (.cells cs t)) (w.heap.size + 1) t cs := Blk.new_at _ _ _ (by simp)
/-- How things stand in the loop: the value's box, the value, the row of pairs beside it. -/
structure Two (wr : World) (G : Nat) (A : Option Addr) (c : Nat) (l : List (ByteArray × T)) (M : T) (la : Option Addr) (lc : Nat) (ma : Option Addr) (mc : Nat) : Prop where
  box : Blk wr G 25 #[.int .i64 M.kind, .bool M.bool, .int .i64 M.int, .string M.str, .slice la M.list.length lc, .slice ma M.map.length mc]
  rep : RepT wr (fun b => b ≠ G ∧ Value.ownBlock (.slice A l.length c) ≠ some b) (.agg #[.int .i64 M.kind, .bool M.bool, .int .i64 M.int, .string M.str, .slice la M.list.length lc, .slice ma M.map.length mc]) M
  own : OwnE eltP wr (G + 1) (fun _ => False) A c l
theorem two_start (w : World) : Two (w.alloc (.cells #[.int .i64 5, .bool false, .int .i64 0, .string ⟨#[]⟩, .slice none 0 0, .slice none 0 0] 25)) w.heap.size none 0 [] (mkMap []) none 0 none 0 := by
  refine ⟨Blk.new _ _ _, ?_, OwnE.nil⟩
  exact RepT.of (t := mkMap []) (la := none) (lc := 0) (ma := none) (mc := 0) ⟨(show i64ok 5 by unfold i64ok; omega), (show i64ok 0 by unfold i64ok; omega), by show ByteArray.size ⟨#[]⟩ ≤ _; simp [ByteArray.size], by simp [mkMap, T.list], by simp [mkMap, T.map], by simp [mkMap, T.list], by simp [mkMap, T.map], by unfold maxLen; omega, by unfold maxLen; omega, fun i hi => by simp [mkMap, T.list] at hi, fun i hi => by simp [mkMap, T.map] at hi⟩
theorem two_keep {wr w' : World} {G : Nat} {A : Option Addr} {c : Nat} {l : List (ByteArray × T)} {M : T} {la : Option Addr} {lc : Nat} {ma : Option Addr} {mc : Nat} (h : Two wr G A c l M la lc ma mc) (hb : Below wr.heap.size wr w') : Two w' G A c l M la lc ma mc :=
  ⟨h.box.keep hb, h.rep.keep hb, h.own.keep hb⟩
/-- One pair of a leaf more; the value beside it stays. -/
theorem two_append {wr : World} {G : Nat} {A : Option Addr} {c : Nat} {l : List (ByteArray × T)} {M : T} {la : Option Addr} {lc : Nat} {ma : Option Addr} {mc : Nat} {k : ByteArray} {n : Int} (h : Two wr G A c l M la lc ma mc) (hn : i64ok n) (hk : k.size ≤ 140737488351232) (hbig : (l.length + 1) * 104 ≤ 140737488355328) :
    ∃ (l2 : List (ByteArray × T)) (A' : Option Addr) (c' : Nat) (w3 : World), Hid (l2 = l ++ [(k, tI n)]) ∧
      (Builtin.append_ #[23, 23] 23 #[.slice A l.length c, .slice (some ⟨wr.heap.size, 0, none⟩) 1 1]).run Try.prog (wr.alloc (.cells #[.string k, .int .i64 2, .bool false, .int .i64 n, .string ⟨#[]⟩, .slice none 0 0, .slice none 0 0] 43)) = .ok (.slice A' l2.length c') w3 ∧
      Two w3 G A' c' l2 M la lc ma mc ∧ Below (G + 1) wr w3 ∧ (∀ g, g < wr.heap.size → Value.ownBlock (.slice A l.length c) ≠ some g → w3.heap[g]? = wr.heap[g]?) ∧ wr.heap.size ≤ w3.heap.size := by
  have hl := h.box.lt
  have ha : Below wr.heap.size wr (wr.alloc (.cells #[.string k, .int .i64 2, .bool false, .int .i64 n, .string ⟨#[]⟩, .slice none 0 0, .slice none 0 0] 43)) := Below.new _ _
  obtain ⟨A', c', w3, hrun, ho, hgr, hat⟩ := own_append_at (E := eltP) (l2 := [(k, tI n)]) (es := [.string k, .int .i64 2, .bool false, .int .i64 n, .string ⟨#[]⟩, .slice none 0 0, .slice none 0 0]) (ad := ⟨wr.heap.size, 0, none⟩) (cc := 1) (ty := 23) (t := 23) rfl (h.own.keep ha) (by show (l.length + 1) * 104 ≤ _; exact hbig) (by simp; unfold maxLen; omega) (by simp; omega) (by rfl)
    (fun j u hu => by rw [add_lit, Nat.zero_add, (Blk.new wr 43 #[.string k, .int .i64 2, .bool false, .int .i64 n, .string ⟨#[]⟩, .slice none 0 0, .slice none 0 0]).cell]; simpa using hu)
    (fun i hi => by
      obtain rfl : i = 0 := by simpa using hi
      exact ⟨_, rfl, hk, rep_num _ _ n hn⟩)
  have hsz : wr.heap.size < (wr.alloc (.cells #[.string k, .int .i64 2, .bool false, .int .i64 n, .string ⟨#[]⟩, .slice none 0 0, .slice none 0 0] 43)).heap.size := by simp
  have hgt : wr.heap.size ≤ w3.heap.size := Nat.le_trans (Nat.le_of_lt hsz) hgr.size
  have hblk : ∀ g, g < wr.heap.size → Value.ownBlock (.slice A l.length c) ≠ some g → w3.heap[g]? = wr.heap[g]? := fun g hg hne => (hgr.block g (by omega) (fun e => hne e.symm)).trans (ha.block g hg)
  have hGn : Value.ownBlock (.slice A l.length c) ≠ some G := fun e => by have := (h.own.own G e).1; omega
  refine ⟨l ++ [(k, tI n)], A', c', w3, rfl, hrun, ⟨?_, ?_, ho⟩, ?_, hblk, hgt⟩
  · exact (hblk G hl hGn).trans h.box
  · refine h.rep.mono (fun b hb hlt => ⟨hb.1, fun e => ?_⟩) fun b o hb hlt => World.cell?_of_block (hblk b hlt hb.2)
    rcases hat with h' | h'
    · rw [h'] at e; exact hb.2 e
    · rw [h'] at e
      injection e with e
      omega
  · exact ⟨hgr.os.trans ha.os, hgr.tape.trans ha.tape, hgr.output.trans ha.output, hgt, fun g hg => hblk g (by omega) fun e => by have := (h.own.own g e).1; omega⟩
/-- Behind the store of a new value. -/
theorem two_store {wr w3 : World} {G : Nat} {A : Option Addr} {c : Nat} {l : List (ByteArray × T)} {M M' : T} {la la' : Option Addr} {lc lc' : Nat} {ma ma' : Option Addr} {mc mc' : Nat} (h : Two wr G A c l M la lc ma mc) (hb : Below wr.heap.size wr w3)
    (hr : RepT w3 (fun b => (b ≠ G ∧ Value.ownBlock (.slice A l.length c) ≠ some b) ∨ wr.heap.size ≤ b) (.agg #[.int .i64 M'.kind, .bool M'.bool, .int .i64 M'.int, .string M'.str, .slice la' M'.list.length lc', .slice ma' M'.map.length mc']) M') :
    Two (set6 w3 G 0 (.int .i64 M'.kind) (.bool M'.bool) (.int .i64 M'.int) (.string M'.str) (.slice la' M'.list.length lc') (.slice ma' M'.map.length mc')) G A c l M' la' lc' ma' mc' := by
  have hk := two_keep h hb
  have hl := h.box.lt
  have hne : ∀ b, (b ≠ G ∧ Value.ownBlock (.slice A l.length c) ≠ some b) ∨ wr.heap.size ≤ b → b ≠ G ∧ Value.ownBlock (.slice A l.length c) ≠ some b := fun b hb => by
    rcases hb with hb | hb
    · exact hb
    · exact ⟨by omega, h.own.ne (.inr hb)⟩
  refine ⟨(((((hk.box.set_ 0 _).set_ 1 _).set_ 2 _).set_ 3 _).set_ 4 _).set_ 5 _, hr.mono (fun b hb _ => hne b hb) fun b o hb _ => World.cell?_of_block (w := w3) (set6_heap (hne b hb).1), ?_⟩
  exact hk.own.mono (fun g hg => set6_heap (by have := (h.own.own g hg).1; omega)) (fun _ hb _ _ => hb) fun b o hb _ _ => hb.elim
end Go.Proofs.Ytmdihildjblgnaa
