/- Several texts as one. -/
import Derived.Test.YtmdihildjblgnaaRep
import Derived.Deep.RegionHeld3
import Derived.Test.YtmdihildjblgnaaLaw
import Derived.Test.YtmdihildjblgnaaPath
import Derived.Test.YtmdihildjblgnaaRefPut
import Derived.Test.YtmdihildjblgnaaPure
import Derived.Test.YtmdihildjblgnaaOut
import Derived.Test.YtmdihildjblgnaaRefNB
import Derived.Test.YtmdihildjblgnaaMrgB
import Derived.Test.YtmdihildjblgnaaLeafB
import Derived.Deep.Cut
import Derived.Test.YtmdihildjblgnaaPLeaves
import Derived.Test.YtmdihildjblgnaaCmpW
import Derived.Test.YtmdihildjblgnaaRLeaves
import Derived.Test.YtmdihildjblgnaaRBegins
import Derived.Test.YtmdihildjblgnaaText
import Derived.Deep.DrawnRows
/- A drawn region by one invariant: one step for each operation, whatever has come up ahead of it. -/
namespace Go.Proofs.Ytmdihildjblgnaa
open Go.RowKit

section
variable {P : Program} {ops : Array Oper} {Q : Exit → Act → World → Prop} {md : Region.Mode}

/-- Operation i has come up as well. -/
def upd (d : Nat → Bool) (i j : Nat) : Bool := bif Nat.beq j i then true else d j
theorem upd_self (d : Nat → Bool) (i : Nat) : upd d i i = true := by unfold upd; rw [Nat.beq_refl]; rfl
theorem upd_of {d : Nat → Bool} {i j : Nat} (h : j ≠ i) : upd d i j = d j := by
  unfold upd
  have : Nat.beq j i = false := by
    cases hb : Nat.beq j i with
    | false => rfl
    | true => exact absurd (Nat.eq_of_beq_eq_true hb) h
  rw [this]; rfl
/-- What has come up. -/
def got (listed : Array Bool) (j : Nat) : Bool := listed.getD j false
theorem got_set {listed : Array Bool} {i : Nat} (h : i < listed.size) : got (listed.setIfInBounds i true) = upd (got listed) i := by
  funext j
  unfold got
  by_cases hj : j = i
  · subst hj; rw [upd_self, Array.getD_eq_getD_getElem?, Array.getElem?_setIfInBounds_self]; simp [h]
  · rw [upd_of hj, Array.getD_eq_getD_getElem?, Array.getElem?_setIfInBounds_ne (Ne.symm hj), ← Array.getD_eq_getD_getElem?]
/-- The operations that have come up already are few enough. -/
def left (listed : Array Bool) (n : Nat) : Nat := (List.range n).countP fun j => !got listed j
theorem left_set {listed : Array Bool} {i : Nat} (h : i < listed.size) (h0 : got listed i = false) : left (listed.setIfInBounds i true) listed.size + 1 ≤ left listed listed.size := by
  unfold left
  rw [got_set h]
  generalize got listed = d at *
  have key : ∀ l : List Nat, l.Nodup → (i ∈ l → (l.countP fun j => !upd d i j) + 1 = l.countP fun j => !d j) ∧ (i ∉ l → (l.countP fun j => !upd d i j) = l.countP fun j => !d j) := by
    intro l hl
    induction l with
    | nil => simp
    | cons x r ih =>
      obtain ⟨hx, hr⟩ := List.nodup_cons.1 hl
      obtain ⟨i1, i2⟩ := ih hr
      rw [List.countP_cons, List.countP_cons]
      by_cases hxi : x = i
      · subst hxi
        rw [upd_self, i2 hx, h0]
        simp
      · rw [upd_of hxi]
        refine ⟨fun hm => ?_, fun hm => ?_⟩
        · have hm' : i ∈ r := by
            rcases List.mem_cons.1 hm with e | e
            · exact absurd e.symm hxi
            · exact e
          have := i1 hm'; omega
        · have := i2 (fun e => hm (List.mem_cons.2 (.inr e))); omega
  have := (key (List.range listed.size) List.nodup_range).1 (List.mem_range.2 h)
  omega

/-- Every edge leads back. -/
def backward (ops : Array Oper) : Bool := (List.range ops.size).all fun i => ((ops[i]?).map fun o => o.after.all fun e => decide (e.on < i)).getD true
theorem all_done {listed : Array Bool} (hz : listed.size = ops.size) (hb : backward ops = true) (hr : Region.ready md ops listed = []) : ∀ j, j < ops.size → got listed j = true := by
  intro j
  induction j using Nat.strongRecOn with
  | _ j ih =>
    intro hj
    cases hg : got listed j with
    | true => rfl
    | false =>
      have ho : ops[j]? = some ops[j] := Array.getElem?_eq_getElem hj
      have hback := List.all_eq_true.1 hb j (List.mem_range.2 hj)
      rw [ho] at hback
      have hmem : j ∈ Region.ready md ops listed := mem_ready.2 ⟨by
        unfold got at hg
        rw [Array.getD_eq_getD_getElem?] at hg ⊢
        rw [Array.getElem?_eq_getElem (by omega)] at hg ⊢
        exact hg, _, ho, fun e he _ => by
          have h1 : e.on < j := by
            simp only [Option.map_some, Option.getD_some] at hback
            exact of_decide_eq_true (Array.all_eq_true_iff_forall_mem.1 hback e he)
          exact ih _ h1 (by omega)⟩
      rw [hr] at hmem
      cases hmem

theorem wpAny_inv {I : (Nat → Bool) → Act → World → Prop} (hb : backward ops = true)
    (hs : ∀ (d : Nat → Bool) (a : Act) (w : World) (i : Nat) (o : Oper), ops[i]? = some o → d i = false → (∀ e ∈ o.after, Region.binds md e = true → d e.on = true) → I d a w → wpOp P ops Q i (I (upd d i)) a w)
    (he : ∀ (d : Nat → Bool) (a : Act) (w : World), (∀ j, j < ops.size → d j = true) → I d a w → Q .normal a w) :
    ∀ (fuel : Nat) (listed : Array Bool) (a : Act) (w : World), listed.size = ops.size → left listed listed.size ≤ fuel → I (got listed) a w → wpAny P md ops Q fuel listed a w := by
  intro fuel
  induction fuel with
  | zero =>
    intro listed a w hz hl hI
    have hr : Region.ready md ops listed = [] := by
      cases h : Region.ready md ops listed with
      | nil => rfl
      | cons i r =>
        obtain ⟨h1, o, ho, -⟩ := mem_ready.1 (h ▸ List.mem_cons_self : i ∈ Region.ready md ops listed)
        have hi := (Array.getElem?_eq_some_iff.1 ho).1
        have : got listed i = false := by
          unfold got
          rw [Array.getD_eq_getD_getElem?, Array.getElem?_eq_getElem (by omega)] at h1 ⊢
          exact h1
        have := left_set (by omega) this
        omega
    exact ⟨hr, he _ _ _ (all_done hz hb hr) hI⟩
  | succ fuel ih =>
    intro listed a w hz hl hI
    refine ⟨fun hr => he _ _ _ (all_done hz hb hr) hI, fun i hi => ?_⟩
    obtain ⟨h1, o, ho, hall⟩ := mem_ready.1 hi
    have hi := (Array.getElem?_eq_some_iff.1 ho).1
    have hg : got listed i = false := by
      unfold got
      rw [Array.getD_eq_getD_getElem?, Array.getElem?_eq_getElem (by omega)] at h1 ⊢
      exact h1
    refine wpOp_mono (fun a' w' h => ?_) (hs (got listed) a w i o ho hg hall hI)
    have h2 := left_set (by omega) hg
    refine ih _ _ _ (by simpa using hz) ?_ (by rw [got_set (by omega)]; exact h)
    rw [Array.size_setIfInBounds]
    omega

/-- Operation by operation: each from a state in which what it waits for has come up. -/
def EachOp (P : Program) (md : Region.Mode) (ops : Array Oper) (Q : Exit → Act → World → Prop) (I : (Nat → Bool) → Act → World → Prop) : Nat → List Oper → Prop
  | _, [] => True
  | i, o :: os => (∀ (d : Nat → Bool) (a : Act) (w : World), d i = false → (∀ e ∈ o.after, Region.binds md e = true → d e.on = true) → I d a w →
      ∀ K : Act → World → Prop, Shut (∀ a w, I (upd d i) a w → K a w) → if Region.wanted o (yielded ops a.tmps) = true then Oper.wp P o a w K Q else K (a.put o.dst undef) w) ∧ EachOp P md ops Q I (i + 1) os
theorem EachOp.at_ {I : (Nat → Bool) → Act → World → Prop} : ∀ {l : List Oper} {k : Nat}, EachOp P md ops Q I k l → ∀ i o, l[i]? = some o → ∀ (d : Nat → Bool) (a : Act) (w : World), d (k + i) = false → (∀ e ∈ o.after, Region.binds md e = true → d e.on = true) → I d a w →
      ∀ K : Act → World → Prop, Shut (∀ a w, I (upd d (k + i)) a w → K a w) → if Region.wanted o (yielded ops a.tmps) = true then Oper.wp P o a w K Q else K (a.put o.dst undef) w
  | [], _, _, i, o, h => by simp at h
  | x :: r, k, h, 0, o, ho => by
    simp only [List.getElem?_cons_zero, Option.some.injEq] at ho
    subst ho
    exact h.1
  | x :: r, k, h, i + 1, o, ho => by
    have := h.2.at_ i o (by simpa using ho)
    rw [show k + 1 + i = k + (i + 1) by omega] at this
    exact this
/-- What is reckoned of a frame once, ahead of a walk. -/
theorem lay_frame {β : Type} {c : Code} {a : Act} {w : World} (f : Act → β → Prop) (fr : β) (h : f a fr) (k : f a fr → c.wp P Q a w) : c.wp P Q a w := k h
/-- **A drawn region by an invariant.** -/
theorem wp_region_inv {id n : Nat} {ops : List Oper} {a : Act} {w : World} (I : Act → (Nat → Bool) → Act → World → Prop) (hm : P.follows .mixedOrders = true) (hb : backward ops.toArray = true) (hn : ops.length = n)
    (h0 : I a (fun _ => false) a w.drew) (hs : EachOp P .any ops.toArray Q (I a) 0 ops)
    (he : ∀ (d : Nat → Bool) (a' : Act) (w : World), (∀ j, j < n → d j = true) → I a d a' w → Q .normal a' w) : (Code.region id ops.toArray true).wp P Q a w := by
  subst hn
  refine wp_region_any hm (wpAny_inv (I := I a) hb (fun d a' w i o ho hd hall hI => ?_) (fun d a' w hd hI => he d a' w (by simpa using hd) hI) _ _ _ _ (by simp) ?_ ?_)
  · refine wpOp_step ho (fun K hK => ?_)
    have := hs.at_ i o (by simpa using ho) d a' w (by rw [Nat.zero_add]; exact hd) hall hI K (by rw [Nat.zero_add]; exact hK)
    exact this
  · unfold left
    refine Nat.le_trans (List.countP_le_length) (by simp)
  · have : got (Array.replicate ops.toArray.size false) = fun _ => false := by
      funext j
      unfold got
      rw [Array.getD_eq_getD_getElem?, Array.getElem?_replicate]
      split <;> rfl
    rw [this]
    exact h0
end

/-! Blocks have owners: what a region makes for itself (a box) from what is shared. -/
/-- One operation: which blocks stay as they were (all but g), owners of old blocks stay. -/
structure Stp (O : Nat → Nat) (w : World) (O' : Nat → Nat) (w' : World) (g : Option Nat) : Prop where
  size : w.heap.size ≤ w'.heap.size
  own : ∀ b, b < w.heap.size → O' b = O b
  heap : ∀ b, b < w.heap.size → some b ≠ g → w'.heap[b]? = w.heap[b]?
section
variable {O O' : Nat → Nat} {w w' : World} {g : Option Nat}
/-- The owners behind a call: what it made is shared. -/
def ownC (O : Nat → Nat) (n : Nat) : Nat → Nat := fun b => if b < n then O b else 0
/-- The owners behind a new block that k owns. -/
def ownN (O : Nat → Nat) (n k : Nat) : Nat → Nat := fun b => if b < n then O b else if b = n then k else 0
theorem Stp.call (h : Below w.heap.size w w') : Stp O w (ownC O w.heap.size) w' none :=
  ⟨h.size, fun _ hb => if_pos hb, fun b hb _ => h.block b hb⟩
theorem Stp.new (o : Obj) (k : Nat) : Stp O w (ownN O w.heap.size k) (w.alloc o) none :=
  ⟨by simp, fun _ hb => if_pos hb, fun b hb _ => (Below.heap_alloc w o b hb)⟩
theorem Stp.refl : Stp O w O w none := ⟨Nat.le_refl _, fun _ _ => rfl, fun _ _ _ => rfl⟩
theorem Stp.drew : Stp O w O w.drew none := ⟨Nat.le_refl _, fun _ _ => rfl, fun _ _ _ => rfl⟩
/-- Six stores, one store, into block g. -/
theorem Stp.set1 {b o : Nat} {v : Value} : Stp O w O (w.setCell ⟨b, o, none⟩ v) (some b) := ⟨by simp [World.setCell], fun _ _ => rfl, fun c _ hg => Below.heap_setCell w ⟨b, o, none⟩ v c (fun e => hg (by rw [e]))⟩
theorem Stp.trans {O2 : Nat → Nat} {w2 : World} (h : Stp O w O' w' g) (k : Stp O' w' O2 w2 g) : Stp O w O2 w2 g :=
  ⟨Nat.le_trans h.size k.size, fun b hb => (k.own b (Nat.lt_of_lt_of_le hb h.size)).trans (h.own b hb), fun b hb hg => (k.heap b (Nat.lt_of_lt_of_le hb h.size) hg).trans (h.heap b hb hg)⟩
theorem ownN_new (k : Nat) : ownN O w.heap.size k w.heap.size = k := by unfold ownN; rw [if_neg (Nat.lt_irrefl _), if_pos rfl]
theorem Blk.stp {b : Nat} {ty : TypeId} {cs : Array Value} (h : Blk w b ty cs) (s : Stp O w O' w' g) (hg : some b ≠ g) : Blk w' b ty cs := (s.heap b h.lt hg).trans h
theorem RepT.stp {v : Value} {t : T} (h : RepT w (fun b => O b = 0) v t) (s : Stp O w O' w' g) (hg : ∀ b, g = some b → O b ≠ 0) : RepT w' (fun b => O' b = 0) v t :=
  h.mono (fun b hb hlt => (s.own b hlt).trans hb) fun b _ hb hlt => World.cell?_of_block (s.heap b hlt fun e => hg b e.symm hb)
theorem RepT.called {v : Value} {t : T} (h : RepT w' (fun b => w.heap.size ≤ b) v t) : RepT w' (fun b => ownC O w.heap.size b = 0) v t :=
  h.weak fun _ hb _ => if_neg (Nat.not_lt.2 hb)
theorem ownC_low {n m : Nat} (h : ∀ b, b < n → O b = 0) : ∀ b, b < n → ownC O m b = 0 := fun b hb => by
  unfold ownC; split
  · exact h b hb
  · rfl
theorem ownN_low {n m k : Nat} (h : ∀ b, b < n → O b = 0) (hm : n ≤ m) : ∀ b, b < n → ownN O m k b = 0 := fun b hb => by
  unfold ownN; rw [if_pos (Nat.lt_of_lt_of_le hb hm)]; exact h b hb
theorem RepT.shared {v : Value} {t : T} {S : Nat → Prop} (h : RepT w S v t) : RepT w (fun b => (fun _ : Nat => 0) b = 0) v t := h.weak fun _ _ _ => rfl
end
end Go.Proofs.Ytmdihildjblgnaa

/- A drawn region by one invariant: boxes of values that it makes. -/
namespace Go.Proofs.Ytmdihildjblgnaa
open Go.RowKit

def cellsOf : Value → Array Value
  | .agg cs => cs
  | _ => #[]
/-- A box that the region makes: owner k; v lies in it once it is stored. -/
def BoxI (O : Nat → Nat) (w : World) (B : Nat) (x : Value) (k : Nat) (st : Bool) (v : Value) : Prop :=
  ∃ g, x = .pointer (some ⟨g, 0, none⟩) ∧ O g = k ∧ B ≤ g ∧ Blk w g 25 (bif st then cellsOf v else #[.int .i64 0, .bool false, .int .i64 0, .string ⟨#[]⟩, .slice none 0 0, .slice none 0 0])
section
variable {O O' : Nat → Nat} {w w' : World} {g : Option Nat} {B k : Nat} {x v v' : Value} {st : Bool}
theorem BoxI.stp (h : BoxI O w B x k st v) (s : Stp O w O' w' g) (hg : ∀ b, g = some b → O b ≠ k) : BoxI O' w' B x k st v := by
  obtain ⟨b, e, ho, hB, hb⟩ := h
  exact ⟨b, e, (s.own b hb.lt).trans ho, hB, hb.stp s fun e2 => hg b e2.symm ho⟩
theorem BoxI.val (h : BoxI O w B x k st v) (hs : st = false) : BoxI O w B x k st v' := by
  subst hs
  exact h
theorem BoxI.new (k : Nat) (v : Value) (hB : B ≤ w.heap.size) : BoxI (ownN O w.heap.size k) (w.alloc (.cells #[.int .i64 0, .bool false, .int .i64 0, .string ⟨#[]⟩, .slice none 0 0, .slice none 0 0] 25)) B (.pointer (some ⟨w.heap.size, 0, none⟩)) k false v :=
  ⟨_, rfl, ownN_new k, hB, Blk.new _ _ _⟩
theorem BoxI.put {b : Nat} {c0 c1 c2 c3 c4 c5 : Value} (h : BoxI O w B (.pointer (some ⟨b, 0, none⟩)) k false v') : BoxI O (set6 w b 0 c0 c1 c2 c3 c4 c5) B (.pointer (some ⟨b, 0, none⟩)) k true (.agg #[c0, c1, c2, c3, c4, c5]) := by
  obtain ⟨b', e, ho, hB, hb⟩ := h
  injection e with e; injection e with e; injection e with e
  subst e
  exact ⟨b, rfl, ho, hB, (((((hb.set_ 0 _).set_ 1 _).set_ 2 _).set_ 3 _).set_ 4 _).set_ 5 _⟩
/-- A row of one value that the region makes: owner k. -/
def RowI (O : Nat → Nat) (w : World) (B : Nat) (x : Value) (k : Nat) (cs : Array Value) : Prop :=
  ∃ g, x = .slice (some ⟨g, 0, none⟩) 1 1 ∧ O g = k ∧ B ≤ g ∧ Blk w g 25 cs
theorem RowI.stp {cs : Array Value} (h : RowI O w B x k cs) (s : Stp O w O' w' g) (hg : ∀ b, g = some b → O b ≠ k) : RowI O' w' B x k cs := by
  obtain ⟨b, e, ho, hB, hb⟩ := h
  exact ⟨b, e, (s.own b hb.lt).trans ho, hB, hb.stp s fun e2 => hg b e2.symm ho⟩
theorem RowI.new {cs : Array Value} (k : Nat) (hB : B ≤ w.heap.size) : RowI (ownN O w.heap.size k) (w.alloc (.cells cs 25)) B (.slice (some ⟨w.heap.size, 0, none⟩) 1 1) k cs :=
  ⟨_, rfl, ownN_new k, hB, Blk.new _ _ _⟩
theorem Stp.set6 {b o : Nat} {c0 c1 c2 c3 c4 c5 : Value} : Stp O w O (set6 w b o c0 c1 c2 c3 c4 c5) (some b) :=
  ⟨(set6_below (B := 0) (Below.refl _ _) (Nat.zero_le _)).size, fun _ _ => rfl, fun c _ hc => set6_heap (fun e => hc (by rw [e]))⟩
theorem BoxI.at_ (h : BoxI O w B x k st v) : ∃ g, x = .pointer (some ⟨g, 0, none⟩) ∧ O g = k ∧ B ≤ g ∧ Blk w g 25 (bif st then cellsOf v else #[.int .i64 0, .bool false, .int .i64 0, .string ⟨#[]⟩, .slice none 0 0, .slice none 0 0]) := h
end
end Go.Proofs.Ytmdihildjblgnaa

/- A map that a reference function makes in a box of its own, pair by pair: its row grows by append. -/
namespace Go.Proofs.Ytmdihildjblgnaa
open Go.RowKit

/-- How things stand: G is the map's box; the row lies from B on; what its values lead to came in (S), or lies from B on, and not in the row. -/
structure RRow (S : Nat → Prop) (w wr : World) (B G : Nat) (A : Option Addr) (c : Nat) (l : List (ByteArray × T)) : Prop where
  box : Blk wr G 25 #[.int .i64 5, .bool false, .int .i64 0, .string ⟨#[]⟩, .slice none 0 0, .slice A l.length c]
  own : OwnE eltP wr B (fun b => (S b ∧ b < w.heap.size) ∨ B ≤ b) A c l
  bel : Below w.heap.size w wr
  low : w.heap.size ≤ G
  mid : G < B
  top : B ≤ wr.heap.size
namespace RRow
variable {S : Nat → Prop} {w wr w3 : World} {B G c : Nat} {A : Option Addr} {l : List (ByteArray × T)}
theorem keep (h : RRow S w wr B G A c l) (hb : Below wr.heap.size wr w3) : RRow S w w3 B G A c l :=
  ⟨h.box.keep hb, h.own.keep hb, Below.next h.bel hb, h.low, h.mid, Nat.le_trans h.top hb.size⟩
/-- The row lies in older blocks than what is made now. -/
theorem older (h : RRow S w wr B G A c l) : ∀ b, wr.heap.size ≤ b → Value.ownBlock (.slice A l.length c) ≠ some b := fun b hb e => by
  have := h.own.own b e
  omega
/-- The map, as a value. -/
theorem rep (h : RRow S w wr B G A c l) (hl : l.length * 104 ≤ 140737488355328) : RepT wr (fun b => S b ∨ w.heap.size ≤ b) (.agg #[.int .i64 5, .bool false, .int .i64 0, .string ⟨#[]⟩, .slice none 0 0, .slice A l.length c]) (mkMap l) := by
  have hlen := h.own.len
  have h1 := h.low
  have h2 := h.mid
  refine RepT.of (t := mkMap l) ⟨(by show i64ok 5; unfold i64ok; omega), (by show i64ok 0; unfold i64ok; omega), (by show (0 : Nat) ≤ _; omega), by show (0 : Nat) * 88 ≤ _; omega, hl, Nat.le_refl _, hlen.1, (by unfold maxLen; omega), hlen.2, fun i hi => by simp [mkMap, T.list] at hi, ?_⟩
  exact RepM.mono (w := wr) (repE_M.1 h.own.rep) (fun b hb _ => by
    rcases hb with (hb | hb) | hb
    · exact .inl hb.1
    · exact .inr (by omega)
    · exact .inr (by omega)) (fun _ _ _ _ => rfl)
/-- One pair more: append's run, and how things stand behind the store into the box. -/
theorem next (h : RRow S w wr B G A c l) {n : Nat} {k : ByteArray} {x : T} {c0 c1 c2 c3 c4 c5 : Value} (hn : n = wr.heap.size)
    (hx : RepT wr (fun b => ((S b ∧ b < w.heap.size) ∨ B ≤ b) ∧ Value.ownBlock (.slice A l.length c) ≠ some b) (.agg #[c0, c1, c2, c3, c4, c5]) x) (hk : k.size ≤ 140737488351232) (hbig : (l.length + 1) * 104 ≤ 140737488355328) :
    ∃ (l2 : List (ByteArray × T)) (A' : Option Addr) (c' : Nat) (w3 : World), Hid (l2 = l ++ [(k, x)]) ∧
      (Builtin.append_ #[23, 23] 23 #[.slice A l.length c, .slice (some ⟨n, 0, none⟩) 1 1]).run Try.prog (wr.alloc (.cells #[.string k, c0, c1, c2, c3, c4, c5] 43)) = .ok (.slice A' l2.length c') w3 ∧
      Blk w3 G 25 #[.int .i64 5, .bool false, .int .i64 0, .string ⟨#[]⟩, .slice none 0 0, .slice A l.length c] ∧ Below B wr w3 ∧ RRow S w (w3.setCell ⟨G, 5, none⟩ (.slice A' l2.length c')) B G A' c' l2 := by
  subst hn
  have ha : Below wr.heap.size wr (wr.alloc (.cells #[.string k, c0, c1, c2, c3, c4, c5] 43)) := Below.new _ _
  have h1 := h.low
  have h2 := h.mid
  have h3 := h.top
  obtain ⟨A', c', w3, hrun, ho, hgr⟩ := own_append (E := eltP) (l2 := [(k, x)]) (es := [.string k, c0, c1, c2, c3, c4, c5]) (ad := ⟨wr.heap.size, 0, none⟩) (cc := 1) (ty := 23) (t := 23) rfl (h.own.keep ha) (by show (l.length + 1) * 104 ≤ _; exact hbig) (by simp; unfold maxLen; omega) (by simp; omega) (by rfl)
    (fun j u hu => by rw [add_lit, Nat.zero_add, (Blk.new wr 43 #[.string k, c0, c1, c2, c3, c4, c5]).cell]; simpa using hu)
    (fun i hi => by
      obtain rfl : i = 0 := by simpa using hi
      exact ⟨_, rfl, hk, hx.keep ha⟩)
  have hba : Below B wr (wr.alloc (.cells #[.string k, c0, c1, c2, c3, c4, c5] 43)) := ha.mono h3
  have hb3 : Below B wr w3 := ⟨hgr.os.trans hba.os, hgr.tape.trans hba.tape, hgr.output.trans hba.output, Nat.le_trans hba.size hgr.size, fun g hg => (hgr.block g (Nat.lt_of_lt_of_le (Nat.lt_of_lt_of_le hg h3) hba.size) (fun e => by have := (h.own.own g e.symm).1; omega)).trans (hba.block g hg)⟩
  have hbx : Blk w3 G 25 #[.int .i64 5, .bool false, .int .i64 0, .string ⟨#[]⟩, .slice none 0 0, .slice A l.length c] := h.box.below hb3 h2
  refine ⟨l ++ [(k, x)], A', c', w3, rfl, hrun, hbx, hb3, hbx.set_ 5 _, ?_, (h.bel.trans (hb3.mono (by omega))).setCell (p := ⟨G, 5, none⟩) h1 _, h1, h2, ?_⟩
  · have hown : ∀ g, Value.ownBlock (.slice A' (l ++ [(k, x)]).length c') = some g → g ≠ G := fun g e => by have := (ho.own g e).1; omega
    refine ho.mono (fun g hg => Below.heap_setCell _ ⟨G, 5, none⟩ _ g (hown g hg)) (fun _ h _ _ => h) (fun b o hb _ _ => World.cell?_of_block (a := ⟨b, o, none⟩) (Below.heap_setCell _ ⟨G, 5, none⟩ _ b (fun e => by
      have e' : b = G := e
      rcases hb with hb | hb
      · have := hb.2; omega
      · omega)))
  · have := hb3.size
    simp [World.setCell]; omega
end RRow
end Go.Proofs.Ytmdihildjblgnaa

/- A value that a reference function makes in a box of its own: laid anew, or pair by pair; and returned at last. -/
namespace Go.Proofs.Ytmdihildjblgnaa
open Go.RowKit

/-- How things stand: G is the value's box; what it leads to came in (S), or lies from B on. -/
structure ROut (S : Nat → Prop) (w wr : World) (B G : Nat) (M : T) (la : Option Addr) (lc : Nat) (ma : Option Addr) (mc : Nat) : Prop where
  box : Blk wr G 25 #[.int .i64 M.kind, .bool M.bool, .int .i64 M.int, .string M.str, .slice la M.list.length lc, .slice ma M.map.length mc]
  rep : RepT wr (fun b => (S b ∧ b < w.heap.size) ∨ B ≤ b) (.agg #[.int .i64 M.kind, .bool M.bool, .int .i64 M.int, .string M.str, .slice la M.list.length lc, .slice ma M.map.length mc]) M
  bel : Below w.heap.size w wr
  low : w.heap.size ≤ G
  mid : G < B
  top : B ≤ wr.heap.size
namespace ROut
variable {S : Nat → Prop} {w wr w3 : World} {B G : Nat} {M M' : T} {la la' : Option Addr} {lc lc' : Nat} {ma ma' : Option Addr} {mc mc' : Nat}
theorem keep (h : ROut S w wr B G M la lc ma mc) (hb : Below wr.heap.size wr w3) : ROut S w w3 B G M la lc ma mc :=
  ⟨h.box.keep hb, h.rep.keep hb, Below.next h.bel hb, h.low, h.mid, Nat.le_trans h.top hb.size⟩
theorem any (h : ROut S w wr B G M la lc ma mc) : RepT wr (fun _ => True) (.agg #[.int .i64 M.kind, .bool M.bool, .int .i64 M.int, .string M.str, .slice la M.list.length lc, .slice ma M.map.length mc]) M := h.rep.weak fun _ _ _ => trivial
/-- Behind the store of a new value. -/
theorem put (h : ROut S w wr B G M la lc ma mc) (hb : Below wr.heap.size wr w3) (hr : RepT w3 (fun b => (S b ∧ b < w.heap.size) ∨ B ≤ b) (.agg #[.int .i64 M'.kind, .bool M'.bool, .int .i64 M'.int, .string M'.str, .slice la' M'.list.length lc', .slice ma' M'.map.length mc']) M') :
    ROut S w (set6 w3 G 0 (.int .i64 M'.kind) (.bool M'.bool) (.int .i64 M'.int) (.string M'.str) (.slice la' M'.list.length lc') (.slice ma' M'.map.length mc')) B G M' la' lc' ma' mc' := by
  have k := h.keep hb
  have h1 := h.mid
  have h4 := h.low
  refine ⟨(((((k.box.set_ 0 _).set_ 1 _).set_ 2 _).set_ 3 _).set_ 4 _).set_ 5 _, ?_, set6_below k.bel h.low, h.low, h.mid, by have := k.top; simp [set6, World.setCell]; omega⟩
  exact hr.mono (fun b hb _ => hb) fun b o hb _ => World.cell?_of_block (w := w3) (set6_heap (show b ≠ G by rcases hb with hb | hb; have := hb.2; omega; omega))
/-- Behind the store into the result's box. -/
theorem fin (h : ROut S w wr B G M la lc ma mc) {R : Nat} {c0 c1 c2 c3 c4 c5 : Value} (h1 : w.heap.size ≤ R) (h2 : R < B) : RepT (set6 wr R 0 c0 c1 c2 c3 c4 c5) (fun b => S b ∨ w.heap.size ≤ b) (.agg #[.int .i64 M.kind, .bool M.bool, .int .i64 M.int, .string M.str, .slice la M.list.length lc, .slice ma M.map.length mc]) M :=
  h.rep.mono (fun b hb _ => by rcases hb with hb | hb; exact .inl hb.1; exact .inr (by omega)) fun b o hb _ => World.cell?_of_block (w := wr) (set6_heap (show b ≠ R by rcases hb with hb | hb; have := hb.2; omega; omega))
end ROut
/-- What follows a statement, out of sight (a walk's simp would lay it open). -/
theorem wp_hide {P : Program} {c : Code} {Q : Exit → Act → World → Prop} {a : Act} {w : World} (h : ∀ QQ : Exit → Act → World → Prop, Hid (QQ = Q) → Code.wp P c QQ a w) : Code.wp P c Q a w := h Q rfl
namespace RRow
variable {S : Nat → Prop} {w wr w3 : World} {B G c : Nat} {A : Option Addr} {l : List (ByteArray × T)}
theorem out (h : RRow S w wr B G A c l) (hl : l.length * 104 ≤ 140737488355328) : ROut S w wr B G (mkMap l) none 0 A c := by
  have hlen := h.own.len
  refine ⟨h.box, ?_, h.bel, h.low, h.mid, h.top⟩
  refine RepT.of (t := mkMap l) ⟨(by show i64ok 5; unfold i64ok; omega), (by show i64ok 0; unfold i64ok; omega), (by show (0 : Nat) ≤ _; omega), by show (0 : Nat) * 88 ≤ _; omega, hl, Nat.le_refl _, hlen.1, (by unfold maxLen; omega), hlen.2, fun i hi => by simp [mkMap, T.list] at hi, ?_⟩
  exact RepM.mono (w := wr) (repE_M.1 h.own.rep) (fun b hb _ => by
    rcases hb with hb | hb
    · exact hb
    · exact .inr hb) (fun _ _ _ _ => rfl)
/-- A map's box, made just now, empty. -/
theorem start {W : World} (hb : Below w.heap.size w W) : RRow S w (W.alloc (.cells #[.int .i64 5, .bool false, .int .i64 0, .string ⟨#[]⟩, .slice none 0 0, .slice none 0 0] 25)) (W.heap.size + 1) W.heap.size none 0 [] :=
  ⟨Blk.new _ _ _, OwnE.nil, hb.alloc hb.size _, hb.size, Nat.lt_succ_self _, by simp⟩
/-- A value that may be a pair's: it came in, or was made since. -/
theorem may (h : RRow S w wr B G A c l) {x : T} {v : Value} {n : Nat} (hn : wr.heap.size ≤ n) (hx : RepT wr (fun b => (S b ∧ b < w.heap.size) ∨ n ≤ b) v x) : RepT wr (fun b => ((S b ∧ b < w.heap.size) ∨ B ≤ b) ∧ Value.ownBlock (.slice A l.length c) ≠ some b) v x := by
  have h1 := h.low
  have h2 := h.mid
  have h3 := h.top
  exact hx.weak fun b hb _ => by
    rcases hb with hb | hb
    · exact ⟨.inl hb, h.own.ne (.inl (by have := hb.2; omega))⟩
    · exact ⟨.inr (by omega), h.older b (by omega)⟩
/-- One pair more, behind a draw. -/
theorem next_drew (h : RRow S w wr B G A c l) {n : Nat} {k : ByteArray} {x : T} {c0 c1 c2 c3 c4 c5 : Value} (hn : n = wr.heap.size)
    (hx : RepT wr (fun b => ((S b ∧ b < w.heap.size) ∨ B ≤ b) ∧ Value.ownBlock (.slice A l.length c) ≠ some b) (.agg #[c0, c1, c2, c3, c4, c5]) x) (hk : k.size ≤ 140737488351232) (hbig : (l.length + 1) * 104 ≤ 140737488355328) :
    ∃ (l2 : List (ByteArray × T)) (A' : Option Addr) (c' : Nat) (w3 : World), Hid (l2 = l ++ [(k, x)]) ∧
      (Builtin.append_ #[23, 23] 23 #[.slice A l.length c, .slice (some ⟨n, 0, none⟩) 1 1]).run Try.prog (wr.alloc (.cells #[.string k, c0, c1, c2, c3, c4, c5] 43)).drew = .ok (.slice A' l2.length c') w3 ∧
      Blk w3 G 25 #[.int .i64 5, .bool false, .int .i64 0, .string ⟨#[]⟩, .slice none 0 0, .slice A l.length c] ∧ Below B wr w3 ∧ RRow S w (w3.setCell ⟨G, 5, none⟩ (.slice A' l2.length c')) B G A' c' l2 := by
  obtain ⟨l2, A', c', w3, e, hr, hb, hbl, hnn⟩ := RRow.next (wr := wr.drew) (h.keep (Below.drew (Below.refl _ _))) (n := n) hn (hx.keep (Below.drew (Below.refl _ _))) hk hbig
  exact ⟨l2, A', c', w3, e, hr, hb, (Below.drew (Below.refl _ _)).trans hbl, hnn⟩
end RRow
end Go.Proofs.Ytmdihildjblgnaa

/- The reference's Merge, plainly; which leaves of a manifest are live. -/
namespace Go.Proofs.Ytmdihildjblgnaa

/-- What the reference's first loop keeps of what is live. -/
def mref (o t : T) : ByteArray → T → Option T := fun k z => match look t.map k with
  | some _ => none
  | none => cutl z (look o.map k)
theorem merge_ref {a b c : Nat} {t o v : T} (ht : Neat a t) (ho : Neat b o) (hv : Neat c v) (hm : t.map ≠ []) : T.mergeM t.map o v (mkMap (fmap (mref o t) v.map)) = t.merge o v := by
  obtain ⟨l1, e1, hks1, -, h1⟩ := mergeM_look (o := o) (v := v) (m := t.map) (fmap_KS (f := mref o t) hv.KS) ht.KS
  obtain ⟨l2, e2, hks2, -, h2⟩ := merge_look ht ho hv hm
  rw [e1, e2]
  congr 1
  refine KS_ext hks1 hks2 fun k => ?_
  rw [h1, h2, look_fmap hv.KS, getT_look ho, getT_look hv]
  unfold mrg3 mref
  cases look t.map k with
  | none => rfl
  | some x => rfl
/-- One pair of the new manifest, put. -/
theorem mref_step {a b c : Nat} {t o v : T} (ht : Neat a t) (ho : Neat b o) (hv : Neat c v) {q : Nat} (hq : q < t.map.length) :
    ∃ l1, T.mergeM (t.map.take q) o v (mkMap (fmap (mref o t) v.map)) = mkMap l1 ∧ l1.length ≤ c + q ∧ mkMap (rput t.map[q].1 (t.map[q].2.merge ((look o.map t.map[q].1).getD T.zero) ((look v.map t.map[q].1).getD T.zero)) false l1) = T.mergeM (t.map.take (q + 1)) o v (mkMap (fmap (mref o t) v.map)) := by
  have hks : KS (t.map.take q) := fun i j hj hij => by
    have h := ht.KS
    rw [List.length_take] at hj
    rw [List.getElem_take, List.getElem_take]
    exact h i j (by omega) hij
  obtain ⟨l1, e1, hks1, hl, -⟩ := mergeM_look (o := o) (v := v) (m := t.map.take q) (fmap_KS (f := mref o t) hv.KS) hks
  refine ⟨l1, e1, ?_, ?_⟩
  · have h1 := fmap_len (mref o t) v.map
    have h2 := hv.len
    rw [List.length_take] at hl
    omega
  · rw [List.take_succ_eq_append_getElem hq, mergeM_snoc, mergeP_eq, e1, putT_mk hks1, rput_ins hks1, getT_look ho, getT_look hv]

/-- Is a leaf live? -/
def heldT (v : T) (x : LeafT) : Bool := match getP x.1 v with
  | none => false
  | some y => decide (T.cmp y x.2 = 0)
/-- The paths of the leaves that are not. -/
def driftT (v : T) (L : List LeafT) : List (List ByteArray) := (L.filter fun x => !heldT v x).map (·.1)
theorem drift_take {v : T} {L : List LeafT} {q : Nat} (hq : q < L.length) : driftT v (L.take (q + 1)) = driftT v (L.take q) ++ (if heldT v L[q] = true then [] else [L[q].1]) := by
  unfold driftT
  rw [List.take_succ_eq_append_getElem hq, List.filter_append, List.map_append]
  congr 1
  rw [List.filter_cons, List.filter_nil]
  cases heldT v L[q] <;> rfl
theorem drift_len (v : T) (L : List LeafT) (q : Nat) : (driftT v (L.take q)).length ≤ q := by
  unfold driftT
  rw [List.length_map]
  exact Nat.le_trans (List.length_filter_le _ _) (by rw [List.length_take]; omega)
/-- The next that is not live stands in its place among all that are not. -/
theorem drift_at {v : T} {L : List LeafT} {q : Nat} (hq : q < L.length) (h : heldT v L[q] = false) : ∃ hn : (driftT v (L.take q)).length < (driftT v L).length, (driftT v L)[(driftT v (L.take q)).length] = L[q].1 := by
  have e : driftT v L = driftT v (L.take q) ++ (L[q].1 :: driftT v (L.drop (q + 1))) := by
    conv => lhs; rw [← List.take_append_drop q L, List.drop_eq_getElem_cons hq]
    unfold driftT
    rw [List.filter_append, List.map_append, List.filter_cons, h]
    rfl
  have hl : (driftT v (L.take q)).length < (driftT v L).length := by rw [e]; simp
  refine ⟨hl, ?_⟩
  have : (driftT v L)[(driftT v (L.take q)).length]? = some L[q].1 := by rw [e, List.getElem?_append_right (Nat.le_refl _), Nat.sub_self]; rfl
  rw [List.getElem?_eq_getElem hl] at this
  injection this
theorem held_iff {n k : Nat} {v t : T} (hv : Neat n v) (ht : Neat k t) {x : LeafT} (hx : x ∈ t.leaves) : heldT v x = true ↔ getP x.1 v = some x.2 := by
  unfold heldT
  cases e : getP x.1 v with
  | none => simp
  | some y =>
    simp only [decide_eq_true_eq, Option.some.injEq]
    exact ⟨cmp_is (getP_neat hv e).parts (leaves_of ht x hx).2.parts, fun h => by rw [h]; exact (cmp_1 _).refl⟩
/-- No drift: all are held. -/
theorem drift_nil {v : T} {L : List LeafT} : driftT v L = [] ↔ (L.any fun x => !heldT v x) = false := by
  unfold driftT
  rw [List.map_eq_nil_iff, List.filter_eq_nil_iff, List.any_eq_false]
end Go.Proofs.Ytmdihildjblgnaa

/- mizzenref14.Cut. -/
namespace Go.Proofs.Ytmdihildjblgnaa
open Go.RowKit
attribute [local go_sem ↓] Go.wp_at_zero Go.wp_at_succ

theorem gotS {S : Nat → Prop} {w : World} {b b' : Bool} {x x' : T} (hb : b = b') (hx : x = x') {e : Ending} {w' : World} (h : GotRS S w b x e w') : GotRS S w b' x' e w' := hb ▸ hx ▸ h
set_option maxRecDepth 100000 in
set_option maxHeartbeats 16000000 in
theorem rcut {na : Nat} (hn1 : na ≤ 1000000) (t : T) : ∀ (nb : Nat) (a : T) (_ : Neat na a) (_ : Neat nb t) (va v : Value) (w : World) (S : Nat → Prop), RepT w S va a → RepT w (fun _ => True) v t →
    Calls Try.prog 80 #[va, v] w (GotRS (fun b => S b ∨ w.heap.size ≤ b) w (decide ((t.cut a).map ≠ [])) (t.cut a)) := by
  induction t using T.ind' with
  | h t ihl ihm =>
  intro nb a ha hn va v w S hra h
  clear ihl
  obtain ⟨la, lc, ma, mc, rfl, -⟩ := h.inv
  obtain ⟨la0, lc0, ma0, mc0, rfl, hpa⟩ := hra.inv
  obtain ⟨-, -, -, -, ha104, -, -, -, -, -, hMa⟩ := hpa
  have HMA := Lib.hid (hMa.mono (w' := w) (S' := fun b => S b ∧ b < w.heap.size) (fun _ h1 h => ⟨h1, h⟩) (fun _ _ _ _ => rfl)); clear hMa hra
  have HT := Lib.hid h; clear h
  by_cases h0 : t.map = [] ∨ a.kind ≠ 5
  · have HE := Lib.hid (cut_none h0)
    obtain ⟨res, hres⟩ : ∃ r, r = t.cut a := ⟨_, rfl⟩
    rw [← hres] at HE ⊢
    clear hres
    have HD := Lib.hid (show decide (res.map ≠ []) = false from by rw [HE.out]; exact decide_eq_false (fun h => h zero_map))
    have hg : ((t.map.length : Int) == 0) = true ∨ (((t.map.length : Int) == 0) = false ∧ (a.kind != 5) = true) := by
      by_cases hm0 : t.map = []
      · exact .inl (by rw [hm0]; rfl)
      · exact .inr ⟨beq_eq_false_iff_ne.2 (by have := List.length_pos_iff.2 hm0; omega), by rcases h0 with h0 | h0; exact absurd h0 hm0; exact bne_iff_ne.2 h0⟩
    clear h0 ihm ha hn HMA HT
    have hB1 : Blk (((w.alloc (.cells #[.int .i64 a.kind, .bool a.bool, .int .i64 a.int, .string a.str, .slice la0 a.list.length lc0, .slice ma0 a.map.length mc0] 25)).alloc (.cells #[.int .i64 t.kind, .bool t.bool, .int .i64 t.int, .string t.str, .slice la t.list.length lc, .slice ma t.map.length mc] 25)).alloc (.cells #[.int .i64 0, .bool false, .int .i64 0, .string ⟨#[]⟩, .slice none 0 0, .slice none 0 0] 25)) (w.heap.size) 25 #[.int .i64 a.kind, .bool a.bool, .int .i64 a.int, .string a.str, .slice la0 a.list.length lc0, .slice ma0 a.map.length mc0] := (((Blk.new _ _ _).alloc _).alloc _)
    have hB2 : Blk (((w.alloc (.cells #[.int .i64 a.kind, .bool a.bool, .int .i64 a.int, .string a.str, .slice la0 a.list.length lc0, .slice ma0 a.map.length mc0] 25)).alloc (.cells #[.int .i64 t.kind, .bool t.bool, .int .i64 t.int, .string t.str, .slice la t.list.length lc, .slice ma t.map.length mc] 25)).alloc (.cells #[.int .i64 0, .bool false, .int .i64 0, .string ⟨#[]⟩, .slice none 0 0, .slice none 0 0] 25)) (w.heap.size + 1) 25 #[.int .i64 t.kind, .bool t.bool, .int .i64 t.int, .string t.str, .slice la t.list.length lc, .slice ma t.map.length mc] := ((Blk.new_at _ _ _ (by simp)).alloc _)
    have hB3 : Blk (((w.alloc (.cells #[.int .i64 a.kind, .bool a.bool, .int .i64 a.int, .string a.str, .slice la0 a.list.length lc0, .slice ma0 a.map.length mc0] 25)).alloc (.cells #[.int .i64 t.kind, .bool t.bool, .int .i64 t.int, .string t.str, .slice la t.list.length lc, .slice ma t.map.length mc] 25)).alloc (.cells #[.int .i64 0, .bool false, .int .i64 0, .string ⟨#[]⟩, .slice none 0 0, .slice none 0 0] 25)) (w.heap.size + 1 + 1) 25 #[.int .i64 0, .bool false, .int .i64 0, .string ⟨#[]⟩, .slice none 0 0, .slice none 0 0] := (Blk.new_at _ _ _ (by simp))
    have hBW : Below w.heap.size w (((w.alloc (.cells #[.int .i64 a.kind, .bool a.bool, .int .i64 a.int, .string a.str, .slice la0 a.list.length lc0, .slice ma0 a.map.length mc0] 25)).alloc (.cells #[.int .i64 t.kind, .bool t.bool, .int .i64 t.int, .string t.str, .slice la t.list.length lc, .slice ma t.map.length mc] 25)).alloc (.cells #[.int .i64 0, .bool false, .int .i64 0, .string ⟨#[]⟩, .slice none 0 0, .slice none 0 0] 25)) := ((Below.new _ _).alloc (by simp) _).alloc (by simp; omega) _
    obtain ⟨W0, e0⟩ : ∃ x, x = (((w.alloc (.cells #[.int .i64 a.kind, .bool a.bool, .int .i64 a.int, .string a.str, .slice la0 a.list.length lc0, .slice ma0 a.map.length mc0] 25)).alloc (.cells #[.int .i64 t.kind, .bool t.bool, .int .i64 t.int, .string t.str, .slice la t.list.length lc, .slice ma t.map.length mc] 25)).alloc (.cells #[.int .i64 0, .bool false, .int .i64 0, .string ⟨#[]⟩, .slice none 0 0, .slice none 0 0] 25)) := ⟨_, rfl⟩
    rw [← e0] at hB1 hB2 hB3 hBW
    have hs0 : W0.heap.size = w.heap.size + 3 := by rw [e0]; simp
    have E0 := Lib.hid e0; have L1 := Lib.hid hB1; have L2 := Lib.hid hB2; have L3 := Lib.hid hB3; have HW0 := Lib.hid hBW
    clear e0 hB1 hB2 hB3 hBW
    have zk := L3.out.cell; have zf := L3.out.frozen; have zl := L3.out.lt; have tk := L2.out.cell; have tl := L2.out.lt; have ak := L1.out.cell; have al := L1.out.lt
    rcases hg with hg1 | ⟨hg1, hg2⟩
    all_goals
      go_enter Try.func80, Try.ntmps80
      go_upto_region 1 with fail
      rw [← E0.out]
      clear E0
      go_wp2_with fail
      exact ret_cell2 rfl rfl rfl ((((((L3.out.set_ 0 _).set_ 1 _).set_ 2 _).set_ 3 _).set_ 4 _).set_ 5 _) Try.underlying25 val_size rfl ⟨_, by rw [HD.out]; rfl, by rw [HE.out]; exact rep_zero _ _, set6_below (o := 0) HW0.out (by omega)⟩
  · have hm0 : t.map ≠ [] := fun e => h0 (.inl e)
    have h5 : a.kind = 5 := Classical.byContradiction fun e => h0 (.inr e)
    have hg2 : (a.kind != 5) = false := by rw [h5]; rfl
    have hg1 : ((t.map.length : Int) == 0) = false := beq_eq_false_iff_ne.2 (by have := List.length_pos_iff.2 hm0; omega)
    have HE := Lib.hid (cut_is ha hn.KS hm0 h5)
    obtain ⟨res, hres⟩ : ∃ r, r = t.cut a := ⟨_, rfl⟩
    rw [← hres] at HE ⊢
    clear hres h0 hm0 h5
    obtain ⟨f, hf⟩ : ∃ f, f = (fun k z => cutl z (look t.map k)) := ⟨_, rfl⟩
    rw [← hf] at HE
    have HST := Lib.hid (fun q (hq : q < a.map.length) => fmap_take f a.map q hq)
    have HF := Lib.hid hf
    have HLE := Lib.hid (fun q => show (fmap f (a.map.take q)).length ≤ q from Nat.le_trans (fmap_len _ _) (by rw [List.length_take]; omega))
    have HIH := Lib.hid (fun p hp z (hz : Neat na z) va vb w2 S2 h1 h2 => ihm p hp nb z hz (hn.mem p hp) va vb w2 S2 h1 h2)
    have HMEM := Lib.hid (fun i (hi : i < a.map.length) => ha.mem _ (List.getElem_mem hi))
    have HKS := Lib.hid hn.KS
    have hla := ha.len
    clear hf ihm ha hn
    have hB1 : Blk ((((w.alloc (.cells #[.int .i64 a.kind, .bool a.bool, .int .i64 a.int, .string a.str, .slice la0 a.list.length lc0, .slice ma0 a.map.length mc0] 25)).alloc (.cells #[.int .i64 t.kind, .bool t.bool, .int .i64 t.int, .string t.str, .slice la t.list.length lc, .slice ma t.map.length mc] 25)).alloc (.cells #[.int .i64 0, .bool false, .int .i64 0, .string ⟨#[]⟩, .slice none 0 0, .slice none 0 0] 25)).alloc (.cells #[.int .i64 5, .bool false, .int .i64 0, .string ⟨#[]⟩, .slice none 0 0, .slice none 0 0] 25)) (w.heap.size) 25 #[.int .i64 a.kind, .bool a.bool, .int .i64 a.int, .string a.str, .slice la0 a.list.length lc0, .slice ma0 a.map.length mc0] := ((((Blk.new _ _ _).alloc _).alloc _).alloc _)
    have hB2 : Blk ((((w.alloc (.cells #[.int .i64 a.kind, .bool a.bool, .int .i64 a.int, .string a.str, .slice la0 a.list.length lc0, .slice ma0 a.map.length mc0] 25)).alloc (.cells #[.int .i64 t.kind, .bool t.bool, .int .i64 t.int, .string t.str, .slice la t.list.length lc, .slice ma t.map.length mc] 25)).alloc (.cells #[.int .i64 0, .bool false, .int .i64 0, .string ⟨#[]⟩, .slice none 0 0, .slice none 0 0] 25)).alloc (.cells #[.int .i64 5, .bool false, .int .i64 0, .string ⟨#[]⟩, .slice none 0 0, .slice none 0 0] 25)) (w.heap.size + 1) 25 #[.int .i64 t.kind, .bool t.bool, .int .i64 t.int, .string t.str, .slice la t.list.length lc, .slice ma t.map.length mc] := (((Blk.new_at _ _ _ (by simp)).alloc _).alloc _)
    have hB3 : Blk ((((w.alloc (.cells #[.int .i64 a.kind, .bool a.bool, .int .i64 a.int, .string a.str, .slice la0 a.list.length lc0, .slice ma0 a.map.length mc0] 25)).alloc (.cells #[.int .i64 t.kind, .bool t.bool, .int .i64 t.int, .string t.str, .slice la t.list.length lc, .slice ma t.map.length mc] 25)).alloc (.cells #[.int .i64 0, .bool false, .int .i64 0, .string ⟨#[]⟩, .slice none 0 0, .slice none 0 0] 25)).alloc (.cells #[.int .i64 5, .bool false, .int .i64 0, .string ⟨#[]⟩, .slice none 0 0, .slice none 0 0] 25)) (w.heap.size + 1 + 1) 25 #[.int .i64 0, .bool false, .int .i64 0, .string ⟨#[]⟩, .slice none 0 0, .slice none 0 0] := ((Blk.new_at _ _ _ (by simp)).alloc _)
    have hB4 : Blk ((((w.alloc (.cells #[.int .i64 a.kind, .bool a.bool, .int .i64 a.int, .string a.str, .slice la0 a.list.length lc0, .slice ma0 a.map.length mc0] 25)).alloc (.cells #[.int .i64 t.kind, .bool t.bool, .int .i64 t.int, .string t.str, .slice la t.list.length lc, .slice ma t.map.length mc] 25)).alloc (.cells #[.int .i64 0, .bool false, .int .i64 0, .string ⟨#[]⟩, .slice none 0 0, .slice none 0 0] 25)).alloc (.cells #[.int .i64 5, .bool false, .int .i64 0, .string ⟨#[]⟩, .slice none 0 0, .slice none 0 0] 25)) (w.heap.size + 1 + 1 + 1) 25 #[.int .i64 5, .bool false, .int .i64 0, .string ⟨#[]⟩, .slice none 0 0, .slice none 0 0] := (Blk.new_at _ _ _ (by simp))
    have hBW : Below w.heap.size w ((((w.alloc (.cells #[.int .i64 a.kind, .bool a.bool, .int .i64 a.int, .string a.str, .slice la0 a.list.length lc0, .slice ma0 a.map.length mc0] 25)).alloc (.cells #[.int .i64 t.kind, .bool t.bool, .int .i64 t.int, .string t.str, .slice la t.list.length lc, .slice ma t.map.length mc] 25)).alloc (.cells #[.int .i64 0, .bool false, .int .i64 0, .string ⟨#[]⟩, .slice none 0 0, .slice none 0 0] 25)).alloc (.cells #[.int .i64 5, .bool false, .int .i64 0, .string ⟨#[]⟩, .slice none 0 0, .slice none 0 0] 25)) := (((Below.new _ _).alloc (by simp) _).alloc (by simp; omega) _).alloc (by simp; omega) _
    obtain ⟨W0, e0⟩ : ∃ x, x = ((((w.alloc (.cells #[.int .i64 a.kind, .bool a.bool, .int .i64 a.int, .string a.str, .slice la0 a.list.length lc0, .slice ma0 a.map.length mc0] 25)).alloc (.cells #[.int .i64 t.kind, .bool t.bool, .int .i64 t.int, .string t.str, .slice la t.list.length lc, .slice ma t.map.length mc] 25)).alloc (.cells #[.int .i64 0, .bool false, .int .i64 0, .string ⟨#[]⟩, .slice none 0 0, .slice none 0 0] 25)).alloc (.cells #[.int .i64 5, .bool false, .int .i64 0, .string ⟨#[]⟩, .slice none 0 0, .slice none 0 0] 25)) := ⟨_, rfl⟩
    rw [← e0] at hB1 hB2 hB3 hB4 hBW
    have hs0 : W0.heap.size = w.heap.size + 4 := by rw [e0]; simp
    have E0 := Lib.hid e0; have L1 := Lib.hid hB1; have L2 := Lib.hid hB2; have L3 := Lib.hid hB3; have L4 := Lib.hid hB4; have HW0 := Lib.hid hBW
    clear e0 hB1 hB2 hB3 hB4 hBW
    have HR0 := Lib.hid (show RRow S w W0 (w.heap.size + 4) (w.heap.size + 1 + 1 + 1) none 0 [] from ⟨L4.out, OwnE.nil, HW0.out, by omega, by omega, by omega⟩)
    go_enter Try.func80, Try.ntmps80
    go_wp2_with fail
    rw [← E0.out]
    clear E0 L4
    go_loopw [7] (fun x wr => ∃ (q : Nat) (l : List (ByteArray × T)) (A : Option Addr) (c : Nat), q ≤ a.map.length ∧ x = .int .i64 q ∧ Hid (l = fmap f (a.map.take q)) ∧ Hid (Below (w.heap.size + 3) W0 wr) ∧ Hid (RRow S w wr (w.heap.size + 4) (w.heap.size + 1 + 1 + 1) A c l)) (fun x _ => a.map.length - (intOf x).toNat)
    case atStart => exact ⟨0, [], none, 0, Nat.zero_le _, rfl, by show _ = _; rw [List.take_zero]; rfl, Lib.hid (Below.refl _ _), HR0⟩
    case round =>
      obtain ⟨q, l, A, c, hq, rfl, hl, HBL, HRR⟩ := hrel
      clear HR0
      have L1_0 := Lib.hid (L1.out.below HBL.out (by omega))
      have L1_1 := Lib.hid (L2.out.below HBL.out (by omega))
      have L1_2 := Lib.hid (L3.out.below HBL.out (by omega))
      have V1_A := Lib.hid (HMA.out.keep HRR.out.bel)
      have V1_t := Lib.hid (HT.out.keep HRR.out.bel)
      have HW1 := Lib.hid HRR.out.bel
      have k1_0 := L1_0.out.cell; have l1_0 := L1_0.out.lt
      have k1_1 := L1_1.out.cell; have l1_1 := L1_1.out.lt
      have k1_2 := L1_2.out.cell; have l1_2 := L1_2.out.lt
      have kO := HRR.out.box.cell; have lO := HRR.out.box.lt; have htop := HRR.out.top
      have hll : l.length ≤ q := by rw [hl.out]; exact HLE.out q
      by_cases hlt : q < a.map.length
      · obtain ⟨b, bo, ya, yc, ym, yn, rfl, -, hblk, hkz, ⟨c0, c1, c2, c3, c4, c5, c6⟩, hr⟩ := V1_A.out.at_ hlt
        have HX := Lib.hid hr; clear hr
        have HXN := Lib.hid (HMEM.out q hlt)
        have hst := HST.out q hlt
        rw [← hl.out, HF.out] at hst
        have HIQ := Lib.hid (fun z (e : look t.map a.map[q].1 = some z) => fun va vb w2 S2 => HIH.out (a.map[q].1, z) (look_mem e) a.map[q].2 HXN.out va vb w2 S2)
        obtain ⟨ot, hot⟩ : ∃ o, o = look t.map a.map[q].1 := ⟨_, rfl⟩
        have CG := Lib.hid (fun v2 w2 (h : RepT w2 (fun _ => True) v2 t) => show Calls Try.prog 34 #[v2, .string a.map[q].1] w2 (GotRS (fun _ => True) w2 ot.isSome (ot.getD T.zero)) from hot ▸ rget_N (fun _ => True) t a.map[q].1 v2 w2 h)
        rw [← hot] at HIQ
        simp only [← hot] at hst
        clear hot HXN hl
        generalize a.map[q].1 = key at *
        generalize a.map[q].2 = x at *
        have HB0 := Lib.hid (Below.refl wr.heap.size wr)
        cases ot
        · have HST2 := Lib.hid (show fmap f (a.map.take (q + 1)) = l ++ [(key, x)] from by rw [HF.out]; exact hst); clear hst HIQ
          go_wp2_with fail
          refine (CG.out _ _ (V1_t.out.keep (by exact Below.new _ _))).mono ?_
          rintro e w2 ⟨v2, rfl, hr, hb⟩
          obtain ⟨qa2, qc2, qm2, qn2, rfl, -⟩ := hr.inv
          have N2 := Lib.hid (hr.any)
          clear hr
          have HD2 := Lib.hid (show Below wr.heap.size wr w2 from Below.next (Below.new _ _) hb)
          have L2_0 := Lib.hid (L1_0.out.keep HD2.out)
          have L2_1 := Lib.hid (L1_1.out.keep HD2.out)
          have L2_2 := Lib.hid (L1_2.out.keep HD2.out)
          have L2_3 := Lib.hid ((Blk.new wr 43 #[.string key, .int .i64 x.kind, .bool x.bool, .int .i64 x.int, .string x.str, .slice ya x.list.length yc, .slice ym x.map.length yn]).keep hb)
          have V2_t := Lib.hid (V1_t.out.keep HD2.out)
          have V2_x := Lib.hid (HX.out.keep HD2.out)
          have B2_0 := Lib.hid (Below.next HB0.out HD2.out)
          have HW2 := Lib.hid (Below.next HW1.out HD2.out)
          clear k1_0 l1_0 k1_1 l1_1 k1_2 l1_2 hb HD2 L1_0 L1_1 L1_2 V1_t HX HB0 HW1
          have k2_0 := L2_0.out.cell
          have l2_0 := L2_0.out.lt
          have k2_1 := L2_1.out.cell
          have l2_1 := L2_1.out.lt
          have k2_2 := L2_2.out.cell
          have l2_2 := L2_2.out.lt
          have k2_3 := L2_3.out.cell
          have l2_3 := L2_3.out.lt
          have hbw : Below wr.heap.size wr (w2.alloc (.cells #[.int .i64 T.zero.kind, .bool T.zero.bool, .int .i64 T.zero.int, .string T.zero.str, .slice qa2 T.zero.list.length qc2, .slice qm2 T.zero.map.length qn2] 25)) := Below.next B2_0.out (Below.new _ _)
          have RR2 := Lib.hid (HRR.out.keep hbw); have HBW := Lib.hid hbw
          have hx2 := RR2.out.may (Nat.le_refl _) ((V2_x.out.keep (Below.new _ _)).weak (fun b hb _ => .inl hb))
          have HX2 := Lib.hid hx2; clear hx2 hbw kO lO
          have kO := RR2.out.box.cell; have lO := RR2.out.box.lt
          obtain ⟨l3, A3, c3, w8, HL3, hrun3, hbx, hb3, hr3⟩ := RRow.next (n := w2.heap.size + 1) RR2.out (by simp) (k := key) (HX2.out) hkz (by omega)
          have q5 := hbx.cell; have qf := hbx.frozen; have ql := hbx.lt; have HI3 := Lib.hid hr3; have HB3 := Lib.hid hb3
          clear hbx hb3 hr3
          go_wp2_with (at_builtin; refine wpList_append_run rfl (.tmp 56) (.tmp 58) 23 rfl hrun3 rfl rfl ?_)
          go_roundw
          case rel => exact ⟨q + 1, l3, A3, c3, by omega, by go_num, by show l3 = _; rw [HL3.out, HST2.out], Lib.hid (((HBL.out.trans (HBW.out.mono (by omega))).trans (HB3.out.mono (by omega))).setCell (p := ⟨w.heap.size + 1 + 1 + 1, 5, none⟩) (by show w.heap.size + 3 ≤ w.heap.size + 1 + 1 + 1; omega) _), HI3⟩
          case measure => simp [intOf]; omega
        · rename_i z
          obtain ⟨y, hy⟩ : ∃ y, y = z.cut x := ⟨_, rfl⟩
          obtain ⟨mb, hmb⟩ : ∃ m, m = decide (y.map ≠ []) := ⟨_, rfl⟩
          have HIC := Lib.hid (fun va vb w2 S2 (h1 : RepT w2 S2 va x) (h2 : RepT w2 (fun _ => True) vb z) => show Calls Try.prog 80 #[va, vb] w2 (GotRS (fun b => S2 b ∨ w2.heap.size ≤ b) w2 mb y) from by have := HIQ.out z rfl va vb w2 S2 h1 h2; rw [hmb, hy]; exact this)
          have HS0 := Lib.hid (show mb = false → fmap f (a.map.take (q + 1)) = l from fun e => by rw [hmb, decide_eq_false_iff_not, Classical.not_not] at e; rw [HF.out, hst]; simp only [cutl]; rw [← hy, if_pos e]; simp)
          have HS1 := Lib.hid (show mb = true → fmap f (a.map.take (q + 1)) = l ++ [(key, y)] from fun e => by rw [hmb, decide_eq_true_eq] at e; rw [HF.out, hst]; simp only [cutl]; rw [← hy, if_neg e])
          clear hst HIQ hy hmb
          go_wp2_with fail
          refine (CG.out _ _ (V1_t.out.keep (by exact Below.new _ _))).mono ?_
          rintro e w2 ⟨v2, rfl, hr, hb⟩
          obtain ⟨qa2, qc2, qm2, qn2, rfl, -⟩ := hr.inv
          have N2 := Lib.hid (hr.any)
          clear hr
          have HD2 := Lib.hid (show Below wr.heap.size wr w2 from Below.next (Below.new _ _) hb)
          have L2_0 := Lib.hid (L1_0.out.keep HD2.out)
          have L2_1 := Lib.hid (L1_1.out.keep HD2.out)
          have L2_2 := Lib.hid (L1_2.out.keep HD2.out)
          have L2_3 := Lib.hid ((Blk.new wr 43 #[.string key, .int .i64 x.kind, .bool x.bool, .int .i64 x.int, .string x.str, .slice ya x.list.length yc, .slice ym x.map.length yn]).keep hb)
          have V2_t := Lib.hid (V1_t.out.keep HD2.out)
          have V2_x := Lib.hid (HX.out.keep HD2.out)
          have B2_0 := Lib.hid (Below.next HB0.out HD2.out)
          have HW2 := Lib.hid (Below.next HW1.out HD2.out)
          clear k1_0 l1_0 k1_1 l1_1 k1_2 l1_2 hb HD2 L1_0 L1_1 L1_2 V1_t HX HB0 HW1
          have k2_0 := L2_0.out.cell
          have l2_0 := L2_0.out.lt
          have k2_1 := L2_1.out.cell
          have l2_1 := L2_1.out.lt
          have k2_2 := L2_2.out.cell
          have l2_2 := L2_2.out.lt
          have k2_3 := L2_3.out.cell
          have l2_3 := L2_3.out.lt
          go_wp2_with fail
          have HPX := Lib.hid (show wr.heap.size < ((w2.alloc (.cells #[.int .i64 z.kind, .bool z.bool, .int .i64 z.int, .string z.str, .slice qa2 z.list.length qc2, .slice qm2 z.map.length qn2] 25))).heap.size from by have := L2_3.out.lt; simp; omega)
          refine (HIC.out _ _ _ _ (V2_x.out.keep (by exact Below.new _ _)) (N2.out.keep (by exact Below.new _ _))).mono ?_
          rintro e w7 ⟨v7, rfl, hr, hb⟩
          obtain ⟨qa7, qc7, qm7, qn7, rfl, -⟩ := hr.inv
          have HRY := Lib.hid hr; clear hr
          have HD3 := Lib.hid (show Below w2.heap.size w2 w7 from Below.next (Below.new _ _) hb)
          have L3_0 := Lib.hid (L2_0.out.keep HD3.out)
          have L3_1 := Lib.hid (L2_1.out.keep HD3.out)
          have L3_2 := Lib.hid (L2_2.out.keep HD3.out)
          have L3_3 := Lib.hid (L2_3.out.keep HD3.out)
          have L3_4 := Lib.hid ((Blk.new w2 25 #[.int .i64 z.kind, .bool z.bool, .int .i64 z.int, .string z.str, .slice qa2 z.list.length qc2, .slice qm2 z.map.length qn2]).keep hb)
          have V3_t := Lib.hid (V2_t.out.keep HD3.out)
          have V3_x := Lib.hid (V2_x.out.keep HD3.out)
          have V3_z := Lib.hid (N2.out.keep HD3.out)
          have B3_0 := Lib.hid (Below.next B2_0.out HD3.out)
          have HW3 := Lib.hid (Below.next HW2.out HD3.out)
          clear k2_0 l2_0 k2_1 l2_1 k2_2 l2_2 k2_3 l2_3 hb HD3 L2_0 L2_1 L2_2 L2_3 V2_t V2_x N2 B2_0 HW2
          have k3_0 := L3_0.out.cell
          have l3_0 := L3_0.out.lt
          have k3_1 := L3_1.out.cell
          have l3_1 := L3_1.out.lt
          have k3_2 := L3_2.out.cell
          have l3_2 := L3_2.out.lt
          have k3_3 := L3_3.out.cell
          have l3_3 := L3_3.out.lt
          have k3_4 := L3_4.out.cell
          have l3_4 := L3_4.out.lt
          cases mb
          · have HS := Lib.hid (HS0.out rfl); clear HS0 HS1 HRY HPX
            have RR2 := Lib.hid (HRR.out.keep B3_0.out)
            clear kO lO
            go_wp2_with fail
            go_roundw
            case rel => exact ⟨q + 1, l, A, c, by omega, by go_num, by show l = _; rw [HS.out], Lib.hid (HBL.out.trans ((Below.next B3_0.out (Below.new _ _)).mono (by omega))), Lib.hid (RR2.out.keep (Below.new _ _))⟩
            case measure => simp [intOf]; omega
          · have HS := Lib.hid (HS1.out rfl); clear HS0 HS1
            have zf := (L3_3.out.alloc (.cells #[.int .i64 y.kind, .bool y.bool, .int .i64 y.int, .string y.str, .slice qa7 y.list.length qc7, .slice qm7 y.map.length qn7] 25)).frozen; have zk := (L3_3.out.alloc (.cells #[.int .i64 y.kind, .bool y.bool, .int .i64 y.int, .string y.str, .slice qa7 y.list.length qc7, .slice qm7 y.map.length qn7] 25)).cell; have zl := (L3_3.out.alloc (.cells #[.int .i64 y.kind, .bool y.bool, .int .i64 y.int, .string y.str, .slice qa7 y.list.length qc7, .slice qm7 y.map.length qn7] 25)).lt
            have HWB := Lib.hid (show Below wr.heap.size wr (w7.alloc (.cells #[.int .i64 y.kind, .bool y.bool, .int .i64 y.int, .string y.str, .slice qa7 y.list.length qc7, .slice qm7 y.map.length qn7] 25)) from Below.next B3_0.out (Below.new _ _))
            have HWC := Lib.hid (show Below wr.heap.size wr (((((((w7.alloc (.cells #[.int .i64 y.kind, .bool y.bool, .int .i64 y.int, .string y.str, .slice qa7 y.list.length qc7, .slice qm7 y.map.length qn7] 25)).setCell ⟨wr.heap.size, 1, none⟩ (.int .i64 y.kind)).setCell ⟨wr.heap.size, 2, none⟩ (.bool y.bool)).setCell ⟨wr.heap.size, 3, none⟩ (.int .i64 y.int)).setCell ⟨wr.heap.size, 4, none⟩ (.string y.str)).setCell ⟨wr.heap.size, 5, none⟩ (.slice qa7 y.list.length qc7)).setCell ⟨wr.heap.size, 6, none⟩ (.slice qm7 y.map.length qn7)) from set6_below (o := 1) HWB.out (Nat.le_refl _))
            have RR2 := Lib.hid (HRR.out.keep HWC.out)
            have Z1 : Blk (((((((w7.alloc (.cells #[.int .i64 y.kind, .bool y.bool, .int .i64 y.int, .string y.str, .slice qa7 y.list.length qc7, .slice qm7 y.map.length qn7] 25)).setCell ⟨wr.heap.size, 1, none⟩ (.int .i64 y.kind)).setCell ⟨wr.heap.size, 2, none⟩ (.bool y.bool)).setCell ⟨wr.heap.size, 3, none⟩ (.int .i64 y.int)).setCell ⟨wr.heap.size, 4, none⟩ (.string y.str)).setCell ⟨wr.heap.size, 5, none⟩ (.slice qa7 y.list.length qc7)).setCell ⟨wr.heap.size, 6, none⟩ (.slice qm7 y.map.length qn7)) wr.heap.size 43 #[.string key, .int .i64 y.kind, .bool y.bool, .int .i64 y.int, .string y.str, .slice qa7 y.list.length qc7, .slice qm7 y.map.length qn7] := (((((((L3_3.out.alloc _).set_ 1 _).set_ 2 _).set_ 3 _).set_ 4 _).set_ 5 _).set_ 6 _)
            have hpx := HPX.out
            have hx1 := HRY.out.keep (Below.new w7 (.cells #[.int .i64 y.kind, .bool y.bool, .int .i64 y.int, .string y.str, .slice qa7 y.list.length qc7, .slice qm7 y.map.length qn7] 25))
            have hx2 : RepT (((((((w7.alloc (.cells #[.int .i64 y.kind, .bool y.bool, .int .i64 y.int, .string y.str, .slice qa7 y.list.length qc7, .slice qm7 y.map.length qn7] 25)).setCell ⟨wr.heap.size, 1, none⟩ (.int .i64 y.kind)).setCell ⟨wr.heap.size, 2, none⟩ (.bool y.bool)).setCell ⟨wr.heap.size, 3, none⟩ (.int .i64 y.int)).setCell ⟨wr.heap.size, 4, none⟩ (.string y.str)).setCell ⟨wr.heap.size, 5, none⟩ (.slice qa7 y.list.length qc7)).setCell ⟨wr.heap.size, 6, none⟩ (.slice qm7 y.map.length qn7)) (fun b => (S b ∧ b < w.heap.size) ∨ wr.heap.size + 1 ≤ b) (.agg #[.int .i64 y.kind, .bool y.bool, .int .i64 y.int, .string y.str, .slice qa7 y.list.length qc7, .slice qm7 y.map.length qn7]) y := RepT.mono (w := (w7.alloc (.cells #[.int .i64 y.kind, .bool y.bool, .int .i64 y.int, .string y.str, .slice qa7 y.list.length qc7, .slice qm7 y.map.length qn7] 25))) hx1 (fun b h _ => by rcases h with h | h; exact .inl h; exact .inr (by omega)) (fun b o h _ => World.cell?_of_block (w := (w7.alloc (.cells #[.int .i64 y.kind, .bool y.bool, .int .i64 y.int, .string y.str, .slice qa7 y.list.length qc7, .slice qm7 y.map.length qn7] 25))) (set6_heap (o := 1) (show b ≠ wr.heap.size by rcases h with h | h; have := h.2; omega; omega)))
            have HX2 := Lib.hid (hx2.weak (S' := fun b => ((S b ∧ b < w.heap.size) ∨ w.heap.size + 4 ≤ b) ∧ Value.ownBlock (.slice A l.length c) ≠ some b) (fun b h _ => by rcases h with h | h; exact ⟨.inl h, HRR.out.own.ne (.inl (by have := h.2; omega))⟩; exact ⟨.inr (by omega), HRR.out.older b (by omega)⟩))
            clear hx1 hx2
            clear kO lO k3_0 l3_0 k3_1 l3_1 k3_2 l3_2 k3_3 l3_3 k3_4 l3_4
            have kO := RR2.out.box.cell; have lO := RR2.out.box.lt; have z1 := Z1.cell; have z1l := Z1.lt
            obtain ⟨l3, A3, c3, w8, HL3, hrun3, hbx, hb3, hr3⟩ := RRow.next (n := w7.heap.size + 1) RR2.out (by simp [World.setCell]) (k := key) (HX2.out) hkz (by omega)
            have q5 := hbx.cell; have qf := hbx.frozen; have ql := hbx.lt; have HI3 := Lib.hid hr3; have HB3 := Lib.hid hb3
            clear hbx hb3 hr3
            go_wp2_with (at_builtin; refine wpList_append_run rfl (.tmp 56) (.tmp 58) 23 rfl hrun3 rfl rfl ?_)
            go_roundw
            case rel => exact ⟨q + 1, l3, A3, c3, by omega, by go_num, by show l3 = _; rw [HL3.out, HS.out], Lib.hid (((HBL.out.trans (HWC.out.mono (by omega))).trans (HB3.out.mono (by omega))).setCell (p := ⟨w.heap.size + 1 + 1 + 1, 5, none⟩) (by show w.heap.size + 3 ≤ w.heap.size + 1 + 1 + 1; omega) _), HI3⟩
            case measure => simp [intOf]; omega
      · obtain rfl : q = a.map.length := by omega
        have HE2 := Lib.hid (show res = if l = [] then T.zero else mkMap l from by have e := hl.out; rw [List.take_length] at e; rw [HE.out, ← e])
        clear hl hlt HE
        have zf := L1_2.out.frozen
        by_cases hz : l = []
        · have HE3 := Lib.hid (show res = T.zero from by rw [HE2.out, if_pos hz]); have HD := Lib.hid (show decide (res.map ≠ []) = false from by rw [HE3.out]; exact decide_eq_false (fun h => h zero_map))
          have gl : ((l.length : Int) == 0) = true := by rw [hz]; rfl
          clear hz HE2
          go_wp2_with fail
          exact ret_cell2 rfl rfl rfl ((((((L1_2.out.set_ 0 _).set_ 1 _).set_ 2 _).set_ 3 _).set_ 4 _).set_ 5 _) Try.underlying25 val_size rfl ⟨_, by rw [HD.out]; rfl, by rw [HE3.out]; exact rep_zero _ _, set6_below (o := 0) HRR.out.bel (by omega)⟩
        · have HE3 := Lib.hid (show res = mkMap l from by rw [HE2.out, if_neg hz]); have HD := Lib.hid (show decide (res.map ≠ []) = true from by rw [HE3.out]; exact decide_eq_true hz)
          have gl : ((l.length : Int) == 0) = false := beq_eq_false_iff_ne.2 (by have := List.length_pos_iff.2 hz; omega)
          clear hz HE2
          go_wp2_with fail
          exact ret_cell2 rfl rfl rfl ((((((L1_2.out.set_ 0 _).set_ 1 _).set_ 2 _).set_ 3 _).set_ 4 _).set_ 5 _) Try.underlying25 val_size rfl ⟨_, by rw [HD.out]; rfl, by rw [HE3.out]; exact (HRR.out.out (by omega)).fin (by omega) (by omega), set6_below (o := 0) HRR.out.bel (by omega)⟩
end Go.Proofs.Ytmdihildjblgnaa

/- mizzenref14.Merge. -/
namespace Go.Proofs.Ytmdihildjblgnaa
open Go.RowKit
attribute [local go_sem ↓] Go.wp_at_zero Go.wp_at_succ

set_option maxRecDepth 100000 in
set_option maxHeartbeats 16000000 in
theorem rmerge {na nb nc : Nat} (hn1 : na ≤ 1000000) (hn3 : nc ≤ 1000000) (t : T) : ∀ (o v : T) (_ : Neat na t) (_ : Neat nb o) (_ : Neat nc v) (vo vv vt : Value) (w : World) (S : Nat → Prop), RepT w S vo o → RepT w S vv v → RepT w S vt t →
    Calls Try.prog 82 #[vo, vv, vt] w (ValPostS S w (t.merge o v)) := by
  induction t using T.ind' with
  | h t ihl ihm =>
  intro o v hnt hno hnv vo vv vt w S ho hv h
  clear ihl
  obtain ⟨la, lc, ma, mc, rfl, hpt⟩ := h.inv
  obtain ⟨la1, lc1, ma1, mc1, rfl, hpv⟩ := hv.inv
  obtain ⟨la0, lc0, ma0, mc0, rfl, -⟩ := ho.inv
  obtain ⟨-, -, -, -, -, -, -, -, -, -, hMt⟩ := hpt
  obtain ⟨-, -, -, -, hv104, -, -, -, -, -, hMv⟩ := hpv
  have HMT := Lib.hid (hMt.mono (w' := w) (S' := fun b => S b ∧ b < w.heap.size) (fun _ h1 h => ⟨h1, h⟩) (fun _ _ _ _ => rfl)); clear hMt
  have HMV := Lib.hid (hMv.mono (w' := w) (S' := fun b => S b ∧ b < w.heap.size) (fun _ h1 h => ⟨h1, h⟩) (fun _ _ _ _ => rfl)); clear hMv
  have HT := Lib.hid (h.mono (w' := w) (S' := fun b => S b ∧ b < w.heap.size) (fun _ h1 h => ⟨h1, h⟩) (fun _ _ _ _ => rfl)); clear h
  have HV := Lib.hid (hv.mono (w' := w) (S' := fun b => S b ∧ b < w.heap.size) (fun _ h1 h => ⟨h1, h⟩) (fun _ _ _ _ => rfl)); clear hv
  have HO := Lib.hid (ho.mono (w' := w) (S' := fun b => S b ∧ b < w.heap.size) (fun _ h1 h => ⟨h1, h⟩) (fun _ _ _ _ => rfl)); clear ho
  obtain ⟨res, hres⟩ : ∃ r, r = t.merge o v := ⟨_, rfl⟩
  rw [← hres]
  by_cases h0 : t.map = []
  · have HE := Lib.hid (show res = t from by rw [hres, merge_eq, if_pos h0])
    have hg1 : ((t.map.length : Int) == 0) = true := by rw [h0]; rfl
    clear h0 ihm hnt hno hnv HMT HMV HV HO hres
    have hB1 : Blk ((((w.alloc (.cells #[.int .i64 o.kind, .bool o.bool, .int .i64 o.int, .string o.str, .slice la0 o.list.length lc0, .slice ma0 o.map.length mc0] 25)).alloc (.cells #[.int .i64 v.kind, .bool v.bool, .int .i64 v.int, .string v.str, .slice la1 v.list.length lc1, .slice ma1 v.map.length mc1] 25)).alloc (.cells #[.int .i64 t.kind, .bool t.bool, .int .i64 t.int, .string t.str, .slice la t.list.length lc, .slice ma t.map.length mc] 25)).alloc (.cells #[.int .i64 0, .bool false, .int .i64 0, .string ⟨#[]⟩, .slice none 0 0, .slice none 0 0] 25)) (w.heap.size) 25 #[.int .i64 o.kind, .bool o.bool, .int .i64 o.int, .string o.str, .slice la0 o.list.length lc0, .slice ma0 o.map.length mc0] := ((((Blk.new _ _ _).alloc _).alloc _).alloc _)
    have hB2 : Blk ((((w.alloc (.cells #[.int .i64 o.kind, .bool o.bool, .int .i64 o.int, .string o.str, .slice la0 o.list.length lc0, .slice ma0 o.map.length mc0] 25)).alloc (.cells #[.int .i64 v.kind, .bool v.bool, .int .i64 v.int, .string v.str, .slice la1 v.list.length lc1, .slice ma1 v.map.length mc1] 25)).alloc (.cells #[.int .i64 t.kind, .bool t.bool, .int .i64 t.int, .string t.str, .slice la t.list.length lc, .slice ma t.map.length mc] 25)).alloc (.cells #[.int .i64 0, .bool false, .int .i64 0, .string ⟨#[]⟩, .slice none 0 0, .slice none 0 0] 25)) (w.heap.size + 1) 25 #[.int .i64 v.kind, .bool v.bool, .int .i64 v.int, .string v.str, .slice la1 v.list.length lc1, .slice ma1 v.map.length mc1] := (((Blk.new_at _ _ _ (by simp)).alloc _).alloc _)
    have hB3 : Blk ((((w.alloc (.cells #[.int .i64 o.kind, .bool o.bool, .int .i64 o.int, .string o.str, .slice la0 o.list.length lc0, .slice ma0 o.map.length mc0] 25)).alloc (.cells #[.int .i64 v.kind, .bool v.bool, .int .i64 v.int, .string v.str, .slice la1 v.list.length lc1, .slice ma1 v.map.length mc1] 25)).alloc (.cells #[.int .i64 t.kind, .bool t.bool, .int .i64 t.int, .string t.str, .slice la t.list.length lc, .slice ma t.map.length mc] 25)).alloc (.cells #[.int .i64 0, .bool false, .int .i64 0, .string ⟨#[]⟩, .slice none 0 0, .slice none 0 0] 25)) (w.heap.size + 1 + 1) 25 #[.int .i64 t.kind, .bool t.bool, .int .i64 t.int, .string t.str, .slice la t.list.length lc, .slice ma t.map.length mc] := ((Blk.new_at _ _ _ (by simp)).alloc _)
    have hB4 : Blk ((((w.alloc (.cells #[.int .i64 o.kind, .bool o.bool, .int .i64 o.int, .string o.str, .slice la0 o.list.length lc0, .slice ma0 o.map.length mc0] 25)).alloc (.cells #[.int .i64 v.kind, .bool v.bool, .int .i64 v.int, .string v.str, .slice la1 v.list.length lc1, .slice ma1 v.map.length mc1] 25)).alloc (.cells #[.int .i64 t.kind, .bool t.bool, .int .i64 t.int, .string t.str, .slice la t.list.length lc, .slice ma t.map.length mc] 25)).alloc (.cells #[.int .i64 0, .bool false, .int .i64 0, .string ⟨#[]⟩, .slice none 0 0, .slice none 0 0] 25)) (w.heap.size + 1 + 1 + 1) 25 #[.int .i64 0, .bool false, .int .i64 0, .string ⟨#[]⟩, .slice none 0 0, .slice none 0 0] := (Blk.new_at _ _ _ (by simp))
    have hBW : Below w.heap.size w ((((w.alloc (.cells #[.int .i64 o.kind, .bool o.bool, .int .i64 o.int, .string o.str, .slice la0 o.list.length lc0, .slice ma0 o.map.length mc0] 25)).alloc (.cells #[.int .i64 v.kind, .bool v.bool, .int .i64 v.int, .string v.str, .slice la1 v.list.length lc1, .slice ma1 v.map.length mc1] 25)).alloc (.cells #[.int .i64 t.kind, .bool t.bool, .int .i64 t.int, .string t.str, .slice la t.list.length lc, .slice ma t.map.length mc] 25)).alloc (.cells #[.int .i64 0, .bool false, .int .i64 0, .string ⟨#[]⟩, .slice none 0 0, .slice none 0 0] 25)) := (((Below.new _ _).alloc (by simp) _).alloc (by simp; omega) _).alloc (by simp; omega) _
    obtain ⟨W0, e0⟩ : ∃ x, x = ((((w.alloc (.cells #[.int .i64 o.kind, .bool o.bool, .int .i64 o.int, .string o.str, .slice la0 o.list.length lc0, .slice ma0 o.map.length mc0] 25)).alloc (.cells #[.int .i64 v.kind, .bool v.bool, .int .i64 v.int, .string v.str, .slice la1 v.list.length lc1, .slice ma1 v.map.length mc1] 25)).alloc (.cells #[.int .i64 t.kind, .bool t.bool, .int .i64 t.int, .string t.str, .slice la t.list.length lc, .slice ma t.map.length mc] 25)).alloc (.cells #[.int .i64 0, .bool false, .int .i64 0, .string ⟨#[]⟩, .slice none 0 0, .slice none 0 0] 25)) := ⟨_, rfl⟩
    rw [← e0] at hB1 hB2 hB3 hB4 hBW
    have hs0 : W0.heap.size = w.heap.size + 4 := by rw [e0]; simp
    have E0 := Lib.hid e0; have L1 := Lib.hid hB1; have L2 := Lib.hid hB2; have L3 := Lib.hid hB3; have L4 := Lib.hid hB4; have HW0 := Lib.hid hBW
    clear e0 hB1 hB2 hB3 hB4 hBW
    have zk := L4.out.cell; have zf := L4.out.frozen; have zl := L4.out.lt; have tk := L3.out.cell; have tl := L3.out.lt
    have HTW := Lib.hid (HT.out.keep HW0.out)
    go_enter Try.func82, Try.ntmps82
    go_upto_region 1 with fail
    rw [← E0.out]
    clear E0
    go_wp2_with fail
    exact ret_cell rfl rfl ((((((L4.out.set_ 0 _).set_ 1 _).set_ 2 _).set_ 3 _).set_ 4 _).set_ 5 _) Try.underlying25 val_size rfl ⟨_, rfl, by rw [HE.out]; exact HTW.out.mono (fun b h _ => .inl h.1) (fun b o h _ => World.cell?_of_block (set6_heap (o := 0) (show b ≠ w.heap.size + 1 + 1 + 1 by have := h.2; omega))), set6_below (o := 0) HW0.out (by omega)⟩
  have hg1 : ((t.map.length : Int) == 0) = false := beq_eq_false_iff_ne.2 (by have := List.length_pos_iff.2 h0; omega)
  obtain ⟨f, hf⟩ : ∃ f, f = mref o t := ⟨_, rfl⟩
  have HE := Lib.hid (show res = T.mergeM t.map o v (mkMap (fmap f v.map)) from by rw [hres, hf]; exact (merge_ref hnt hno hnv h0).symm)
  have HSTP := Lib.hid (fun q (hq : q < t.map.length) => hf ▸ mref_step hnt hno hnv hq)
  have HST := Lib.hid (fun q (hq : q < v.map.length) => fmap_take f v.map q hq)
  have HF := Lib.hid hf
  have HLE := Lib.hid (fun q => show (fmap f (v.map.take q)).length ≤ q from Nat.le_trans (fmap_len _ _) (by rw [List.length_take]; omega))
  have HIH := Lib.hid (fun p hp o2 v2 (h1 : Neat nb o2) (h2 : Neat nc v2) vo vv vt w2 S2 => ihm p hp o2 v2 (hnt.mem p hp) h1 h2 vo vv vt w2 S2)
  have HMEM := Lib.hid (fun i (hi : i < v.map.length) => hnv.mem _ (List.getElem_mem hi))
  have HCUT := Lib.hid (fun x z (hx : Neat nc x) (hz : Neat nb z) => rcut hn3 z nb x hx hz)
  have HLO := Lib.hid (fun k z (h : look o.map k = some z) => hno.look h)
  have HGO := Lib.hid (fun k => hno.getD k); have HGV := Lib.hid (fun k => hnv.getD k)
  have hlv := hnv.len; have hlt0 := hnt.len
  clear hf ihm hnt hno hnv hres h0
  have hB1 : Blk (((((w.alloc (.cells #[.int .i64 o.kind, .bool o.bool, .int .i64 o.int, .string o.str, .slice la0 o.list.length lc0, .slice ma0 o.map.length mc0] 25)).alloc (.cells #[.int .i64 v.kind, .bool v.bool, .int .i64 v.int, .string v.str, .slice la1 v.list.length lc1, .slice ma1 v.map.length mc1] 25)).alloc (.cells #[.int .i64 t.kind, .bool t.bool, .int .i64 t.int, .string t.str, .slice la t.list.length lc, .slice ma t.map.length mc] 25)).alloc (.cells #[.int .i64 0, .bool false, .int .i64 0, .string ⟨#[]⟩, .slice none 0 0, .slice none 0 0] 25)).alloc (.cells #[.int .i64 5, .bool false, .int .i64 0, .string ⟨#[]⟩, .slice none 0 0, .slice none 0 0] 25)) (w.heap.size) 25 #[.int .i64 o.kind, .bool o.bool, .int .i64 o.int, .string o.str, .slice la0 o.list.length lc0, .slice ma0 o.map.length mc0] := (((((Blk.new _ _ _).alloc _).alloc _).alloc _).alloc _)
  have hB2 : Blk (((((w.alloc (.cells #[.int .i64 o.kind, .bool o.bool, .int .i64 o.int, .string o.str, .slice la0 o.list.length lc0, .slice ma0 o.map.length mc0] 25)).alloc (.cells #[.int .i64 v.kind, .bool v.bool, .int .i64 v.int, .string v.str, .slice la1 v.list.length lc1, .slice ma1 v.map.length mc1] 25)).alloc (.cells #[.int .i64 t.kind, .bool t.bool, .int .i64 t.int, .string t.str, .slice la t.list.length lc, .slice ma t.map.length mc] 25)).alloc (.cells #[.int .i64 0, .bool false, .int .i64 0, .string ⟨#[]⟩, .slice none 0 0, .slice none 0 0] 25)).alloc (.cells #[.int .i64 5, .bool false, .int .i64 0, .string ⟨#[]⟩, .slice none 0 0, .slice none 0 0] 25)) (w.heap.size + 1) 25 #[.int .i64 v.kind, .bool v.bool, .int .i64 v.int, .string v.str, .slice la1 v.list.length lc1, .slice ma1 v.map.length mc1] := ((((Blk.new_at _ _ _ (by simp)).alloc _).alloc _).alloc _)
  have hB3 : Blk (((((w.alloc (.cells #[.int .i64 o.kind, .bool o.bool, .int .i64 o.int, .string o.str, .slice la0 o.list.length lc0, .slice ma0 o.map.length mc0] 25)).alloc (.cells #[.int .i64 v.kind, .bool v.bool, .int .i64 v.int, .string v.str, .slice la1 v.list.length lc1, .slice ma1 v.map.length mc1] 25)).alloc (.cells #[.int .i64 t.kind, .bool t.bool, .int .i64 t.int, .string t.str, .slice la t.list.length lc, .slice ma t.map.length mc] 25)).alloc (.cells #[.int .i64 0, .bool false, .int .i64 0, .string ⟨#[]⟩, .slice none 0 0, .slice none 0 0] 25)).alloc (.cells #[.int .i64 5, .bool false, .int .i64 0, .string ⟨#[]⟩, .slice none 0 0, .slice none 0 0] 25)) (w.heap.size + 1 + 1) 25 #[.int .i64 t.kind, .bool t.bool, .int .i64 t.int, .string t.str, .slice la t.list.length lc, .slice ma t.map.length mc] := (((Blk.new_at _ _ _ (by simp)).alloc _).alloc _)
  have hB4 : Blk (((((w.alloc (.cells #[.int .i64 o.kind, .bool o.bool, .int .i64 o.int, .string o.str, .slice la0 o.list.length lc0, .slice ma0 o.map.length mc0] 25)).alloc (.cells #[.int .i64 v.kind, .bool v.bool, .int .i64 v.int, .string v.str, .slice la1 v.list.length lc1, .slice ma1 v.map.length mc1] 25)).alloc (.cells #[.int .i64 t.kind, .bool t.bool, .int .i64 t.int, .string t.str, .slice la t.list.length lc, .slice ma t.map.length mc] 25)).alloc (.cells #[.int .i64 0, .bool false, .int .i64 0, .string ⟨#[]⟩, .slice none 0 0, .slice none 0 0] 25)).alloc (.cells #[.int .i64 5, .bool false, .int .i64 0, .string ⟨#[]⟩, .slice none 0 0, .slice none 0 0] 25)) (w.heap.size + 1 + 1 + 1) 25 #[.int .i64 0, .bool false, .int .i64 0, .string ⟨#[]⟩, .slice none 0 0, .slice none 0 0] := ((Blk.new_at _ _ _ (by simp)).alloc _)
  have hB5 : Blk (((((w.alloc (.cells #[.int .i64 o.kind, .bool o.bool, .int .i64 o.int, .string o.str, .slice la0 o.list.length lc0, .slice ma0 o.map.length mc0] 25)).alloc (.cells #[.int .i64 v.kind, .bool v.bool, .int .i64 v.int, .string v.str, .slice la1 v.list.length lc1, .slice ma1 v.map.length mc1] 25)).alloc (.cells #[.int .i64 t.kind, .bool t.bool, .int .i64 t.int, .string t.str, .slice la t.list.length lc, .slice ma t.map.length mc] 25)).alloc (.cells #[.int .i64 0, .bool false, .int .i64 0, .string ⟨#[]⟩, .slice none 0 0, .slice none 0 0] 25)).alloc (.cells #[.int .i64 5, .bool false, .int .i64 0, .string ⟨#[]⟩, .slice none 0 0, .slice none 0 0] 25)) (w.heap.size + 1 + 1 + 1 + 1) 25 #[.int .i64 5, .bool false, .int .i64 0, .string ⟨#[]⟩, .slice none 0 0, .slice none 0 0] := (Blk.new_at _ _ _ (by simp))
  have hBW : Below w.heap.size w (((((w.alloc (.cells #[.int .i64 o.kind, .bool o.bool, .int .i64 o.int, .string o.str, .slice la0 o.list.length lc0, .slice ma0 o.map.length mc0] 25)).alloc (.cells #[.int .i64 v.kind, .bool v.bool, .int .i64 v.int, .string v.str, .slice la1 v.list.length lc1, .slice ma1 v.map.length mc1] 25)).alloc (.cells #[.int .i64 t.kind, .bool t.bool, .int .i64 t.int, .string t.str, .slice la t.list.length lc, .slice ma t.map.length mc] 25)).alloc (.cells #[.int .i64 0, .bool false, .int .i64 0, .string ⟨#[]⟩, .slice none 0 0, .slice none 0 0] 25)).alloc (.cells #[.int .i64 5, .bool false, .int .i64 0, .string ⟨#[]⟩, .slice none 0 0, .slice none 0 0] 25)) := ((((Below.new _ _).alloc (by simp) _).alloc (by simp; omega) _).alloc (by simp; omega) _).alloc (by simp; omega) _
  obtain ⟨W0, e0⟩ : ∃ x, x = (((((w.alloc (.cells #[.int .i64 o.kind, .bool o.bool, .int .i64 o.int, .string o.str, .slice la0 o.list.length lc0, .slice ma0 o.map.length mc0] 25)).alloc (.cells #[.int .i64 v.kind, .bool v.bool, .int .i64 v.int, .string v.str, .slice la1 v.list.length lc1, .slice ma1 v.map.length mc1] 25)).alloc (.cells #[.int .i64 t.kind, .bool t.bool, .int .i64 t.int, .string t.str, .slice la t.list.length lc, .slice ma t.map.length mc] 25)).alloc (.cells #[.int .i64 0, .bool false, .int .i64 0, .string ⟨#[]⟩, .slice none 0 0, .slice none 0 0] 25)).alloc (.cells #[.int .i64 5, .bool false, .int .i64 0, .string ⟨#[]⟩, .slice none 0 0, .slice none 0 0] 25)) := ⟨_, rfl⟩
  rw [← e0] at hB1 hB2 hB3 hB4 hB5 hBW
  have hs0 : W0.heap.size = w.heap.size + 5 := by rw [e0]; simp
  have E0 := Lib.hid e0; have L1 := Lib.hid hB1; have L2 := Lib.hid hB2; have L3 := Lib.hid hB3; have L4 := Lib.hid hB4; have L5 := Lib.hid hB5; have HW0 := Lib.hid hBW
  clear e0 hB1 hB2 hB3 hB4 hB5 hBW
  have HR0 := Lib.hid (show RRow S w W0 (w.heap.size + 5) (w.heap.size + 1 + 1 + 1 + 1) none 0 [] from ⟨L5.out, OwnE.nil, HW0.out, by omega, by omega, by omega⟩)
  go_enter Try.func82, Try.ntmps82
  go_wp2_with fail
  rw [← E0.out]
  clear E0 L5
  go_loopw [8] (fun x wr => ∃ (q : Nat) (l : List (ByteArray × T)) (A : Option Addr) (c : Nat), q ≤ v.map.length ∧ x = .int .i64 q ∧ Hid (l = fmap f (v.map.take q)) ∧ Hid (Below (w.heap.size + 4) W0 wr) ∧ Hid (RRow S w wr (w.heap.size + 5) (w.heap.size + 1 + 1 + 1 + 1) A c l)) (fun x _ => v.map.length - (intOf x).toNat)
  case atStart => exact ⟨0, [], none, 0, Nat.zero_le _, rfl, by show _ = _; rw [List.take_zero]; rfl, Lib.hid (Below.refl _ _), HR0⟩
  case round =>
    obtain ⟨q, l, A, c, hq, rfl, hl, HBL, HRR⟩ := hrel
    clear HR0
    have L1_0 := Lib.hid (L1.out.below HBL.out (by omega))
    have L1_1 := Lib.hid (L2.out.below HBL.out (by omega))
    have L1_2 := Lib.hid (L3.out.below HBL.out (by omega))
    have L1_3 := Lib.hid (L4.out.below HBL.out (by omega))
    have V1_MV := Lib.hid (HMV.out.keep HRR.out.bel)
    have V1_MT := Lib.hid (HMT.out.keep HRR.out.bel)
    have V1_t := Lib.hid (HT.out.keep HRR.out.bel)
    have V1_v := Lib.hid (HV.out.keep HRR.out.bel)
    have V1_o := Lib.hid (HO.out.keep HRR.out.bel)
    have HW1 := Lib.hid HRR.out.bel
    have k1_0 := L1_0.out.cell; have l1_0 := L1_0.out.lt
    have k1_1 := L1_1.out.cell; have l1_1 := L1_1.out.lt
    have k1_2 := L1_2.out.cell; have l1_2 := L1_2.out.lt
    have k1_3 := L1_3.out.cell; have l1_3 := L1_3.out.lt
    have htop := HRR.out.top
    have hll : l.length ≤ q := by rw [hl.out]; exact HLE.out q
    by_cases hlt : q < v.map.length
    · have kO := HRR.out.box.cell; have lO := HRR.out.box.lt
      obtain ⟨b, bo, ya, yc, ym, yn, rfl, -, hblk, hkz, ⟨c0, c1, c2, c3, c4, c5, c6⟩, hr⟩ := V1_MV.out.at_ hlt
      have HX := Lib.hid hr; clear hr
      have HXN := Lib.hid (HMEM.out q hlt)
      have hst := HST.out q hlt
      rw [← hl.out, HF.out] at hst; unfold mref at hst
      obtain ⟨oo, hoo⟩ : ∃ r, r = look o.map v.map[q].1 := ⟨_, rfl⟩
      obtain ⟨ot, hot⟩ : ∃ r, r = look t.map v.map[q].1 := ⟨_, rfl⟩
      have HIQ := Lib.hid (fun z (e : oo = some z) => HCUT.out v.map[q].2 z HXN.out (HLO.out v.map[q].1 z (hoo ▸ e)))
      have CG := Lib.hid (fun v2 w2 (h : RepT w2 (fun b => S b ∧ b < w.heap.size) v2 o) => show Calls Try.prog 34 #[v2, .string v.map[q].1] w2 (GotRS (fun b => S b ∧ b < w.heap.size) w2 oo.isSome (oo.getD T.zero)) from hoo ▸ rget_N (fun b => S b ∧ b < w.heap.size) o v.map[q].1 v2 w2 h)
      have CT := Lib.hid (fun v2 w2 (h : RepT w2 (fun b => S b ∧ b < w.heap.size) v2 t) => show Calls Try.prog 34 #[v2, .string v.map[q].1] w2 (GotRS (fun b => S b ∧ b < w.heap.size) w2 ot.isSome (ot.getD T.zero)) from hot ▸ rget_N (fun b => S b ∧ b < w.heap.size) t v.map[q].1 v2 w2 h)
      simp only [← hot, ← hoo] at hst
      clear hot hoo HXN hl
      generalize v.map[q].1 = key at *
      generalize v.map[q].2 = x at *
      have HB0 := Lib.hid (Below.refl wr.heap.size wr)
      obtain ⟨bt, hbt⟩ : ∃ r, r = ot.isSome := ⟨_, rfl⟩
      obtain ⟨tt, htt⟩ : ∃ r, r = ot.getD T.zero := ⟨_, rfl⟩
      rw [← hbt, ← htt] at CT
      go_wp2_with fail
      refine (CT.out _ _ (V1_t.out.keep (by exact Below.new _ _))).mono ?_
      rintro e w2 ⟨v2, rfl, hr, hb⟩
      obtain ⟨qa2, qc2, qm2, qn2, rfl, -⟩ := hr.inv
      have N2 := Lib.hid (hr.any)
      clear hr
      have HD2 := Lib.hid (show Below wr.heap.size wr w2 from Below.next (Below.new _ _) hb)
      have L2_0 := Lib.hid (L1_0.out.keep HD2.out)
      have L2_1 := Lib.hid (L1_1.out.keep HD2.out)
      have L2_2 := Lib.hid (L1_2.out.keep HD2.out)
      have L2_3 := Lib.hid (L1_3.out.keep HD2.out)
      have L2_4 := Lib.hid ((Blk.new wr 43 #[.string key, .int .i64 x.kind, .bool x.bool, .int .i64 x.int, .string x.str, .slice ya x.list.length yc, .slice ym x.map.length yn]).keep hb)
      have V2_t := Lib.hid (V1_t.out.keep HD2.out)
      have V2_o := Lib.hid (V1_o.out.keep HD2.out)
      have V2_x := Lib.hid (HX.out.keep HD2.out)
      have B2_0 := Lib.hid (Below.next HB0.out HD2.out)
      have HW2 := Lib.hid (Below.next HW1.out HD2.out)
      clear k1_0 l1_0 k1_1 l1_1 k1_2 l1_2 k1_3 l1_3 hb HD2 L1_0 L1_1 L1_2 L1_3 V1_t V1_o HX HB0 HW1
      have k2_0 := L2_0.out.cell
      have l2_0 := L2_0.out.lt
      have k2_1 := L2_1.out.cell
      have l2_1 := L2_1.out.lt
      have k2_2 := L2_2.out.cell
      have l2_2 := L2_2.out.lt
      have k2_3 := L2_3.out.cell
      have l2_3 := L2_3.out.lt
      have k2_4 := L2_4.out.cell
      have l2_4 := L2_4.out.lt
      cases ot
      case some z0 =>
        obtain rfl : bt = true := hbt
        have HS := Lib.hid (show fmap f (v.map.take (q + 1)) = l from by rw [HF.out]; unfold mref; rw [hst]; simp); clear hst HIQ htt
        go_wp2_with fail
        go_roundw
        case rel => exact ⟨q + 1, l, A, c, by omega, by go_num, by show l = _; rw [HS.out], Lib.hid (HBL.out.trans ((Below.next B2_0.out (Below.new _ _)).mono (by omega))), Lib.hid (HRR.out.keep (Below.next B2_0.out (Below.new _ _)))⟩
        case measure => simp [intOf]; omega
      obtain rfl : bt = false := hbt
      clear htt
      cases oo
      · have HST2 := Lib.hid (show fmap f (v.map.take (q + 1)) = l ++ [(key, x)] from by rw [HF.out]; unfold mref; exact hst); clear hst HIQ
        go_wp2_with fail
        refine (CG.out _ _ (V2_o.out.keep (by exact Below.new _ _))).mono ?_
        rintro e w3 ⟨v3, rfl, hr, hb⟩
        obtain ⟨qa3, qc3, qm3, qn3, rfl, -⟩ := hr.inv
        have N3 := Lib.hid (hr.any)
        clear hr
        have HD3 := Lib.hid (show Below w2.heap.size w2 w3 from Below.next (Below.new _ _) hb)
        have L3_0 := Lib.hid (L2_0.out.keep HD3.out)
        have L3_1 := Lib.hid (L2_1.out.keep HD3.out)
        have L3_2 := Lib.hid (L2_2.out.keep HD3.out)
        have L3_3 := Lib.hid (L2_3.out.keep HD3.out)
        have L3_4 := Lib.hid (L2_4.out.keep HD3.out)
        have V3_t := Lib.hid (V2_t.out.keep HD3.out)
        have V3_o := Lib.hid (V2_o.out.keep HD3.out)
        have V3_x := Lib.hid (V2_x.out.keep HD3.out)
        have V3_tt := Lib.hid (N2.out.keep HD3.out)
        have B3_0 := Lib.hid (Below.next B2_0.out HD3.out)
        have HW3 := Lib.hid (Below.next HW2.out HD3.out)
        clear k2_0 l2_0 k2_1 l2_1 k2_2 l2_2 k2_3 l2_3 k2_4 l2_4 hb HD3 L2_0 L2_1 L2_2 L2_3 L2_4 V2_t V2_o V2_x N2 B2_0 HW2
        have k3_0 := L3_0.out.cell
        have l3_0 := L3_0.out.lt
        have k3_1 := L3_1.out.cell
        have l3_1 := L3_1.out.lt
        have k3_2 := L3_2.out.cell
        have l3_2 := L3_2.out.lt
        have k3_3 := L3_3.out.cell
        have l3_3 := L3_3.out.lt
        have k3_4 := L3_4.out.cell
        have l3_4 := L3_4.out.lt
        have hbw : Below wr.heap.size wr (w3.alloc (.cells #[.int .i64 T.zero.kind, .bool T.zero.bool, .int .i64 T.zero.int, .string T.zero.str, .slice qa3 T.zero.list.length qc3, .slice qm3 T.zero.map.length qn3] 25)) := Below.next B3_0.out (Below.new _ _)
        have RR2 := Lib.hid (HRR.out.keep hbw); have HBW := Lib.hid hbw
        have hx2 := RR2.out.may (Nat.le_refl _) ((V3_x.out.keep (Below.new _ _)).weak (fun b hb _ => .inl hb))
        have HX2 := Lib.hid hx2; clear hx2 hbw kO lO
        have kO := RR2.out.box.cell; have lO := RR2.out.box.lt
        obtain ⟨l3, A3, c3, w8, HL3, hrun3, hbx, hb3, hr3⟩ := RRow.next (n := w3.heap.size + 1) RR2.out (by simp) (k := key) (HX2.out) hkz (by omega)
        have q5 := hbx.cell; have qf := hbx.frozen; have ql := hbx.lt; have HI3 := Lib.hid hr3; have HB3 := Lib.hid hb3
        clear hbx hb3 hr3
        go_wp2_with (at_builtin; refine wpList_append_run rfl (.tmp 68) (.tmp 70) 23 rfl hrun3 rfl rfl ?_)
        go_roundw
        case rel => exact ⟨q + 1, l3, A3, c3, by omega, by go_num, by show l3 = _; rw [HL3.out, HST2.out], Lib.hid (((HBL.out.trans (HBW.out.mono (by omega))).trans (HB3.out.mono (by omega))).setCell (p := ⟨w.heap.size + 1 + 1 + 1 + 1, 5, none⟩) (by show w.heap.size + 4 ≤ w.heap.size + 1 + 1 + 1 + 1; omega) _), HI3⟩
        case measure => simp [intOf]; omega
      · rename_i z
        obtain ⟨y, hy⟩ : ∃ y, y = z.cut x := ⟨_, rfl⟩
        obtain ⟨mb, hmb⟩ : ∃ m, m = decide (y.map ≠ []) := ⟨_, rfl⟩
        have HIC := Lib.hid (fun va vb w2 S2 (h1 : RepT w2 S2 va x) (h2 : RepT w2 (fun _ => True) vb z) => show Calls Try.prog 80 #[va, vb] w2 (GotRS (fun b => S2 b ∨ w2.heap.size ≤ b) w2 mb y) from by have := HIQ.out z rfl va vb w2 S2 h1 h2; rw [hmb, hy]; exact this)
        have HS0 := Lib.hid (show mb = false → fmap f (v.map.take (q + 1)) = l from fun e => by rw [hmb, decide_eq_false_iff_not, Classical.not_not] at e; rw [HF.out]; unfold mref; rw [hst]; simp only [cutl]; rw [← hy, if_pos e]; simp)
        have HS1 := Lib.hid (show mb = true → fmap f (v.map.take (q + 1)) = l ++ [(key, y)] from fun e => by rw [hmb, decide_eq_true_eq] at e; rw [HF.out]; unfold mref; rw [hst]; simp only [cutl]; rw [← hy, if_neg e])
        clear hst HIQ hy hmb
        go_wp2_with fail
        refine (CG.out _ _ (V2_o.out.keep (by exact Below.new _ _))).mono ?_
        rintro e w3 ⟨v3, rfl, hr, hb⟩
        obtain ⟨qa3, qc3, qm3, qn3, rfl, -⟩ := hr.inv
        have N3 := Lib.hid (hr.any)
        clear hr
        have HD3 := Lib.hid (show Below w2.heap.size w2 w3 from Below.next (Below.new _ _) hb)
        have L3_0 := Lib.hid (L2_0.out.keep HD3.out)
        have L3_1 := Lib.hid (L2_1.out.keep HD3.out)
        have L3_2 := Lib.hid (L2_2.out.keep HD3.out)
        have L3_3 := Lib.hid (L2_3.out.keep HD3.out)
        have L3_4 := Lib.hid (L2_4.out.keep HD3.out)
        have V3_t := Lib.hid (V2_t.out.keep HD3.out)
        have V3_o := Lib.hid (V2_o.out.keep HD3.out)
        have V3_x := Lib.hid (V2_x.out.keep HD3.out)
        have V3_tt := Lib.hid (N2.out.keep HD3.out)
        have B3_0 := Lib.hid (Below.next B2_0.out HD3.out)
        have HW3 := Lib.hid (Below.next HW2.out HD3.out)
        clear k2_0 l2_0 k2_1 l2_1 k2_2 l2_2 k2_3 l2_3 k2_4 l2_4 hb HD3 L2_0 L2_1 L2_2 L2_3 L2_4 V2_t V2_o V2_x N2 B2_0 HW2
        have k3_0 := L3_0.out.cell
        have l3_0 := L3_0.out.lt
        have k3_1 := L3_1.out.cell
        have l3_1 := L3_1.out.lt
        have k3_2 := L3_2.out.cell
        have l3_2 := L3_2.out.lt
        have k3_3 := L3_3.out.cell
        have l3_3 := L3_3.out.lt
        have k3_4 := L3_4.out.cell
        have l3_4 := L3_4.out.lt
        go_wp2_with fail
        have HPX := Lib.hid (show wr.heap.size < ((w3.alloc (.cells #[.int .i64 z.kind, .bool z.bool, .int .i64 z.int, .string z.str, .slice qa3 z.list.length qc3, .slice qm3 z.map.length qn3] 25))).heap.size from by have := L3_4.out.lt; simp; omega)
        refine (HIC.out _ _ _ _ (V3_x.out.keep (by exact Below.new _ _)) (N3.out.keep (by exact Below.new _ _))).mono ?_
        rintro e w7 ⟨v7, rfl, hr, hb⟩
        obtain ⟨qa7, qc7, qm7, qn7, rfl, -⟩ := hr.inv
        have HRY := Lib.hid hr; clear hr
        have HD4 := Lib.hid (show Below w3.heap.size w3 w7 from Below.next (Below.new _ _) hb)
        have L4_0 := Lib.hid (L3_0.out.keep HD4.out)
        have L4_1 := Lib.hid (L3_1.out.keep HD4.out)
        have L4_2 := Lib.hid (L3_2.out.keep HD4.out)
        have L4_3 := Lib.hid (L3_3.out.keep HD4.out)
        have L4_4 := Lib.hid (L3_4.out.keep HD4.out)
        have L4_5 := Lib.hid ((Blk.new w3 25 #[.int .i64 z.kind, .bool z.bool, .int .i64 z.int, .string z.str, .slice qa3 z.list.length qc3, .slice qm3 z.map.length qn3]).keep hb)
        have V4_t := Lib.hid (V3_t.out.keep HD4.out)
        have V4_o := Lib.hid (V3_o.out.keep HD4.out)
        have V4_x := Lib.hid (V3_x.out.keep HD4.out)
        have V4_tt := Lib.hid (V3_tt.out.keep HD4.out)
        have V4_z := Lib.hid (N3.out.keep HD4.out)
        have B4_0 := Lib.hid (Below.next B3_0.out HD4.out)
        have HW4 := Lib.hid (Below.next HW3.out HD4.out)
        clear k3_0 l3_0 k3_1 l3_1 k3_2 l3_2 k3_3 l3_3 k3_4 l3_4 hb HD4 L3_0 L3_1 L3_2 L3_3 L3_4 V3_t V3_o V3_x V3_tt N3 B3_0 HW3
        have k4_0 := L4_0.out.cell
        have l4_0 := L4_0.out.lt
        have k4_1 := L4_1.out.cell
        have l4_1 := L4_1.out.lt
        have k4_2 := L4_2.out.cell
        have l4_2 := L4_2.out.lt
        have k4_3 := L4_3.out.cell
        have l4_3 := L4_3.out.lt
        have k4_4 := L4_4.out.cell
        have l4_4 := L4_4.out.lt
        have k4_5 := L4_5.out.cell
        have l4_5 := L4_5.out.lt
        cases mb
        · have HS := Lib.hid (HS0.out rfl); clear HS0 HS1 HRY HPX
          have RR2 := Lib.hid (HRR.out.keep B4_0.out)
          clear kO lO
          go_wp2_with fail
          go_roundw
          case rel => exact ⟨q + 1, l, A, c, by omega, by go_num, by show l = _; rw [HS.out], Lib.hid (HBL.out.trans ((Below.next B4_0.out (Below.new _ _)).mono (by omega))), Lib.hid (RR2.out.keep (Below.new _ _))⟩
          case measure => simp [intOf]; omega
        · have HS := Lib.hid (HS1.out rfl); clear HS0 HS1
          have zf := (L4_4.out.alloc (.cells #[.int .i64 y.kind, .bool y.bool, .int .i64 y.int, .string y.str, .slice qa7 y.list.length qc7, .slice qm7 y.map.length qn7] 25)).frozen; have zk := (L4_4.out.alloc (.cells #[.int .i64 y.kind, .bool y.bool, .int .i64 y.int, .string y.str, .slice qa7 y.list.length qc7, .slice qm7 y.map.length qn7] 25)).cell; have zl := (L4_4.out.alloc (.cells #[.int .i64 y.kind, .bool y.bool, .int .i64 y.int, .string y.str, .slice qa7 y.list.length qc7, .slice qm7 y.map.length qn7] 25)).lt
          have HWB := Lib.hid (show Below wr.heap.size wr (w7.alloc (.cells #[.int .i64 y.kind, .bool y.bool, .int .i64 y.int, .string y.str, .slice qa7 y.list.length qc7, .slice qm7 y.map.length qn7] 25)) from Below.next B4_0.out (Below.new _ _))
          have HWC := Lib.hid (show Below wr.heap.size wr (((((((w7.alloc (.cells #[.int .i64 y.kind, .bool y.bool, .int .i64 y.int, .string y.str, .slice qa7 y.list.length qc7, .slice qm7 y.map.length qn7] 25)).setCell ⟨wr.heap.size, 1, none⟩ (.int .i64 y.kind)).setCell ⟨wr.heap.size, 2, none⟩ (.bool y.bool)).setCell ⟨wr.heap.size, 3, none⟩ (.int .i64 y.int)).setCell ⟨wr.heap.size, 4, none⟩ (.string y.str)).setCell ⟨wr.heap.size, 5, none⟩ (.slice qa7 y.list.length qc7)).setCell ⟨wr.heap.size, 6, none⟩ (.slice qm7 y.map.length qn7)) from set6_below (o := 1) HWB.out (Nat.le_refl _))
          have RR2 := Lib.hid (HRR.out.keep HWC.out)
          have Z1 : Blk (((((((w7.alloc (.cells #[.int .i64 y.kind, .bool y.bool, .int .i64 y.int, .string y.str, .slice qa7 y.list.length qc7, .slice qm7 y.map.length qn7] 25)).setCell ⟨wr.heap.size, 1, none⟩ (.int .i64 y.kind)).setCell ⟨wr.heap.size, 2, none⟩ (.bool y.bool)).setCell ⟨wr.heap.size, 3, none⟩ (.int .i64 y.int)).setCell ⟨wr.heap.size, 4, none⟩ (.string y.str)).setCell ⟨wr.heap.size, 5, none⟩ (.slice qa7 y.list.length qc7)).setCell ⟨wr.heap.size, 6, none⟩ (.slice qm7 y.map.length qn7)) wr.heap.size 43 #[.string key, .int .i64 y.kind, .bool y.bool, .int .i64 y.int, .string y.str, .slice qa7 y.list.length qc7, .slice qm7 y.map.length qn7] := (((((((L4_4.out.alloc _).set_ 1 _).set_ 2 _).set_ 3 _).set_ 4 _).set_ 5 _).set_ 6 _)
          have hpx := HPX.out
          have hx1 := HRY.out.keep (Below.new w7 (.cells #[.int .i64 y.kind, .bool y.bool, .int .i64 y.int, .string y.str, .slice qa7 y.list.length qc7, .slice qm7 y.map.length qn7] 25))
          have hx2 : RepT (((((((w7.alloc (.cells #[.int .i64 y.kind, .bool y.bool, .int .i64 y.int, .string y.str, .slice qa7 y.list.length qc7, .slice qm7 y.map.length qn7] 25)).setCell ⟨wr.heap.size, 1, none⟩ (.int .i64 y.kind)).setCell ⟨wr.heap.size, 2, none⟩ (.bool y.bool)).setCell ⟨wr.heap.size, 3, none⟩ (.int .i64 y.int)).setCell ⟨wr.heap.size, 4, none⟩ (.string y.str)).setCell ⟨wr.heap.size, 5, none⟩ (.slice qa7 y.list.length qc7)).setCell ⟨wr.heap.size, 6, none⟩ (.slice qm7 y.map.length qn7)) (fun b => (S b ∧ b < w.heap.size) ∨ wr.heap.size + 1 ≤ b) (.agg #[.int .i64 y.kind, .bool y.bool, .int .i64 y.int, .string y.str, .slice qa7 y.list.length qc7, .slice qm7 y.map.length qn7]) y := RepT.mono (w := (w7.alloc (.cells #[.int .i64 y.kind, .bool y.bool, .int .i64 y.int, .string y.str, .slice qa7 y.list.length qc7, .slice qm7 y.map.length qn7] 25))) hx1 (fun b h _ => by rcases h with h | h; exact .inl h; exact .inr (by omega)) (fun b o h _ => World.cell?_of_block (w := (w7.alloc (.cells #[.int .i64 y.kind, .bool y.bool, .int .i64 y.int, .string y.str, .slice qa7 y.list.length qc7, .slice qm7 y.map.length qn7] 25))) (set6_heap (o := 1) (show b ≠ wr.heap.size by rcases h with h | h; have := h.2; omega; omega)))
          have HX2 := Lib.hid (hx2.weak (S' := fun b => ((S b ∧ b < w.heap.size) ∨ w.heap.size + 5 ≤ b) ∧ Value.ownBlock (.slice A l.length c) ≠ some b) (fun b h _ => by rcases h with h | h; exact ⟨.inl h, HRR.out.own.ne (.inl (by have := h.2; omega))⟩; exact ⟨.inr (by omega), HRR.out.older b (by omega)⟩))
          clear hx1 hx2
          clear kO lO k4_0 l4_0 k4_1 l4_1 k4_2 l4_2 k4_3 l4_3 k4_4 l4_4 k4_5 l4_5
          have kO := RR2.out.box.cell; have lO := RR2.out.box.lt; have z1 := Z1.cell; have z1l := Z1.lt
          obtain ⟨l3, A3, c3, w8, HL3, hrun3, hbx, hb3, hr3⟩ := RRow.next (n := w7.heap.size + 1) RR2.out (by simp [World.setCell]) (k := key) (HX2.out) hkz (by omega)
          have q5 := hbx.cell; have qf := hbx.frozen; have ql := hbx.lt; have HI3 := Lib.hid hr3; have HB3 := Lib.hid hb3
          clear hbx hb3 hr3
          go_wp2_with (at_builtin; refine wpList_append_run rfl (.tmp 68) (.tmp 70) 23 rfl hrun3 rfl rfl ?_)
          go_roundw
          case rel => exact ⟨q + 1, l3, A3, c3, by omega, by go_num, by show l3 = _; rw [HL3.out, HS.out], Lib.hid (((HBL.out.trans (HWC.out.mono (by omega))).trans (HB3.out.mono (by omega))).setCell (p := ⟨w.heap.size + 1 + 1 + 1 + 1, 5, none⟩) (by show w.heap.size + 4 ≤ w.heap.size + 1 + 1 + 1 + 1; omega) _), HI3⟩
          case measure => simp [intOf]; omega
    obtain rfl : q = v.map.length := by omega
    have HLF := Lib.hid (show l = fmap f v.map from by have e := hl.out; rw [List.take_length] at e; exact e)
    clear hl hlt HST HLE HMEM HCUT HF
    have HOT := Lib.hid (HRR.out.out (by omega))
    rw [HLF.out] at HOT
    clear HRR HLF hll
    have kO := HOT.out.box.cell; have lO := HOT.out.box.lt
    rename World => wr0
    go_wp2_with fail
    go_loopw [16] (fun x wr => ∃ (q : Nat) (M : T) (xa : Option Addr) (xc : Nat) (xm : Option Addr) (xn : Nat), q ≤ t.map.length ∧ x = .int .i64 q ∧ Hid (M = T.mergeM (t.map.take q) o v (mkMap (fmap f v.map))) ∧ Hid (Below (w.heap.size + 4) W0 wr) ∧ Hid (ROut S w wr (w.heap.size + 5) (w.heap.size + 1 + 1 + 1 + 1) M xa xc xm xn)) (fun x _ => t.map.length - (intOf x).toNat)
    case atStart => exact ⟨0, _, _, _, _, _, Nat.zero_le _, rfl, by show _ = _; rw [List.take_zero, T.mergeM], HBL, HOT⟩
    case round =>
      clear kO lO htop HOT k1_0 l1_0 k1_1 l1_1 k1_2 l1_2 k1_3 l1_3
      rename Hid (Below (w.heap.size + 4) W0 wr0) => HBL0
      obtain ⟨q, M, xa, xc, xm, xn, hq, rfl, hM, HBL, HOT⟩ := hrel
      have L2_0 := Lib.hid (L1.out.below HBL.out (by omega))
      have L2_1 := Lib.hid (L2.out.below HBL.out (by omega))
      have L2_2 := Lib.hid (L3.out.below HBL.out (by omega))
      have L2_3 := Lib.hid (L4.out.below HBL.out (by omega))
      have V2_MT := Lib.hid (HMT.out.keep HOT.out.bel)
      have V2_t := Lib.hid (HT.out.keep HOT.out.bel)
      have V2_v := Lib.hid (HV.out.keep HOT.out.bel)
      have V2_o := Lib.hid (HO.out.keep HOT.out.bel)
      have HW2 := Lib.hid HOT.out.bel
      have k2_0 := L2_0.out.cell; have l2_0 := L2_0.out.lt
      have k2_1 := L2_1.out.cell; have l2_1 := L2_1.out.lt
      have k2_2 := L2_2.out.cell; have l2_2 := L2_2.out.lt
      have k2_3 := L2_3.out.cell; have l2_3 := L2_3.out.lt
      have kO := HOT.out.box.cell; have lO := HOT.out.box.lt; have htop := HOT.out.top
      by_cases hlt : q < t.map.length
      · obtain ⟨b, bo, ya, yc, ym, yn, rfl, -, hblk, hkz, ⟨c0, c1, c2, c3, c4, c5, c6⟩, hr⟩ := V2_MT.out.at_ hlt
        have HX := Lib.hid hr; clear hr
        obtain ⟨l1, el1, hl1, hstep⟩ := HSTP.out q hlt
        have elM : M = mkMap l1 := hM.out.trans el1
        obtain ⟨N, hN⟩ : ∃ N, N = T.mergeM (t.map.take (q + 1)) o v (mkMap (fmap f v.map)) := ⟨_, rfl⟩
        rw [← hN] at hstep
        have HNN := Lib.hid hN
        obtain ⟨wo, hwo⟩ : ∃ z, z = (look o.map t.map[q].1).getD T.zero := ⟨_, rfl⟩
        obtain ⟨wv, hwv⟩ : ∃ z, z = (look v.map t.map[q].1).getD T.zero := ⟨_, rfl⟩
        obtain ⟨bo1, hbo1⟩ : ∃ z, z = (look o.map t.map[q].1).isSome := ⟨_, rfl⟩
        obtain ⟨bv1, hbv1⟩ : ∃ z, z = (look v.map t.map[q].1).isSome := ⟨_, rfl⟩
        have G1 := Lib.hid (fun v2 w2 (h : RepT w2 (fun b => S b ∧ b < w.heap.size) v2 o) => show Calls Try.prog 34 #[v2, .string t.map[q].1] w2 (GotRS (fun b => S b ∧ b < w.heap.size) w2 bo1 wo) from by rw [hwo, hbo1]; exact rget_N (fun b => S b ∧ b < w.heap.size) o t.map[q].1 v2 w2 h)
        have G2 := Lib.hid (fun v2 w2 (h : RepT w2 (fun b => S b ∧ b < w.heap.size) v2 v) => show Calls Try.prog 34 #[v2, .string t.map[q].1] w2 (GotRS (fun b => S b ∧ b < w.heap.size) w2 bv1 wv) from by rw [hwv, hbv1]; exact rget_N (fun b => S b ∧ b < w.heap.size) v t.map[q].1 v2 w2 h)
        rw [← hwo, ← hwv] at hstep
        obtain ⟨y, hy⟩ : ∃ y, y = t.map[q].2.merge wo wv := ⟨_, rfl⟩
        rw [← hy] at hstep
        have HIM := Lib.hid (fun vo vv vt w2 S2 (h1 : RepT w2 S2 vo wo) (h2 : RepT w2 S2 vv wv) (h3 : RepT w2 S2 vt t.map[q].2) => show Calls Try.prog 82 #[vo, vv, vt] w2 (ValPostS S2 w2 y) from hy ▸ HIH.out t.map[q] (List.getElem_mem hlt) wo wv (hwo ▸ HGO.out _) (hwv ▸ HGV.out _) vo vv vt w2 S2 h1 h2 h3)
        have HP := Lib.hid (fun va vb w2 (h1 : RepT w2 (fun b => (S b ∧ b < w.heap.size) ∨ w.heap.size + 5 ≤ b) va M) (h2 : RepT w2 (fun b => (S b ∧ b < w.heap.size) ∨ w.heap.size + 5 ≤ b) vb y) => show Calls Try.prog 35 #[va, .string t.map[q].1, vb] w2 (ValPostS (fun b => (S b ∧ b < w.heap.size) ∨ w.heap.size + 5 ≤ b) w2 N) from hstep ▸ rput_N (fun b => (S b ∧ b < w.heap.size) ∨ w.heap.size + 5 ≤ b) (mkMap l1) y t.map[q].1 va vb w2 (elM ▸ h1) h2 hkz (by show (l1.length + 2) * 104 ≤ _; omega))
        clear hwo hwv hbo1 hbv1 hy hM elM el1 hstep hN HSTP HIH HE HGO HGV
        generalize t.map[q].1 = key at *
        generalize t.map[q].2 = x at *
        have HB0 := Lib.hid (Below.refl wr.heap.size wr)
        go_wp2_with fail
        refine (G1.out _ _ (V2_o.out.keep (by exact Below.new _ _))).mono ?_
        rintro e w3 ⟨v3, rfl, hr, hb⟩
        obtain ⟨qa3, qc3, qm3, qn3, rfl, -⟩ := hr.inv
        have N3 := Lib.hid hr; clear hr
        have HD3 := Lib.hid (show Below wr.heap.size wr w3 from Below.next (Below.new _ _) hb)
        have L3_0 := Lib.hid (L2_0.out.keep HD3.out)
        have L3_1 := Lib.hid (L2_1.out.keep HD3.out)
        have L3_2 := Lib.hid (L2_2.out.keep HD3.out)
        have L3_3 := Lib.hid (L2_3.out.keep HD3.out)
        have L3_4 := Lib.hid ((Blk.new wr 43 #[.string key, .int .i64 x.kind, .bool x.bool, .int .i64 x.int, .string x.str, .slice ya x.list.length yc, .slice ym x.map.length yn]).keep hb)
        have V3_t := Lib.hid (V2_t.out.keep HD3.out)
        have V3_v := Lib.hid (V2_v.out.keep HD3.out)
        have V3_o := Lib.hid (V2_o.out.keep HD3.out)
        have V3_x := Lib.hid (HX.out.keep HD3.out)
        have B3_0 := Lib.hid (Below.next HB0.out HD3.out)
        have HW3 := Lib.hid (Below.next HW2.out HD3.out)
        clear k2_0 l2_0 k2_1 l2_1 k2_2 l2_2 k2_3 l2_3 hb HD3 L2_0 L2_1 L2_2 L2_3 V2_t V2_v V2_o HX HB0 HW2
        have k3_0 := L3_0.out.cell
        have l3_0 := L3_0.out.lt
        have k3_1 := L3_1.out.cell
        have l3_1 := L3_1.out.lt
        have k3_2 := L3_2.out.cell
        have l3_2 := L3_2.out.lt
        have k3_3 := L3_3.out.cell
        have l3_3 := L3_3.out.lt
        have k3_4 := L3_4.out.cell
        have l3_4 := L3_4.out.lt
        go_wp2_with fail
        refine (G2.out _ _ (V3_v.out.keep (by exact Below.new _ _))).mono ?_
        rintro e w4 ⟨v4, rfl, hr, hb⟩
        obtain ⟨qa4, qc4, qm4, qn4, rfl, -⟩ := hr.inv
        have N4 := Lib.hid hr; clear hr
        have HD4 := Lib.hid (show Below w3.heap.size w3 w4 from Below.next (Below.new _ _) hb)
        have L4_0 := Lib.hid (L3_0.out.keep HD4.out)
        have L4_1 := Lib.hid (L3_1.out.keep HD4.out)
        have L4_2 := Lib.hid (L3_2.out.keep HD4.out)
        have L4_3 := Lib.hid (L3_3.out.keep HD4.out)
        have L4_4 := Lib.hid (L3_4.out.keep HD4.out)
        have L4_5 := Lib.hid ((Blk.new w3 25 #[.int .i64 wo.kind, .bool wo.bool, .int .i64 wo.int, .string wo.str, .slice qa3 wo.list.length qc3, .slice qm3 wo.map.length qn3]).keep hb)
        have V4_t := Lib.hid (V3_t.out.keep HD4.out)
        have V4_v := Lib.hid (V3_v.out.keep HD4.out)
        have V4_o := Lib.hid (V3_o.out.keep HD4.out)
        have V4_x := Lib.hid (V3_x.out.keep HD4.out)
        have V4_wo := Lib.hid (N3.out.keep HD4.out)
        have B4_0 := Lib.hid (Below.next B3_0.out HD4.out)
        have HW4 := Lib.hid (Below.next HW3.out HD4.out)
        clear k3_0 l3_0 k3_1 l3_1 k3_2 l3_2 k3_3 l3_3 k3_4 l3_4 hb HD4 L3_0 L3_1 L3_2 L3_3 L3_4 V3_t V3_v V3_o V3_x N3 B3_0 HW3
        have k4_0 := L4_0.out.cell
        have l4_0 := L4_0.out.lt
        have k4_1 := L4_1.out.cell
        have l4_1 := L4_1.out.lt
        have k4_2 := L4_2.out.cell
        have l4_2 := L4_2.out.lt
        have k4_3 := L4_3.out.cell
        have l4_3 := L4_3.out.lt
        have k4_4 := L4_4.out.cell
        have l4_4 := L4_4.out.lt
        have k4_5 := L4_5.out.cell
        have l4_5 := L4_5.out.lt
        clear kO lO
        go_wp2_with fail
        obtain ⟨w5, hwz⟩ : ∃ x, x = (w4.alloc (.cells #[.int .i64 wv.kind, .bool wv.bool, .int .i64 wv.int, .string wv.str, .slice qa4 wv.list.length qc4, .slice qm4 wv.map.length qn4] 25)) := ⟨_, rfl⟩
        have hb : Below (w4.alloc (.cells #[.int .i64 wv.kind, .bool wv.bool, .int .i64 wv.int, .string wv.str, .slice qa4 wv.list.length qc4, .slice qm4 wv.map.length qn4] 25)).heap.size (w4.alloc (.cells #[.int .i64 wv.kind, .bool wv.bool, .int .i64 wv.int, .string wv.str, .slice qa4 wv.list.length qc4, .slice qm4 wv.map.length qn4] 25)) w5 := by rw [hwz]; exact Below.refl _ _
        rw [← hwz]
        clear hwz
        have HD5 := Lib.hid (show Below w4.heap.size w4 w5 from Below.next (Below.new _ _) hb)
        have L5_0 := Lib.hid (L4_0.out.keep HD5.out)
        have L5_1 := Lib.hid (L4_1.out.keep HD5.out)
        have L5_2 := Lib.hid (L4_2.out.keep HD5.out)
        have L5_3 := Lib.hid (L4_3.out.keep HD5.out)
        have L5_4 := Lib.hid (L4_4.out.keep HD5.out)
        have L5_5 := Lib.hid (L4_5.out.keep HD5.out)
        have L5_6 := Lib.hid ((Blk.new w4 25 #[.int .i64 wv.kind, .bool wv.bool, .int .i64 wv.int, .string wv.str, .slice qa4 wv.list.length qc4, .slice qm4 wv.map.length qn4]).keep hb)
        have V5_t := Lib.hid (V4_t.out.keep HD5.out)
        have V5_v := Lib.hid (V4_v.out.keep HD5.out)
        have V5_o := Lib.hid (V4_o.out.keep HD5.out)
        have V5_x := Lib.hid (V4_x.out.keep HD5.out)
        have V5_wo := Lib.hid (V4_wo.out.keep HD5.out)
        have V5_wv := Lib.hid (N4.out.keep HD5.out)
        have B5_0 := Lib.hid (Below.next B4_0.out HD5.out)
        have HW5 := Lib.hid (Below.next HW4.out HD5.out)
        clear k4_0 l4_0 k4_1 l4_1 k4_2 l4_2 k4_3 l4_3 k4_4 l4_4 k4_5 l4_5 hb HD5 L4_0 L4_1 L4_2 L4_3 L4_4 L4_5 V4_t V4_v V4_o V4_x V4_wo N4 B4_0 HW4
        have k5_0 := L5_0.out.cell
        have l5_0 := L5_0.out.lt
        have k5_1 := L5_1.out.cell
        have l5_1 := L5_1.out.lt
        have k5_2 := L5_2.out.cell
        have l5_2 := L5_2.out.lt
        have k5_3 := L5_3.out.cell
        have l5_3 := L5_3.out.lt
        have k5_4 := L5_4.out.cell
        have l5_4 := L5_4.out.lt
        have k5_5 := L5_5.out.cell
        have l5_5 := L5_5.out.lt
        have k5_6 := L5_6.out.cell
        have l5_6 := L5_6.out.lt
        have HBX := Lib.hid B5_0.out
        have HO2 := Lib.hid (HOT.out.keep HBX.out)
        have kO := HO2.out.box.cell; have lO := HO2.out.box.lt
        have hsb := HBX.out.size
        clear k5_0 l5_0 k5_1 l5_1 k5_2 l5_2 k5_3 l5_3
        go_wp2_with fail
        have HG := Lib.hid HO2.out.box; have HGR := Lib.hid HO2.out.rep; clear kO lO
        clear c0 c1 c2 c3 c4 c5 c6 k5_4 l5_4 k5_5 l5_5 k5_6 l5_6
        refine lay_frame (fun Af (FR : Value → Value → Value → Value → Value → Value → Value → Value → Value → Act) => ∀ x99 x100 x101 x102 x103 x104 x105 x106 x107, (((((((((Af.put (some 99) x99).put (some 100) x100).put (some 101) x101).put (some 102) x102).put (some 103) x103).put (some 104) x104).put (some 105) x105).put (some 106) x106).put (some 107) x107) = FR x99 x100 x101 x102 x103 x104 x105 x106 x107) ?FR ?heq (fun hfr => ?main)
        case heq =>
          intro x99 x100 x101 x102 x103 x104 x105 x106 x107
          simp only [Act.put, List.setIfInBounds_toArray, List.set_cons_zero, List.set_cons_succ]
          rfl
        refine wp_region_inv (n := 10) (fun Af dd sAc wx => ∃ (x99 x100 x101 x102 x103 x104 x105 x106 x107 : Value), sAc = (((((((((Af.put (some 99) x99).put (some 100) x100).put (some 101) x101).put (some 102) x102).put (some 103) x103).put (some 104) x104).put (some 105) x105).put (some 106) x106).put (some 107) x107) ∧ (dd 9 = true → dd 0 = true ∧ dd 1 = true ∧ dd 2 = true ∧ dd 3 = true ∧ dd 4 = true ∧ dd 5 = true ∧ dd 6 = true ∧ dd 7 = true ∧ dd 8 = true) ∧ (dd 9 = false → Below w5.heap.size w5 wx) ∧ (dd 0 = true → x99 = .agg #[.int .i64 M.kind, .bool M.bool, .int .i64 M.int, .string M.str, .slice xa M.list.length xc, .slice xm M.map.length xn]) ∧ (dd 1 = true → x100 = .pointer (some ⟨wr.heap.size, 0, none⟩)) ∧ (dd 2 = true → x101 = .string key) ∧ (dd 3 = true → x102 = .agg #[.int .i64 wo.kind, .bool wo.bool, .int .i64 wo.int, .string wo.str, .slice qa3 wo.list.length qc3, .slice qm3 wo.map.length qn3]) ∧ (dd 4 = true → x103 = .agg #[.int .i64 wv.kind, .bool wv.bool, .int .i64 wv.int, .string wv.str, .slice qa4 wv.list.length qc4, .slice qm4 wv.map.length qn4]) ∧ (dd 5 = true → x104 = .pointer (some ⟨wr.heap.size, 1, none⟩)) ∧ (dd 6 = true → x105 = .agg #[.int .i64 x.kind, .bool x.bool, .int .i64 x.int, .string x.str, .slice ya x.list.length yc, .slice ym x.map.length yn]) ∧ (dd 7 = true → dd 9 = false → RepT wx (fun b => (S b ∧ b < w.heap.size) ∨ w.heap.size + 5 ≤ b) x106 y) ∧ (dd 8 = true → dd 9 = false → RepT wx (fun b => (S b ∧ b < w.heap.size) ∨ w.heap.size + 5 ≤ b) x107 N) ∧ (dd 9 = true → ∃ (za : Option Addr) (zc : Nat) (zm : Option Addr) (zn : Nat), Hid (Below (w.heap.size + 4) W0 wx) ∧ Hid (ROut S w wx (w.heap.size + 5) (w.heap.size + 1 + 1 + 1 + 1) N za zc zm zn))) (by kernel_rfl) (by kernel_rfl) rfl ?_ ⟨?_, ?_, ?_, ?_, ?_, ?_, ?_, ?_, ?_, ?_, trivial⟩ ?_
        · refine ⟨u99, u100, u101, u102, u103, u104, u105, u106, u107, by rw [hfr], fun h => absurd h Bool.false_ne_true, fun _ => (Below.refl _ _).drew, fun h => absurd h Bool.false_ne_true, fun h => absurd h Bool.false_ne_true, fun h => absurd h Bool.false_ne_true, fun h => absurd h Bool.false_ne_true, fun h => absurd h Bool.false_ne_true, fun h => absurd h Bool.false_ne_true, fun h => absurd h Bool.false_ne_true, fun h => absurd h Bool.false_ne_true, fun h => absurd h Bool.false_ne_true, fun h => absurd h Bool.false_ne_true⟩
        · intro dd sAc wx hd hpre hI K hK
          obtain ⟨x99, x100, x101, x102, x103, x104, x105, x106, x107, hsx, GL, FB, F0, F1, F2, F3, F4, F5, F6, F7, F8, FL⟩ := hI
          have hL : dd 9 = false := by
              cases h : dd 9 with
              | false => rfl
              | true => rw [(GL h).1] at hd; cases hd
          have HB := FB hL
          have kb0 := (HG.out.keep HB).cell; have lb0 := (HG.out.keep HB).lt
          rw [hsx, hfr]
          go_simp
          exact hK.out _ _ ⟨(.agg #[.int .i64 M.kind, .bool M.bool, .int .i64 M.int, .string M.str, .slice xa M.list.length xc, .slice xm M.map.length xn]), x100, x101, x102, x103, x104, x105, x106, x107, by rw [hfr]; try simp only [Act.put, List.setIfInBounds_toArray, List.set_cons_zero, List.set_cons_succ], fun h => absurd (hL.symm.trans h) Bool.false_ne_true, fun _ => HB, fun _ => rfl, F1, F2, F3, F4, F5, F6, F7, F8, fun h => absurd (hL.symm.trans h) Bool.false_ne_true⟩
        · intro dd sAc wx hd hpre hI K hK
          obtain ⟨x99, x100, x101, x102, x103, x104, x105, x106, x107, hsx, GL, FB, F0, F1, F2, F3, F4, F5, F6, F7, F8, FL⟩ := hI
          have hL : dd 9 = false := by
              cases h : dd 9 with
              | false => rfl
              | true => rw [(GL h).2.1] at hd; cases hd
          have HB := FB hL
          rw [hsx, hfr]
          go_simp
          exact hK.out _ _ ⟨x99, (.pointer (some ⟨wr.heap.size, 0, none⟩)), x101, x102, x103, x104, x105, x106, x107, by rw [hfr]; try simp only [Act.put, List.setIfInBounds_toArray, List.set_cons_zero, List.set_cons_succ], fun h => absurd (hL.symm.trans h) Bool.false_ne_true, fun _ => HB, F0, fun _ => rfl, F2, F3, F4, F5, F6, F7, F8, fun h => absurd (hL.symm.trans h) Bool.false_ne_true⟩
        · intro dd sAc wx hd hpre hI K hK
          obtain ⟨x99, x100, x101, x102, x103, x104, x105, x106, x107, hsx, GL, FB, F0, F1, F2, F3, F4, F5, F6, F7, F8, FL⟩ := hI
          have hL : dd 9 = false := by
              cases h : dd 9 with
              | false => rfl
              | true => rw [(GL h).2.2.1] at hd; cases hd
          have HB := FB hL
          obtain rfl := F1 (hpre ⟨1, .data⟩ (by simp) rfl)
          have kb1 := (L5_4.out.keep HB).cell; have lb1 := (L5_4.out.keep HB).lt
          rw [hsx, hfr]
          go_simp
          exact hK.out _ _ ⟨x99, (.pointer (some ⟨wr.heap.size, 0, none⟩)), (.string key), x102, x103, x104, x105, x106, x107, by rw [hfr]; try simp only [Act.put, List.setIfInBounds_toArray, List.set_cons_zero, List.set_cons_succ], fun h => absurd (hL.symm.trans h) Bool.false_ne_true, fun _ => HB, F0, fun _ => rfl, fun _ => rfl, F3, F4, F5, F6, F7, F8, fun h => absurd (hL.symm.trans h) Bool.false_ne_true⟩
        · intro dd sAc wx hd hpre hI K hK
          obtain ⟨x99, x100, x101, x102, x103, x104, x105, x106, x107, hsx, GL, FB, F0, F1, F2, F3, F4, F5, F6, F7, F8, FL⟩ := hI
          have hL : dd 9 = false := by
              cases h : dd 9 with
              | false => rfl
              | true => rw [(GL h).2.2.2.1] at hd; cases hd
          have HB := FB hL
          have kb2 := (L5_5.out.keep HB).cell; have lb2 := (L5_5.out.keep HB).lt
          rw [hsx, hfr]
          go_simp
          exact hK.out _ _ ⟨x99, x100, x101, (.agg #[.int .i64 wo.kind, .bool wo.bool, .int .i64 wo.int, .string wo.str, .slice qa3 wo.list.length qc3, .slice qm3 wo.map.length qn3]), x103, x104, x105, x106, x107, by rw [hfr]; try simp only [Act.put, List.setIfInBounds_toArray, List.set_cons_zero, List.set_cons_succ], fun h => absurd (hL.symm.trans h) Bool.false_ne_true, fun _ => HB, F0, F1, F2, fun _ => rfl, F4, F5, F6, F7, F8, fun h => absurd (hL.symm.trans h) Bool.false_ne_true⟩
        · intro dd sAc wx hd hpre hI K hK
          obtain ⟨x99, x100, x101, x102, x103, x104, x105, x106, x107, hsx, GL, FB, F0, F1, F2, F3, F4, F5, F6, F7, F8, FL⟩ := hI
          have hL : dd 9 = false := by
              cases h : dd 9 with
              | false => rfl
              | true => rw [(GL h).2.2.2.2.1] at hd; cases hd
          have HB := FB hL
          have kb3 := (L5_6.out.keep HB).cell; have lb3 := (L5_6.out.keep HB).lt
          rw [hsx, hfr]
          go_simp
          exact hK.out _ _ ⟨x99, x100, x101, x102, (.agg #[.int .i64 wv.kind, .bool wv.bool, .int .i64 wv.int, .string wv.str, .slice qa4 wv.list.length qc4, .slice qm4 wv.map.length qn4]), x104, x105, x106, x107, by rw [hfr]; try simp only [Act.put, List.setIfInBounds_toArray, List.set_cons_zero, List.set_cons_succ], fun h => absurd (hL.symm.trans h) Bool.false_ne_true, fun _ => HB, F0, F1, F2, F3, fun _ => rfl, F5, F6, F7, F8, fun h => absurd (hL.symm.trans h) Bool.false_ne_true⟩
        · intro dd sAc wx hd hpre hI K hK
          obtain ⟨x99, x100, x101, x102, x103, x104, x105, x106, x107, hsx, GL, FB, F0, F1, F2, F3, F4, F5, F6, F7, F8, FL⟩ := hI
          have hL : dd 9 = false := by
              cases h : dd 9 with
              | false => rfl
              | true => rw [(GL h).2.2.2.2.2.1] at hd; cases hd
          have HB := FB hL
          rw [hsx, hfr]
          go_simp
          exact hK.out _ _ ⟨x99, x100, x101, x102, x103, (.pointer (some ⟨wr.heap.size, 1, none⟩)), x105, x106, x107, by rw [hfr]; try simp only [Act.put, List.setIfInBounds_toArray, List.set_cons_zero, List.set_cons_succ], fun h => absurd (hL.symm.trans h) Bool.false_ne_true, fun _ => HB, F0, F1, F2, F3, F4, fun _ => rfl, F6, F7, F8, fun h => absurd (hL.symm.trans h) Bool.false_ne_true⟩
        · intro dd sAc wx hd hpre hI K hK
          obtain ⟨x99, x100, x101, x102, x103, x104, x105, x106, x107, hsx, GL, FB, F0, F1, F2, F3, F4, F5, F6, F7, F8, FL⟩ := hI
          have hL : dd 9 = false := by
              cases h : dd 9 with
              | false => rfl
              | true => rw [(GL h).2.2.2.2.2.2.1] at hd; cases hd
          have HB := FB hL
          obtain rfl := F5 (hpre ⟨5, .data⟩ (by simp) rfl)
          have kb1 := (L5_4.out.keep HB).cell; have lb1 := (L5_4.out.keep HB).lt
          rw [hsx, hfr]
          go_simp
          exact hK.out _ _ ⟨x99, x100, x101, x102, x103, (.pointer (some ⟨wr.heap.size, 1, none⟩)), (.agg #[.int .i64 x.kind, .bool x.bool, .int .i64 x.int, .string x.str, .slice ya x.list.length yc, .slice ym x.map.length yn]), x106, x107, by rw [hfr]; try simp only [Act.put, List.setIfInBounds_toArray, List.set_cons_zero, List.set_cons_succ], fun h => absurd (hL.symm.trans h) Bool.false_ne_true, fun _ => HB, F0, F1, F2, F3, F4, fun _ => rfl, fun _ => rfl, F7, F8, fun h => absurd (hL.symm.trans h) Bool.false_ne_true⟩
        · intro dd sAc wx hd hpre hI K hK
          obtain ⟨x99, x100, x101, x102, x103, x104, x105, x106, x107, hsx, GL, FB, F0, F1, F2, F3, F4, F5, F6, F7, F8, FL⟩ := hI
          have hL : dd 9 = false := by
              cases h : dd 9 with
              | false => rfl
              | true => rw [(GL h).2.2.2.2.2.2.2.1] at hd; cases hd
          have HB := FB hL
          obtain rfl := F3 (hpre ⟨3, .data⟩ (by simp) rfl)
          obtain rfl := F4 (hpre ⟨4, .data⟩ (by simp) rfl)
          obtain rfl := F6 (hpre ⟨6, .data⟩ (by simp) rfl)
          rw [hsx, hfr]
          go_simp
          refine (HIM.out _ _ _ _ (fun b => S b ∧ b < w.heap.size) (V5_wo.out.keep HB) (V5_wv.out.keep HB) (V5_x.out.keep HB)).mono ?_
          rintro ee wy ⟨vv, rfl, hr, hb⟩
          go_wp2_with fail
          exact hK.out _ _ ⟨x99, x100, x101, (.agg #[.int .i64 wo.kind, .bool wo.bool, .int .i64 wo.int, .string wo.str, .slice qa3 wo.list.length qc3, .slice qm3 wo.map.length qn3]), (.agg #[.int .i64 wv.kind, .bool wv.bool, .int .i64 wv.int, .string wv.str, .slice qa4 wv.list.length qc4, .slice qm4 wv.map.length qn4]), x104, (.agg #[.int .i64 x.kind, .bool x.bool, .int .i64 x.int, .string x.str, .slice ya x.list.length yc, .slice ym x.map.length yn]), vv, x107, by rw [hfr]; try simp only [Act.put, List.setIfInBounds_toArray, List.set_cons_zero, List.set_cons_succ], fun h => absurd (hL.symm.trans h) Bool.false_ne_true, fun _ => Below.next HB hb, F0, F1, F2, fun _ => rfl, fun _ => rfl, F5, fun _ => rfl, fun _ _ => hr.weak (fun b h _ => by rcases h with h | h; exact .inl h; exact .inr (by have h2 : wx.heap.size ≤ b := h; have := HB.size; omega)), fun h hl => (F8 h hl).keep hb, fun h => absurd (hL.symm.trans h) Bool.false_ne_true⟩
        · intro dd sAc wx hd hpre hI K hK
          obtain ⟨x99, x100, x101, x102, x103, x104, x105, x106, x107, hsx, GL, FB, F0, F1, F2, F3, F4, F5, F6, F7, F8, FL⟩ := hI
          have hL : dd 9 = false := by
              cases h : dd 9 with
              | false => rfl
              | true => rw [(GL h).2.2.2.2.2.2.2.2] at hd; cases hd
          have HB := FB hL
          obtain rfl := F0 (hpre ⟨0, .data⟩ (by simp) rfl)
          obtain rfl := F2 (hpre ⟨2, .data⟩ (by simp) rfl)
          have e7 := F7 (hpre ⟨7, .data⟩ (by simp) rfl) hL
          rw [hsx, hfr]
          go_simp
          refine (HP.out _ _ _ (HGR.out.keep HB) e7).mono ?_
          rintro ee wy ⟨vv, rfl, hr, hb⟩
          go_wp2_with fail
          exact hK.out _ _ ⟨(.agg #[.int .i64 M.kind, .bool M.bool, .int .i64 M.int, .string M.str, .slice xa M.list.length xc, .slice xm M.map.length xn]), x100, (.string key), x102, x103, x104, x105, x106, vv, by rw [hfr]; try simp only [Act.put, List.setIfInBounds_toArray, List.set_cons_zero, List.set_cons_succ], fun h => absurd (hL.symm.trans h) Bool.false_ne_true, fun _ => Below.next HB hb, fun _ => rfl, F1, fun _ => rfl, F3, F4, F5, F6, fun h hl => (F7 h hl).keep hb, fun _ _ => hr.weak (fun b h _ => by rcases h with h | h; exact h; exact .inr (by have h2 : wx.heap.size ≤ b := h; have := HB.size; omega)), fun h => absurd (hL.symm.trans h) Bool.false_ne_true⟩
        · intro dd sAc wx hd hpre hI K hK
          obtain ⟨x99, x100, x101, x102, x103, x104, x105, x106, x107, hsx, GL, FB, F0, F1, F2, F3, F4, F5, F6, F7, F8, FL⟩ := hI
          have hL : dd 9 = false := hd
          have HB := FB hL
          have e8 := F8 (hpre ⟨8, .data⟩ (by simp) rfl) hL
          obtain ⟨qa, qc, qm, qn, rfl, -⟩ := e8.inv
          have kg := (HG.out.keep HB).cell; have lg := (HG.out.keep HB).lt; have zg := (HG.out.keep HB).frozen
          have HBW := Below.next HBX.out HB
          rw [hsx, hfr]
          go_simp
          exact hK.out _ _ ⟨x99, x100, x101, x102, x103, x104, x105, x106, (.agg #[.int .i64 N.kind, .bool N.bool, .int .i64 N.int, .string N.str, .slice qa N.list.length qc, .slice qm N.map.length qn]), by rw [hfr]; try simp only [Act.put, List.setIfInBounds_toArray, List.set_cons_zero, List.set_cons_succ], fun _ => ⟨hpre ⟨0, .phase⟩ (by simp) rfl, hpre ⟨1, .phase⟩ (by simp) rfl, hpre ⟨2, .phase⟩ (by simp) rfl, hpre ⟨3, .phase⟩ (by simp) rfl, hpre ⟨4, .phase⟩ (by simp) rfl, hpre ⟨5, .phase⟩ (by simp) rfl, hpre ⟨6, .phase⟩ (by simp) rfl, hpre ⟨7, .phase⟩ (by simp) rfl, hpre ⟨8, .phase⟩ (by simp) rfl⟩, fun h => Bool.noConfusion h, F0, F1, F2, F3, F4, F5, F6, fun _ hl => Bool.noConfusion hl, fun _ hl => Bool.noConfusion hl, fun _ => ⟨_, _, _, _, Lib.hid (set6_below (o := 0) (HBL.out.trans (HBW.mono (by omega))) (by omega)), Lib.hid (HOT.out.put HBW e8)⟩⟩
        · intro dd sAc wx hd hI
          obtain ⟨x99, x100, x101, x102, x103, x104, x105, x106, x107, hsx, GL, FB, F0, F1, F2, F3, F4, F5, F6, F7, F8, FL⟩ := hI
          rw [hsx, hfr]
          clear hsx hfr
          have FIN := FL (hd 9 (by decide))
          clear FL GL FB F0 F1 F2 F3 F4 F5 F6 F7 F8 hd
          obtain ⟨za, zc, zm, zn, HBL2, HOT2⟩ := FIN
          go_wp2_with fail
          go_roundw
          case rel => exact ⟨q + 1, N, za, zc, zm, zn, by omega, by go_num, HNN, HBL2, HOT2⟩
          case measure => simp [intOf]; omega
      · obtain rfl : q = t.map.length := by omega
        have HE2 := Lib.hid (show res = M from by rw [HE.out, hM.out, List.take_length])
        clear hM HE
        have zf := L2_3.out.frozen
        go_wp2_with fail
        exact ret_cell rfl rfl ((((((L2_3.out.set_ 0 _).set_ 1 _).set_ 2 _).set_ 3 _).set_ 4 _).set_ 5 _) Try.underlying25 val_size rfl ⟨_, rfl, by rw [HE2.out]; exact HOT.out.fin (by omega) (by omega), set6_below (o := 0) HOT.out.bel (by omega)⟩
end Go.Proofs.Ytmdihildjblgnaa

/- merge3.Drift and merge3.Holds: which leaves of a manifest aren't live. -/
namespace Go.Proofs.Ytmdihildjblgnaa
open Go.RowKit
attribute [local go_sem ↓] Go.wp_at_zero Go.wp_at_succ

/-- Rows of texts as elements of rows. -/
def eltK : Elt (List ByteArray) where
  ty := 41
  slt := 81
  sz := 1
  bytes := 24
  zero := .slice none 0 0
  R w S cs l := ∃ a c, cs = [.slice a l.length c] ∧ l.length ≤ c ∧ c ≤ maxLen ∧ RepS w S a l
  len h := by obtain ⟨a, c, rfl, _⟩ := h; rfl
  one h := by
    obtain ⟨a, c, rfl, _⟩ := h
    intro u hu
    rw [List.mem_singleton] at hu
    rw [hu]; rfl
  mono h hS hw := by
    obtain ⟨a, c, e, h1, h2, h3⟩ := h
    exact ⟨a, c, e, h1, h2, h3.mono hS hw⟩
  pos := by decide
  hund := Try.underlying81
  hinfo := by kernel_rfl
  hzero := rfl

def DriftPost (w : World) (l : List (List ByteArray)) (e : Ending) (w' : World) : Prop := ∃ A c, e = .returned (.slice A l.length c) ∧ RepE eltK w' (fun _ => True) A l ∧ Below w.heap.size w w'
/-- One path more. -/
theorem drift_append {wr : World} {B c : Nat} {A : Option Addr} {l : List (List ByteArray)} {sa : Option Addr} {sc : Nat} {st : List ByteArray} (h : OwnE eltK wr B (fun b => b < B) A c l) (hB : B ≤ wr.heap.size) (hs : RepS wr (fun b => b < B) sa st) (h1 : st.length ≤ sc) (h2 : sc ≤ maxLen) (hbig : l.length + 1 ≤ 1000000) {n : Nat} (hn : n = wr.heap.size) :
    ∃ (l2 : List (List ByteArray)) (A' : Option Addr) (c' : Nat) (w4 : World), Hid (l2 = l ++ [st]) ∧
      (Builtin.append_ #[81, 81] 81 #[.slice A l.length c, .slice (some ⟨n, 0, none⟩) 1 1]).run Try.prog (wr.alloc (.cells #[.slice sa st.length sc] 41)) = .ok (.slice A' l2.length c') w4 ∧
      OwnE eltK w4 B (fun b => b < B) A' c' l2 ∧ Below B wr w4 := by
  subst hn
  have ha : Below wr.heap.size wr (wr.alloc (.cells #[.slice sa st.length sc] 41)) := Below.new _ _
  obtain ⟨A', c', w4, hrun, ho, hgr⟩ := own_append (E := eltK) (l2 := [st]) (es := [.slice sa st.length sc]) (ad := ⟨wr.heap.size, 0, none⟩) (cc := 1) (ty := 81) (t := 81) rfl (h.keep ha) (by show (l.length + 1) * 24 ≤ _; omega) (by simp; unfold maxLen; omega) (by have := ha.size; omega) (by rfl)
    (fun j u hu => by rw [add_lit, Nat.zero_add, (Blk.new wr 41 #[.slice sa st.length sc]).cell]; simpa using hu)
    (fun i hi => by
      obtain rfl : i = 0 := by simpa using hi
      exact ⟨sa, sc, rfl, h1, h2, ((hs.keep ha).mono (S' := fun b => b < B ∧ Value.ownBlock (.slice A l.length c) ≠ some b) (fun b hb _ => ⟨hb, fun e => by have := (h.own b e).1; omega⟩) (fun _ _ _ _ => rfl))⟩)
  have hba : Below B wr (wr.alloc (.cells #[.slice sa st.length sc] 41)) := ha.mono hB
  exact ⟨l ++ [st], A', c', w4, rfl, hrun, ho, ⟨hgr.os.trans hba.os, hgr.tape.trans hba.tape, hgr.output.trans hba.output, Nat.le_trans hba.size hgr.size, fun g hg => (hgr.block g (Nat.lt_of_lt_of_le (Nat.lt_of_lt_of_le hg hB) hba.size) (fun e => by have := (h.own g e.symm).1; omega)).trans (hba.block g hg)⟩⟩
-- walk
set_option maxRecDepth 100000 in
set_option maxHeartbeats 8000000 in
theorem tdrift {n k : Nat} (v t : T) (hv : Neat n v) (hwt : t.wt ≤ 900000) (ht : Neat k t) (vv vt : Value) (w : World) (ha : RepT w (fun _ => True) vv v) (hb : RepT w (fun _ => True) vt t) : Calls Try.prog 83 #[vv, vt] w (DriftPost w (driftT v t.leaves)) := by
  obtain ⟨la, lc, ma, mc, rfl, -⟩ := ha.inv
  obtain ⟨la2, lc2, ma2, mc2, rfl, -⟩ := hb.inv
  have Hv := Lib.hid ha; have Ht := Lib.hid hb; have HVN := Lib.hid hv; clear ha hb hv
  have CL := Lib.hid (fun vt w h => tpleaves t ht hwt vt w (fun _ => True) h)
  have HLW := Lib.hid (show ∀ i (hi : i < t.leaves.length), t.leaves[i].1.length ≤ 900000 from fun i hi => by have h1 := (leaves_wt t).2 _ (List.getElem_mem hi); omega)
  have hnl : t.leaves.length ≤ 900000 := by have h1 := (leaves_wt t).1; omega
  clear ht hwt
  go_enter Try.func83, Try.ntmps83
  go_wp2_with fail
  refine (CL.out _ _ (Ht.out.keep (by exact (Below.new _ _).alloc (by simp) _))).mono ?_
  rintro e w1 ⟨rA, rc, rfl, hrep, hlc, hcm, hb⟩
  clear CL
  generalize t.leaves = L at *
  have HL := Lib.hid (hrep.weak (S' := fun b => b < w1.heap.size) (fun b _ h => h)); clear hrep
  have HD1 := Lib.hid (show Below w.heap.size w w1 from Below.next ((Below.new _ _).alloc (by simp) _) hb)
  have L1_0 := Lib.hid (((Blk.new w 25 #[.int .i64 v.kind, .bool v.bool, .int .i64 v.int, .string v.str, .slice la v.list.length lc, .slice ma v.map.length mc]).alloc (.cells #[.int .i64 t.kind, .bool t.bool, .int .i64 t.int, .string t.str, .slice la2 t.list.length lc2, .slice ma2 t.map.length mc2] 25)).keep hb)
  have L1_1 := Lib.hid ((Blk.new_at (w.alloc (.cells #[.int .i64 v.kind, .bool v.bool, .int .i64 v.int, .string v.str, .slice la v.list.length lc, .slice ma v.map.length mc] 25)) 25 #[.int .i64 t.kind, .bool t.bool, .int .i64 t.int, .string t.str, .slice la2 t.list.length lc2, .slice ma2 t.map.length mc2] (n := w.heap.size + 1) (by simp)).keep hb)
  have V1_v := Lib.hid (Hv.out.keep HD1.out)
  have HW1 := Lib.hid (show Below w.heap.size w w1 from HD1.out)
  clear hb HD1 Hv
  have k1_0 := L1_0.out.cell
  have l1_0 := L1_0.out.lt
  have k1_1 := L1_1.out.cell
  have l1_1 := L1_1.out.lt
  go_wp2_with fail
  go_loopw [5, 13] (fun x5 x wr => ∃ (q : Nat) (A : Option Addr) (c : Nat), q ≤ L.length ∧ x5 = .slice A (driftT v (L.take q)).length c ∧ x = .int .i64 q ∧ Hid (OwnE eltK wr w1.heap.size (fun b => b < w1.heap.size) A c (driftT v (L.take q))) ∧ Hid (Below w1.heap.size w1 wr)) (fun _ x _ => L.length - (intOf x).toNat)
  case atStart => exact ⟨0, none, 0, Nat.zero_le _, rfl, rfl, Lib.hid OwnE.nil, Lib.hid (Below.refl _ _)⟩
  case round =>
    obtain ⟨q, A, c, hq, rfl, rfl, HOW, HBL⟩ := hrel
    have L2_0 := Lib.hid (L1_0.out.keep HBL.out)
    have L2_1 := Lib.hid (L1_1.out.keep HBL.out)
    have V2_v := Lib.hid (V1_v.out.keep HBL.out)
    have V2_L := Lib.hid (HL.out.keep HBL.out)
    have HW2 := Lib.hid (Below.next HW1.out HBL.out)
    clear k1_0 l1_0 k1_1 l1_1
    have k2_0 := L2_0.out.cell; have l2_0 := L2_0.out.lt
    have k2_1 := L2_1.out.cell; have l2_1 := L2_1.out.lt
    have hdl := drift_len v L q
    by_cases hlt : q < L.length
    case pos =>
      obtain ⟨b5, o5, sy, syc, ya, yc, ym, yn, rfl, hby, ⟨y0, y1, y2, y3, y4, y5, y6⟩, hys1, hys2, hys, hyr⟩ := leaf_at V2_L.out hlt
      have gq1 : (0 : Int) ≤ (q : Int) := by omega
      have gq2 : (q : Int) < (L.length : Int) := by omega
      have VY := Lib.hid (hys.weak (S' := fun _ => True) (fun _ _ => trivial)); have VYB := Lib.hid hys; have VZ := Lib.hid hyr.any; clear hys hyr
      have hml := HLW.out q hlt
      have HDT := Lib.hid (drift_take (v := v) hlt)
      obtain ⟨bg, hbg⟩ : ∃ r, (getP L[q].1 v).isSome = r := ⟨_, rfl⟩
      obtain ⟨tg, htg⟩ : ∃ r, (getP L[q].1 v).getD T.zero = r := ⟨_, rfl⟩
      obtain ⟨dc, hdc⟩ : ∃ r, decide (T.cmp tg L[q].2 = 0) = r := ⟨_, rfl⟩
      have HHE := Lib.hid (show heldT v L[q] = (bg && dc) from by unfold heldT; rw [← hbg, ← hdc, ← htg]; cases getP L[q].1 v <;> rfl)
      have CG := Lib.hid (fun w2 c0 (h1 : RepT w2 (fun _ => True) c0 v) (h2 : RepS w2 (fun _ => True) sy L[q].1) => show Calls Try.prog 45 #[c0, .slice sy L[q].1.length syc] w2 (GotB w2 bg tg) from by have := tpget L[q].1 v HVN.out sy syc c0 w2 _ h1 h2 (by omega); rw [hbg, htg] at this; exact this)
      have CS := Lib.hid (fun w2 v2 v3 (h1 : RepT w2 (fun _ => True) v2 tg) (h2 : RepT w2 (fun _ => True) v3 L[q].2) => show Calls Try.prog 40 #[v2, v3] w2 (fun e w' => e = .returned (.bool dc) ∧ Below w2.heap.size w2 w') from hdc ▸ tsame tg L[q].2 w2 _ _ v2 v3 h1 h2)
      rw [HHE.out] at HDT
      clear hbg htg hdc HHE
      generalize L[q].1 = m at *
      generalize L[q].2 = z at *
      go_wp2_with fail
      refine (CG.out _ _ (V2_v.out.keep (by exact Below.new _ _)) (VY.out.keep (by exact Below.new _ _))).mono ?_
      rintro e w3 ⟨v3, rfl, hr, hb⟩
      obtain ⟨qa3, qc3, qm3, qn3, rfl, -⟩ := hr.inv
      have N3 := Lib.hid (hr.any)
      clear hr
      have HD3 := Lib.hid (show Below wr.heap.size wr w3 from Below.next (Below.new _ _) hb)
      have L3_0 := Lib.hid (L2_0.out.keep HD3.out)
      have L3_1 := Lib.hid (L2_1.out.keep HD3.out)
      have L3_2 := Lib.hid ((Blk.new wr 66 #[.slice sy m.length syc, .int .i64 z.kind, .bool z.bool, .int .i64 z.int, .string z.str, .slice ya z.list.length yc, .slice ym z.map.length yn]).keep hb)
      have V3_v := Lib.hid (V2_v.out.keep HD3.out)
      have V3_Y := Lib.hid (VY.out.keep HD3.out)
      have V3_YB := Lib.hid (VYB.out.keep HD3.out)
      have V3_z2 := Lib.hid (VZ.out.keep HD3.out)
      have V3_O := Lib.hid (HOW.out.keep HD3.out)
      have B3_0 := Lib.hid (Below.next HBL.out HD3.out)
      have HW3 := Lib.hid (Below.next HW2.out HD3.out)
      clear k2_0 l2_0 k2_1 l2_1 hb HD3 L2_0 L2_1 V2_v VY VYB VZ HOW HBL HW2
      have k3_0 := L3_0.out.cell
      have l3_0 := L3_0.out.lt
      have k3_1 := L3_1.out.cell
      have l3_1 := L3_1.out.lt
      have k3_2 := L3_2.out.cell
      have l3_2 := L3_2.out.lt
      cases bg
      · have HDN := Lib.hid (show driftT v (L.take (q + 1)) = driftT v (L.take q) ++ [m] from by have h := HDT.out; simpa using h)
        have hBB : Below w1.heap.size w1 (w3.alloc (.cells #[.int .i64 tg.kind, .bool tg.bool, .int .i64 tg.int, .string tg.str, .slice qa3 tg.list.length qc3, .slice qm3 tg.map.length qn3] 25)) := Below.next B3_0.out (Below.new _ _)
        obtain ⟨l3, A3, c3, w8, HL3, hrun3, ho3, hb3⟩ := drift_append (n := w3.heap.size + 1) (V3_O.out.keep (by exact Below.new _ _)) hBB.size (V3_YB.out.keep (by exact Below.new _ _)) hys1 hys2 (by omega) (by simp)
        have HO3 := Lib.hid ho3; have HB3 := Lib.hid (show Below w1.heap.size w1 w8 from hBB.trans hb3); clear ho3 hb3 hBB
        go_wp2_with (at_builtin; refine wpList_append_run rfl (.tmp 33) (.tmp 36) 81 rfl hrun3 rfl rfl ?_)
        go_roundw
        case rel => exact ⟨q + 1, A3, c3, by omega, by rw [HDN.out, ← HL3.out], by go_num, Lib.hid (by rw [HDN.out, ← HL3.out]; exact HO3.out), HB3⟩
        case measure => simp [intOf]; omega
      · go_wp2_with fail
        refine (CS.out _ _ _ (N3.out.keep (by exact Below.new _ _)) (V3_z2.out.keep (by exact Below.new _ _))).mono ?_
        rintro e w4 ⟨rfl, hb⟩
        have HD4 := Lib.hid (show Below w3.heap.size w3 w4 from Below.next (Below.new _ _) hb)
        have L4_0 := Lib.hid (L3_0.out.keep HD4.out)
        have L4_1 := Lib.hid (L3_1.out.keep HD4.out)
        have L4_2 := Lib.hid (L3_2.out.keep HD4.out)
        have L4_3 := Lib.hid ((Blk.new w3 25 #[.int .i64 tg.kind, .bool tg.bool, .int .i64 tg.int, .string tg.str, .slice qa3 tg.list.length qc3, .slice qm3 tg.map.length qn3]).keep hb)
        have V4_v := Lib.hid (V3_v.out.keep HD4.out)
        have V4_Y := Lib.hid (V3_Y.out.keep HD4.out)
        have V4_YB := Lib.hid (V3_YB.out.keep HD4.out)
        have V4_z2 := Lib.hid (V3_z2.out.keep HD4.out)
        have V4_O := Lib.hid (V3_O.out.keep HD4.out)
        have V4_tg := Lib.hid (N3.out.keep HD4.out)
        have B4_0 := Lib.hid (Below.next B3_0.out HD4.out)
        have HW4 := Lib.hid (Below.next HW3.out HD4.out)
        clear k3_0 l3_0 k3_1 l3_1 k3_2 l3_2 hb HD4 L3_0 L3_1 L3_2 V3_v V3_Y V3_YB V3_z2 V3_O N3 B3_0 HW3
        have k4_0 := L4_0.out.cell
        have l4_0 := L4_0.out.lt
        have k4_1 := L4_1.out.cell
        have l4_1 := L4_1.out.lt
        have k4_2 := L4_2.out.cell
        have l4_2 := L4_2.out.lt
        have k4_3 := L4_3.out.cell
        have l4_3 := L4_3.out.lt
        cases dc
        · have HDN := Lib.hid (show driftT v (L.take (q + 1)) = driftT v (L.take q) ++ [m] from by have h := HDT.out; simpa using h)
          have hBB : Below w1.heap.size w1 w4 := Below.next B4_0.out (Below.refl _ _)
          obtain ⟨l3, A3, c3, w8, HL3, hrun3, ho3, hb3⟩ := drift_append (n := w4.heap.size) (V4_O.out) hBB.size (V4_YB.out) hys1 hys2 (by omega) (by simp)
          have HO3 := Lib.hid ho3; have HB3 := Lib.hid (show Below w1.heap.size w1 w8 from hBB.trans hb3); clear ho3 hb3 hBB
          go_wp2_with (at_builtin; refine wpList_append_run rfl (.tmp 33) (.tmp 36) 81 rfl hrun3 rfl rfl ?_)
          go_roundw
          case rel => exact ⟨q + 1, A3, c3, by omega, by rw [HDN.out, ← HL3.out], by go_num, Lib.hid (by rw [HDN.out, ← HL3.out]; exact HO3.out), HB3⟩
          case measure => simp [intOf]; omega
        · have HDN := Lib.hid (show driftT v (L.take (q + 1)) = driftT v (L.take q) from by have h := HDT.out; simpa using h)
          go_wp2_with fail
          go_roundw
          case rel => exact ⟨q + 1, A, c, by omega, by rw [HDN.out], by go_num, Lib.hid (by rw [HDN.out]; exact (V4_O.out)), Lib.hid (Below.next B4_0.out (Below.refl _ _))⟩
          case measure => simp [intOf]; omega
    case neg =>
      obtain rfl : q = L.length := by omega
      have hqe : L.take L.length = L := List.take_length
      go_wp2_with fail
      go_ret
      exact ⟨A, c, by rw [hqe]; rfl, by rw [← hqe]; exact HOW.out.rep.weak (fun _ _ _ => trivial), HW2.out⟩

set_option maxRecDepth 100000 in
set_option maxHeartbeats 4000000 in
/-- The closure of Holds. -/
theorem held1 {n : Nat} (v : T) (hv : Neat n v) (m : List ByteArray) (z : T) (sa : Option Addr) (sc gk : Nat) (ya ym : Option Addr) (yc yn : Nat) (la ma : Option Addr) (lc mc : Nat) (w : World) (hm : m.length ≤ 900000) (hk : Blk w gk 25 #[.int .i64 v.kind, .bool v.bool, .int .i64 v.int, .string v.str, .slice la v.list.length lc, .slice ma v.map.length mc]) (hr : RepT w (fun _ => True) (.agg #[.int .i64 v.kind, .bool v.bool, .int .i64 v.int, .string v.str, .slice la v.list.length lc, .slice ma v.map.length mc]) v)
    (hs : RepS w (fun _ => True) sa m) (hz : RepT w (fun _ => True) (.agg #[.int .i64 z.kind, .bool z.bool, .int .i64 z.int, .string z.str, .slice ya z.list.length yc, .slice ym z.map.length yn]) z) :
    Calls Try.prog 112 #[.agg #[.slice sa m.length sc, .int .i64 z.kind, .bool z.bool, .int .i64 z.int, .string z.str, .slice ya z.list.length yc, .slice ym z.map.length yn], .pointer (some ⟨gk, 0, none⟩)] w fun e w' => e = .returned (.bool (!heldT v (m, z))) ∧ Below w.heap.size w w' := by
  obtain ⟨bg, hbg⟩ : ∃ r, (getP m v).isSome = r := ⟨_, rfl⟩
  obtain ⟨tg, htg⟩ : ∃ r, (getP m v).getD T.zero = r := ⟨_, rfl⟩
  obtain ⟨dc, hdc⟩ : ∃ r, decide (T.cmp tg z = 0) = r := ⟨_, rfl⟩
  have HHE := Lib.hid (show heldT v (m, z) = (bg && dc) from by unfold heldT; rw [← hbg, ← hdc, ← htg]; cases getP m v <;> rfl)
  have CG := Lib.hid (fun w2 c0 (h1 : RepT w2 (fun _ => True) c0 v) (h2 : RepS w2 (fun _ => True) sa m) => show Calls Try.prog 45 #[c0, .slice sa m.length sc] w2 (GotB w2 bg tg) from by have := tpget m v hv sa sc c0 w2 _ h1 h2 (by omega); rw [hbg, htg] at this; exact this)
  have CS := Lib.hid (fun w2 v2 v3 (h1 : RepT w2 (fun _ => True) v2 tg) (h2 : RepT w2 (fun _ => True) v3 z) => show Calls Try.prog 40 #[v2, v3] w2 (fun e w' => e = .returned (.bool dc) ∧ Below w2.heap.size w2 w') from hdc ▸ tsame tg z w2 _ _ v2 v3 h1 h2)
  rw [HHE.out]
  have HK := Lib.hid hk
  have HR := Lib.hid hr
  have HS := Lib.hid hs
  have HZ := Lib.hid hz
  have k0 := hk.cell
  have l0 := hk.lt
  clear hbg htg hdc HHE hk hr hs hz hv
  have HB1 : Hid (Below w.heap.size w (w.alloc (.cells #[.slice sa m.length sc, .int .i64 z.kind, .bool z.bool, .int .i64 z.int, .string z.str, .slice ya z.list.length yc, .slice ym z.map.length yn] 66))) := Lib.hid (Below.new _ _)
  have HL1 := Lib.hid (Blk.new w 66 #[.slice sa m.length sc, .int .i64 z.kind, .bool z.bool, .int .i64 z.int, .string z.str, .slice ya z.list.length yc, .slice ym z.map.length yn])
  go_enter Try.func112, Try.ntmps112
  go_wp2_with fail
  refine (CG.out _ _ (HR.out.keep HB1.out) (HS.out.keep HB1.out)).mono ?_
  rintro e w2 ⟨v2, rfl, hr2, hb2⟩
  obtain ⟨qa, qc, qm, qn, rfl, -⟩ := hr2.inv
  have HR2 := Lib.hid hr2.any
  have HB2 := Lib.hid hb2
  have HL2 := Lib.hid (HL1.out.keep hb2)
  have HZ2 := Lib.hid ((HZ.out.keep HB1.out).keep hb2)
  clear hr2 hb2
  have k1 := HL2.out.cell
  have l1 := HL2.out.lt
  cases bg
  · go_wp2_with fail
    go_ret
    exact ⟨rfl, Below.next (Below.next HB1.out HB2.out) (Below.new _ _)⟩
  · go_wp2_with fail
    refine (CS.out _ _ _ (HR2.out.keep (by exact Below.new _ _)) (HZ2.out.keep (by exact Below.new _ _))).mono ?_
    rintro e w3 ⟨rfl, hb3⟩
    go_wp2_with fail
    go_ret
    exact ⟨by cases dc <;> rfl, Below.next (Below.next HB1.out HB2.out) (Below.next (Below.new _ _) hb3)⟩

set_option maxRecDepth 100000 in
set_option maxHeartbeats 4000000 in
/-- Where a leaf that is not live stands first. -/
theorem index_held {n : Nat} (v : T) (hv : Neat n v) (L : List LeafT) (hL : ∀ i (hi : i < L.length), L[i].1.length ≤ 900000) (A : Option Addr) (c gk : Nat) (la ma : Option Addr) (lc mc : Nat) (w : World) (S : Nat → Prop) (h : RepE eltP2 w S A L) (hl : L.length ≤ 900000) (hk : Blk w gk 25 #[.int .i64 v.kind, .bool v.bool, .int .i64 v.int, .string v.str, .slice la v.list.length lc, .slice ma v.map.length mc]) (hr : RepT w (fun _ => True) (.agg #[.int .i64 v.kind, .bool v.bool, .int .i64 v.int, .string v.str, .slice la v.list.length lc, .slice ma v.map.length mc]) v) :
    Calls Try.prog 121 #[.slice A L.length c, .func (.func 112) #[] #[.pointer (some ⟨gk, 0, none⟩)]] w fun e w' => ∃ r : Int, e = .returned (.int .i64 r) ∧ -1 ≤ r ∧ (L.any fun x => !heldT v x) = decide (0 ≤ r) ∧ Below w.heap.size w w' := by
  have HK := Lib.hid hk
  have HR := Lib.hid hr
  have HL := Lib.hid h
  have HC := Lib.hid (fun (m : List ByteArray) (z : T) sa sc ya ym yc yn w2 (hm : m.length ≤ 900000) h1 h2 h3 h4 => held1 v hv m z sa sc gk ya ym yc yn la ma lc mc w2 hm h1 h2 h3 h4)
  have HLL := Lib.hid hL
  clear hk hr h hv hL
  go_enter Try.func121, Try.ntmps121
  go_wp2_with fail
  go_loopw [8] (fun i wr => ∃ q : Nat, i = .int .i64 q ∧ q ≤ L.length ∧ Hid ((L.take q).any (fun x => !heldT v x) = false) ∧ Hid (Below w.heap.size w wr)) (fun i _ => L.length - (intOf i).toNat)
  case atStart => exact ⟨0, rfl, Nat.zero_le _, rfl, Lib.hid (Below.refl _ _)⟩
  case round =>
    obtain ⟨q, rfl, hq, hall, HBW⟩ := hrel
    by_cases hlt : q < L.length
    · obtain ⟨b5, o5, sy, syc, ya, yc, ym, yn, rfl, hby, ⟨y0, y1, y2, y3, y4, y5, y6⟩, hys1, hys2, hys, hyr⟩ := leaf_at (HL.out.keep HBW.out) hlt
      have HS := Lib.hid (hys.weak (S' := fun _ => True) (fun _ _ => trivial))
      have HZ := Lib.hid hyr.any
      have hml := HLL.out q hlt
      have HAT := Lib.hid (show (L.take (q + 1)).any (fun x => !heldT v x) = !heldT v (L[q].1, L[q].2) from by rw [List.take_succ_eq_append_getElem hlt, List.any_append, hall.out]; simp)
      have HIN := Lib.hid (show heldT v (L[q].1, L[q].2) = false → (L.any fun x => !heldT v x) = true from fun e => List.any_eq_true.2 ⟨L[q], List.getElem_mem hlt, by rw [Bool.not_eq_true']; exact e⟩)
      have gq1 : (0 : Int) ≤ (q : Int) := by omega
      have gq2 : (q : Int) < (L.length : Int) := by omega
      clear hys hyr hall
      generalize L[q].1 = m at *
      generalize L[q].2 = z at *
      have HC2 := Lib.hid (fun w2 h1 h2 h3 h4 => HC.out m z sy syc ya ym yc yn w2 hml h1 h2 h3 h4)
      generalize heldT v (m, z) = hd at *
      go_wp2_with fail
      refine (HC2.out _ (HK.out.keep HBW.out) (HR.out.keep HBW.out) HS.out HZ.out).mono ?_
      rintro e w3 ⟨rfl, hb3⟩
      have HB3 := Lib.hid (Below.next HBW.out hb3)
      clear hb3
      cases hd
      · go_wp2_with fail
        go_ret
        exact ⟨_, rfl, by omega, by rw [HIN.out (by first | exact rfl | trivial)]; exact (decide_eq_true gq1).symm, HB3.out⟩
      · go_wp2_with fail
        go_roundw
        case rel => exact ⟨q + 1, by go_num, by omega, Lib.hid HAT.out, HB3⟩
        case measure => simp [intOf]; omega
    · obtain rfl : q = L.length := by omega
      have HA := Lib.hid (show (L.any fun x => !heldT v x) = false from by have h := hall.out; rw [List.take_length] at h; exact h)
      clear hall
      go_wp2_with fail
      go_ret
      exact ⟨_, rfl, by omega, by rw [HA.out]; rfl, HBW.out⟩
set_option maxRecDepth 100000 in
set_option maxHeartbeats 4000000 in
theorem contains_held {n : Nat} (v : T) (hv : Neat n v) (L : List LeafT) (hL : ∀ i (hi : i < L.length), L[i].1.length ≤ 900000) (A : Option Addr) (c gk : Nat) (la ma : Option Addr) (lc mc : Nat) (w : World) (S : Nat → Prop) (h : RepE eltP2 w S A L) (hl : L.length ≤ 900000) (hk : Blk w gk 25 #[.int .i64 v.kind, .bool v.bool, .int .i64 v.int, .string v.str, .slice la v.list.length lc, .slice ma v.map.length mc]) (hr : RepT w (fun _ => True) (.agg #[.int .i64 v.kind, .bool v.bool, .int .i64 v.int, .string v.str, .slice la v.list.length lc, .slice ma v.map.length mc]) v) :
    Calls Try.prog 111 #[.slice A L.length c, .func (.func 112) #[] #[.pointer (some ⟨gk, 0, none⟩)]] w fun e w' => e = .returned (.bool (L.any fun x => !heldT v x)) ∧ Below w.heap.size w w' := by
  have HI := Lib.hid (index_held v hv L hL A c gk la ma lc mc w S h hl hk hr)
  clear hk hr h hv hL
  go_enter Try.func111, Try.ntmps111
  go_wp2_with fail
  refine HI.out.mono ?_
  rintro e w1 ⟨r, rfl, h1, h2, hb⟩
  have HB := Lib.hid hb
  have HA := Lib.hid h2
  clear hb h2
  go_wp2_with fail
  go_ret
  exact ⟨by rw [HA.out]; rfl, HB.out⟩

set_option maxRecDepth 100000 in
set_option maxHeartbeats 4000000 in
theorem tholds {n k : Nat} (v t : T) (hv : Neat n v) (hwt : t.wt ≤ 900000) (ht : Neat k t) (vv vt : Value) (w : World) (ha : RepT w (fun _ => True) vv v) (hb : RepT w (fun _ => True) vt t) : Calls Try.prog 85 #[vv, vt] w fun e w' => e = .returned (.bool (decide (driftT v t.leaves = []))) ∧ Below w.heap.size w w' := by
  obtain ⟨la, lc, ma, mc, rfl, -⟩ := ha.inv
  obtain ⟨la2, lc2, ma2, mc2, rfl, -⟩ := hb.inv
  have HV := Lib.hid ha
  have HT := Lib.hid hb
  have CL := Lib.hid (fun vt w h => tpleaves t ht hwt vt w (fun _ => True) h)
  have HLW := Lib.hid (show ∀ i (hi : i < t.leaves.length), t.leaves[i].1.length ≤ 900000 from fun i hi => by have h1 := (leaves_wt t).2 _ (List.getElem_mem hi); omega)
  have hnl : t.leaves.length ≤ 900000 := by have h1 := (leaves_wt t).1; omega
  have HVN := Lib.hid hv
  have HE := Lib.hid (show decide (driftT v t.leaves = []) = !(t.leaves.any fun x => !heldT v x) from by rw [Bool.eq_iff_iff, decide_eq_true_eq, drift_nil, Bool.not_eq_true'])
  rw [HE.out]
  have hbw : Below w.heap.size w ((w.alloc (.cells #[.int .i64 v.kind, .bool v.bool, .int .i64 v.int, .string v.str, .slice la v.list.length lc, .slice ma v.map.length mc] 25)).alloc (.cells #[.int .i64 t.kind, .bool t.bool, .int .i64 t.int, .string t.str, .slice la2 t.list.length lc2, .slice ma2 t.map.length mc2] 25)) := (Below.new _ _).alloc (by simp) _
  have HBW := Lib.hid hbw
  have HBX := Lib.hid (show Blk ((w.alloc (.cells #[.int .i64 v.kind, .bool v.bool, .int .i64 v.int, .string v.str, .slice la v.list.length lc, .slice ma v.map.length mc] 25)).alloc (.cells #[.int .i64 t.kind, .bool t.bool, .int .i64 t.int, .string t.str, .slice la2 t.list.length lc2, .slice ma2 t.map.length mc2] 25)) w.heap.size 25 #[.int .i64 v.kind, .bool v.bool, .int .i64 v.int, .string v.str, .slice la v.list.length lc, .slice ma v.map.length mc] from (Blk.new _ _ _).alloc _)
  clear ha hb ht hwt HE hv hbw
  go_enter Try.func85, Try.ntmps85
  go_wp2_with fail
  refine (CL.out _ _ (HT.out.keep HBW.out)).mono ?_
  rintro e w1 ⟨rA, rc, rfl, hrep, hlc, hcm, hb⟩
  have HBX1 := Lib.hid (HBX.out.keep hb)
  have HV1 := Lib.hid ((HV.out.keep HBW.out).keep hb)
  have HB1 := Lib.hid (Below.next HBW.out hb)
  have HL := Lib.hid hrep
  clear hrep hb
  go_wp2_with fail
  refine (contains_held v HVN.out t.leaves HLW.out rA rc w.heap.size la ma lc mc w1 _ HL.out hnl HBX1.out HV1.out).mono ?_
  rintro e w2 ⟨rfl, hb2⟩
  have HB2 := Lib.hid (Below.next HB1.out hb2)
  clear hb2
  go_wp2_with fail
  go_ret
  exact ⟨rfl, HB2.out⟩
end Go.Proofs.Ytmdihildjblgnaa

/- MergeThree answers true for every input. -/
namespace Go.Proofs.Ytmdihildjblgnaa
open Go.RowKit
attribute [local go_sem ↓] Go.wp_at_zero Go.wp_at_succ

theorem begins_self (m : List ByteArray) : begins m m = true := begins_iff.2 (List.prefix_refl m)
/-- A path among those that drift. -/
theorem repK_at {w : World} {S : Nat → Prop} {a : Option Addr} {l : List (List ByteArray)} (h : RepE eltK w S a l) {i : Nat} (hi : i < l.length) : ∃ b o sa sc, a = some ⟨b, o, none⟩ ∧ b < w.heap.size ∧ w.cell? ⟨b, o + i, none⟩ = some (.slice sa l[i].length sc) ∧ l[i].length ≤ sc ∧ sc ≤ maxLen ∧ RepS w S sa l[i] := by
  obtain ⟨b, o, cs, e, hS, hc, sa, sc, rfl, h1, h2, h3⟩ := h i hi
  have h0 := hc 0 _ rfl
  rw [show o + i * eltK.sz + 0 = o + i by show o + i * 1 + 0 = o + i; omega] at h0
  exact ⟨b, o, sa, sc, e, block_lt_of_cell (a := ⟨b, o + i, none⟩) h0, h0, h1, h2, h3⟩

set_option maxRecDepth 100000 in
set_option maxHeartbeats 16000000 in
theorem three14 (a b c : T) (va vb vc : Value) (w : World) (ha : RepT w (fun _ => True) va a) (hb : RepT w (fun _ => True) vb b) (hc : RepT w (fun _ => True) vc c) :
    Calls Try.prog 21 #[va, vb, vc] w fun e w' => e = .returned (.bool true) ∧ Below w.heap.size w w' := by
  obtain ⟨la, lc, ma, mc, rfl, -⟩ := ha.inv
  obtain ⟨la2, lc2, ma2, mc2, rfl, -⟩ := hb.inv
  obtain ⟨la3, lc3, ma3, mc3, rfl, -⟩ := hc.inv
  have H_a := Lib.hid ha
  have H_b := Lib.hid hb
  have H_c := Lib.hid hc
  clear ha hb hc
  go_enter Try.func21, Try.ntmps21
  go_wp2_with fail
  refine (right [a, b, c] _ (fun _ => True) _ 3 (repE_L.1 (rep_block (E := eltV) (S := fun _ => True) (l := [a, b, c]) [[.int .i64 a.kind, .bool a.bool, .int .i64 a.int, .string a.str, .slice la a.list.length lc, .slice ma a.map.length mc], [.int .i64 b.kind, .bool b.bool, .int .i64 b.int, .string b.str, .slice la2 b.list.length lc2, .slice ma2 b.map.length mc2], [.int .i64 c.kind, .bool c.bool, .int .i64 c.int, .string c.str, .slice la3 c.list.length lc3, .slice ma3 c.map.length mc3]] (Blk.new_at (((w.alloc (.cells #[.int .i64 a.kind, .bool a.bool, .int .i64 a.int, .string a.str, .slice la a.list.length lc, .slice ma a.map.length mc] 25)).alloc (.cells #[.int .i64 b.kind, .bool b.bool, .int .i64 b.int, .string b.str, .slice la2 b.list.length lc2, .slice ma2 b.map.length mc2] 25)).alloc (.cells #[.int .i64 c.kind, .bool c.bool, .int .i64 c.int, .string c.str, .slice la3 c.list.length lc3, .slice ma3 c.map.length mc3] 25)) 25 #[.int .i64 a.kind, .bool a.bool, .int .i64 a.int, .string a.str, .slice la a.list.length lc, .slice ma a.map.length mc, .int .i64 b.kind, .bool b.bool, .int .i64 b.int, .string b.str, .slice la2 b.list.length lc2, .slice ma2 b.map.length mc2, .int .i64 c.kind, .bool c.bool, .int .i64 c.int, .string c.str, .slice la3 c.list.length lc3, .slice ma3 c.map.length mc3] (n := w.heap.size + 1 + 1 + 1) (by simp)) rfl trivial ⟨(H_a.out.keep (by exact (((Below.new _ _).alloc (by simp) _).alloc (by simp; omega) _).alloc (by simp; omega) _)), (H_b.out.keep (by exact (((Below.new _ _).alloc (by simp) _).alloc (by simp; omega) _).alloc (by simp; omega) _)), (H_c.out.keep (by exact (((Below.new _ _).alloc (by simp) _).alloc (by simp; omega) _).alloc (by simp; omega) _)), trivial⟩)) (by simp)).mono ?_
  rintro e w1 ⟨r, rfl, hr, hb⟩
  have HD1 := Lib.hid (show Below w.heap.size w w1 from Below.next ((((Below.new _ _).alloc (by simp) _).alloc (by simp; omega) _).alloc (by simp; omega) _) hb)
  have L1_0 := Lib.hid (((((Blk.new w 25 #[.int .i64 a.kind, .bool a.bool, .int .i64 a.int, .string a.str, .slice la a.list.length lc, .slice ma a.map.length mc]).alloc (.cells #[.int .i64 b.kind, .bool b.bool, .int .i64 b.int, .string b.str, .slice la2 b.list.length lc2, .slice ma2 b.map.length mc2] 25)).alloc (.cells #[.int .i64 c.kind, .bool c.bool, .int .i64 c.int, .string c.str, .slice la3 c.list.length lc3, .slice ma3 c.map.length mc3] 25)).alloc (.cells #[.int .i64 a.kind, .bool a.bool, .int .i64 a.int, .string a.str, .slice la a.list.length lc, .slice ma a.map.length mc, .int .i64 b.kind, .bool b.bool, .int .i64 b.int, .string b.str, .slice la2 b.list.length lc2, .slice ma2 b.map.length mc2, .int .i64 c.kind, .bool c.bool, .int .i64 c.int, .string c.str, .slice la3 c.list.length lc3, .slice ma3 c.map.length mc3] 25)).keep hb)
  have L1_1 := Lib.hid ((((Blk.new_at (w.alloc (.cells #[.int .i64 a.kind, .bool a.bool, .int .i64 a.int, .string a.str, .slice la a.list.length lc, .slice ma a.map.length mc] 25)) 25 #[.int .i64 b.kind, .bool b.bool, .int .i64 b.int, .string b.str, .slice la2 b.list.length lc2, .slice ma2 b.map.length mc2] (n := w.heap.size + 1) (by simp)).alloc (.cells #[.int .i64 c.kind, .bool c.bool, .int .i64 c.int, .string c.str, .slice la3 c.list.length lc3, .slice ma3 c.map.length mc3] 25)).alloc (.cells #[.int .i64 a.kind, .bool a.bool, .int .i64 a.int, .string a.str, .slice la a.list.length lc, .slice ma a.map.length mc, .int .i64 b.kind, .bool b.bool, .int .i64 b.int, .string b.str, .slice la2 b.list.length lc2, .slice ma2 b.map.length mc2, .int .i64 c.kind, .bool c.bool, .int .i64 c.int, .string c.str, .slice la3 c.list.length lc3, .slice ma3 c.map.length mc3] 25)).keep hb)
  have L1_2 := Lib.hid (((Blk.new_at ((w.alloc (.cells #[.int .i64 a.kind, .bool a.bool, .int .i64 a.int, .string a.str, .slice la a.list.length lc, .slice ma a.map.length mc] 25)).alloc (.cells #[.int .i64 b.kind, .bool b.bool, .int .i64 b.int, .string b.str, .slice la2 b.list.length lc2, .slice ma2 b.map.length mc2] 25)) 25 #[.int .i64 c.kind, .bool c.bool, .int .i64 c.int, .string c.str, .slice la3 c.list.length lc3, .slice ma3 c.map.length mc3] (n := w.heap.size + 1 + 1) (by simp)).alloc (.cells #[.int .i64 a.kind, .bool a.bool, .int .i64 a.int, .string a.str, .slice la a.list.length lc, .slice ma a.map.length mc, .int .i64 b.kind, .bool b.bool, .int .i64 b.int, .string b.str, .slice la2 b.list.length lc2, .slice ma2 b.map.length mc2, .int .i64 c.kind, .bool c.bool, .int .i64 c.int, .string c.str, .slice la3 c.list.length lc3, .slice ma3 c.map.length mc3] 25)).keep hb)
  have V1_a := Lib.hid (H_a.out.keep HD1.out)
  have V1_b := Lib.hid (H_b.out.keep HD1.out)
  have V1_c := Lib.hid (H_c.out.keep HD1.out)
  have HW1 := Lib.hid (show Below w.heap.size w w1 from HD1.out)
  clear hb HD1 H_a H_b H_c
  have k1_0 := L1_0.out.cell
  have l1_0 := L1_0.out.lt
  have k1_1 := L1_1.out.cell
  have l1_1 := L1_1.out.lt
  have k1_2 := L1_2.out.cell
  have l1_2 := L1_2.out.lt
  have HR := Lib.hid hr
  clear hr
  cases r
  · go_wp2_with (go_at_call 53; refine (awake14 _).mono ?_; rintro e w9 ⟨rfl, hb9⟩)
    go_ret
    exact ⟨rfl, Below.next HW1.out hb9⟩
  have hga : Good a := HR.out rfl a (by simp)
  have hgb : Good b := HR.out rfl b (by simp)
  have hgc : Good c := HR.out rfl c (by simp)
  obtain ⟨ct, hct⟩ : ∃ s, s = a.cut b := ⟨_, rfl⟩
  obtain ⟨mt, hmt⟩ : ∃ s, s = c.merge a b := ⟨_, rfl⟩
  obtain ⟨mb, hmb⟩ : ∃ s, s = decide (ct.map ≠ []) := ⟨_, rfl⟩
  obtain ⟨kb, hkb⟩ : ∃ s, (ct.kind == 0) = s := ⟨_, rfl⟩
  have gmk : (mb == kb) = false := by
    have hn : Neat 6000 ct := hct ▸ cut_neat hga.neat hgb.neat
    rw [hmb, ← hkb]
    by_cases h : ct.map = []
    · rw [h, show ct = T.zero from hct ▸ cut_zero hgb.neat hga.KS (hct ▸ h)]; rfl
    · rw [show ct.kind = 5 from Classical.byContradiction fun e => h (hn.nomap e), decide_eq_true h]; rfl
  have CC := Lib.hid (show ∀ (w : World) (c d : Value), RepT w (fun _ => True) c b → RepT w (fun _ => True) d a → Calls Try.prog 54 #[c, d] w (NewPost w ct) from fun w c d h0 h1 => hct ▸ tcut (na := 6000) (nb := 6000) (by omega) (by omega) a b hgb.neat hga.neat c d w _ _ h0 h1)
  have CR := Lib.hid (show ∀ (w : World) (c d : Value), RepT w (fun _ => True) c b → RepT w (fun _ => True) d a → Calls Try.prog 80 #[c, d] w (GotRS (fun b => True ∨ w.heap.size ≤ b) w mb ct) from fun w c d h0 h1 => by have := rcut (na := 6000) (by omega) a 6000 b hgb.neat hga.neat c d w _ h0 h1; rw [← hct, ← hmb] at this; exact this)
  have CM := Lib.hid (show ∀ (w : World) (x y z : Value), RepT w (fun _ => True) x a → RepT w (fun _ => True) y b → RepT w (fun _ => True) z c → Calls Try.prog 81 #[x, y, z] w (NewPost w mt) from fun w x y z h0 h1 h2 => hmt ▸ tmerge (na := 6000) (nb := 6000) (nc := 6000) (by omega) (by omega) (by omega) c a b hgc.neat hga.neat hgb.neat x y z w _ _ _ h0 h1 h2)
  have CN := Lib.hid (show ∀ (w : World) (x y z : Value), RepT w (fun _ => True) x a → RepT w (fun _ => True) y b → RepT w (fun _ => True) z c → Calls Try.prog 82 #[x, y, z] w (ValPostS (fun _ => True) w mt) from fun w x y z h0 h1 h2 => hmt ▸ rmerge (na := 6000) (nb := 6000) (nc := 6000) (by omega) (by omega) c a b hgc.neat hga.neat hgb.neat x y z w _ h0 h1 h2)
  have CS := Lib.hid (fun (x : T) (w : World) (c d : Value) (h0 : RepT w (fun _ => True) c x) (h1 : RepT w (fun _ => True) d x) => rsame_true (rfl : x = x) w _ _ c d h0 h1)
  have hcw : c.wt ≤ 900000 := by have := hgc.1; omega
  have CD := Lib.hid (fun (w : World) (x y : Value) (h0 : RepT w (fun _ => True) x b) (h1 : RepT w (fun _ => True) y c) => tdrift b c hgb.neat hcw hgc.neat x y w h0 h1)
  have CH := Lib.hid (fun (w : World) (x y : Value) (h0 : RepT w (fun _ => True) x b) (h1 : RepT w (fun _ => True) y c) => tholds b c hgb.neat hcw hgc.neat x y w h0 h1)
  have CL := Lib.hid (fun (w : World) (x : Value) (h : RepT w (fun _ => True) x c) => rpleaves c hcw x w _ h)
  have HBN2 := Lib.hid hgb.neat
  have HLV := Lib.hid (show ∀ i (hi : i < c.leaves.length), c.leaves[i].1.length ≤ 6000 from fun i hi => by have h1 := (leaves_wt c).2 _ (List.getElem_mem hi); have h2 := hgc.1; omega)
  have hnl : c.leaves.length ≤ 6000 := by have h1 := (leaves_wt c).1; have h2 := hgc.1; omega
  have HHI := Lib.hid (fun i (hi : i < c.leaves.length) => held_iff hgb.neat hgc.neat (List.getElem_mem hi))
  clear hct hmt hmb hcw hga hgb hgc HR
  go_wp2_with fail
  refine (CR.out _ _ _ (V1_b.out) (V1_a.out)).mono ?_
  rintro e w2 ⟨v2, rfl, hr, hb⟩
  obtain ⟨qa2, qc2, qm2, qn2, rfl, -⟩ := hr.inv
  have N2 := Lib.hid (hr.any)
  clear hr
  have HD2 := Lib.hid (show Below w1.heap.size w1 w2 from hb)
  have L2_0 := Lib.hid (L1_0.out.keep HD2.out)
  have L2_1 := Lib.hid (L1_1.out.keep HD2.out)
  have L2_2 := Lib.hid (L1_2.out.keep HD2.out)
  have V2_a := Lib.hid (V1_a.out.keep HD2.out)
  have V2_b := Lib.hid (V1_b.out.keep HD2.out)
  have V2_c := Lib.hid (V1_c.out.keep HD2.out)
  have HW2 := Lib.hid (Below.next HW1.out HD2.out)
  clear k1_0 l1_0 k1_1 l1_1 k1_2 l1_2 hb HD2 L1_0 L1_1 L1_2 V1_a V1_b V1_c HW1
  have k2_0 := L2_0.out.cell
  have l2_0 := L2_0.out.lt
  have k2_1 := L2_1.out.cell
  have l2_1 := L2_1.out.lt
  have k2_2 := L2_2.out.cell
  have l2_2 := L2_2.out.lt
  go_wp2_with fail
  refine (CC.out _ _ _ (V2_b.out.keep (by exact Below.new _ _)) (V2_a.out.keep (by exact Below.new _ _))).mono ?_
  rintro e w3 ⟨v3, rfl, hr, hb⟩
  obtain ⟨qa3, qc3, qm3, qn3, rfl, -⟩ := hr.inv
  have N3 := Lib.hid (hr.any)
  clear hr
  have HD3 := Lib.hid (show Below w2.heap.size w2 w3 from Below.next (Below.new _ _) hb)
  have L3_0 := Lib.hid (L2_0.out.keep HD3.out)
  have L3_1 := Lib.hid (L2_1.out.keep HD3.out)
  have L3_2 := Lib.hid (L2_2.out.keep HD3.out)
  have L3_3 := Lib.hid ((Blk.new w2 25 #[.int .i64 ct.kind, .bool ct.bool, .int .i64 ct.int, .string ct.str, .slice qa2 ct.list.length qc2, .slice qm2 ct.map.length qn2]).keep hb)
  have V3_a := Lib.hid (V2_a.out.keep HD3.out)
  have V3_b := Lib.hid (V2_b.out.keep HD3.out)
  have V3_c := Lib.hid (V2_c.out.keep HD3.out)
  have V3_ct1 := Lib.hid (N2.out.keep HD3.out)
  have HW3 := Lib.hid (Below.next HW2.out HD3.out)
  clear k2_0 l2_0 k2_1 l2_1 k2_2 l2_2 hb HD3 L2_0 L2_1 L2_2 V2_a V2_b V2_c N2 HW2
  have k3_0 := L3_0.out.cell
  have l3_0 := L3_0.out.lt
  have k3_1 := L3_1.out.cell
  have l3_1 := L3_1.out.lt
  have k3_2 := L3_2.out.cell
  have l3_2 := L3_2.out.lt
  have k3_3 := L3_3.out.cell
  have l3_3 := L3_3.out.lt
  go_wp2_with fail
  obtain ⟨w4, hwz⟩ : ∃ x, x = (w3.alloc (.cells #[.int .i64 ct.kind, .bool ct.bool, .int .i64 ct.int, .string ct.str, .slice qa3 ct.list.length qc3, .slice qm3 ct.map.length qn3] 25)) := ⟨_, rfl⟩
  have hb : Below (w3.alloc (.cells #[.int .i64 ct.kind, .bool ct.bool, .int .i64 ct.int, .string ct.str, .slice qa3 ct.list.length qc3, .slice qm3 ct.map.length qn3] 25)).heap.size (w3.alloc (.cells #[.int .i64 ct.kind, .bool ct.bool, .int .i64 ct.int, .string ct.str, .slice qa3 ct.list.length qc3, .slice qm3 ct.map.length qn3] 25)) w4 := by rw [hwz]; exact Below.refl _ _
  rw [← hwz]
  clear hwz
  have HD4 := Lib.hid (show Below w3.heap.size w3 w4 from Below.next (Below.new _ _) hb)
  have L4_0 := Lib.hid (L3_0.out.keep HD4.out)
  have L4_1 := Lib.hid (L3_1.out.keep HD4.out)
  have L4_2 := Lib.hid (L3_2.out.keep HD4.out)
  have L4_3 := Lib.hid (L3_3.out.keep HD4.out)
  have L4_4 := Lib.hid ((Blk.new w3 25 #[.int .i64 ct.kind, .bool ct.bool, .int .i64 ct.int, .string ct.str, .slice qa3 ct.list.length qc3, .slice qm3 ct.map.length qn3]).keep hb)
  have V4_a := Lib.hid (V3_a.out.keep HD4.out)
  have V4_b := Lib.hid (V3_b.out.keep HD4.out)
  have V4_c := Lib.hid (V3_c.out.keep HD4.out)
  have V4_ct1 := Lib.hid (V3_ct1.out.keep HD4.out)
  have V4_ct2 := Lib.hid (N3.out.keep HD4.out)
  have HW4 := Lib.hid (Below.next HW3.out HD4.out)
  clear k3_0 l3_0 k3_1 l3_1 k3_2 l3_2 k3_3 l3_3 hb HD4 L3_0 L3_1 L3_2 L3_3 V3_a V3_b V3_c V3_ct1 N3 HW3
  have k4_0 := L4_0.out.cell
  have l4_0 := L4_0.out.lt
  have k4_1 := L4_1.out.cell
  have l4_1 := L4_1.out.lt
  have k4_2 := L4_2.out.cell
  have l4_2 := L4_2.out.lt
  have k4_3 := L4_3.out.cell
  have l4_3 := L4_3.out.lt
  have k4_4 := L4_4.out.cell
  have l4_4 := L4_4.out.lt
  go_wp2_with fail
  have HA := V4_a; have HB := V4_b; have HC := V4_c; have H1 := V4_ct1; have H2 := V4_ct2; have HWc := HW4
  clear k4_0 k4_1 k4_2 k4_3 k4_4
  have LB0 := L4_0
  have LB1 := L4_1
  have LB2 := L4_2
  have LB3 := L4_3
  have LB4 := L4_4
  have q_0 := LB0.out.cell; have q_1 := LB1.out.cell; have q_2 := LB2.out.cell; have q_3 := LB3.out.cell; have q_4 := LB4.out.cell
  clear V4_a V4_b V4_c V4_ct1 V4_ct2 HW4 L4_0 L4_1 L4_2 L4_3 L4_4
  have tok1 : True := trivial
  go_region_held3 (fun w' => (∀ i, w'.cell? ⟨w.heap.size, i, none⟩ = (#[.int .i64 a.kind, .bool a.bool, .int .i64 a.int, .string a.str, .slice la a.list.length lc, .slice ma a.map.length mc] : Array Value)[i]?) ∧ (∀ i, w'.cell? ⟨w.heap.size + 1, i, none⟩ = (#[.int .i64 b.kind, .bool b.bool, .int .i64 b.int, .string b.str, .slice la2 b.list.length lc2, .slice ma2 b.map.length mc2] : Array Value)[i]?) ∧ (∀ i, w'.cell? ⟨w.heap.size + 1 + 1, i, none⟩ = (#[.int .i64 c.kind, .bool c.bool, .int .i64 c.int, .string c.str, .slice la3 c.list.length lc3, .slice ma3 c.map.length mc3] : Array Value)[i]?) ∧ (∀ i, w'.cell? ⟨w2.heap.size, i, none⟩ = (#[.int .i64 ct.kind, .bool ct.bool, .int .i64 ct.int, .string ct.str, .slice qa2 ct.list.length qc2, .slice qm2 ct.map.length qn2] : Array Value)[i]?) ∧ (∀ i, w'.cell? ⟨w3.heap.size, i, none⟩ = (#[.int .i64 ct.kind, .bool ct.bool, .int .i64 ct.int, .string ct.str, .slice qa3 ct.list.length qc3, .slice qm3 ct.map.length qn3] : Array Value)[i]?)) (first | (with_reducible exact ⟨q_0, q_1, q_2, q_3, q_4⟩) | (refine ⟨fun i => ?_, fun i => ?_, fun i => ?_, fun i => ?_, fun i => ?_⟩ <;> (simp only [cell_drew]; first | (with_reducible exact q_0 i) | (with_reducible exact q_1 i) | (with_reducible exact q_2 i) | (with_reducible exact q_3 i) | (with_reducible exact q_4 i)))) (first
      | (go_at_call 81; refine at_world HWc (by first | (with_reducible exact Below.refl _ _) | (with_reducible exact (Below.refl _ _).drew) | (with_reducible exact Below.new _ _) | (with_reducible exact (Below.new _ _).drew) | (with_reducible exact (Below.new _ _).alloc (by simp) _) | (with_reducible exact ((Below.new _ _).alloc (by simp) _).drew)) (fun HBW => ?_); ((with_reducible refine (CM.out _ _ _ _ (HA.out.keep HBW) (HB.out.keep HBW) (HC.out.keep HBW)).mono ?_); rintro e wn1 ⟨v1, rfl, hr, hb⟩; obtain ⟨qa1, qc1, qm1, qn1, rfl, -⟩ := hr.inv; have HBN := Below.next HBW hb; replace HA := Lib.hid (HA.out.keep (HBN)); replace HB := Lib.hid (HB.out.keep (HBN)); replace HC := Lib.hid (HC.out.keep (HBN)); replace H1 := Lib.hid (H1.out.keep (HBN)); replace H2 := Lib.hid (H2.out.keep (HBN)); (try replace NM := Lib.hid (NM.out.keep (HBN))); (try replace NN := Lib.hid (NN.out.keep (HBN))); replace LB0 := Lib.hid (LB0.out.keep (HBN)); replace LB1 := Lib.hid (LB1.out.keep (HBN)); replace LB2 := Lib.hid (LB2.out.keep (HBN)); replace LB3 := Lib.hid (LB3.out.keep (HBN)); replace LB4 := Lib.hid (LB4.out.keep (HBN)); replace HWc := Lib.hid (Below.next HWc.out (HBN)); clear q_0; have q_0 := LB0.out.cell; clear q_1; have q_1 := LB1.out.cell; clear q_2; have q_2 := LB2.out.cell; clear q_3; have q_3 := LB3.out.cell; clear q_4; have q_4 := LB4.out.cell; have NM := Lib.hid hr.any; clear hr hb HBW HBN))
      | (go_at_call 82; refine at_world HWc (by first | (with_reducible exact Below.refl _ _) | (with_reducible exact (Below.refl _ _).drew) | (with_reducible exact Below.new _ _) | (with_reducible exact (Below.new _ _).drew) | (with_reducible exact (Below.new _ _).alloc (by simp) _) | (with_reducible exact ((Below.new _ _).alloc (by simp) _).drew)) (fun HBW => ?_); ((with_reducible refine (CN.out _ _ _ _ (HA.out.keep HBW) (HB.out.keep HBW) (HC.out.keep HBW)).mono ?_); rintro e wn2 ⟨v2, rfl, hr, hb⟩; obtain ⟨qa2, qc2, qm2, qn2, rfl, -⟩ := hr.inv; have HBN := Below.next HBW hb; replace HA := Lib.hid (HA.out.keep (HBN)); replace HB := Lib.hid (HB.out.keep (HBN)); replace HC := Lib.hid (HC.out.keep (HBN)); replace H1 := Lib.hid (H1.out.keep (HBN)); replace H2 := Lib.hid (H2.out.keep (HBN)); (try replace NM := Lib.hid (NM.out.keep (HBN))); (try replace NN := Lib.hid (NN.out.keep (HBN))); replace LB0 := Lib.hid (LB0.out.keep (HBN)); replace LB1 := Lib.hid (LB1.out.keep (HBN)); replace LB2 := Lib.hid (LB2.out.keep (HBN)); replace LB3 := Lib.hid (LB3.out.keep (HBN)); replace LB4 := Lib.hid (LB4.out.keep (HBN)); replace HWc := Lib.hid (Below.next HWc.out (HBN)); clear q_0; have q_0 := LB0.out.cell; clear q_1; have q_1 := LB1.out.cell; clear q_2; have q_2 := LB2.out.cell; clear q_3; have q_3 := LB3.out.cell; clear q_4; have q_4 := LB4.out.cell; have NN := Lib.hid hr.any; clear hr hb HBW HBN))
      | (go_at_call 28; refine at_world HWc (by first | (with_reducible exact Below.refl _ _) | (with_reducible exact (Below.refl _ _).drew) | (with_reducible exact Below.new _ _) | (with_reducible exact (Below.new _ _).drew) | (with_reducible exact (Below.new _ _).alloc (by simp) _) | (with_reducible exact ((Below.new _ _).alloc (by simp) _).drew)) (fun HBW => ?_); first | (have _t := tok1; clear tok1 _t; (with_reducible refine (CS.out mt _ _ _ (NM.out.keep HBW) (NN.out.keep HBW)).mono ?_); rintro e wn3 ⟨rfl, hb⟩; have HBN := Below.next HBW hb; replace HA := Lib.hid (HA.out.keep (HBN)); replace HB := Lib.hid (HB.out.keep (HBN)); replace HC := Lib.hid (HC.out.keep (HBN)); replace H1 := Lib.hid (H1.out.keep (HBN)); replace H2 := Lib.hid (H2.out.keep (HBN)); (try replace NM := Lib.hid (NM.out.keep (HBN))); (try replace NN := Lib.hid (NN.out.keep (HBN))); replace LB0 := Lib.hid (LB0.out.keep (HBN)); replace LB1 := Lib.hid (LB1.out.keep (HBN)); replace LB2 := Lib.hid (LB2.out.keep (HBN)); replace LB3 := Lib.hid (LB3.out.keep (HBN)); replace LB4 := Lib.hid (LB4.out.keep (HBN)); replace HWc := Lib.hid (Below.next HWc.out (HBN)); clear q_0; have q_0 := LB0.out.cell; clear q_1; have q_1 := LB1.out.cell; clear q_2; have q_2 := LB2.out.cell; clear q_3; have q_3 := LB3.out.cell; clear q_4; have q_4 := LB4.out.cell; clear hb HBW HBN; clear NM NN) | ((with_reducible refine (CS.out ct _ _ _ (H2.out.keep HBW) (H1.out.keep HBW)).mono ?_); rintro e wn4 ⟨rfl, hb⟩; have HBN := Below.next HBW hb; replace HA := Lib.hid (HA.out.keep (HBN)); replace HB := Lib.hid (HB.out.keep (HBN)); replace HC := Lib.hid (HC.out.keep (HBN)); replace H1 := Lib.hid (H1.out.keep (HBN)); replace H2 := Lib.hid (H2.out.keep (HBN)); (try replace NM := Lib.hid (NM.out.keep (HBN))); (try replace NN := Lib.hid (NN.out.keep (HBN))); replace LB0 := Lib.hid (LB0.out.keep (HBN)); replace LB1 := Lib.hid (LB1.out.keep (HBN)); replace LB2 := Lib.hid (LB2.out.keep (HBN)); replace LB3 := Lib.hid (LB3.out.keep (HBN)); replace LB4 := Lib.hid (LB4.out.keep (HBN)); replace HWc := Lib.hid (Below.next HWc.out (HBN)); clear q_0; have q_0 := LB0.out.cell; clear q_1; have q_1 := LB1.out.cell; clear q_2; have q_2 := LB2.out.cell; clear q_3; have q_3 := LB3.out.cell; clear q_4; have q_4 := LB4.out.cell; clear hb HBW HBN)))
  clear CM CN CC CR
  have HW5 := HWc; clear HWc q_0 q_1 q_2 q_3 q_4
  have k5_0 := LB0.out.cell; have l5_0 := LB0.out.lt
  have k5_1 := LB1.out.cell; have l5_1 := LB1.out.lt
  have k5_2 := LB2.out.cell; have l5_2 := LB2.out.lt
  go_wp2_with fail
  refine (CD.out _ _ _ (HB.out) (HC.out)).mono ?_
  rintro e w6 ⟨dA, dc, rfl, hrep, hb⟩
  have HDR := Lib.hid hrep; clear hrep
  have HD6 := Lib.hid (show Below wn4.heap.size wn4 w6 from hb)
  have L6_0 := Lib.hid (LB0.out.keep HD6.out)
  have L6_1 := Lib.hid (LB1.out.keep HD6.out)
  have L6_2 := Lib.hid (LB2.out.keep HD6.out)
  have V6_b := Lib.hid (HB.out.keep HD6.out)
  have V6_c := Lib.hid (HC.out.keep HD6.out)
  have HW6 := Lib.hid (Below.next HW5.out HD6.out)
  clear k5_0 l5_0 k5_1 l5_1 k5_2 l5_2 hb HD6 LB0 LB1 LB2 HB HC HW5
  have k6_0 := L6_0.out.cell
  have l6_0 := L6_0.out.lt
  have k6_1 := L6_1.out.cell
  have l6_1 := L6_1.out.lt
  have k6_2 := L6_2.out.cell
  have l6_2 := L6_2.out.lt
  go_wp2_with fail
  refine (CL.out _ _ (V6_c.out)).mono ?_
  rintro e w7 ⟨rA, rc, rfl, hrep, hlc, hcm, hb⟩
  have HRL := Lib.hid (hrep.weak (S' := fun _ => True) (fun _ _ _ => trivial)); clear hrep
  have HD7 := Lib.hid (show Below w6.heap.size w6 w7 from hb)
  have L7_0 := Lib.hid (L6_0.out.keep HD7.out)
  have L7_1 := Lib.hid (L6_1.out.keep HD7.out)
  have L7_2 := Lib.hid (L6_2.out.keep HD7.out)
  have V7_b := Lib.hid (V6_b.out.keep HD7.out)
  have V7_c := Lib.hid (V6_c.out.keep HD7.out)
  have V7_D := Lib.hid (HDR.out.keep HD7.out)
  have HW7 := Lib.hid (Below.next HW6.out HD7.out)
  clear k6_0 l6_0 k6_1 l6_1 k6_2 l6_2 hb HD7 L6_0 L6_1 L6_2 V6_b V6_c HDR HW6
  have k7_0 := L7_0.out.cell
  have l7_0 := L7_0.out.lt
  have k7_1 := L7_1.out.cell
  have l7_1 := L7_1.out.lt
  have k7_2 := L7_2.out.cell
  have l7_2 := L7_2.out.lt
  go_wp2_with fail
  clear CL CD
  generalize c.leaves = L at *
  have hdl0 := drift_len b L L.length
  rw [List.take_length] at hdl0
  go_loopw [11, 61] (fun x11 x wr => ∃ q : Nat, q ≤ L.length ∧ x11 = .int .i64 (driftT b (L.take q)).length ∧ x = .int .i64 q ∧ Below w7.heap.size w7 wr) (fun _ x _ => L.length - (intOf x).toNat)
  case atStart => exact ⟨0, Nat.zero_le _, rfl, rfl, Below.refl _ _⟩
  case round =>
    obtain ⟨q, hq, rfl, rfl, hbl⟩ := hrel
    have L8_0 := Lib.hid (L7_0.out.keep hbl)
    have L8_1 := Lib.hid (L7_1.out.keep hbl)
    have L8_2 := Lib.hid (L7_2.out.keep hbl)
    have V8_b := Lib.hid (V7_b.out.keep hbl)
    have V8_c := Lib.hid (V7_c.out.keep hbl)
    have V8_D := Lib.hid (V7_D.out.keep hbl)
    have V8_R := Lib.hid (HRL.out.keep hbl)
    have HW8 := Lib.hid (Below.next HW7.out hbl)
    have BL8 := Lib.hid hbl
    clear k7_0 l7_0 k7_1 l7_1 k7_2 l7_2 hbl
    have k8_0 := L8_0.out.cell; have l8_0 := L8_0.out.lt
    have k8_1 := L8_1.out.cell; have l8_1 := L8_1.out.lt
    have k8_2 := L8_2.out.cell; have l8_2 := L8_2.out.lt
    have hdq := drift_len b L q
    by_cases hlt : q < L.length
    case pos =>
      have HB0 := Lib.hid (Below.refl wr.heap.size wr)
      obtain ⟨b5, o5, sy, syc, ya, yc, ym, yn, rfl, hby, ⟨y0, y1, y2, y3, y4, y5, y6⟩, hys1, hys2, hys, hyr⟩ := leaf_at V8_R.out hlt
      have gq1 : (0 : Int) ≤ (q : Int) := by omega
      have gq2 : (q : Int) < (L.length : Int) := by omega
      have VY := Lib.hid (hys.weak (S' := fun _ => True) (fun _ _ => trivial)); have VZ := Lib.hid hyr.any; clear hys hyr
      have hml := HLV.out q hlt
      have HAT := Lib.hid (fun h => drift_at (v := b) hlt h)
      have HDT := Lib.hid (drift_take (v := b) hlt)
      obtain ⟨bg, hbg⟩ : ∃ r, (getP L[q].1 b).isSome = r := ⟨_, rfl⟩
      obtain ⟨tg, htg⟩ : ∃ r, (getP L[q].1 b).getD T.zero = r := ⟨_, rfl⟩
      have HHQ := Lib.hid (show (heldT b L[q] = true → bg = true ∧ tg = L[q].2) ∧ (heldT b L[q] = false → bg = true → tg ≠ L[q].2) from ⟨fun h => by have e := (HHI.out q hlt).1 h; rw [← hbg, ← htg, e]; exact ⟨rfl, rfl⟩, fun h hb he => by
        have e : getP L[q].1 b = some L[q].2 := by rw [← hbg] at hb; rw [← htg] at he; cases eg : getP L[q].1 b with
          | none => rw [eg] at hb; cases hb
          | some y => rw [eg] at he; rw [← he]; rfl
        rw [(HHI.out q hlt).2 e] at h; cases h⟩)
      have CG := Lib.hid (fun w2 c0 (h1 : RepT w2 (fun _ => True) c0 b) (h2 : RepS w2 (fun _ => True) sy L[q].1) => show Calls Try.prog 46 #[c0, .slice sy L[q].1.length syc] w2 (GotRS (fun _ => True) w2 bg tg) from by have := rpget L[q].1 b HBN2.out sy syc c0 w2 _ h1 h2 (by omega); rw [hbg, htg] at this; exact this)
      clear hbg htg
      generalize heldT b L[q] = hd at *
      generalize L[q].1 = m at *
      generalize L[q].2 = z at *
      go_wp2_with fail
      refine (CG.out _ _ (V8_b.out.keep (by exact Below.new _ _)) (VY.out.keep (by exact Below.new _ _))).mono ?_
      rintro e w9 ⟨v9, rfl, hr, hb⟩
      obtain ⟨qa9, qc9, qm9, qn9, rfl, -⟩ := hr.inv
      have N9 := Lib.hid (hr.any)
      clear hr
      have HD9 := Lib.hid (show Below wr.heap.size wr w9 from Below.next (Below.new _ _) hb)
      have L9_0 := Lib.hid (L8_0.out.keep HD9.out)
      have L9_1 := Lib.hid (L8_1.out.keep HD9.out)
      have L9_2 := Lib.hid (L8_2.out.keep HD9.out)
      have L9_3 := Lib.hid ((Blk.new wr 60 #[.slice sy m.length syc, .int .i64 z.kind, .bool z.bool, .int .i64 z.int, .string z.str, .slice ya z.list.length yc, .slice ym z.map.length yn]).keep hb)
      have V9_b := Lib.hid (V8_b.out.keep HD9.out)
      have V9_c := Lib.hid (V8_c.out.keep HD9.out)
      have V9_D := Lib.hid (V8_D.out.keep HD9.out)
      have V9_R := Lib.hid (V8_R.out.keep HD9.out)
      have V9_Y := Lib.hid (VY.out.keep HD9.out)
      have V9_z2 := Lib.hid (VZ.out.keep HD9.out)
      have B9_0 := Lib.hid (Below.next BL8.out HD9.out)
      have B9_1 := Lib.hid (Below.next HB0.out HD9.out)
      have HW9 := Lib.hid (Below.next HW8.out HD9.out)
      clear k8_0 l8_0 k8_1 l8_1 k8_2 l8_2 hb HD9 L8_0 L8_1 L8_2 V8_b V8_c V8_D V8_R VY VZ BL8 HB0 HW8
      have k9_0 := L9_0.out.cell
      have l9_0 := L9_0.out.lt
      have k9_1 := L9_1.out.cell
      have l9_1 := L9_1.out.lt
      have k9_2 := L9_2.out.cell
      have l9_2 := L9_2.out.lt
      have k9_3 := L9_3.out.cell
      have l9_3 := L9_3.out.lt
      cases hd
      case true =>
        obtain ⟨rfl, e2⟩ := HHQ.out.1 rfl
        have CSZ := Lib.hid (fun w2 v2 v3 h h2 => rsame_true e2 w2 (fun _ => True) (fun _ => True) v2 v3 h h2); clear e2 HAT
        have HDN := Lib.hid (show driftT b (L.take (q + 1)) = driftT b (L.take q) from by have h := HDT.out; simpa using h)
        go_wp2_with fail
        refine (CSZ.out _ _ _ (N9.out.keep (by exact Below.new _ _)) (V9_z2.out.keep (by exact Below.new _ _))).mono ?_
        rintro e w10 ⟨rfl, hb⟩
        have HD10 := Lib.hid (show Below w9.heap.size w9 w10 from Below.next (Below.new _ _) hb)
        have L10_0 := Lib.hid (L9_0.out.keep HD10.out)
        have L10_1 := Lib.hid (L9_1.out.keep HD10.out)
        have L10_2 := Lib.hid (L9_2.out.keep HD10.out)
        have L10_3 := Lib.hid (L9_3.out.keep HD10.out)
        have L10_4 := Lib.hid ((Blk.new w9 25 #[.int .i64 tg.kind, .bool tg.bool, .int .i64 tg.int, .string tg.str, .slice qa9 tg.list.length qc9, .slice qm9 tg.map.length qn9]).keep hb)
        have V10_b := Lib.hid (V9_b.out.keep HD10.out)
        have V10_c := Lib.hid (V9_c.out.keep HD10.out)
        have V10_D := Lib.hid (V9_D.out.keep HD10.out)
        have V10_R := Lib.hid (V9_R.out.keep HD10.out)
        have V10_Y := Lib.hid (V9_Y.out.keep HD10.out)
        have V10_z2 := Lib.hid (V9_z2.out.keep HD10.out)
        have V10_tg := Lib.hid (N9.out.keep HD10.out)
        have B10_0 := Lib.hid (Below.next B9_0.out HD10.out)
        have B10_1 := Lib.hid (Below.next B9_1.out HD10.out)
        have HW10 := Lib.hid (Below.next HW9.out HD10.out)
        clear k9_0 l9_0 k9_1 l9_1 k9_2 l9_2 k9_3 l9_3 hb HD10 L9_0 L9_1 L9_2 L9_3 V9_b V9_c V9_D V9_R V9_Y V9_z2 N9 B9_0 B9_1 HW9
        have k10_0 := L10_0.out.cell
        have l10_0 := L10_0.out.lt
        have k10_1 := L10_1.out.cell
        have l10_1 := L10_1.out.lt
        have k10_2 := L10_2.out.cell
        have l10_2 := L10_2.out.lt
        have k10_3 := L10_3.out.cell
        have l10_3 := L10_3.out.lt
        have k10_4 := L10_4.out.cell
        have l10_4 := L10_4.out.lt
        go_wp2_with fail
        go_roundw
        case rel => exact ⟨q + 1, by omega, by rw [HDN.out], by go_num, B10_0.out⟩
        case measure => simp [intOf]; omega
      obtain ⟨hin, hat⟩ := HAT.out rfl
      have HDN := Lib.hid (show driftT b (L.take (q + 1)) = driftT b (L.take q) ++ [m] from by have h := HDT.out; simpa using h)
      obtain ⟨bd, od, sd, sdc, hdA, hbd, hcd, hs1, hs2, hsr⟩ := repK_at V9_D.out hin
      have HB1 := Lib.hid (Below.refl w9.heap.size w9)
      rw [hat] at hcd hsr hs1
      subst hdA
      have gn0 : (0 : Int) ≤ ((driftT b (L.take q)).length : Int) := by omega
      have gn1 : ((driftT b (L.take q)).length : Int) < ((driftT b L).length : Int) := by omega
      have gn2 : ¬ ((driftT b L).length : Int) ≤ ((driftT b (L.take q)).length : Int) := by omega
      have VD := Lib.hid hsr; clear hsr hat
      have CB := Lib.hid (fun w2 (h1 : RepS w2 (fun _ => True) sd m) (h2 : RepS w2 (fun _ => True) sy m) => show Calls Try.prog 84 #[.slice sd m.length sdc, .slice sy m.length syc] w2 (fun e w' => e = .returned (.bool true) ∧ Below w2.heap.size w2 w') from by have := rbegins m m sd sy sdc syc w2 h1 h2 (by omega); rw [begins_self] at this; exact this)
      obtain ⟨dn, hdn⟩ : ∃ d, d = (driftT b (L.take q)).length := ⟨_, rfl⟩
      obtain ⟨dl, hdl⟩ : ∃ d, d = (driftT b L).length := ⟨_, rfl⟩
      have hdn2 : dn ≤ 6000 := by omega
      have HD1 := Lib.hid (show (driftT b (L.take (q + 1))).length = dn + 1 from by rw [HDN.out, List.length_append, hdn]; rfl)
      have hnop : True := trivial
      have gl : ((m.length : Int) != (m.length : Int)) = false := by simp
      rw [← hdn] at hcd gn0 gn1 gn2
      rw [← hdl] at gn1 gn2
      have HDS := Lib.hid hdn; have HDL := Lib.hid hdl
      have gn3 : decide ((dl : Int) ≤ (dn : Int)) = false := decide_eq_false gn2
      have gn4 : decide (dl ≤ dn) = false := decide_eq_false (by omega)
      have gn5 : ¬ dl ≤ dn := by omega
      have gn6 : dn < dl := by omega
      simp only [← hdn, ← hdl]
      clear hin hdn hdl HAT HDT hdq
      cases bg
      · clear HHQ
        go_wp2_with fail
        obtain ⟨w10, hwz⟩ : ∃ x, x = (w9.alloc (.cells #[.int .i64 tg.kind, .bool tg.bool, .int .i64 tg.int, .string tg.str, .slice qa9 tg.list.length qc9, .slice qm9 tg.map.length qn9] 25)) := ⟨_, rfl⟩
        have hb : Below (w9.alloc (.cells #[.int .i64 tg.kind, .bool tg.bool, .int .i64 tg.int, .string tg.str, .slice qa9 tg.list.length qc9, .slice qm9 tg.map.length qn9] 25)).heap.size (w9.alloc (.cells #[.int .i64 tg.kind, .bool tg.bool, .int .i64 tg.int, .string tg.str, .slice qa9 tg.list.length qc9, .slice qm9 tg.map.length qn9] 25)) w10 := by rw [hwz]; exact Below.refl _ _
        rw [← hwz]
        clear hwz
        have HD10 := Lib.hid (show Below w9.heap.size w9 w10 from Below.next (Below.new _ _) hb)
        have L10_0 := Lib.hid (L9_0.out.keep HD10.out)
        have L10_1 := Lib.hid (L9_1.out.keep HD10.out)
        have L10_2 := Lib.hid (L9_2.out.keep HD10.out)
        have L10_3 := Lib.hid (L9_3.out.keep HD10.out)
        have L10_4 := Lib.hid ((Blk.new w9 25 #[.int .i64 tg.kind, .bool tg.bool, .int .i64 tg.int, .string tg.str, .slice qa9 tg.list.length qc9, .slice qm9 tg.map.length qn9]).keep hb)
        have V10_b := Lib.hid (V9_b.out.keep HD10.out)
        have V10_c := Lib.hid (V9_c.out.keep HD10.out)
        have V10_D := Lib.hid (V9_D.out.keep HD10.out)
        have V10_R := Lib.hid (V9_R.out.keep HD10.out)
        have V10_Y := Lib.hid (V9_Y.out.keep HD10.out)
        have V10_z2 := Lib.hid (V9_z2.out.keep HD10.out)
        have V10_tg := Lib.hid (N9.out.keep HD10.out)
        have V10_SD := Lib.hid (VD.out.keep HD10.out)
        have B10_0 := Lib.hid (Below.next B9_0.out HD10.out)
        have B10_1 := Lib.hid (Below.next B9_1.out HD10.out)
        have B10_2 := Lib.hid (Below.next HB1.out HD10.out)
        have HW10 := Lib.hid (Below.next HW9.out HD10.out)
        clear k9_0 l9_0 k9_1 l9_1 k9_2 l9_2 k9_3 l9_3 hb HD10 L9_0 L9_1 L9_2 L9_3 V9_b V9_c V9_D V9_R V9_Y V9_z2 N9 VD B9_0 B9_1 HB1 HW9
        have k10_0 := L10_0.out.cell
        have l10_0 := L10_0.out.lt
        have k10_1 := L10_1.out.cell
        have l10_1 := L10_1.out.lt
        have k10_2 := L10_2.out.cell
        have l10_2 := L10_2.out.lt
        have k10_3 := L10_3.out.cell
        have l10_3 := L10_3.out.lt
        have k10_4 := L10_4.out.cell
        have l10_4 := L10_4.out.lt
        have HSD := V10_SD; have HSY := V10_Y; have HWc := B10_0
        have hcd2 := (B10_2.out.cell (p := ⟨bd, od + dn, none⟩) hbd).trans hcd; have hbd2 := Nat.lt_of_lt_of_le hbd B10_2.out.size
        clear k10_0 k10_1 k10_2 k10_3 k10_4 hcd
        have LB0 := L10_3
        have q_0 := LB0.out.cell
        have q_1 := hcd2; have hr_0 := hbd2
        go_region_held3 (fun w' => (∀ i, w'.cell? ⟨wr.heap.size, i, none⟩ = (#[.slice sy m.length syc, .int .i64 z.kind, .bool z.bool, .int .i64 z.int, .string z.str, .slice ya z.list.length yc, .slice ym z.map.length yn] : Array Value)[i]?) ∧ w'.cell? ⟨bd, od + dn, none⟩ = some (.slice sd m.length sdc)) (first | (with_reducible exact ⟨q_0, q_1⟩) | (refine ⟨fun i => ?_, ?_⟩ <;> (simp only [cell_drew]; first | (with_reducible exact q_0 i) | (with_reducible exact q_1)))) (first
            | (go_at_call 84; refine at_world HWc (by first | (with_reducible exact Below.refl _ _) | (with_reducible exact (Below.refl _ _).drew) | (with_reducible exact Below.new _ _) | (with_reducible exact (Below.new _ _).drew) | (with_reducible exact (Below.new _ _).alloc (by simp) _) | (with_reducible exact ((Below.new _ _).alloc (by simp) _).drew)) (fun HBW => ?_); ((with_reducible refine (CB.out _ (HSD.out.keep HBW) (HSY.out.keep HBW)).mono ?_); rintro e wn1 ⟨rfl, hb⟩; have HBN := Below.next HBW hb; replace HSD := Lib.hid (HSD.out.keep (HBN)); replace HSY := Lib.hid (HSY.out.keep (HBN)); replace LB0 := Lib.hid (LB0.out.keep (HBN)); replace HWc := Lib.hid (Below.next HWc.out (HBN)); clear q_0; have q_0 := LB0.out.cell; replace q_1 := (HBN.cell (p := ⟨bd, od + dn, none⟩) hr_0).trans q_1; replace hr_0 := Nat.lt_of_lt_of_le hr_0 HBN.size; clear hb HBW HBN)))
        all_goals
          have hdl2 := HDL.out; subst hdl2
          go_wp2_with fail
          go_roundw
          case rel => exact ⟨q + 1, by omega, by rw [HD1.out]; go_num, by go_num, HWc.out⟩
          case measure => simp [intOf]; omega
      · have CSZ := Lib.hid (fun w2 v2 v3 h h2 => rsame_false (HHQ.out.2 rfl rfl) w2 (fun _ => True) (fun _ => True) v2 v3 h h2)
        clear HHQ
        go_wp2_with fail
        refine (CSZ.out _ _ _ (N9.out.keep (by exact Below.new _ _)) (V9_z2.out.keep (by exact Below.new _ _))).mono ?_
        rintro e w10 ⟨rfl, hb⟩
        have HD10 := Lib.hid (show Below w9.heap.size w9 w10 from Below.next (Below.new _ _) hb)
        have L10_0 := Lib.hid (L9_0.out.keep HD10.out)
        have L10_1 := Lib.hid (L9_1.out.keep HD10.out)
        have L10_2 := Lib.hid (L9_2.out.keep HD10.out)
        have L10_3 := Lib.hid (L9_3.out.keep HD10.out)
        have L10_4 := Lib.hid ((Blk.new w9 25 #[.int .i64 tg.kind, .bool tg.bool, .int .i64 tg.int, .string tg.str, .slice qa9 tg.list.length qc9, .slice qm9 tg.map.length qn9]).keep hb)
        have V10_b := Lib.hid (V9_b.out.keep HD10.out)
        have V10_c := Lib.hid (V9_c.out.keep HD10.out)
        have V10_D := Lib.hid (V9_D.out.keep HD10.out)
        have V10_R := Lib.hid (V9_R.out.keep HD10.out)
        have V10_Y := Lib.hid (V9_Y.out.keep HD10.out)
        have V10_z2 := Lib.hid (V9_z2.out.keep HD10.out)
        have V10_tg := Lib.hid (N9.out.keep HD10.out)
        have V10_SD := Lib.hid (VD.out.keep HD10.out)
        have B10_0 := Lib.hid (Below.next B9_0.out HD10.out)
        have B10_1 := Lib.hid (Below.next B9_1.out HD10.out)
        have B10_2 := Lib.hid (Below.next HB1.out HD10.out)
        have HW10 := Lib.hid (Below.next HW9.out HD10.out)
        clear k9_0 l9_0 k9_1 l9_1 k9_2 l9_2 k9_3 l9_3 hb HD10 L9_0 L9_1 L9_2 L9_3 V9_b V9_c V9_D V9_R V9_Y V9_z2 N9 VD B9_0 B9_1 HB1 HW9
        have k10_0 := L10_0.out.cell
        have l10_0 := L10_0.out.lt
        have k10_1 := L10_1.out.cell
        have l10_1 := L10_1.out.lt
        have k10_2 := L10_2.out.cell
        have l10_2 := L10_2.out.lt
        have k10_3 := L10_3.out.cell
        have l10_3 := L10_3.out.lt
        have k10_4 := L10_4.out.cell
        have l10_4 := L10_4.out.lt
        go_upto_region 14 with fail
        have HSD := V10_SD; have HSY := V10_Y; have HWc := B10_0
        have hcd2 := (B10_2.out.cell (p := ⟨bd, od + dn, none⟩) hbd).trans hcd; have hbd2 := Nat.lt_of_lt_of_le hbd B10_2.out.size
        clear k10_0 k10_1 k10_2 k10_3 k10_4 hcd
        have LB0 := L10_3
        have q_0 := LB0.out.cell
        have q_1 := hcd2; have hr_0 := hbd2
        go_region_held3 (fun w' => (∀ i, w'.cell? ⟨wr.heap.size, i, none⟩ = (#[.slice sy m.length syc, .int .i64 z.kind, .bool z.bool, .int .i64 z.int, .string z.str, .slice ya z.list.length yc, .slice ym z.map.length yn] : Array Value)[i]?) ∧ w'.cell? ⟨bd, od + dn, none⟩ = some (.slice sd m.length sdc)) (first | (with_reducible exact ⟨q_0, q_1⟩) | (refine ⟨fun i => ?_, ?_⟩ <;> (simp only [cell_drew]; first | (with_reducible exact q_0 i) | (with_reducible exact q_1)))) (first
            | (go_at_call 84; refine at_world HWc (by first | (with_reducible exact Below.refl _ _) | (with_reducible exact (Below.refl _ _).drew) | (with_reducible exact Below.new _ _) | (with_reducible exact (Below.new _ _).drew) | (with_reducible exact (Below.new _ _).alloc (by simp) _) | (with_reducible exact ((Below.new _ _).alloc (by simp) _).drew)) (fun HBW => ?_); ((with_reducible refine (CB.out _ (HSD.out.keep HBW) (HSY.out.keep HBW)).mono ?_); rintro e wn1 ⟨rfl, hb⟩; have HBN := Below.next HBW hb; replace HSD := Lib.hid (HSD.out.keep (HBN)); replace HSY := Lib.hid (HSY.out.keep (HBN)); replace LB0 := Lib.hid (LB0.out.keep (HBN)); replace HWc := Lib.hid (Below.next HWc.out (HBN)); clear q_0; have q_0 := LB0.out.cell; replace q_1 := (HBN.cell (p := ⟨bd, od + dn, none⟩) hr_0).trans q_1; replace hr_0 := Nat.lt_of_lt_of_le hr_0 HBN.size; clear hb HBW HBN)))
        all_goals
          have hdl2 := HDL.out; subst hdl2
          go_wp2_with fail
          go_roundw
          case rel => exact ⟨q + 1, by omega, by rw [HD1.out]; go_num, by go_num, HWc.out⟩
          case measure => simp [intOf]; omega
    case neg =>
      obtain rfl : q = L.length := by omega
      have e9 : (driftT b (L.take L.length)).length = (driftT b L).length := by rw [List.take_length]
      obtain ⟨hv, hhv⟩ : ∃ z, decide (driftT b L = []) = z := ⟨_, rfl⟩
      have gz : (((driftT b (L.take L.length)).length : Int) == 0) = hv := by rw [← hhv, e9]; cases driftT b L with
      | nil => rfl
      | cons x l => exact (beq_eq_false_iff_ne.2 (by simp; omega)).trans (decide_eq_false (by simp)).symm
      have gnl : (((driftT b (L.take L.length)).length : Int) == ((driftT b L).length : Int)) = true := by rw [e9]; simp
      have ghv : (hv == hv) = true := by simp
      rw [hhv] at CH
      clear hhv e9 hdq hdl0 hlt
      generalize (driftT b (L.take L.length)).length = dn at *
      generalize (driftT b L).length = dl at *
      go_wp2_with fail
      refine (awake14 _).mono ?_
      rintro e w9 ⟨rfl, hb9⟩
      have VB9 := Lib.hid (V8_b.out.keep hb9); have VC9 := Lib.hid (V8_c.out.keep hb9)
      have kb9 := (L8_1.out.keep hb9).cell; have lb9 := (L8_1.out.keep hb9).lt; have kc9 := (L8_2.out.keep hb9).cell; have lc9 := (L8_2.out.keep hb9).lt
      have HB9 := Lib.hid (Below.next HW8.out hb9); clear hb9 k8_0 l8_0 k8_1 l8_1 k8_2 l8_2
      go_wp2_with fail
      refine (CH.out _ _ _ VB9.out VC9.out).mono ?_
      rintro e w10 ⟨rfl, hb10⟩
      go_wp2_with fail
      go_ret
      exact ⟨rfl, Below.next HB9.out hb10⟩

end Go.Proofs.Ytmdihildjblgnaa
