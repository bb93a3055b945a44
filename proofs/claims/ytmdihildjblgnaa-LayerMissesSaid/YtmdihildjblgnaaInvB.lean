/- Several texts as one. -/
import Derived.Test.YtmdihildjblgnaaRep
import Derived.Deep.RegionHeld3
import Derived.Test.YtmdihildjblgnaaLaw
import Derived.Test.YtmdihildjblgnaaPath
/- A drawn region by one invariant: one step for each operation, whatever has come up ahead of it. -/
namespace Go.Proofs.Ytmdihildjblgnaa
open Go.RowKit

section
variable {P : Program} {ops : Array Oper} {Q : Exit → Act → World → Prop} {md : Region.Mode}

/-- Operation i has come up as well. -/
def upd (d : Nat → Bool) (i j : Nat) : Bool := bif Nat.beq j i then true else d j
theorem upd_self (d : Nat → Bool) (i : Nat) : upd d i i = true := by unfold upd; rw [Nat.beq_refl]; rfl
theorem upd_of {d : Nat → Bool} {i j : Nat} (h : j ≠ i) : upd d i j = d j := by
  unfold upd
  have : Nat.beq j i = false := by
    cases hb : Nat.beq j i with
    | false => rfl
    | true => exact absurd (Nat.eq_of_beq_eq_true hb) h
  rw [this]; rfl
/-- What has come up. -/
def got (listed : Array Bool) (j : Nat) : Bool := listed.getD j false
theorem got_set {listed : Array Bool} {i : Nat} (h : i < listed.size) : got (listed.setIfInBounds i true) = upd (got listed) i := by
  funext j
  unfold got
  by_cases hj : j = i
  · subst hj; rw [upd_self, Array.getD_eq_getD_getElem?, Array.getElem?_setIfInBounds_self]; simp [h]
  · rw [upd_of hj, Array.getD_eq_getD_getElem?, Array.getElem?_setIfInBounds_ne (Ne.symm hj), ← Array.getD_eq_getD_getElem?]
/-- The operations that have come up already are few enough. -/
def left (listed : Array Bool) (n : Nat) : Nat := (List.range n).countP fun j => !got listed j
theorem left_set {listed : Array Bool} {i : Nat} (h : i < listed.size) (h0 : got listed i = false) : left (listed.setIfInBounds i true) listed.size + 1 ≤ left listed listed.size := by
  unfold left
  rw [got_set h]
  generalize got listed = d at *
  have key : ∀ l : List Nat, l.Nodup → (i ∈ l → (l.countP fun j => !upd d i j) + 1 = l.countP fun j => !d j) ∧ (i ∉ l → (l.countP fun j => !upd d i j) = l.countP fun j => !d j) := by
    intro l hl
    induction l with
    | nil => simp
    | cons x r ih =>
      obtain ⟨hx, hr⟩ := List.nodup_cons.1 hl
      obtain ⟨i1, i2⟩ := ih hr
      rw [List.countP_cons, List.countP_cons]
      by_cases hxi : x = i
      · subst hxi
        rw [upd_self, i2 hx, h0]
        simp
      · rw [upd_of hxi]
        refine ⟨fun hm => ?_, fun hm => ?_⟩
        · have hm' : i ∈ r := by
            rcases List.mem_cons.1 hm with e | e
            · exact absurd e.symm hxi
            · exact e
          have := i1 hm'; omega
        · have := i2 (fun e => hm (List.mem_cons.2 (.inr e))); omega
  have := (key (List.range listed.size) List.nodup_range).1 (List.mem_range.2 h)
  omega

/-- Every edge leads back. -/
def backward (ops : Array Oper) : Bool := (List.range ops.size).all fun i => ((ops[i]?).map fun o => o.after.all fun e => decide (e.on < i)).getD true
theorem all_done {listed : Array Bool} (hz : listed.size = ops.size) (hb : backward ops = true) (hr : Region.ready md ops listed = []) : ∀ j, j < ops.size → got listed j = true := by
  intro j
  induction j using Nat.strongRecOn with
  | _ j ih =>
    intro hj
    cases hg : got listed j with
    | true => rfl
    | false =>
      have ho : ops[j]? = some ops[j] := Array.getElem?_eq_getElem hj
      have hback := List.all_eq_true.1 hb j (List.mem_range.2 hj)
      rw [ho] at hback
      have hmem : j ∈ Region.ready md ops listed := mem_ready.2 ⟨by
        unfold got at hg
        rw [Array.getD_eq_getD_getElem?] at hg ⊢
        rw [Array.getElem?_eq_getElem (by omega)] at hg ⊢
        exact hg, _, ho, fun e he _ => by
          have h1 : e.on < j := by
            simp only [Option.map_some, Option.getD_some] at hback
            exact of_decide_eq_true (Array.all_eq_true_iff_forall_mem.1 hback e he)
          exact ih _ h1 (by omega)⟩
      rw [hr] at hmem
      cases hmem

theorem wpAny_inv {I : (Nat → Bool) → Act → World → Prop} (hb : backward ops = true)
    (hs : ∀ (d : Nat → Bool) (a : Act) (w : World) (i : Nat) (o : Oper), ops[i]? = some o → d i = false → (∀ e ∈ o.after, Region.binds md e = true → d e.on = true) → I d a w → wpOp P ops Q i (I (upd d i)) a w)
    (he : ∀ (d : Nat → Bool) (a : Act) (w : World), (∀ j, j < ops.size → d j = true) → I d a w → Q .normal a w) :
    ∀ (fuel : Nat) (listed : Array Bool) (a : Act) (w : World), listed.size = ops.size → left listed listed.size ≤ fuel → I (got listed) a w → wpAny P md ops Q fuel listed a w := by
  intro fuel
  induction fuel with
  | zero =>
    intro listed a w hz hl hI
    have hr : Region.ready md ops listed = [] := by
      cases h : Region.ready md ops listed with
      | nil => rfl
      | cons i r =>
        obtain ⟨h1, o, ho, -⟩ := mem_ready.1 (h ▸ List.mem_cons_self : i ∈ Region.ready md ops listed)
        have hi := (Array.getElem?_eq_some_iff.1 ho).1
        have : got listed i = false := by
          unfold got
          rw [Array.getD_eq_getD_getElem?, Array.getElem?_eq_getElem (by omega)] at h1 ⊢
          exact h1
        have := left_set (by omega) this
        omega
    exact ⟨hr, he _ _ _ (all_done hz hb hr) hI⟩
  | succ fuel ih =>
    intro listed a w hz hl hI
    refine ⟨fun hr => he _ _ _ (all_done hz hb hr) hI, fun i hi => ?_⟩
    obtain ⟨h1, o, ho, hall⟩ := mem_ready.1 hi
    have hi := (Array.getElem?_eq_some_iff.1 ho).1
    have hg : got listed i = false := by
      unfold got
      rw [Array.getD_eq_getD_getElem?, Array.getElem?_eq_getElem (by omega)] at h1 ⊢
      exact h1
    refine wpOp_mono (fun a' w' h => ?_) (hs (got listed) a w i o ho hg hall hI)
    have h2 := left_set (by omega) hg
    refine ih _ _ _ (by simpa using hz) ?_ (by rw [got_set (by omega)]; exact h)
    rw [Array.size_setIfInBounds]
    omega

/-- Operation by operation: each from a state in which what it waits for has come up. -/
def EachOp (P : Program) (md : Region.Mode) (ops : Array Oper) (Q : Exit → Act → World → Prop) (I : (Nat → Bool) → Act → World → Prop) : Nat → List Oper → Prop
  | _, [] => True
  | i, o :: os => (∀ (d : Nat → Bool) (a : Act) (w : World), d i = false → (∀ e ∈ o.after, Region.binds md e = true → d e.on = true) → I d a w →
      ∀ K : Act → World → Prop, Shut (∀ a w, I (upd d i) a w → K a w) → if Region.wanted o (yielded ops a.tmps) = true then Oper.wp P o a w K Q else K (a.put o.dst undef) w) ∧ EachOp P md ops Q I (i + 1) os
theorem EachOp.at_ {I : (Nat → Bool) → Act → World → Prop} : ∀ {l : List Oper} {k : Nat}, EachOp P md ops Q I k l → ∀ i o, l[i]? = some o → ∀ (d : Nat → Bool) (a : Act) (w : World), d (k + i) = false → (∀ e ∈ o.after, Region.binds md e = true → d e.on = true) → I d a w →
      ∀ K : Act → World → Prop, Shut (∀ a w, I (upd d (k + i)) a w → K a w) → if Region.wanted o (yielded ops a.tmps) = true then Oper.wp P o a w K Q else K (a.put o.dst undef) w
  | [], _, _, i, o, h => by simp at h
  | x :: r, k, h, 0, o, ho => by
    simp only [List.getElem?_cons_zero, Option.some.injEq] at ho
    subst ho
    exact h.1
  | x :: r, k, h, i + 1, o, ho => by
    have := h.2.at_ i o (by simpa using ho)
    rw [show k + 1 + i = k + (i + 1) by omega] at this
    exact this
/-- What is reckoned of a frame once, ahead of a walk. -/
theorem lay_frame {β : Type} {c : Code} {a : Act} {w : World} (f : Act → β → Prop) (fr : β) (h : f a fr) (k : f a fr → c.wp P Q a w) : c.wp P Q a w := k h
/-- **A drawn region by an invariant.** -/
theorem wp_region_inv {id n : Nat} {ops : List Oper} {a : Act} {w : World} (I : Act → (Nat → Bool) → Act → World → Prop) (hm : P.follows .mixedOrders = true) (hb : backward ops.toArray = true) (hn : ops.length = n)
    (h0 : I a (fun _ => false) a w.drew) (hs : EachOp P .any ops.toArray Q (I a) 0 ops)
    (he : ∀ (d : Nat → Bool) (a' : Act) (w : World), (∀ j, j < n → d j = true) → I a d a' w → Q .normal a' w) : (Code.region id ops.toArray true).wp P Q a w := by
  subst hn
  refine wp_region_any hm (wpAny_inv (I := I a) hb (fun d a' w i o ho hd hall hI => ?_) (fun d a' w hd hI => he d a' w (by simpa using hd) hI) _ _ _ _ (by simp) ?_ ?_)
  · refine wpOp_step ho (fun K hK => ?_)
    have := hs.at_ i o (by simpa using ho) d a' w (by rw [Nat.zero_add]; exact hd) hall hI K (by rw [Nat.zero_add]; exact hK)
    exact this
  · unfold left
    refine Nat.le_trans (List.countP_le_length) (by simp)
  · have : got (Array.replicate ops.toArray.size false) = fun _ => false := by
      funext j
      unfold got
      rw [Array.getD_eq_getD_getElem?, Array.getElem?_replicate]
      split <;> rfl
    rw [this]
    exact h0
end

/-! Blocks have owners: what a region makes for itself (a box) from what is shared. -/
/-- One operation: which blocks stay as they were (all but g), owners of old blocks stay. -/
structure Stp (O : Nat → Nat) (w : World) (O' : Nat → Nat) (w' : World) (g : Option Nat) : Prop where
  size : w.heap.size ≤ w'.heap.size
  own : ∀ b, b < w.heap.size → O' b = O b
  heap : ∀ b, b < w.heap.size → some b ≠ g → w'.heap[b]? = w.heap[b]?
section
variable {O O' : Nat → Nat} {w w' : World} {g : Option Nat}
/-- The owners behind a call: what it made is shared. -/
def ownC (O : Nat → Nat) (n : Nat) : Nat → Nat := fun b => if b < n then O b else 0
/-- The owners behind a new block that k owns. -/
def ownN (O : Nat → Nat) (n k : Nat) : Nat → Nat := fun b => if b < n then O b else if b = n then k else 0
theorem Stp.call (h : Below w.heap.size w w') : Stp O w (ownC O w.heap.size) w' none :=
  ⟨h.size, fun _ hb => if_pos hb, fun b hb _ => h.block b hb⟩
theorem Stp.new (o : Obj) (k : Nat) : Stp O w (ownN O w.heap.size k) (w.alloc o) none :=
  ⟨by simp, fun _ hb => if_pos hb, fun b hb _ => (Below.heap_alloc w o b hb)⟩
theorem Stp.refl : Stp O w O w none := ⟨Nat.le_refl _, fun _ _ => rfl, fun _ _ _ => rfl⟩
theorem Stp.drew : Stp O w O w.drew none := ⟨Nat.le_refl _, fun _ _ => rfl, fun _ _ _ => rfl⟩
/-- Six stores, one store, into block g. -/
theorem Stp.set1 {b o : Nat} {v : Value} : Stp O w O (w.setCell ⟨b, o, none⟩ v) (some b) := ⟨by simp [World.setCell], fun _ _ => rfl, fun c _ hg => Below.heap_setCell w ⟨b, o, none⟩ v c (fun e => hg (by rw [e]))⟩
theorem Stp.trans {O2 : Nat → Nat} {w2 : World} (h : Stp O w O' w' g) (k : Stp O' w' O2 w2 g) : Stp O w O2 w2 g :=
  ⟨Nat.le_trans h.size k.size, fun b hb => (k.own b (Nat.lt_of_lt_of_le hb h.size)).trans (h.own b hb), fun b hb hg => (k.heap b (Nat.lt_of_lt_of_le hb h.size) hg).trans (h.heap b hb hg)⟩
theorem ownN_new (k : Nat) : ownN O w.heap.size k w.heap.size = k := by unfold ownN; rw [if_neg (Nat.lt_irrefl _), if_pos rfl]
theorem Blk.stp {b : Nat} {ty : TypeId} {cs : Array Value} (h : Blk w b ty cs) (s : Stp O w O' w' g) (hg : some b ≠ g) : Blk w' b ty cs := (s.heap b h.lt hg).trans h
theorem RepT.stp {v : Value} {t : T} (h : RepT w (fun b => O b = 0) v t) (s : Stp O w O' w' g) (hg : ∀ b, g = some b → O b ≠ 0) : RepT w' (fun b => O' b = 0) v t :=
  h.mono (fun b hb hlt => (s.own b hlt).trans hb) fun b _ hb hlt => World.cell?_of_block (s.heap b hlt fun e => hg b e.symm hb)
theorem RepT.called {v : Value} {t : T} (h : RepT w' (fun b => w.heap.size ≤ b) v t) : RepT w' (fun b => ownC O w.heap.size b = 0) v t :=
  h.weak fun _ hb _ => if_neg (Nat.not_lt.2 hb)
theorem ownC_low {n m : Nat} (h : ∀ b, b < n → O b = 0) : ∀ b, b < n → ownC O m b = 0 := fun b hb => by
  unfold ownC; split
  · exact h b hb
  · rfl
theorem ownN_low {n m k : Nat} (h : ∀ b, b < n → O b = 0) (hm : n ≤ m) : ∀ b, b < n → ownN O m k b = 0 := fun b hb => by
  unfold ownN; rw [if_pos (Nat.lt_of_lt_of_le hb hm)]; exact h b hb
theorem RepT.shared {v : Value} {t : T} {S : Nat → Prop} (h : RepT w S v t) : RepT w (fun b => (fun _ : Nat => 0) b = 0) v t := h.weak fun _ _ _ => rfl
end
end Go.Proofs.Ytmdihildjblgnaa

/- A drawn region by one invariant: boxes of values that it makes. -/
namespace Go.Proofs.Ytmdihildjblgnaa
open Go.RowKit

def cellsOf : Value → Array Value
  | .agg cs => cs
  | _ => #[]
/-- A box that the region makes: owner k; v lies in it once it is stored. -/
def BoxI (O : Nat → Nat) (w : World) (B : Nat) (x : Value) (k : Nat) (st : Bool) (v : Value) : Prop :=
  ∃ g, x = .pointer (some ⟨g, 0, none⟩) ∧ O g = k ∧ B ≤ g ∧ Blk w g 25 (bif st then cellsOf v else #[.int .i64 0, .bool false, .int .i64 0, .string ⟨#[]⟩, .slice none 0 0, .slice none 0 0])
section
variable {O O' : Nat → Nat} {w w' : World} {g : Option Nat} {B k : Nat} {x v v' : Value} {st : Bool}
theorem BoxI.stp (h : BoxI O w B x k st v) (s : Stp O w O' w' g) (hg : ∀ b, g = some b → O b ≠ k) : BoxI O' w' B x k st v := by
  obtain ⟨b, e, ho, hB, hb⟩ := h
  exact ⟨b, e, (s.own b hb.lt).trans ho, hB, hb.stp s fun e2 => hg b e2.symm ho⟩
theorem BoxI.val (h : BoxI O w B x k st v) (hs : st = false) : BoxI O w B x k st v' := by
  subst hs
  exact h
theorem BoxI.new (k : Nat) (v : Value) (hB : B ≤ w.heap.size) : BoxI (ownN O w.heap.size k) (w.alloc (.cells #[.int .i64 0, .bool false, .int .i64 0, .string ⟨#[]⟩, .slice none 0 0, .slice none 0 0] 25)) B (.pointer (some ⟨w.heap.size, 0, none⟩)) k false v :=
  ⟨_, rfl, ownN_new k, hB, Blk.new _ _ _⟩
theorem BoxI.put {b : Nat} {c0 c1 c2 c3 c4 c5 : Value} (h : BoxI O w B (.pointer (some ⟨b, 0, none⟩)) k false v') : BoxI O (set6 w b 0 c0 c1 c2 c3 c4 c5) B (.pointer (some ⟨b, 0, none⟩)) k true (.agg #[c0, c1, c2, c3, c4, c5]) := by
  obtain ⟨b', e, ho, hB, hb⟩ := h
  injection e with e; injection e with e; injection e with e
  subst e
  exact ⟨b, rfl, ho, hB, (((((hb.set_ 0 _).set_ 1 _).set_ 2 _).set_ 3 _).set_ 4 _).set_ 5 _⟩
/-- A row of one value that the region makes: owner k. -/
def RowI (O : Nat → Nat) (w : World) (B : Nat) (x : Value) (k : Nat) (cs : Array Value) : Prop :=
  ∃ g, x = .slice (some ⟨g, 0, none⟩) 1 1 ∧ O g = k ∧ B ≤ g ∧ Blk w g 25 cs
theorem RowI.stp {cs : Array Value} (h : RowI O w B x k cs) (s : Stp O w O' w' g) (hg : ∀ b, g = some b → O b ≠ k) : RowI O' w' B x k cs := by
  obtain ⟨b, e, ho, hB, hb⟩ := h
  exact ⟨b, e, (s.own b hb.lt).trans ho, hB, hb.stp s fun e2 => hg b e2.symm ho⟩
theorem RowI.new {cs : Array Value} (k : Nat) (hB : B ≤ w.heap.size) : RowI (ownN O w.heap.size k) (w.alloc (.cells cs 25)) B (.slice (some ⟨w.heap.size, 0, none⟩) 1 1) k cs :=
  ⟨_, rfl, ownN_new k, hB, Blk.new _ _ _⟩
theorem Stp.set6 {b o : Nat} {c0 c1 c2 c3 c4 c5 : Value} : Stp O w O (set6 w b o c0 c1 c2 c3 c4 c5) (some b) :=
  ⟨(set6_below (B := 0) (Below.refl _ _) (Nat.zero_le _)).size, fun _ _ => rfl, fun c _ hc => set6_heap (fun e => hc (by rw [e]))⟩
theorem BoxI.at_ (h : BoxI O w B x k st v) : ∃ g, x = .pointer (some ⟨g, 0, none⟩) ∧ O g = k ∧ B ≤ g ∧ Blk w g 25 (bif st then cellsOf v else #[.int .i64 0, .bool false, .int .i64 0, .string ⟨#[]⟩, .slice none 0 0, .slice none 0 0]) := h
end
end Go.Proofs.Ytmdihildjblgnaa
