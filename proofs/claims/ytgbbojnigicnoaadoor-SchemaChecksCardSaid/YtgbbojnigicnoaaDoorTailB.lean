/- Several texts as one. -/
import Derived.Test.YtgbbojnigicnoaaDoorRep
import Derived.Deep.RegionHeld3
/- A drawn region by one invariant: one step for each operation, whatever has come up ahead of it. -/
namespace Go.Proofs.YtgbbojnigicnoaaDoor
open Go.RowKit

section
variable {P : Program} {ops : Array Oper} {Q : Exit → Act → World → Prop} {md : Region.Mode}

/-- Operation i has come up as well. -/
def upd (d : Nat → Bool) (i j : Nat) : Bool := bif Nat.beq j i then true else d j
theorem upd_self (d : Nat → Bool) (i : Nat) : upd d i i = true := by unfold upd; rw [Nat.beq_refl]; rfl
theorem upd_of {d : Nat → Bool} {i j : Nat} (h : j ≠ i) : upd d i j = d j := by
  unfold upd
  have : Nat.beq j i = false := by
    cases hb : Nat.beq j i with
    | false => rfl
    | true => exact absurd (Nat.eq_of_beq_eq_true hb) h
  rw [this]; rfl
/-- What has come up. -/
def got (listed : Array Bool) (j : Nat) : Bool := listed.getD j false
theorem got_set {listed : Array Bool} {i : Nat} (h : i < listed.size) : got (listed.setIfInBounds i true) = upd (got listed) i := by
  funext j
  unfold got
  by_cases hj : j = i
  · subst hj; rw [upd_self, Array.getD_eq_getD_getElem?, Array.getElem?_setIfInBounds_self]; simp [h]
  · rw [upd_of hj, Array.getD_eq_getD_getElem?, Array.getElem?_setIfInBounds_ne (Ne.symm hj), ← Array.getD_eq_getD_getElem?]
/-- The operations that have come up already are few enough. -/
def left (listed : Array Bool) (n : Nat) : Nat := (List.range n).countP fun j => !got listed j
theorem left_set {listed : Array Bool} {i : Nat} (h : i < listed.size) (h0 : got listed i = false) : left (listed.setIfInBounds i true) listed.size + 1 ≤ left listed listed.size := by
  unfold left
  rw [got_set h]
  generalize got listed = d at *
  have key : ∀ l : List Nat, l.Nodup → (i ∈ l → (l.countP fun j => !upd d i j) + 1 = l.countP fun j => !d j) ∧ (i ∉ l → (l.countP fun j => !upd d i j) = l.countP fun j => !d j) := by
    intro l hl
    induction l with
    | nil => simp
    | cons x r ih =>
      obtain ⟨hx, hr⟩ := List.nodup_cons.1 hl
      obtain ⟨i1, i2⟩ := ih hr
      rw [List.countP_cons, List.countP_cons]
      by_cases hxi : x = i
      · subst hxi
        rw [upd_self, i2 hx, h0]
        simp
      · rw [upd_of hxi]
        refine ⟨fun hm => ?_, fun hm => ?_⟩
        · have hm' : i ∈ r := by
            rcases List.mem_cons.1 hm with e | e
            · exact absurd e.symm hxi
            · exact e
          have := i1 hm'; omega
        · have := i2 (fun e => hm (List.mem_cons.2 (.inr e))); omega
  have := (key (List.range listed.size) List.nodup_range).1 (List.mem_range.2 h)
  omega

/-- Every edge leads back. -/
def backward (ops : Array Oper) : Bool := (List.range ops.size).all fun i => ((ops[i]?).map fun o => o.after.all fun e => decide (e.on < i)).getD true
theorem all_done {listed : Array Bool} (hz : listed.size = ops.size) (hb : backward ops = true) (hr : Region.ready md ops listed = []) : ∀ j, j < ops.size → got listed j = true := by
  intro j
  induction j using Nat.strongRecOn with
  | _ j ih =>
    intro hj
    cases hg : got listed j with
    | true => rfl
    | false =>
      have ho : ops[j]? = some ops[j] := Array.getElem?_eq_getElem hj
      have hback := List.all_eq_true.1 hb j (List.mem_range.2 hj)
      rw [ho] at hback
      have hmem : j ∈ Region.ready md ops listed := mem_ready.2 ⟨by
        unfold got at hg
        rw [Array.getD_eq_getD_getElem?] at hg ⊢
        rw [Array.getElem?_eq_getElem (by omega)] at hg ⊢
        exact hg, _, ho, fun e he _ => by
          have h1 : e.on < j := by
            simp only [Option.map_some, Option.getD_some] at hback
            exact of_decide_eq_true (Array.all_eq_true_iff_forall_mem.1 hback e he)
          exact ih _ h1 (by omega)⟩
      rw [hr] at hmem
      cases hmem

theorem wpAny_inv {I : (Nat → Bool) → Act → World → Prop} (hb : backward ops = true)
    (hs : ∀ (d : Nat → Bool) (a : Act) (w : World) (i : Nat) (o : Oper), ops[i]? = some o → d i = false → (∀ e ∈ o.after, Region.binds md e = true → d e.on = true) → I d a w → wpOp P ops Q i (I (upd d i)) a w)
    (he : ∀ (d : Nat → Bool) (a : Act) (w : World), (∀ j, j < ops.size → d j = true) → I d a w → Q .normal a w) :
    ∀ (fuel : Nat) (listed : Array Bool) (a : Act) (w : World), listed.size = ops.size → left listed listed.size ≤ fuel → I (got listed) a w → wpAny P md ops Q fuel listed a w := by
  intro fuel
  induction fuel with
  | zero =>
    intro listed a w hz hl hI
    have hr : Region.ready md ops listed = [] := by
      cases h : Region.ready md ops listed with
      | nil => rfl
      | cons i r =>
        obtain ⟨h1, o, ho, -⟩ := mem_ready.1 (h ▸ List.mem_cons_self : i ∈ Region.ready md ops listed)
        have hi := (Array.getElem?_eq_some_iff.1 ho).1
        have : got listed i = false := by
          unfold got
          rw [Array.getD_eq_getD_getElem?, Array.getElem?_eq_getElem (by omega)] at h1 ⊢
          exact h1
        have := left_set (by omega) this
        omega
    exact ⟨hr, he _ _ _ (all_done hz hb hr) hI⟩
  | succ fuel ih =>
    intro listed a w hz hl hI
    refine ⟨fun hr => he _ _ _ (all_done hz hb hr) hI, fun i hi => ?_⟩
    obtain ⟨h1, o, ho, hall⟩ := mem_ready.1 hi
    have hi := (Array.getElem?_eq_some_iff.1 ho).1
    have hg : got listed i = false := by
      unfold got
      rw [Array.getD_eq_getD_getElem?, Array.getElem?_eq_getElem (by omega)] at h1 ⊢
      exact h1
    refine wpOp_mono (fun a' w' h => ?_) (hs (got listed) a w i o ho hg hall hI)
    have h2 := left_set (by omega) hg
    refine ih _ _ _ (by simpa using hz) ?_ (by rw [got_set (by omega)]; exact h)
    rw [Array.size_setIfInBounds]
    omega

/-- Operation by operation: each from a state in which what it waits for has come up. -/
def EachOp (P : Program) (md : Region.Mode) (ops : Array Oper) (Q : Exit → Act → World → Prop) (I : (Nat → Bool) → Act → World → Prop) : Nat → List Oper → Prop
  | _, [] => True
  | i, o :: os => (∀ (d : Nat → Bool) (a : Act) (w : World), d i = false → (∀ e ∈ o.after, Region.binds md e = true → d e.on = true) → I d a w →
      ∀ K : Act → World → Prop, Shut (∀ a w, I (upd d i) a w → K a w) → if Region.wanted o (yielded ops a.tmps) = true then Oper.wp P o a w K Q else K (a.put o.dst undef) w) ∧ EachOp P md ops Q I (i + 1) os
theorem EachOp.at_ {I : (Nat → Bool) → Act → World → Prop} : ∀ {l : List Oper} {k : Nat}, EachOp P md ops Q I k l → ∀ i o, l[i]? = some o → ∀ (d : Nat → Bool) (a : Act) (w : World), d (k + i) = false → (∀ e ∈ o.after, Region.binds md e = true → d e.on = true) → I d a w →
      ∀ K : Act → World → Prop, Shut (∀ a w, I (upd d (k + i)) a w → K a w) → if Region.wanted o (yielded ops a.tmps) = true then Oper.wp P o a w K Q else K (a.put o.dst undef) w
  | [], _, _, i, o, h => by simp at h
  | x :: r, k, h, 0, o, ho => by
    simp only [List.getElem?_cons_zero, Option.some.injEq] at ho
    subst ho
    exact h.1
  | x :: r, k, h, i + 1, o, ho => by
    have := h.2.at_ i o (by simpa using ho)
    rw [show k + 1 + i = k + (i + 1) by omega] at this
    exact this
/-- What is reckoned of a frame once, ahead of a walk. -/
theorem lay_frame {β : Type} {c : Code} {a : Act} {w : World} (f : Act → β → Prop) (fr : β) (h : f a fr) (k : f a fr → c.wp P Q a w) : c.wp P Q a w := k h
/-- **A drawn region by an invariant.** -/
theorem wp_region_inv {id n : Nat} {ops : List Oper} {a : Act} {w : World} (I : Act → (Nat → Bool) → Act → World → Prop) (hm : P.follows .mixedOrders = true) (hb : backward ops.toArray = true) (hn : ops.length = n)
    (h0 : I a (fun _ => false) a w.drew) (hs : EachOp P .any ops.toArray Q (I a) 0 ops)
    (he : ∀ (d : Nat → Bool) (a' : Act) (w : World), (∀ j, j < n → d j = true) → I a d a' w → Q .normal a' w) : (Code.region id ops.toArray true).wp P Q a w := by
  subst hn
  refine wp_region_any hm (wpAny_inv (I := I a) hb (fun d a' w i o ho hd hall hI => ?_) (fun d a' w hd hI => he d a' w (by simpa using hd) hI) _ _ _ _ (by simp) ?_ ?_)
  · refine wpOp_step ho (fun K hK => ?_)
    have := hs.at_ i o (by simpa using ho) d a' w (by rw [Nat.zero_add]; exact hd) hall hI K (by rw [Nat.zero_add]; exact hK)
    exact this
  · unfold left
    refine Nat.le_trans (List.countP_le_length) (by simp)
  · have : got (Array.replicate ops.toArray.size false) = fun _ => false := by
      funext j
      unfold got
      rw [Array.getD_eq_getD_getElem?, Array.getElem?_replicate]
      split <;> rfl
    rw [this]
    exact h0
end

/-! Blocks have owners: what a region makes for itself (a box) from what is shared. -/
/-- One operation: which blocks stay as they were (all but g), owners of old blocks stay. -/
structure Stp (O : Nat → Nat) (w : World) (O' : Nat → Nat) (w' : World) (g : Option Nat) : Prop where
  size : w.heap.size ≤ w'.heap.size
  own : ∀ b, b < w.heap.size → O' b = O b
  heap : ∀ b, b < w.heap.size → some b ≠ g → w'.heap[b]? = w.heap[b]?
section
variable {O O' : Nat → Nat} {w w' : World} {g : Option Nat}
/-- The owners behind a call: what it made is shared. -/
def ownC (O : Nat → Nat) (n : Nat) : Nat → Nat := fun b => if b < n then O b else 0
/-- The owners behind a new block that k owns. -/
def ownN (O : Nat → Nat) (n k : Nat) : Nat → Nat := fun b => if b < n then O b else if b = n then k else 0
theorem Stp.call (h : Below w.heap.size w w') : Stp O w (ownC O w.heap.size) w' none :=
  ⟨h.size, fun _ hb => if_pos hb, fun b hb _ => h.block b hb⟩
theorem Stp.new (o : Obj) (k : Nat) : Stp O w (ownN O w.heap.size k) (w.alloc o) none :=
  ⟨by simp, fun _ hb => if_pos hb, fun b hb _ => (Below.heap_alloc w o b hb)⟩
theorem Stp.refl : Stp O w O w none := ⟨Nat.le_refl _, fun _ _ => rfl, fun _ _ _ => rfl⟩
theorem Stp.drew : Stp O w O w.drew none := ⟨Nat.le_refl _, fun _ _ => rfl, fun _ _ _ => rfl⟩
/-- Six stores, one store, into block g. -/
theorem Stp.set1 {b o : Nat} {v : Value} : Stp O w O (w.setCell ⟨b, o, none⟩ v) (some b) := ⟨by simp [World.setCell], fun _ _ => rfl, fun c _ hg => Below.heap_setCell w ⟨b, o, none⟩ v c (fun e => hg (by rw [e]))⟩
theorem Stp.trans {O2 : Nat → Nat} {w2 : World} (h : Stp O w O' w' g) (k : Stp O' w' O2 w2 g) : Stp O w O2 w2 g :=
  ⟨Nat.le_trans h.size k.size, fun b hb => (k.own b (Nat.lt_of_lt_of_le hb h.size)).trans (h.own b hb), fun b hb hg => (k.heap b (Nat.lt_of_lt_of_le hb h.size) hg).trans (h.heap b hb hg)⟩
theorem ownN_new (k : Nat) : ownN O w.heap.size k w.heap.size = k := by unfold ownN; rw [if_neg (Nat.lt_irrefl _), if_pos rfl]
theorem Blk.stp {b : Nat} {ty : TypeId} {cs : Array Value} (h : Blk w b ty cs) (s : Stp O w O' w' g) (hg : some b ≠ g) : Blk w' b ty cs := (s.heap b h.lt hg).trans h
theorem RepT.stp {v : Value} {t : T} (h : RepT w (fun b => O b = 0) v t) (s : Stp O w O' w' g) (hg : ∀ b, g = some b → O b ≠ 0) : RepT w' (fun b => O' b = 0) v t :=
  h.mono (fun b hb hlt => (s.own b hlt).trans hb) fun b _ hb hlt => World.cell?_of_block (s.heap b hlt fun e => hg b e.symm hb)
theorem RepT.called {v : Value} {t : T} (h : RepT w' (fun b => w.heap.size ≤ b) v t) : RepT w' (fun b => ownC O w.heap.size b = 0) v t :=
  h.weak fun _ hb _ => if_neg (Nat.not_lt.2 hb)
theorem ownC_low {n m : Nat} (h : ∀ b, b < n → O b = 0) : ∀ b, b < n → ownC O m b = 0 := fun b hb => by
  unfold ownC; split
  · exact h b hb
  · rfl
theorem ownN_low {n m k : Nat} (h : ∀ b, b < n → O b = 0) (hm : n ≤ m) : ∀ b, b < n → ownN O m k b = 0 := fun b hb => by
  unfold ownN; rw [if_pos (Nat.lt_of_lt_of_le hb hm)]; exact h b hb
theorem RepT.shared {v : Value} {t : T} {S : Nat → Prop} (h : RepT w S v t) : RepT w (fun b => (fun _ : Nat => 0) b = 0) v t := h.weak fun _ _ _ => rfl
end
end Go.Proofs.YtgbbojnigicnoaaDoor

/- A drawn region whose last operation waits for all others: the others in whatever order, then the last one. -/
namespace Go.Proofs.YtgbbojnigicnoaaDoor
open Go.RowKit

section
variable {P : Program} {ops : Array Oper} {Q : Exit → Act → World → Prop} {md : Region.Mode} {S : World → Prop}

/-- The last operation waits for all others: for each, or for one that waits for it. -/
def lastWaits (md : Region.Mode) (ops : Array Oper) (o : Oper) : Bool := (List.range ops.size).all fun j => (o.after.any fun e => Region.binds md e && e.on == j) ||
  (List.range ops.size).any fun i => decide (j < i) && ((ops[i]?).map fun oi => oi.after.any fun e => Region.binds md e && e.on == j).getD false
/-- What has come up has what it waits for behind it. -/
def Closed (md : Region.Mode) (ops : Array Oper) (listed : Array Bool) : Prop := ∀ (i : Nat) (oi : Oper), ops[i]? = some oi → listed.getD i false = true → ∀ e ∈ oi.after, Region.binds md e = true → listed.getD e.on false = true
/-- No guard asks for a later operation. -/
def guardsLow (n : Nat) (l : List Oper) : Bool := l.all fun o => match o.guard with | some (j, _) => decide (j < n) | none => true

/-- What is owed of the other operations: behind them the last one leads to Q. -/
def LastQ (P : Program) (ops : Array Oper) (n : Nat) (Q : Exit → Act → World → Prop) : Exit → Act → World → Prop
  | .normal, a, w => wpOp P ops Q n (Q .normal) a w
  | e, a, w => Q e a w

theorem wpAny_nil {f : Nat} {listed : Array Bool} {a : Act} {w : World} (h : Region.ready md ops listed = []) (hq : Q .normal a w) : wpAny P md ops Q f listed a w := by
  cases f with
  | zero => exact ⟨h, hq⟩
  | succ f => exact ⟨fun _ => hq, by rw [h]; simp⟩

theorem Oper.wp_lastQ {o : Oper} {K : Act → World → Prop} {a : Act} {w : World} {ops' : Array Oper} {n : Nat} (h : o.wp P a w K (LastQ P ops' n Q)) : o.wp P a w K Q := by
  unfold Oper.wp at *
  generalize (execOp a.eval o).run P w = r at *
  have lets : LetsOut (LastQ P ops' n Q) → LetsOut Q := fun ⟨a, w, h⟩ => ⟨a, w, h⟩
  cases r with
  | ok n w' =>
    cases n <;> simp only [Oper.upon] at h ⊢ <;>
      first
        | exact h
        | exact Calls.mono h (fun e w'' he => by cases e <;> first | exact he | exact lets he)
        | exact lets h
  | halt x w' => cases x <;> simp only [Oper.upon] at h ⊢ <;> first | exact h | exact lets h

theorem yielded_push {o : Oper} {t : Array Value} {j : Nat} (h : j < ops.size) : yielded (ops.push o) t j = yielded ops t j := by
  unfold yielded
  rw [Array.getElem?_push_lt h, Array.getElem?_eq_getElem h]

theorem ready_push {o : Oper} {listed : Array Bool} (hz : listed.size = ops.size) (hb : backward ops = true) {i : Nat} (hi : i < ops.size) :
    i ∈ Region.ready md (ops.push o) (listed.push false) ↔ i ∈ Region.ready md ops listed := by
  have hgt : ∀ j, j < ops.size → ∀ b, (listed.push false).getD j b = listed.getD j b := fun j hj b => by
    rw [Array.getD_eq_getD_getElem?, Array.getD_eq_getD_getElem?, Array.getElem?_push_lt (by omega), Array.getElem?_eq_getElem (by omega)]
  have hback : ∀ oj, ops[i]? = some oj → ∀ e ∈ oj.after, e.on < i := fun oj ho e he => by
    have h := List.all_eq_true.1 hb i (List.mem_range.2 hi)
    rw [ho] at h
    simp only [Option.map_some, Option.getD_some] at h
    exact of_decide_eq_true (Array.all_eq_true_iff_forall_mem.1 h e he)
  rw [mem_ready, mem_ready, hgt i hi, Array.getElem?_push_lt hi, Array.getElem?_eq_getElem hi]
  constructor
  · rintro ⟨h1, oj, ho, h⟩
    refine ⟨h1, oj, ho, fun e he hbd => ?_⟩
    have := h e he hbd
    rwa [hgt e.on (by have := hback oj (by rw [Array.getElem?_eq_getElem hi]; exact ho) e he; omega)] at this
  · rintro ⟨h1, oj, ho, h⟩
    refine ⟨h1, oj, ho, fun e he hbd => ?_⟩
    rw [hgt e.on (by have := hback oj (by rw [Array.getElem?_eq_getElem hi]; exact ho) e he; omega)]
    exact h e he hbd

theorem backward_of_push {o : Oper} (h : backward (ops.push o) = true) : backward ops = true := by
  refine List.all_eq_true.2 fun i hi => ?_
  have hi := List.mem_range.1 hi
  have := List.all_eq_true.1 h i (List.mem_range.2 (by rw [Array.size_push]; omega))
  rwa [Array.getElem?_push_lt hi, ← Array.getElem?_eq_getElem hi] at this

theorem wpAny_last {o : Oper} (hbp : backward (ops.push o) = true) (hl : lastWaits md ops o = true) (hg : guardsLow ops.size ops.toList = true) :
    ∀ (fuel : Nat) (listed : Array Bool) (a : Act) (w : World), listed.size = ops.size → Closed md ops listed → wpAny P md ops (LastQ P (ops.push o) ops.size Q) fuel listed a w →
      wpAny P md (ops.push o) Q (fuel + 1) (listed.push false) a w := by
  have hb := backward_of_push hbp
  have hwait : ∀ (listed : Array Bool), Closed md ops listed → (∀ e ∈ o.after, Region.binds md e = true → listed.getD e.on false = true) → ∀ k j, ops.size - j ≤ k → j < ops.size → listed.getD j false = true := by
    intro listed hc ho k
    induction k with
    | zero => intro j hk hj; omega
    | succ k ih =>
      intro j hk hj
      have h := List.all_eq_true.1 hl j (List.mem_range.2 hj)
      rw [Bool.or_eq_true] at h
      rcases h with h | h
      · rw [Array.any_eq_true'] at h
        obtain ⟨e, he, h⟩ := h
        simp only [Bool.and_eq_true, beq_iff_eq] at h
        have := ho e he h.1
        rwa [h.2] at this
      · obtain ⟨i, hi, h⟩ := List.any_eq_true.1 h
        have hi := List.mem_range.1 hi
        simp only [Bool.and_eq_true, decide_eq_true_eq] at h
        obtain ⟨hji, h⟩ := h
        have hoi : ops[i]? = some ops[i] := Array.getElem?_eq_getElem hi
        rw [hoi] at h
        simp only [Option.map_some, Option.getD_some] at h
        rw [Array.any_eq_true'] at h
        obtain ⟨e, he, h⟩ := h
        simp only [Bool.and_eq_true, beq_iff_eq] at h
        have := hc i _ hoi (ih i (by omega) hi) e he h.1
        rwa [h.2] at this
  have hon : (ops.push o)[ops.size]? = some o := by simp
  -- all others have come up
  have fin : ∀ (fuel : Nat) (listed : Array Bool) (a : Act) (w : World), listed.size = ops.size → Region.ready md ops listed = [] → LastQ P (ops.push o) ops.size Q .normal a w →
      wpAny P md (ops.push o) Q (fuel + 1) (listed.push false) a w := by
    intro fuel listed a w hz hr hq
    have hd := all_done hz hb hr
    have hmem : ∀ i, i ∈ Region.ready md (ops.push o) (listed.push false) → i = ops.size := fun i hi => by
      obtain ⟨h1, oi, ho, -⟩ := mem_ready.1 hi
      have hlt := (Array.getElem?_eq_some_iff.1 ho).1
      rw [Array.size_push] at hlt
      rcases Nat.lt_or_ge i ops.size with h | h
      · have := hd i h
        unfold got at this
        rw [Array.getD_eq_getD_getElem?] at this h1
        rw [Array.getElem?_push_lt (by omega)] at h1
        rw [Array.getElem?_eq_getElem (by omega)] at this
        simp at h1 this
        rw [h1] at this; cases this
      · omega
    refine ⟨fun h => ?_, fun i hi => ?_⟩
    · exfalso
      have : ops.size ∈ Region.ready md (ops.push o) (listed.push false) := mem_ready.2 ⟨by
        rw [Array.getD_eq_getD_getElem?, ← hz]; simp, o, hon, fun e he hbd => ?_⟩
      · rw [h] at this; cases this
      · rcases Nat.lt_or_ge e.on ops.size with hlt | hge
        · have hx := hd e.on hlt
          unfold got at hx
          rw [Array.getD_eq_getD_getElem?] at hx ⊢
          rw [Array.getElem?_push_lt (by omega)]
          rw [Array.getElem?_eq_getElem (by omega)] at hx
          simpa using hx
        · exfalso
          have hbo := List.all_eq_true.1 hbp ops.size (List.mem_range.2 (by simp))
          rw [hon] at hbo
          simp only [Option.map_some, Option.getD_some] at hbo
          have := of_decide_eq_true (Array.all_eq_true_iff_forall_mem.1 hbo e he)
          omega
    · obtain rfl := hmem i hi
      refine wpOp_mono (fun a' w' hq' => wpAny_nil ?_ hq') hq
      refine List.eq_nil_iff_forall_not_mem.2 fun i hi => ?_
      obtain ⟨h1, oi, ho, -⟩ := mem_ready.1 hi
      have hlt := (Array.getElem?_eq_some_iff.1 ho).1
      rw [Array.size_push] at hlt
      rcases Nat.lt_or_ge i ops.size with h | h
      · have := hd i h
        unfold got at this
        rw [Array.getD_eq_getD_getElem?] at this h1
        rw [Array.getElem?_setIfInBounds_ne (by omega), Array.getElem?_push_lt (by omega)] at h1
        rw [Array.getElem?_eq_getElem (by omega)] at this
        simp at h1 this
        rw [h1] at this; cases this
      · obtain rfl : i = ops.size := by omega
        rw [Array.getD_eq_getD_getElem?, Array.getElem?_setIfInBounds_self] at h1
        simp [hz] at h1
  intro fuel
  induction fuel with
  | zero => intro listed a w hz _ h; exact fin 0 listed a w hz h.1 h.2
  | succ fuel ih =>
    intro listed a w hz hcl h
    by_cases hr : Region.ready md ops listed = []
    · exact fin _ listed a w hz hr (h.1 hr)
    · refine ⟨fun h0 => ?_, fun i hi => ?_⟩
      · obtain ⟨x, hx⟩ := List.exists_mem_of_ne_nil _ hr
        have hlt : x < ops.size := by
          obtain ⟨-, oi, ho, -⟩ := mem_ready.1 hx
          exact (Array.getElem?_eq_some_iff.1 ho).1
        have := (ready_push (o := o) hz hb hlt).2 hx
        rw [h0] at this; cases this
      · obtain ⟨h1, oi, ho, hall⟩ := mem_ready.1 hi
        have hlt := (Array.getElem?_eq_some_iff.1 ho).1
        rw [Array.size_push] at hlt
        rcases Nat.lt_or_ge i ops.size with hi' | hi'
        · have hx := h.2 i ((ready_push hz hb hi').1 hi)
          unfold wpOp at hx ⊢
          rw [Array.getElem?_push_lt hi'] at ho ⊢
          simp only [Option.some.injEq] at ho
          rw [Array.getElem?_eq_getElem hi'] at hx
          rw [ho] at hx ⊢
          simp only [] at hx ⊢
          have hwd : Region.wanted oi (yielded (ops.push o) a.tmps) = Region.wanted oi (yielded ops a.tmps) := by
            have hgl := List.all_eq_true.1 hg oi (by rw [← ho]; exact Array.getElem_mem_toList hi')
            unfold Region.wanted
            cases hgd : oi.guard with
            | none => rfl
            | some p =>
              obtain ⟨j, b⟩ := p
              rw [hgd] at hgl
              simp only [] at hgl ⊢
              rw [yielded_push (of_decide_eq_true hgl)]
          have hset : (listed.push false).setIfInBounds i true = (listed.setIfInBounds i true).push false := by
            apply Array.ext_getElem?
            intro k
            rcases Nat.lt_trichotomy k listed.size with hk | hk | hk
            · by_cases hki : k = i
              · subst hki
                rw [Array.getElem?_setIfInBounds_self, Array.getElem?_push_lt (by simpa using hk)]
                simp
                omega
              · rw [Array.getElem?_setIfInBounds_ne (Ne.symm hki), Array.getElem?_push_lt hk, Array.getElem?_push_lt (by simpa using hk)]
                rw [Array.getElem_setIfInBounds_ne (by simpa using hk) (Ne.symm hki)]
            · subst hk
              rw [Array.getElem?_setIfInBounds_ne (by omega), Array.getElem?_push_size]
              rw [show listed.size = (listed.setIfInBounds i true).size by simp, Array.getElem?_push_size]
            · rw [Array.getElem?_eq_none (by simp; omega), Array.getElem?_eq_none (by simp; omega)]
          have hcl2 : Closed md ops (listed.setIfInBounds i true) := fun j oj hj hg e he hbd => by
            by_cases hei : e.on = i
            · rw [hei, Array.getD_eq_getD_getElem?, Array.getElem?_setIfInBounds_self]; simp [hz, hi']
            · have hold : listed.getD e.on false = true := by
                by_cases hji : j = i
                · subst hji
                  rw [Array.getElem?_eq_getElem hi'] at hj
                  injection hj with hj
                  have hall2 := (mem_ready.1 ((ready_push hz hb hi').1 hi)).2
                  obtain ⟨oi2, hoi2, hall2⟩ := hall2
                  rw [Array.getElem?_eq_getElem hi'] at hoi2
                  injection hoi2 with hoi2
                  subst hj
                  subst hoi2
                  exact hall2 e he hbd
                · refine hcl j oj hj ?_ e he hbd
                  rwa [Array.getD_eq_getD_getElem?, Array.getElem?_setIfInBounds_ne (Ne.symm hji), ← Array.getD_eq_getD_getElem?] at hg
              rw [Array.getD_eq_getD_getElem?, Array.getElem?_setIfInBounds_ne (Ne.symm hei), ← Array.getD_eq_getD_getElem?]
              exact hold
          rw [hset, hwd]
          split
          · rename_i hw
            rw [if_pos hw] at hx
            rcases hx with hx | hx
            · exact .inl (Oper.wp_mono (fun a' w' h' => ih _ a' w' (by simpa using hz) hcl2 h') (Oper.wp_lastQ hx))
            · exact .inr ⟨hx.1, by obtain ⟨a, w, h⟩ := hx.2; exact ⟨a, w, h⟩⟩
          · rename_i hw
            rw [if_neg hw] at hx
            exact ih _ _ _ (by simpa using hz) hcl2 hx
        · exfalso
          obtain rfl : i = ops.size := by omega
          rw [hon] at ho
          injection ho with ho
          subst ho
          have hall3 : ∀ e ∈ o.after, Region.binds md e = true → listed.getD e.on false = true := fun e he hbd => by
            have hx := hall e he hbd
            have hlt2 : e.on < ops.size := by
              have hbo := List.all_eq_true.1 hbp ops.size (List.mem_range.2 (by simp))
              rw [hon] at hbo
              simp only [Option.map_some, Option.getD_some] at hbo
              exact of_decide_eq_true (Array.all_eq_true_iff_forall_mem.1 hbo e he)
            rw [Array.getD_eq_getD_getElem?] at hx ⊢
            rwa [Array.getElem?_push_lt (by omega), ← Array.getElem?_eq_getElem (by omega)] at hx
          apply hr
          refine List.eq_nil_iff_forall_not_mem.2 fun j hj => ?_
          obtain ⟨g1, oj, hoj, -⟩ := mem_ready.1 hj
          have hjl := (Array.getElem?_eq_some_iff.1 hoj).1
          have hx := hwait listed hcl hall3 ops.size j (by omega) hjl
          rw [Array.getD_eq_getD_getElem?] at hx g1
          rw [Array.getElem?_eq_getElem (by omega)] at g1 hx
          simp at hx g1
          rw [hx] at g1; cases g1

/-- The last operation of l, number n, waits for all others. -/
def tailOk (n : Nat) (l : List Oper) : Bool := decide (l.length = n + 1) && (backward l.toArray && (lastWaits .any l.dropLast.toArray (l.getLastD default) && guardsLow n l.dropLast))
/-- **A drawn region whose last operation waits for all others**: S is owed behind each of the others, not behind the last one. -/
theorem wp_region_tail {id : Nat} {l : List Oper} {a : Act} {w : World} (n : Nat) (ht : tailOk n l = true) (hm : P.follows .mixedOrders = true) (hS : S w.drew)
    (h : S w.drew → wpAnyH P .any l.dropLast.toArray (LastQ P l.toArray n Q) S n (Array.replicate n false) a w.drew) : (Code.region id l.toArray true).wp P Q a w := by
  unfold tailOk at ht
  simp only [Bool.and_eq_true] at ht
  obtain ⟨h1, hb, hl, hg⟩ := ht
  have h1 := of_decide_eq_true h1
  have hne : l ≠ [] := fun e => by rw [e] at h1; simp at h1
  obtain ⟨ops, o, rfl⟩ : ∃ ops o, l = ops ++ [o] := ⟨l.dropLast, l.getLast hne, (List.dropLast_concat_getLast hne).symm⟩
  rw [List.dropLast_concat] at h hg hl
  obtain rfl : n = ops.length := by simpa using h1.symm
  rw [show (ops ++ [o]).getLastD default = o by simp [List.getLastD_eq_getLast?]] at hl
  refine wp_region_any hm ?_
  have hsz : (ops ++ [o]).toArray = ops.toArray.push o := by simp
  rw [hsz] at hb h ⊢
  have := wpAny_last (P := P) (Q := Q) (md := .any) hb (by simpa using hl) (by simpa using hg) ops.length (Array.replicate ops.length false) a w.drew (by simp) (fun i oi _ hg _ _ _ => by rw [Array.getD_eq_getD_getElem?, Array.getElem?_replicate] at hg; split at hg <;> simp at hg) (wpAny_of_held _ _ _ _ (by simpa using h hS))
  rw [Array.size_push, List.size_toArray, show Array.replicate (ops.length + 1) false = (Array.replicate ops.length false).push false from Array.replicate_succ]
  exact this
/-- The last operation. -/
theorem LastQ.step {n : Nat} {o : Oper} {a : Act} {w : World} (ho : ops[n]? = some o)
    (h : ∀ K : Act → World → Prop, Shut (∀ a w, Q .normal a w → K a w) → if Region.wanted o (yielded ops a.tmps) = true then Oper.wp P o a w K Q else K (a.put o.dst undef) w) : LastQ P ops n Q .normal a w :=
  wpOp_step ho (fun K hK => h K hK)
end
end Go.Proofs.YtgbbojnigicnoaaDoor

