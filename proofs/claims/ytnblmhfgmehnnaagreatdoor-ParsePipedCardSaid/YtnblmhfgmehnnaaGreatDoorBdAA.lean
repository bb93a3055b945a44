/- Several texts as one. -/
import Derived.WalkKit
import Derived.WalkSpells
import Derived.WalkLawsBesides
import Derived.Lib.Hide
import Derived.Deep.Quiet
import Derived.Test.YtnblmhfgmehnnaaGreatDoorRows
import Derived.ProofKit
import Derived.OpenShut
import Derived.SizedLaws
import Derived.ChangeArms
import Derived.ChangeMaps5
import Derived.Test.YtnblmhfgmehnnaaGreatDoorCards
import Derived.Test.YtnblmhfgmehnnaaGreatDoorTie
import Derived.HandedShaped
import Derived.Lay
import Derived.LaidOnce
import Derived.SevenTiedAt
import Derived.Shelf.Vars
import Derived.BigQuiet
import Derived.Deep.DrawnRows
import Derived.Lib.SlTrimSet
import Derived.Lib.IndexBytes
import Derived.Lib.Index
import Derived.Test.YtnblmhfgmehnnaaGreatDoorShelf
import Derived.Maps.AppendAt
import Derived.OwnWalk
import Derived.Shelf.Spec.SlicesInsertGrow
import Derived.Lib.Bytealg
/- Words for memory: cells in a row, a block that is known whole, what one call leaves as it was. -/
namespace Go.Proofs.YtnblmhfgmehnnaaGreatDoor
open Go.RowKit

/-- An integer that int64 holds. -/
def i64ok (n : Int) : Prop := -9223372036854775808 ≤ n ∧ n ≤ 9223372036854775807

/-- Cells that lie in a row in memory. -/
def cellsAt (w : World) (b o : Nat) (cs : List Value) : Prop := ∀ j v, cs[j]? = some v → w.cell? ⟨b, o + j, none⟩ = some v

theorem cellsAt.lt {w : World} {b o : Nat} {c : Value} {cs : List Value} (h : cellsAt w b o (c :: cs)) : b < w.heap.size :=
  block_lt_of_cell (h 0 c rfl)
theorem cellsAt.keep {w w' : World} {b o : Nat} {cs : List Value} (h : cellsAt w b o cs) (hw : ∀ i, w'.cell? ⟨b, i, none⟩ = w.cell? ⟨b, i, none⟩) : cellsAt w' b o cs :=
  fun j v hv => (hw _).trans (h j v hv)

/-- A block that is known whole: its cells, none of them frozen. -/
def Blk (w : World) (g : Nat) (t : TypeId) (cs : Array Value) : Prop := w.heap[g]? = some (.cells cs t (0, 0))
section
variable {w w' : World} {g : Nat} {t : TypeId} {cs : Array Value}
theorem Blk.lt (h : Blk w g t cs) : g < w.heap.size := by
  rcases Nat.lt_or_ge g w.heap.size with hlt | hge
  · exact hlt
  · unfold Blk at h; rw [Array.getElem?_eq_none hge] at h; cases h
theorem Blk.cell (h : Blk w g t cs) (i : Nat) : w.cell? ⟨g, i, none⟩ = cs[i]? := cell_of_row w g i cs t (0, 0) h
theorem Blk.frozen (h : Blk w g t cs) (i : Nat) : w.frozen? ⟨g, i, none⟩ = false := by
  unfold Blk at h
  simp [World.frozen?, h]
theorem Blk.new (w : World) (t : TypeId) (cs : Array Value) : Blk (w.alloc (.cells cs t)) w.heap.size t cs := heap_alloc_new w _
theorem Blk.new_at (w : World) (t : TypeId) (cs : Array Value) {n : Nat} (hn : n = w.heap.size) : Blk (w.alloc (.cells cs t)) n t cs := hn ▸ heap_alloc_new w _
theorem Blk.drew (h : Blk w g t cs) : Blk w.drew g t cs := h
theorem Blk.drewN (h : Blk w g t cs) (n : Nat) : Blk (w.drewN n) g t cs := h
theorem Blk.alloc (h : Blk w g t cs) (o : Obj) : Blk (w.alloc o) g t cs := (Below.heap_alloc w o g h.lt).trans h
theorem Blk.set_ (h : Blk w g t cs) (i : Nat) (u : Value) : Blk (w.setCell ⟨g, i, none⟩ u) g t (cs.setIfInBounds i u) := by
  unfold Blk at h ⊢
  simp [World.setCell, Array.getElem?_modify, h]
theorem Blk.far (h : Blk w g t cs) {p : Addr} (hp : g ≠ p.block) (u : Value) : Blk (w.setCell p u) g t cs := (Below.heap_setCell w p u g hp).trans h
theorem Blk.below {B : Nat} (h : Blk w g t cs) (hb : Below B w w') (hg : g < B) : Blk w' g t cs := (hb.block g hg).trans h
theorem Blk.keep (h : Blk w g t cs) (hb : Below w.heap.size w w') : Blk w' g t cs := (hb.block g h.lt).trans h
theorem Blk.grown {row : Option Nat} (h : Blk w g t cs) (hb : w.grownBy w' row) (hg : some g ≠ row) : Blk w' g t cs := (hb.block g h.lt hg).trans h
theorem Blk.ne_ {g' : Nat} {t' : TypeId} {cs' : Array Value} (h : Blk w g t cs) (h' : Blk w g' t' cs') (hne : t ≠ t') : g ≠ g' := by
  rintro rfl
  unfold Blk at h h'
  rw [h] at h'
  injection h' with h'
  injection h' with _ ht
  exact hne ht
end

theorem Below.drewN {B : Nat} {a w : World} (h : Below B a w) (n : Nat) : Below B a (w.drewN n) := ⟨h.os, h.tape, h.output, h.size, h.block⟩
/-- A new block. -/
theorem Below.new (w : World) (o : Obj) : Below w.heap.size w (w.alloc o) := (Below.refl _ _).alloc (Nat.le_refl _) o
/-- One call behind another. -/
theorem Below.next {a b c : World} (h : Below a.heap.size a b) (k : Below b.heap.size b c) : Below a.heap.size a c := h.trans (k.mono h.size)

/-- The elements of a slice of integers. -/
def RepI (w : World) (S : Nat → Prop) (k : IntKind) (a : Option Addr) (xs : List Int) : Prop :=
  ∀ i (h : i < xs.length), ∃ b o, a = some ⟨b, o, none⟩ ∧ S b ∧ b < w.heap.size ∧ w.cell? ⟨b, o + i, none⟩ = some (.int k xs[i])
theorem RepI.keep {w w' : World} {S : Nat → Prop} {k : IntKind} {a : Option Addr} {xs : List Int} (h : RepI w S k a xs) (hb : Below w.heap.size w w') : RepI w' S k a xs := fun i hi => by
  obtain ⟨b, o, e, hs, hlt, hc⟩ := h i hi
  exact ⟨b, o, e, hs, Nat.lt_of_lt_of_le hlt hb.size, (hb.cell (p := ⟨b, o + i, none⟩) hlt).trans hc⟩

theorem wrap_fit {x : Int} (h0 : -9223372036854775808 ≤ x) (h1 : x ≤ 9223372036854775807) : IntKind.i64.wrap x = x := by
  simp [IntKind.wrap_i64]; omega

theorem bcell {W w1 : World} (hb : Below W.heap.size W w1) : (∀ b o, b < W.heap.size → w1.cell? ⟨b, o, none⟩ = W.cell? ⟨b, o, none⟩) ∧ (∀ b o, b < W.heap.size → w1.frozen? ⟨b, o, none⟩ = W.frozen? ⟨b, o, none⟩) :=
  ⟨fun b o h => hb.cell (p := ⟨b, o, none⟩) h, fun b o h => hb.frozen (p := ⟨b, o, none⟩) h⟩

end Go.Proofs.YtnblmhfgmehnnaaGreatDoor

/- The frame of a law: what its row asks behind the call, out of a walk that answers true and leaves old memory as it was. -/
namespace Go.Proofs.YtnblmhfgmehnnaaGreatDoor
open Go.ChangeShapes Go.WideShapes Go.ChangeAt Go.RowKit

theorem own : ownKnob Tryz.prog.godebug = none := by kernel_rfl
theorem laidOut : laidOutB Tryz.prog = true := by kernel_rfl

section
variable {H : Type} {enc : TypeId × Value → H} {P : Program}
theorem trodAll_below (hl : laidOutB P = true) {W W' : World} (hb : Below W.heap.size W W') : ∀ {ts : List TypeId} {vs : List Value} {ds : List (DataW H)} {ps : List MemPlace},
    (∀ t ∈ ts, P.readableRec t = true ∧ t < P.types.size) → (∀ x ∈ ps, x.block < W.heap.size) → DataW.TrodAll enc P W 0 (fun _ => true) true ts vs ds ps →
    DataW.TrodAll enc P W' 0 (fun b => decide (b < W.heap.size)) true ts vs ds ps := by
  intro ts
  induction ts with
  | nil =>
    intro vs ds ps _ _ h
    match vs, ds, h with
    | [], [], h => exact h
  | cons t ts ih =>
    intro vs ds ps hr hlt h
    match vs, ds, h with
    | v :: vs, d :: ds, h =>
      obtain ⟨p, q, h1, h2, rfl⟩ := h
      exact ⟨p, q, Below.trod hl (hr t (by simp)).1 (hr t (by simp)).2 h1 hb (fun x hx => hlt x (by simp [hx])), ih (fun t ht => hr t (by simp [ht])) (fun x hx => hlt x (by simp [hx])) h2, rfl⟩

theorem spot_none {w : World} {a : Addr} {v : Value} (h : w.cell? a = some v) : a = ⟨a.block, a.off, none⟩ := by
  obtain ⟨b, o, s⟩ := a
  cases s with
  | none => rfl
  | some k =>
    unfold World.cell? at h
    split at h <;> simp at h
theorem add_none (b o i : Nat) : (⟨b, o, none⟩ : Addr).add i = ⟨b, o + i, none⟩ := by unfold Addr.add; split <;> simp_all

/-- A slice of integers that came in. -/
theorem open_RepI {t e : TypeId} {k : IntKind} {W : World} {r : Reach} {b0 : Nat} {v : Value} {d : DataW H} {p : List MemPlace} (ht : P.underlying t = some (.slice e)) (he : P.underlying e = some (.int k)) (hc : P.cellsOf e = 1)
    (hv : Value.okWide P W r b0 t v) (h : DataW.Trod enc P W 0 (fun _ => true) true t v d p) :
    ∃ a n c xs, v = .slice a n c ∧ n = xs.length ∧ n ≤ 9223372036854775807 ∧ RepI W (fun _ => True) k a xs := by
  obtain ⟨a0, len, cap, rfl⟩ := okWide_slice ht hv
  obtain ⟨fuel, hf⟩ := h
  rcases open_ints ht he hc hf with ⟨hcs, hx⟩ | ⟨a, len', cap', zs, hcs, _, hl, hm, hz, hx, hcell, hwz⟩
  · simp only [Value.cells, List.cons.injEq, Value.slice.injEq, and_true] at hcs
    obtain ⟨rfl, rfl, rfl⟩ := hcs
    exact ⟨none, 0, 0, [], rfl, rfl, by omega, fun i hi => by simp at hi⟩
  · simp only [Value.cells, List.cons.injEq, Value.slice.injEq, and_true] at hcs
    obtain ⟨rfl, rfl, rfl⟩ := hcs
    rw [if_pos rfl] at hz
    have hlen : (zs.take len).length = len := by rw [List.length_take]; omega
    refine ⟨some a, len, cap, zs.take len, rfl, hlen.symm, by unfold maxLen at hm; omega, fun i hi => ?_⟩
    have hi' : i < len := by omega
    have h0 := hcell 0 (by omega)
    have hs : a = ⟨a.block, a.off, none⟩ := by
      have : a.add 0 = a := by simp [Addr.add]
      rw [this] at h0
      exact spot_none h0
    have hi2 := hcell i (by omega)
    rw [hs, add_none] at hi2
    refine ⟨a.block, a.off, by rw [← hs], trivial, block_lt_of_cell (a := ⟨a.block, a.off + i, none⟩) hi2, ?_⟩
    rw [hi2]
    simp [List.getElem_take, show i < zs.length by omega]

theorem post_law {f : Func} {s : ChangeSpec} {apart : Bool} {W W' : World} {args : Array Value} {ds gs : List (DataW H)} {before : List MemPlace} {tb : TypeId}
    (hl : laidOutB P = true) (hr : ∀ t ∈ f.params.toList, P.readableRec t = true ∧ t < P.types.size) (hv : s.vars = []) (hb : f.resultTypes = #[tb]) (ub : P.underlying tb = some .bool)
    (hfn : s.fn H (ds ++ gs) = { results := [.lit (.bool true)], args := ds })
    (hW : DataW.Whole enc P f.params.toList s.vars apart W args.toList ds gs before) (hbl : Below W.heap.size W W') :
    s.post enc P f apart true false false W args (.bool true) W' := by
  have hlt : ∀ p ∈ before, p.block < W.heap.size := fun p hp => hW.lt p hp
  have hW' := hW
  obtain ⟨p, q, hA, hV, rfl, hfz, hnd⟩ := hW
  rw [hv] at hV
  obtain ⟨rfl, rfl⟩ := trodVars_none hV
  have hA' := trodAll_below hl hbl hr (fun x hx => hlt x (by simp [hx])) hA
  refine ⟨ds, [], p ++ [], [], p, [], hW', ?_, ?_, ?_, World.keptBut_mono (fun x hx => ⟨by simpa using hx, ?_⟩) (hbl.frame (· ∈ p)), fun h => by cases h⟩
  · rw [hfn, hb]
    exact trodAll_cons_mk (shut_bool ub _) trodAll_mk0
  · rw [hfn]
    exact hA'
  · rw [hfn, hv]
    exact hV
  · exact Or.inr (Or.inl hx)
end

set_option maxRecDepth 100000 in
/-- A law's row step: the walk is asked of every world in which the arguments read as data within the form's reach. -/
theorem lifted_of {f : FuncId} {fn : Func} {s : ChangeSpec} {tb : TypeId} (os : Os) (started : os.Started) (H : Type) (enc : TypeId × Value → H)
    (noInit : Tryz.checked.prog.inits.idxOf? f = none) (hfn : Tryz.checked.prog.funcs[f]? = some fn)
    (witness : ∃ (w : World) (tape : Tape) (i : Input), w.os = os ∧ (w.forCall tape i).Shaped Tryz.checked.prog ∧ i.vars = [] ∧ Input.okWide Tryz.checked.prog (w.forCall tape i) .any w.heap.size f i ∧
      s.pre6 enc Tryz.checked.prog fn [] false (w.forCall tape i).memory i.args ∧ ({} : Assume).holds Tryz.checked.prog (lone (Frame.enter Tryz.checked.prog f i.args .normal) [] (w.forCall tape i)))
    (hr0 : fn.params.toList.all (fun t => Tryz.prog.readableRec t && decide (t < Tryz.prog.types.size)) = true) (hv : s.vars = []) (hb : fn.resultTypes = #[tb]) (ub : Tryz.prog.underlying tb = some .bool)
    (hsp : ∀ ds : List (DataW H), ds.length = fn.params.size → s.fn H ds = { results := [.lit (.bool true)], args := ds })
    (walk : ∀ (W : World) (base : Nat) (args : Array Value) (ds : List (DataW H)) (p : List MemPlace),
      (∀ (j : Nat) t v, fn.params[j]? = some t → args[j]? = some v → Value.okWide Tryz.prog W .any base t v) →
      DataW.TrodAll enc Tryz.prog W 0 (fun _ => true) true fn.params.toList args.toList ds p →
      (DataW.weightsEach Tryz.prog fn.params.toList ds).all (· ≤ reachBytes) = true →
      Calls Tryz.prog f args W fun e w' => e = .returned (.bool true) ∧ Below W.heap.size W w') :
    ReturnsInHanded {} Tryz.checked os f .any (s.pre6 enc Tryz.prog fn [] false) (s.post enc Tryz.prog fn false true false false) := by
  have hr : ∀ t ∈ fn.params.toList, Tryz.prog.readableRec t = true ∧ t < Tryz.prog.types.size := fun t ht => by
    have := List.all_eq_true.1 hr0 t ht
    simpa using this
  refine returnsInHanded_of_change_sized (C := Tryz.checked) own started noInit hfn witness ?_
  intro W base args ds gs before hval hW _ hsz _
  have hW' := hW
  obtain ⟨p, q, hA, hV, rfl, hfz, hnd⟩ := hW
  rw [hv] at hV
  obtain ⟨rfl, rfl⟩ := trodVars_none hV
  have hlen : ds.length = fn.params.size := by
    have : ∀ {ts : List TypeId} {vs : List Value} {ds : List (DataW H)} {ps : List MemPlace}, DataW.TrodAll enc Tryz.prog W 0 (fun _ => true) true ts vs ds ps → ds.length = ts.length := by
      intro ts
      induction ts with
      | nil =>
        intro vs ds ps h
        match vs, ds, h with
        | [], [], _ => rfl
      | cons t ts ih =>
        intro vs ds ps h
        match vs, ds, h with
        | v :: vs, d :: ds, h =>
          obtain ⟨p, q, _, h2, rfl⟩ := h
          simp [ih h2]
    simpa using this hA
  have hsz' : (DataW.weightsEach Tryz.prog fn.params.toList ds).all (· ≤ reachBytes) = true := by
    have h := hsz
    simp only [ChangeSpec.plain, DataSpec.varTypes, hv, List.filterMap_nil, List.append_nil] at h
    exact h
  exact (walk W base args ds p hval hA hsz').mono fun e W' ⟨he, hbl⟩ => ⟨_, he, post_law laidOut hr hv hb ub (by rw [List.append_nil]; exact hsp ds hlen) hW' hbl⟩

end Go.Proofs.YtnblmhfgmehnnaaGreatDoor

/- The trees that values stand for, and when a value in memory reads as one. -/
namespace Go.Proofs.YtnblmhfgmehnnaaGreatDoor
open Go.RowKit

/-- A value as a tree. -/
inductive T where
  | mk (kind : Int) (b : Bool) (n : Int) (s : ByteArray) (l : List T) (m : List (ByteArray × T))

theorem T.ind {C : T → Prop} (h : ∀ k b n s l m, (∀ x ∈ l, C x) → (∀ p ∈ m, C p.2) → C (.mk k b n s l m)) : ∀ t, C t := by
  intro t
  refine T.rec (motive_1 := C) (motive_2 := fun l => ∀ x ∈ l, C x) (motive_3 := fun m => ∀ p ∈ m, C p.2) (motive_4 := fun p => C p.2) ?_ ?_ ?_ ?_ ?_ ?_ t
  · exact fun k b n s l m hl hm => h k b n s l m hl hm
  · simp
  · intro a l ha hl x hx
    rcases List.mem_cons.1 hx with rfl | hx
    · exact ha
    · exact hl x hx
  · simp
  · intro a l ha hl x hx
    rcases List.mem_cons.1 hx with rfl | hx
    · exact ha
    · exact hl x hx
  · exact fun k t ht => ht

def T.kind : T → Int | .mk k _ _ _ _ _ => k
def T.bool : T → Bool | .mk _ b _ _ _ _ => b
def T.int : T → Int | .mk _ _ n _ _ _ => n
def T.str : T → ByteArray | .mk _ _ _ s _ _ => s
def T.list : T → List T | .mk _ _ _ _ l _ => l
def T.map : T → List (ByteArray × T) | .mk _ _ _ _ _ m => m
theorem T.ind' {C : T → Prop} (h : ∀ t : T, (∀ x ∈ t.list, C x) → (∀ p ∈ t.map, C p.2) → C t) : ∀ t, C t :=
  T.ind fun k b n s l m hl hm => h (.mk k b n s l m) hl hm
/-- The zero value. -/
def T.zero : T := .mk 0 false 0 ⟨#[]⟩ [] []

theorem agg_list {cs : List Value} {a : Array Value} (h : Value.agg cs.toArray = .agg a) : cs = a.toList := by
  injection h with h
  rw [← h]

/-- Value v reads, in world w, as tree t; of memory only blocks in S are met. -/
inductive RepT (w : World) (S : Nat → Prop) : Value → T → Prop
  | mk (k : Int) (b : Bool) (n : Int) (s : ByteArray) (l : List T) (m : List (ByteArray × T)) (la : Option Addr) (lc : Nat) (ma : Option Addr) (mc : Nat)
      (C : Nat → List Value) (D : Nat → List Value)
      (hk : i64ok k) (hn : i64ok n) (hs : s.size ≤ 140737488351232) (hl : l.length * 88 ≤ 140737488355328) (hm : m.length * 104 ≤ 140737488355328) (hlc : l.length ≤ lc) (hmc : m.length ≤ mc) (hlx : lc ≤ maxLen) (hmx : mc ≤ maxLen)
      (hla : ∀ i, i < l.length → ∃ b o, la = some ⟨b, o, none⟩ ∧ S b ∧ cellsAt w b (o + i * 6) (C i))
      (hlr : ∀ i (h : i < l.length), RepT w S (.agg (C i).toArray) l[i])
      (hma : ∀ i (h : i < m.length), ∃ b o, ma = some ⟨b, o, none⟩ ∧ S b ∧ m[i].1.size ≤ 140737488351232 ∧ cellsAt w b (o + i * 7) (.string m[i].1 :: D i))
      (hmr : ∀ i (h : i < m.length), RepT w S (.agg (D i).toArray) m[i].2) :
      RepT w S (.agg #[.int .i64 k, .bool b, .int .i64 n, .string s, .slice la l.length lc, .slice ma m.length mc]) (.mk k b n s l m)

/-- The elements of a slice of values. -/
def RepL (w : World) (S : Nat → Prop) (a : Option Addr) (l : List T) : Prop :=
  ∀ i (h : i < l.length), ∃ b o cs, a = some ⟨b, o, none⟩ ∧ S b ∧ cellsAt w b (o + i * 6) cs ∧ RepT w S (.agg cs.toArray) l[i]
/-- The elements of a slice of pairs. -/
def RepM (w : World) (S : Nat → Prop) (a : Option Addr) (m : List (ByteArray × T)) : Prop :=
  ∀ i (h : i < m.length), ∃ b o cs, a = some ⟨b, o, none⟩ ∧ S b ∧ m[i].1.size ≤ 140737488351232 ∧ cellsAt w b (o + i * 7) (.string m[i].1 :: cs) ∧ RepT w S (.agg cs.toArray) m[i].2

/-- What a value is, laid open. -/
def RepParts (w : World) (S : Nat → Prop) (la : Option Addr) (lc : Nat) (ma : Option Addr) (mc : Nat) (t : T) : Prop :=
  i64ok t.kind ∧ i64ok t.int ∧ t.str.size ≤ 140737488351232 ∧ t.list.length * 88 ≤ 140737488355328 ∧ t.map.length * 104 ≤ 140737488355328 ∧ t.list.length ≤ lc ∧ t.map.length ≤ mc ∧ lc ≤ maxLen ∧ mc ≤ maxLen ∧
    RepL w S la t.list ∧ RepM w S ma t.map

section
variable {w w' : World} {S S' : Nat → Prop} {v : Value} {t : T}

theorem RepT.inv (h : RepT w S v t) : ∃ la lc ma mc, v = .agg #[.int .i64 t.kind, .bool t.bool, .int .i64 t.int, .string t.str, .slice la t.list.length lc, .slice ma t.map.length mc] ∧ RepParts w S la lc ma mc t := by
  cases h with
  | mk k b n s l m la lc ma mc C D hk hn hs hl hm hlc hmc hlx hmx hla hlr hma hmr =>
    refine ⟨la, lc, ma, mc, rfl, hk, hn, hs, hl, hm, hlc, hmc, hlx, hmx, fun i hi => ?_, fun i hi => ?_⟩
    · obtain ⟨b, o, e, hb, hc⟩ := hla i hi
      exact ⟨b, o, C i, e, hb, hc, hlr i hi⟩
    · obtain ⟨b, o, e, hb, hz, hc⟩ := hma i hi
      exact ⟨b, o, D i, e, hb, hz, hc, hmr i hi⟩

theorem RepT.of {la : Option Addr} {lc : Nat} {ma : Option Addr} {mc : Nat} (h : RepParts w S la lc ma mc t) :
    RepT w S (.agg #[.int .i64 t.kind, .bool t.bool, .int .i64 t.int, .string t.str, .slice la t.list.length lc, .slice ma t.map.length mc]) t := by
  obtain ⟨hk, hn, hs, hl, hm, hlc, hmc, hlx, hmx, hL, hM⟩ := h
  cases t with
  | mk k b n s l m =>
    have hL' : ∀ i, ∃ cs, ∀ h : i < l.length, ∃ b o, la = some ⟨b, o, none⟩ ∧ S b ∧ cellsAt w b (o + i * 6) cs ∧ RepT w S (.agg cs.toArray) l[i] := by
      intro i
      by_cases h : i < l.length
      · obtain ⟨b, o, cs, r⟩ := hL i h
        exact ⟨cs, fun _ => ⟨b, o, r⟩⟩
      · exact ⟨[], fun h' => absurd h' h⟩
    have hM' : ∀ i, ∃ cs, ∀ h : i < m.length, ∃ b o, ma = some ⟨b, o, none⟩ ∧ S b ∧ m[i].1.size ≤ 140737488351232 ∧ cellsAt w b (o + i * 7) (.string m[i].1 :: cs) ∧ RepT w S (.agg cs.toArray) m[i].2 := by
      intro i
      by_cases h : i < m.length
      · obtain ⟨b, o, cs, r⟩ := hM i h
        exact ⟨cs, fun _ => ⟨b, o, r⟩⟩
      · exact ⟨[], fun h' => absurd h' h⟩
    refine .mk k b n s l m la lc ma mc (fun i => Classical.choose (hL' i)) (fun i => Classical.choose (hM' i)) hk hn hs hl hm hlc hmc hlx hmx (fun i h => ?_) (fun i h => ?_) (fun i h => ?_) (fun i h => ?_)
    · obtain ⟨b, o, e, hb, hc, _⟩ := Classical.choose_spec (hL' i) h
      exact ⟨b, o, e, hb, hc⟩
    · obtain ⟨_, _, _, _, _, hr⟩ := Classical.choose_spec (hL' i) h
      exact hr
    · obtain ⟨b, o, e, hb, hz, hc, _⟩ := Classical.choose_spec (hM' i) h
      exact ⟨b, o, e, hb, hz, hc⟩
    · obtain ⟨_, _, _, _, _, _, hr⟩ := Classical.choose_spec (hM' i) h
      exact hr

theorem RepT.mono (h : RepT w S v t) (hS : ∀ b, S b → b < w.heap.size → S' b) (hw : ∀ b o, S b → b < w.heap.size → w'.cell? ⟨b, o, none⟩ = w.cell? ⟨b, o, none⟩) : RepT w' S' v t := by
  induction h with
  | mk k b n s l m la lc ma mc C D hk hn hs hl hm hlc hmc hlx hmx hla hlr hma hmr ihl ihm =>
    refine .mk k b n s l m la lc ma mc C D hk hn hs hl hm hlc hmc hlx hmx ?_ ihl ?_ ihm
    · intro i hi
      obtain ⟨b, o, e, hb, hc⟩ := hla i hi
      have hr := hlr i hi
      have hlt : b < w.heap.size := by
        generalize C i = cs at hc hr
        obtain ⟨_, _, _, _, hv, _⟩ := hr.inv
        have := agg_list hv
        subst this
        exact hc.lt
      exact ⟨b, o, e, hS b hb hlt, hc.keep fun i => hw _ _ hb hlt⟩
    · intro i hi
      obtain ⟨b, o, e, hb, hz, hc⟩ := hma i hi
      have hlt := hc.lt
      exact ⟨b, o, e, hS b hb hlt, hz, hc.keep fun i => hw _ _ hb hlt⟩

theorem RepT.keep (h : RepT w S v t) (hb : Below w.heap.size w w') : RepT w' S v t :=
  h.mono (fun _ h _ => h) fun _ _ _ hlt => hb.cell hlt
theorem RepT.weak (h : RepT w S v t) (hS : ∀ b, S b → b < w.heap.size → S' b) : RepT w S' v t := h.mono hS fun _ _ _ _ => rfl

theorem RepL.mono {a : Option Addr} {l : List T} (h : RepL w S a l) (hS : ∀ b, S b → b < w.heap.size → S' b) (hw : ∀ b o, S b → b < w.heap.size → w'.cell? ⟨b, o, none⟩ = w.cell? ⟨b, o, none⟩) : RepL w' S' a l := by
  intro i hi
  obtain ⟨b, o, cs, e, hb, hc, hr⟩ := h i hi
  have hlt : b < w.heap.size := by
    obtain ⟨_, _, _, _, hv, _⟩ := hr.inv
    have := agg_list hv
    subst this
    exact hc.lt
  exact ⟨b, o, cs, e, hS b hb hlt, hc.keep fun i => hw _ _ hb hlt, hr.mono hS hw⟩
theorem RepM.mono {a : Option Addr} {m : List (ByteArray × T)} (h : RepM w S a m) (hS : ∀ b, S b → b < w.heap.size → S' b) (hw : ∀ b o, S b → b < w.heap.size → w'.cell? ⟨b, o, none⟩ = w.cell? ⟨b, o, none⟩) : RepM w' S' a m := by
  intro i hi
  obtain ⟨b, o, cs, e, hb, hz, hc, hr⟩ := h i hi
  have hlt := hc.lt
  exact ⟨b, o, cs, e, hS b hb hlt, hz, hc.keep fun i => hw _ _ hb hlt, hr.mono hS hw⟩
theorem RepL.keep {a : Option Addr} {l : List T} (h : RepL w S a l) (hb : Below w.heap.size w w') : RepL w' S a l := h.mono (fun _ h _ => h) fun _ _ _ hlt => hb.cell hlt
theorem RepM.keep {a : Option Addr} {m : List (ByteArray × T)} (h : RepM w S a m) (hb : Below w.heap.size w w') : RepM w' S a m := h.mono (fun _ h _ => h) fun _ _ _ hlt => hb.cell hlt

/-- Element i of a slice of values: where it lies, cell by cell, and what it is. -/
theorem RepL.at_ {a : Option Addr} {l : List T} (h : RepL w S a l) {i : Nat} (hi : i < l.length) : ∃ b o la lc ma mc, a = some ⟨b, o, none⟩ ∧ S b ∧ b < w.heap.size ∧
    (w.cell? ⟨b, o + i * 6, none⟩ = some (.int .i64 l[i].kind) ∧ w.cell? ⟨b, o + i * 6 + 1, none⟩ = some (.bool l[i].bool) ∧ w.cell? ⟨b, o + i * 6 + 2, none⟩ = some (.int .i64 l[i].int) ∧ w.cell? ⟨b, o + i * 6 + 3, none⟩ = some (.string l[i].str) ∧
      w.cell? ⟨b, o + i * 6 + 4, none⟩ = some (.slice la l[i].list.length lc) ∧ w.cell? ⟨b, o + i * 6 + 5, none⟩ = some (.slice ma l[i].map.length mc)) ∧
    RepT w S (.agg #[.int .i64 l[i].kind, .bool l[i].bool, .int .i64 l[i].int, .string l[i].str, .slice la l[i].list.length lc, .slice ma l[i].map.length mc]) l[i] := by
  obtain ⟨b, o, cs, e, hb, hc, hr⟩ := h i hi
  obtain ⟨la, lc, ma, mc, hv, hp⟩ := hr.inv
  have := agg_list hv
  subst this
  exact ⟨b, o, la, lc, ma, mc, e, hb, hc.lt, ⟨hc 0 _ rfl, hc 1 _ rfl, hc 2 _ rfl, hc 3 _ rfl, hc 4 _ rfl, hc 5 _ rfl⟩, hr⟩
/-- Element i of a slice of pairs. -/
theorem RepM.at_ {a : Option Addr} {m : List (ByteArray × T)} (h : RepM w S a m) {i : Nat} (hi : i < m.length) : ∃ b o la lc ma mc, a = some ⟨b, o, none⟩ ∧ S b ∧ b < w.heap.size ∧ m[i].1.size ≤ 140737488351232 ∧
    (w.cell? ⟨b, o + i * 7, none⟩ = some (.string m[i].1) ∧ w.cell? ⟨b, o + i * 7 + 1, none⟩ = some (.int .i64 m[i].2.kind) ∧ w.cell? ⟨b, o + i * 7 + 2, none⟩ = some (.bool m[i].2.bool) ∧ w.cell? ⟨b, o + i * 7 + 3, none⟩ = some (.int .i64 m[i].2.int) ∧
      w.cell? ⟨b, o + i * 7 + 4, none⟩ = some (.string m[i].2.str) ∧ w.cell? ⟨b, o + i * 7 + 5, none⟩ = some (.slice la m[i].2.list.length lc) ∧ w.cell? ⟨b, o + i * 7 + 6, none⟩ = some (.slice ma m[i].2.map.length mc)) ∧
    RepT w S (.agg #[.int .i64 m[i].2.kind, .bool m[i].2.bool, .int .i64 m[i].2.int, .string m[i].2.str, .slice la m[i].2.list.length lc, .slice ma m[i].2.map.length mc]) m[i].2 := by
  obtain ⟨b, o, cs, e, hb, hz, hc, hr⟩ := h i hi
  obtain ⟨la, lc, ma, mc, hv, hp⟩ := hr.inv
  have := agg_list hv
  subst this
  exact ⟨b, o, la, lc, ma, mc, e, hb, hc.lt, hz, ⟨hc 0 _ rfl, hc 1 _ rfl, hc 2 _ rfl, hc 3 _ rfl, hc 4 _ rfl, hc 5 _ rfl, hc 6 _ rfl⟩, hr⟩
end

end Go.Proofs.YtnblmhfgmehnnaaGreatDoor

/- What comes in, opened: a value that reads as data reads as a tree; a list of values; a list of texts. -/
namespace Go.Proofs.YtnblmhfgmehnnaaGreatDoor
open Go.ChangeShapes Go.WideShapes Go.ChangeAt Go.RowKit

def fieldsOf (P : Program) (t : TypeId) : Option (List (TypeId × Nat)) := (P.underlying t).bind fun d => match d with | .struct fs => some (fs.toList.map fun f => (f.type, f.offset)) | _ => none
theorem val_fields : fieldsOf Tryz.prog 41 = some [(3, 0), (4, 1), (2, 2), (9, 3), (38, 4), (39, 5)] := by kernel_rfl
theorem pair_fields : fieldsOf Tryz.prog 118 = some [(9, 0), (41, 1)] := by kernel_rfl
theorem val_cells : Tryz.prog.cellsOf 41 = 6 := by kernel_rfl
theorem pair_cells : Tryz.prog.cellsOf 118 = 7 := by kernel_rfl
theorem one_cells : Tryz.prog.cellsOf 3 = 1 ∧ Tryz.prog.cellsOf 4 = 1 ∧ Tryz.prog.cellsOf 2 = 1 ∧ Tryz.prog.cellsOf 9 = 1 ∧ Tryz.prog.cellsOf 38 = 1 ∧ Tryz.prog.cellsOf 39 = 1 :=
  ⟨by kernel_rfl, by kernel_rfl, by kernel_rfl, by kernel_rfl, by kernel_rfl, by kernel_rfl⟩
theorem val_bytes : Tryz.prog.bytesOf 41 = 88 := by kernel_rfl
theorem pair_bytes : Tryz.prog.bytesOf 118 = 104 := by kernel_rfl
theorem und_vals : Tryz.prog.underlying 38 = some (.slice 41) := by kernel_rfl
theorem und_prs : Tryz.prog.underlying 39 = some (.slice 118) := by kernel_rfl
theorem und_i : Tryz.prog.underlying 3 = some (.int .i64) := by kernel_rfl
theorem und_i64 : Tryz.prog.underlying 2 = some (.int .i64) := by kernel_rfl
theorem und_b : Tryz.prog.underlying 4 = some .bool := by kernel_rfl
theorem und_s : Tryz.prog.underlying 9 = some .string := by kernel_rfl

section
variable {H : Type} {enc : TypeId × Value → H} {W : World}

/-- A struct's data, field by field. -/
theorem trod_fields {P : Program} {t : TypeId} {l : List (TypeId × Nat)} {fuel : Nat} {cs : List Value} {x : DataW H × List MemPlace} (hf : fieldsOf P t = some l) (h : DataW.trod enc P W 0 (fun _ => true) true fuel t cs = some x) :
    ∃ (xs : List (DataW H × List MemPlace)) (n : Nat), fuel = n + 1 ∧ x.1 = .agg (xs.map (·.1)) ∧ x.1.weights P t = DataW.weightsEach P (l.map (·.1)) (xs.map (·.1)) ∧ cs.length = P.cellsOf t ∧ xs.length = l.length ∧
      ∀ (i : Nat) (y : TypeId × Nat), l[i]? = some y → DataW.trod enc P W 0 (fun _ => true) true n y.1 ((cs.drop y.2).take (P.cellsOf y.1)) = xs[i]? := by
  unfold fieldsOf at hf
  cases hu : P.underlying t with
  | none => rw [hu] at hf; cases hf
  | some d =>
    rw [hu] at hf
    cases d with
    | struct fs =>
      simp only [Option.bind_some, Option.some.injEq] at hf
      subst hf
      obtain ⟨xs, n, h1, h2, h3, h4, h5⟩ := DataW.trod_struct hu h
      refine ⟨xs, n, h1, by rw [h2], ?_, h3, by simpa using h4, fun i y hy => ?_⟩
      · rw [h2]
        simp only [DataW.weights, hu, List.map_map]
        rfl
      · rw [List.getElem?_map] at hy
        cases hfi : fs.toList[i]? with
        | none => rw [hfi] at hy; cases hy
        | some f =>
          rw [hfi] at hy
          injection hy with hy
          subst hy
          exact h5 i f (by simpa using hfi)
    | _ => simp at hf

theorem all_append {l m : List Nat} {p : Nat → Bool} (h : (l ++ m).all p = true) : l.all p = true ∧ m.all p = true := by simpa using h
theorem weightsAll_mem {P : Program} {e : TypeId} {l : List (DataW H)} (h : (DataW.weightsAll P e l).all (· ≤ reachBytes) = true) : ∀ d ∈ l, (d.weights P e).all (· ≤ reachBytes) = true := by
  induction l with
  | nil => simp
  | cons d r ih =>
    rw [DataW.weightsAll] at h
    obtain ⟨h1, h2⟩ := all_append h
    intro x hx
    rcases List.mem_cons.1 hx with rfl | hx
    · exact h1
    · exact ih h2 x hx

/-- A slice's elements, each by its own reading. -/
theorem trod_row {P : Program} {t e : TypeId} {sz : Nat} {fuel : Nat} {cs : List Value} {x : DataW H × List MemPlace} (hu : P.underlying t = some (.slice e)) (hc : P.cellsOf e = sz) (hpos : 0 < sz)
    (h : DataW.trod enc P W 0 (fun _ => true) true fuel t cs = some x) (hw : (x.1.weights P t).all (· ≤ reachBytes) = true) :
    ∃ (a : Option Addr) (n c : Nat) (k : Nat), cs = [.slice a n c] ∧ k < fuel ∧ n ≤ c ∧ c ≤ maxLen ∧ n * P.bytesOf e ≤ reachBytes ∧
      ∀ i, i < n → ∃ b o es y, a = some ⟨b, o, none⟩ ∧ es.length = sz ∧ cellsAt W b (o + i * sz) es ∧ DataW.trod enc P W 0 (fun _ => true) true k e es = some y ∧ (y.1.weights P e).all (· ≤ reachBytes) = true := by
  have hf0 : 0 < fuel := by
    cases fuel with
    | zero => simp [DataW.trod] at h
    | succ n => omega
  rcases DataW.trod_slice hu h with ⟨rfl, _⟩ | ⟨a, len, cap, elems, rest, n, rfl, rfl, rfl, hb, hl, hm, hlen, hel, hsp, hns⟩
  · exact ⟨none, 0, 0, 0, rfl, hf0, by omega, by unfold maxLen; omega, by omega, fun i hi => by omega⟩
  · simp only [DataW.weights, hu, List.all_cons, List.length_map, Bool.and_eq_true, decide_eq_true_eq] at hw
    obtain ⟨hw1, hw2⟩ := hw
    have hwe := weightsAll_mem (all_append hw2).1
    refine ⟨some a, len, cap, n, rfl, by omega, hl, hm, Nat.le_trans (Nat.mul_le_mul_right _ (by omega)) hw1, fun i hi => ?_⟩
    have hi2 := hel i hi
    have hie : i < elems.length := by omega
    rw [List.getElem?_eq_getElem hie, Option.bind_eq_some_iff] at hi2
    obtain ⟨es, he1, he2⟩ := hi2
    rw [hc] at he1
    obtain ⟨-, hes, hcell⟩ := World.cells?_some he1
    have ha : a = ⟨a.block, a.off, none⟩ := by
      have hi0 := hel 0 (by omega)
      rw [List.getElem?_eq_getElem (show 0 < elems.length by omega), Option.bind_eq_some_iff] at hi0
      obtain ⟨es0, he0, -⟩ := hi0
      rw [hc] at he0
      obtain ⟨-, hes0, hcell0⟩ := World.cells?_some he0
      have h0 := hcell0 0 hpos
      rw [List.getElem?_eq_getElem (by omega), Nat.zero_mul] at h0
      have : (a.add 0).add 0 = a := by simp [Addr.add]
      rw [this] at h0
      exact spot_none h0
    refine ⟨a.block, a.off, es, elems[i], by rw [← ha], hes, fun j v hv => ?_, he2, hwe _ (List.mem_map_of_mem (List.getElem_mem hie))⟩
    have hj : j < sz := by
      have := (List.getElem?_eq_some_iff.1 hv).1
      omega
    have := hcell j hj
    rw [ha, add_none, add_none, hv] at this
    exact this

theorem wf64 {n : Int} (h : (Lit.int .i64 n).wf = true) : i64ok n := by
  exact bounds_i64 h

set_option maxRecDepth 100000 in
/-- A value that reads as data reads as a tree. -/
theorem open_tree (fuel : Nat) : ∀ (cs : List Value) (x : DataW H × List MemPlace), DataW.trod enc Tryz.prog W 0 (fun _ => true) true fuel 41 cs = some x → (x.1.weights Tryz.prog 41).all (· ≤ reachBytes) = true →
    ∃ t, RepT W (fun _ => True) (.agg cs.toArray) t := by
  induction fuel using Nat.strongRecOn with
  | _ fuel ih =>
  intro cs x h hw
  obtain ⟨xs, n, rfl, -, hwe, hlen, hxl, hx⟩ := trod_fields val_fields h
  rw [val_cells] at hlen
  rw [hwe] at hw
  match cs, hlen with
  | [c0, c1, c2, c3, c4, c5], _ =>
  match xs, hxl with
  | [y0, y1, y2, y3, y4, y5], _ =>
  obtain ⟨q0, q1, q2, q3, q4, q5⟩ := one_cells
  have h0 := hx 0 _ rfl
  have h1 := hx 1 _ rfl
  have h2 := hx 2 _ rfl
  have h3 := hx 3 _ rfl
  have h4 := hx 4 _ rfl
  have h5 := hx 5 _ rfl
  simp only [q0, q1, q2, q3, q4, q5] at h0 h1 h2 h3 h4 h5
  obtain ⟨k, hk, -, hkw⟩ := DataW.trod_int und_i h0
  obtain ⟨b, hb, -⟩ := DataW.trod_bool und_b h1
  obtain ⟨m, hm, -, hmw⟩ := DataW.trod_int und_i64 h2
  obtain ⟨s, hs, hy3, -⟩ := DataW.trod_string und_s h3
  simp only [List.map_cons, List.map_nil, DataW.weightsEach] at hw
  obtain ⟨-, hw⟩ := all_append hw
  obtain ⟨-, hw⟩ := all_append hw
  obtain ⟨-, hw⟩ := all_append hw
  obtain ⟨hw3, hw⟩ := all_append hw
  obtain ⟨hw4, hw⟩ := all_append hw
  obtain ⟨hw5, -⟩ := all_append hw
  rw [hy3] at hw3
  simp [DataW.weights, reachBytes] at hw3
  obtain ⟨la, ln, lc, k4, hl, hk4, hl1, hl2, hl3, hle⟩ := trod_row und_vals val_cells (by omega) h4 hw4
  obtain ⟨ma, mn, mc, k5, hmm, hk5, hm1, hm2, hm3, hme⟩ := trod_row und_prs pair_cells (by omega) h5 hw5
  simp at hk hb hm hs hl hmm
  subst hk hb hm hs hl hmm
  rw [val_bytes] at hl3
  rw [pair_bytes] at hm3
  have hL : ∀ i, ∃ t, i < ln → ∃ b o es, la = some ⟨b, o, none⟩ ∧ cellsAt W b (o + i * 6) es ∧ RepT W (fun _ => True) (.agg es.toArray) t := fun i => by
    by_cases hi : i < ln
    · obtain ⟨b, o, es, y, e1, e2, e3, e4, e5⟩ := hle i hi
      obtain ⟨t, ht⟩ := ih k4 (by omega) es y e4 e5
      exact ⟨t, fun _ => ⟨b, o, es, e1, e3, ht⟩⟩
    · exact ⟨T.zero, fun h => absurd h hi⟩
  have hM : ∀ i, ∃ (p : ByteArray × T), i < mn → ∃ b o es, ma = some ⟨b, o, none⟩ ∧ p.1.size ≤ 140737488351232 ∧ cellsAt W b (o + i * 7) (.string p.1 :: es) ∧ RepT W (fun _ => True) (.agg es.toArray) p.2 := fun i => by
    by_cases hi : i < mn
    · obtain ⟨b, o, es, y, e1, e2, e3, e4, e5⟩ := hme i hi
      obtain ⟨zs, n2, hn2, -, hwe2, hlen2, hzl, hz⟩ := trod_fields pair_fields e4
      rw [hwe2] at e5
      match zs, hzl with
      | [z0, z1], _ =>
      match es, e2 with
      | e0 :: es, e2 =>
      have g0 := hz 0 _ rfl
      have g1 := hz 1 _ rfl
      simp only [q3, val_cells] at g0 g1
      obtain ⟨ks, hks, hz0, -⟩ := DataW.trod_string und_s g0
      simp only [List.map_cons, List.map_nil, DataW.weightsEach] at e5
      obtain ⟨e50, e5⟩ := all_append e5
      obtain ⟨e51, -⟩ := all_append e5
      rw [hz0] at e50
      simp [DataW.weights, reachBytes] at e50
      simp at hks
      subst hks
      have g1' : DataW.trod enc Tryz.prog W 0 (fun _ => true) true n2 41 es = some z1 := by
        have : List.take 6 (List.drop 1 (Value.string ks :: es)) = es := by
          rw [List.drop_succ_cons, List.drop_zero, List.take_of_length_le]
          simp at e2; omega
        rw [this] at g1
        simpa using g1
      obtain ⟨t, ht⟩ := ih n2 (by omega) es z1 g1' e51
      exact ⟨(ks, t), fun _ => ⟨b, o, es, e1, of_decide_eq_true e50, e3, ht⟩⟩
    · exact ⟨(⟨#[]⟩, T.zero), fun h => absurd h hi⟩
  have hLc := fun i => Classical.choose_spec (hL i)
  have hMc := fun i => Classical.choose_spec (hM i)
  refine ⟨.mk k b m s ((List.range ln).map fun i => Classical.choose (hL i)) ((List.range mn).map fun i => Classical.choose (hM i)), ?_⟩
  have := RepT.of (w := W) (S := fun _ => True) (t := .mk k b m s ((List.range ln).map fun i => Classical.choose (hL i)) ((List.range mn).map fun i => Classical.choose (hM i))) (la := la) (lc := lc) (ma := ma) (mc := mc)
    ⟨wf64 hkw, wf64 hmw, of_decide_eq_true hw3, (by simp only [T.list, List.length_map, List.length_range]; unfold reachBytes at hl3; omega), (by simp only [T.map, List.length_map, List.length_range]; unfold reachBytes at hm3; omega), (by simp only [T.list, List.length_map, List.length_range]; exact hl1), (by simp only [T.map, List.length_map, List.length_range]; exact hm1), hl2, hm2, fun i hi => ?_, fun i hi => ?_⟩
  · simpa [T.kind, T.bool, T.int, T.str, T.list, T.map] using this
  · have hi' : i < ln := by simpa [T.list] using hi
    obtain ⟨b, o, es, e1, e2, e3⟩ := hLc i hi'
    exact ⟨b, o, es, e1, trivial, e2, by simpa [T.list] using e3⟩
  · have hi' : i < mn := by simpa [T.map] using hi
    obtain ⟨b, o, es, e1, e2, e3, e4⟩ := hMc i hi'
    exact ⟨b, o, es, e1, trivial, by simpa [T.map] using e2, by simpa [T.map] using e3, by simpa [T.map] using e4⟩

set_option maxRecDepth 100000 in
/-- A value that came in. -/
theorem open_val {r : Reach} {b0 : Nat} {v : Value} {d : DataW H} {p : List MemPlace} (hv : Value.okWide Tryz.prog W r b0 41 v) (h : DataW.Trod enc Tryz.prog W 0 (fun _ => true) true 41 v d p)
    (hw : (d.weights Tryz.prog 41).all (· ≤ reachBytes) = true) : ∃ t, RepT W (fun _ => True) v t := by
  have hu : ∃ fs, Tryz.prog.underlying 41 = some (.struct fs) := by
    have := val_fields
    unfold fieldsOf at this
    cases hd : Tryz.prog.underlying 41 with
    | none => rw [hd] at this; cases this
    | some d =>
      rw [hd] at this
      cases d with
      | struct fs => exact ⟨fs, rfl⟩
      | _ => simp at this
  obtain ⟨fs, hu⟩ := hu
  obtain ⟨cs, rfl, _⟩ := okWide_struct hu hv
  obtain ⟨fuel, hf⟩ := h
  obtain ⟨t, ht⟩ := open_tree fuel cs.toList (d, p) hf hw
  exact ⟨t, by simpa using ht⟩
set_option maxRecDepth 100000 in
/-- A list of values that came in. -/
theorem open_vals {r : Reach} {b0 : Nat} {v : Value} {d : DataW H} {p : List MemPlace} (hv : Value.okWide Tryz.prog W r b0 38 v) (h : DataW.Trod enc Tryz.prog W 0 (fun _ => true) true 38 v d p)
    (hw : (d.weights Tryz.prog 38).all (· ≤ reachBytes) = true) : ∃ a l c, v = .slice a l.length c ∧ RepL W (fun _ => True) a l ∧ l.length ≤ c ∧ c ≤ maxLen ∧ l.length * 88 ≤ 140737488355328 := by
  obtain ⟨a0, n0, c0, rfl⟩ := okWide_slice und_vals hv
  obtain ⟨fuel, hf⟩ := h
  obtain ⟨a, n, c, k, hl, -, h1, h2, h3, he⟩ := trod_row und_vals val_cells (by omega) hf hw
  simp [Value.cells] at hl
  obtain ⟨rfl, rfl, rfl⟩ := hl
  rw [val_bytes] at h3
  have hL : ∀ i, ∃ t, i < n0 → ∃ b o es, a0 = some ⟨b, o, none⟩ ∧ cellsAt W b (o + i * 6) es ∧ RepT W (fun _ => True) (.agg es.toArray) t := fun i => by
    by_cases hi : i < n0
    · obtain ⟨b, o, es, y, e1, e2, e3, e4, e5⟩ := he i hi
      obtain ⟨t, ht⟩ := open_tree k es y e4 e5
      exact ⟨t, fun _ => ⟨b, o, es, e1, e3, ht⟩⟩
    · exact ⟨T.zero, fun h => absurd h hi⟩
  have hLc := fun i => Classical.choose_spec (hL i)
  refine ⟨a0, (List.range n0).map fun i => Classical.choose (hL i), c0, by simp, fun i hi => ?_, by simpa using h1, h2, by simp only [List.length_map, List.length_range]; unfold reachBytes at h3; omega⟩
  have hi' : i < n0 := by simpa using hi
  obtain ⟨b, o, es, e1, e2, e3⟩ := hLc i hi'
  exact ⟨b, o, es, e1, trivial, e2, by simpa using e3⟩
theorem und_ss : Tryz.prog.underlying 42 = some (.slice 9) := by kernel_rfl
/-- The elements of a slice of texts. -/
def RepS (w : World) (S : Nat → Prop) (a : Option Addr) (l : List ByteArray) : Prop :=
  ∀ i (h : i < l.length), ∃ b o, a = some ⟨b, o, none⟩ ∧ S b ∧ b < w.heap.size ∧ w.cell? ⟨b, o + i, none⟩ = some (.string l[i]) ∧ l[i].size ≤ 140737488351232
set_option maxRecDepth 100000 in
/-- A list of texts that came in. -/
theorem open_texts {r : Reach} {b0 : Nat} {v : Value} {d : DataW H} {p : List MemPlace} (hv : Value.okWide Tryz.prog W r b0 42 v) (h : DataW.Trod enc Tryz.prog W 0 (fun _ => true) true 42 v d p)
    (hw : (d.weights Tryz.prog 42).all (· ≤ reachBytes) = true) : ∃ a l c, v = .slice a l.length c ∧ RepS W (fun _ => True) a l ∧ l.length ≤ c ∧ c ≤ maxLen ∧ l.length * 16 ≤ 140737488355328 := by
  obtain ⟨a0, n0, c0, rfl⟩ := okWide_slice und_ss hv
  obtain ⟨fuel, hf⟩ := h
  obtain ⟨a, n, c, k, hl, -, h1, h2, h3, he⟩ := trod_row und_ss one_cells.2.2.2.1 (by omega) hf hw
  simp [Value.cells] at hl
  obtain ⟨rfl, rfl, rfl⟩ := hl
  rw [show Tryz.prog.bytesOf 9 = 16 by kernel_rfl] at h3
  have hL : ∀ i, ∃ s : ByteArray, i < n0 → ∃ b o, a0 = some ⟨b, o, none⟩ ∧ W.cell? ⟨b, o + i, none⟩ = some (.string s) ∧ s.size ≤ 140737488351232 := fun i => by
    by_cases hi : i < n0
    · obtain ⟨b, o, es, y, e1, e2, e3, e4, e5⟩ := he i hi
      obtain ⟨s, hs, hy, -⟩ := DataW.trod_string und_s e4
      subst hs
      rw [hy] at e5
      simp only [DataW.weights, List.all_cons, List.all_nil, Bool.and_true] at e5
      have := of_decide_eq_true e5
      exact ⟨s, fun _ => ⟨b, o, e1, by simpa using e3 0 _ rfl, by simpa [reachBytes] using this⟩⟩
    · exact ⟨⟨#[]⟩, fun h => absurd h hi⟩
  have hLc := fun i => Classical.choose_spec (hL i)
  refine ⟨a0, (List.range n0).map fun i => Classical.choose (hL i), c0, by simp, fun i hi => ?_, by simpa using h1, h2, by simp only [List.length_map, List.length_range]; unfold reachBytes at h3; omega⟩
  have hi' : i < n0 := by simpa using hi
  obtain ⟨b, o, e1, e2, e3⟩ := hLc i hi'
  exact ⟨b, o, e1, trivial, block_lt_of_cell (a := ⟨b, o + i, none⟩) e2, by simpa using e2, by simpa using e3⟩
theorem each_weights {P : Program} {t : TypeId} {ts : List TypeId} {d : DataW H} {ds : List (DataW H)} (h : (DataW.weightsEach P (t :: ts) (d :: ds)).all (· ≤ reachBytes) = true) : (d.weights P t).all (· ≤ reachBytes) = true ∧ (DataW.weightsEach P ts ds).all (· ≤ reachBytes) = true := by
  rw [DataW.weightsEach] at h
  exact all_append h
set_option maxRecDepth 100000 in
theorem open_text {r : Reach} {b0 : Nat} {v : Value} {d : DataW H} {p : List MemPlace} (hv : Value.okWide Tryz.prog W r b0 9 v) (h : DataW.Trod enc Tryz.prog W 0 (fun _ => true) true 9 v d p)
    (hw : (d.weights Tryz.prog 9).all (· ≤ reachBytes) = true) : ∃ s : ByteArray, v = .string s ∧ s.size ≤ 140737488351232 := by
  obtain ⟨s, rfl, rfl, -, -⟩ := Go.ChangeMaps.open_string und_s hv h
  simp only [DataW.weights, List.all_cons, List.all_nil, Bool.and_true] at hw
  have := of_decide_eq_true hw
  exact ⟨s, rfl, by simpa [reachBytes] using this⟩

end
end Go.Proofs.YtnblmhfgmehnnaaGreatDoor

/- The frame of a law whose card is tied: as XFrame's, with the world's shape and the listed variables handed to the walk. -/
namespace Go.Proofs.YtnblmhfgmehnnaaGreatDoor
open Go.ChangeShapes Go.WideShapes Go.ChangeAt Go.RowKit

set_option maxRecDepth 100000 in
/-- A tied law's row step: the walk is asked of every world of the form's shape in which the listed variables read as listed and the arguments read as data within the form's reach. -/
theorem lifted_tied {f : FuncId} {fn : Func} {s : ChangeSpec} {tb : TypeId} {laid : List (String × DataW Unit)} (os : Os) (started : os.Started) (H : Type) (enc : TypeId × Value → H)
    (noInit : Tryz.checked.prog.inits.idxOf? f = none) (hfn : Tryz.checked.prog.funcs[f]? = some fn)
    (witness : ∃ (w : World) (tape : Tape) (i : Input), w.os = os ∧ (w.forCall tape i).Shaped Tryz.checked.prog ∧ i.vars = [] ∧ Input.okWide Tryz.checked.prog (w.forCall tape i) .any w.heap.size f i ∧
      ((s.pre enc Tryz.checked.prog fn [] false (w.forCall tape i).memory i.args ∧ laidMetH Tryz.prog laid (w.forCall tape i).memory) ∧ sizedMet enc Tryz.checked.prog fn (OpenSpec.ofChange s) false (w.forCall tape i).memory i.args) ∧ ({} : Assume).holds Tryz.checked.prog (lone (Frame.enter Tryz.checked.prog f i.args .normal) [] (w.forCall tape i)))
    (hr0 : fn.params.toList.all (fun t => Tryz.prog.readableRec t && decide (t < Tryz.prog.types.size)) = true) (hv : s.vars = []) (hb : fn.resultTypes = #[tb]) (ub : Tryz.prog.underlying tb = some .bool)
    (hsp : ∀ ds : List (DataW H), ds.length = fn.params.size → s.fn H ds = { results := [.lit (.bool true)], args := ds })
    (walk : ∀ (W : World) (base : Nat) (args : Array Value) (ds : List (DataW H)) (p : List MemPlace),
      (∀ (j : Nat) t v, fn.params[j]? = some t → args[j]? = some v → Value.okWide Tryz.prog W .any base t v) →
      DataW.TrodAll enc Tryz.prog W 0 (fun _ => true) true fn.params.toList args.toList ds p →
      (DataW.weightsEach Tryz.prog fn.params.toList ds).all (· ≤ reachBytes) = true → W.ShapedOpen Tryz.prog → laidMetH Tryz.prog laid W →
      Calls Tryz.prog f args W fun e w' => e = .returned (.bool true) ∧ Below W.heap.size W w') :
    ReturnsInHanded {} Tryz.checked os f .any (fun w args => (s.pre enc Tryz.prog fn [] false w args ∧ laidMetH Tryz.prog laid w) ∧ sizedMet enc Tryz.prog fn (OpenSpec.ofChange s) false w args) (s.post enc Tryz.prog fn false true false false) := by
  have hr : ∀ t ∈ fn.params.toList, Tryz.prog.readableRec t = true ∧ t < Tryz.prog.types.size := fun t ht => by
    have := List.all_eq_true.1 hr0 t ht
    simpa using this
  refine returnsInHanded_of_calls own started noInit witness ?_
  intro w tape i _ hsh _ hok hpre hholds
  obtain ⟨_, _, _, fn', hfn', _, _, _, _, hval⟩ := hok
  have e : fn' = fn := Option.some.inj (hfn'.symm.trans hfn)
  subst e
  obtain ⟨⟨⟨ds, gs, before, hw, hc⟩, hx⟩, hz⟩ := hpre
  have hW : DataW.Whole enc Tryz.prog fn'.params.toList s.vars false (w.forCall tape i) i.args.toList ds gs before := DataW.Whole.of_heap (w' := w.forCall tape i) (by rfl) hw
  have hsz : (DataW.weightsEach Tryz.prog (fn'.params.toList ++ s.plain.varTypes Tryz.prog) (ds ++ gs)).all (· ≤ reachBytes) = true := hz.weights hw
  have hL : laidMetH Tryz.prog laid (w.forCall tape i) := hx.of_heap (by rfl)
  have hW' := hW
  obtain ⟨p, q, hA, hV, rfl, hfz, hnd⟩ := hW
  rw [hv] at hV
  obtain ⟨rfl, rfl⟩ := trodVars_none hV
  have hlen : ds.length = fn'.params.size := by
    have : ∀ {W : World} {ts : List TypeId} {vs : List Value} {ds : List (DataW H)} {ps : List MemPlace}, DataW.TrodAll enc Tryz.prog W 0 (fun _ => true) true ts vs ds ps → ds.length = ts.length := by
      intro W ts
      induction ts with
      | nil =>
        intro vs ds ps h
        match vs, ds, h with
        | [], [], _ => rfl
      | cons t ts ih =>
        intro vs ds ps h
        match vs, ds, h with
        | v :: vs, d :: ds, h =>
          obtain ⟨p, q, _, h2, rfl⟩ := h
          simp [ih h2]
    simpa using this hA
  have hsz' : (DataW.weightsEach Tryz.prog fn'.params.toList ds).all (· ≤ reachBytes) = true := by
    have h := hsz
    simp only [ChangeSpec.plain, DataSpec.varTypes, hv, List.filterMap_nil, List.append_nil] at h
    exact h
  refine (walk (w.forCall tape i) w.heap.size i.args ds p hval hA hsz' hsh hL).mono fun e W' ⟨he, hbl⟩ => ?_
  subst he
  exact ChangeSpec.post_blind (post_law laidOut hr hv hb ub (by rw [List.append_nil]; exact hsp ds hlen) hW' hbl)

end Go.Proofs.YtnblmhfgmehnnaaGreatDoor

/- Texts as lists of bytes: what every walk over bytes needs. -/
namespace Go.Proofs.YtnblmhfgmehnnaaGreatDoor

theorem byte_list {s : ByteArray} {k : Nat} (h : k < s.size) : s.data.toList.drop k = s[k] :: s.data.toList.drop (k + 1) := by
  have hl : k < s.data.toList.length := by simpa using h
  rw [List.drop_eq_getElem_cons hl]; rfl
theorem drop_end {s : ByteArray} {k : Nat} (h : s.size ≤ k) : s.data.toList.drop k = [] := List.drop_eq_nil_of_le (by simpa using h)
theorem size_list (v : ByteArray) : v.size = v.data.toList.length := by simp
theorem app_list (a b : ByteArray) : (a ++ b).data.toList = a.data.toList ++ b.data.toList := by simp
theorem take_byte {s : ByteArray} {k : Nat} (h : k < s.size) : s.data.toList.take (k + 1) = s.data.toList.take k ++ [s[k]] := by
  have hl : k < s.data.toList.length := by simpa using h
  rw [List.take_succ_eq_append_getElem hl]; rfl
theorem take_all (s : ByteArray) : s.data.toList.take s.size = s.data.toList := by rw [size_list, List.take_length]
theorem extract_list (s : ByteArray) (a b : Nat) : (s.extract a b).data.toList = (s.data.toList.drop a).take (b - a) := Lib.extract_data s a b
theorem one_byte {s : ByteArray} {k : Nat} (h : k < s.size) : (s.extract k (k + 1)).data.toList = [s[k]] := by
  rw [extract_list, byte_list h]; simp
theorem tail_list {s : ByteArray} {k : Nat} : (s.extract k s.size).data.toList = s.data.toList.drop k := Lib.extract_to_end s k
theorem list_ext {a b : ByteArray} (h : a.data.toList = b.data.toList) : a = b := by
  apply ByteArray.ext; apply Array.ext'; exact h
theorem get_list {s : ByteArray} {k : Nat} (h : k < s.size) : s.data.toList[k]? = some s[k] := by
  have hl : k < s.data.toList.length := by simpa using h
  rw [List.getElem?_eq_getElem hl]; rfl
/-- A byte that is, or isn't, a number: in the walk's own words. -/
theorem u8_eq {a : UInt8} {n : Nat} (hn : n < 256) : ((a.toNat : Int) == (n : Int)) = (a == UInt8.ofNat n) := by
  by_cases h : a = UInt8.ofNat n
  · subst h; simp; omega
  · have h1 : (a.toNat : Int) ≠ n := fun e => h (by apply UInt8.toNat_inj.1; rw [UInt8.toNat_ofNat']; omega)
    rw [beq_eq_false_iff_ne.2 h1, beq_eq_false_iff_ne.2 h]
end Go.Proofs.YtnblmhfgmehnnaaGreatDoor

/- What trim.Split computes, plainly: the tokens of a template as lists of bytes, and what the laws ask of them. -/
namespace Go.Proofs.YtnblmhfgmehnnaaGreatDoor

/-- The bytes that are trimmed. -/
def blanks : List UInt8 := [32, 9, 10]
/-- A token: an action or a text, its bytes, where it begins. -/
structure Tok where
  act : Bool
  s : List UInt8
  at_ : Nat
deriving DecidableEq

/-- The first place of a byte that stands twice. -/
def find2 (c : UInt8) : List UInt8 → Option Nat
  | [] => none
  | [_] => none
  | a :: b :: l => if a = c ∧ b = c then some 0 else (find2 c (b :: l)).map (· + 1)

/-- Where two braces close, outside of quotes. -/
def clos : Bool → List UInt8 → Option Nat
  | _, [] => none
  | false, [_] => none
  | false, a :: b :: l => if a = 125 ∧ b = 125 then some 0 else if a = 34 then (clos true (b :: l)).map (· + 1) else (clos false (b :: l)).map (· + 1)
  | true, [_] => none
  | true, a :: b :: l => if a = 34 then (clos false (b :: l)).map (· + 1) else if a = 92 then (clos true l).map (· + 2) else (clos true (b :: l)).map (· + 1)
termination_by _ l => l.length

/-- Does an action trim what stands ahead? -/
def dashL (raw : List UInt8) : Bool := raw == [45] || Lib.hasPrefix raw [45, 32]
def raw1 (raw : List UInt8) : List UInt8 := if dashL raw then raw.drop 1 else raw
/-- Does it trim what stands behind? -/
def dashR (raw : List UInt8) : Bool := Lib.hasSuffix (raw1 raw) [32, 45]
def raw2 (raw : List UInt8) : List UInt8 := if dashR raw then (raw1 raw).take ((raw1 raw).length - 2) else raw1 raw
/-- What stands in an action. -/
def body (raw : List UInt8) : List UInt8 := Lib.trimS (raw2 raw) blanks
def comment (b : List UInt8) : Bool := Lib.hasPrefix b [47, 42] && Lib.hasSuffix b [42, 47] && decide (4 ≤ b.length)
def txt (s : List UInt8) (n : Nat) : List Tok := if s = [] then [] else [⟨false, s, n⟩]
def actn (b : List UInt8) (n : Nat) : List Tok := if comment b then [] else [⟨true, b, n⟩]
def ahead (cut : Bool) (s : List UInt8) : List UInt8 := if cut then Lib.trimLeftS s blanks else s
def behind (raw s : List UInt8) : List UInt8 := if dashL raw then Lib.trimRightS s blanks else s

/-- The tokens of what is left of a template, from a place on; none: an action isn't closed. -/
def splitM : Nat → List UInt8 → Nat → Bool → Option (List Tok)
  | 0, _, _, _ => some []
  | n + 1, s, i, cut =>
    if s = [] then some [] else
    match find2 123 s with
    | none => some (txt (ahead cut s) (i + (s.length - (ahead cut s).length)))
    | some o =>
      match clos false (s.drop (o + 2)) with
      | none => none
      | some e =>
        (splitM n (s.drop (o + 2 + (e + 2))) (i + (o + 2 + (e + 2))) (dashR ((s.drop (o + 2)).take e))).map
          (fun r => txt (behind ((s.drop (o + 2)).take e) (ahead cut (s.take o))) (i + (o - (ahead cut (s.take o)).length)) ++ (actn (body ((s.drop (o + 2)).take e)) (i + o) ++ r))

/-! ### Two braces in a row -/
theorem find2_bound {c : UInt8} : ∀ {s : List UInt8} {o : Nat}, find2 c s = some o → o + 2 ≤ s.length
  | [], o, h => by simp [find2] at h
  | [_], o, h => by simp [find2] at h
  | a :: b :: l, o, h => by
    rw [find2] at h
    split at h
    · injection h with h; subst h; simp
    · cases hf : find2 c (b :: l) with
      | none => rw [hf] at h; cases h
      | some k => rw [hf] at h; injection h with h; subst h; have := find2_bound hf; simp at this ⊢; omega
theorem find2_index (c : UInt8) : ∀ (s : List UInt8), Lib.index s [c, c] = match find2 c s with | some o => (o : Int) | none => -1
  | [] => rfl
  | [a] => by
    rw [Lib.index, find2]
    have : Lib.index [] [c, c] = -1 := rfl
    rw [this]
    simp [List.isPrefixOf]
  | a :: b :: l => by
    rw [Lib.index, find2_index c (b :: l), find2]
    by_cases h : a = c ∧ b = c
    · rw [if_pos h, if_pos]
      · rfl
      · obtain ⟨rfl, rfl⟩ := h; simp [List.isPrefixOf]
    · rw [if_neg h, if_neg]
      · cases hf : find2 c (b :: l) with
        | none => simp
        | some k =>
          have : ((k : Int) == -1) = false := by rw [beq_eq_false_iff_ne]; omega
          simp [this]
      · intro h2
        apply h
        simp [List.isPrefixOf] at h2
        exact ⟨h2.1.symm, h2.2.symm⟩
/-- A text without two braces in a row, not ending with one: what stands behind it begins at the braces. -/
theorem find2_app {c : UInt8} : ∀ {s : List UInt8} (r : List UInt8), find2 c s = none → (∀ x, s.getLast? = some x → x ≠ c) → find2 c (s ++ c :: c :: r) = some s.length
  | [], r, _, _ => by simp [find2]
  | [a], r, _, h => by
    have ha : a ≠ c := h a rfl
    simp [find2, ha]
  | a :: b :: l, r, h, hl => by
    rw [find2] at h
    split at h
    · cases h
    · next hn =>
      have hf : find2 c (b :: l) = none := by
        cases hf : find2 c (b :: l) with
        | none => rfl
        | some k => rw [hf] at h; cases h
      have ih := find2_app r hf (fun x hx => hl x (by simpa using hx))
      simp only [List.cons_append] at ih ⊢
      rw [find2, if_neg hn, ih]
      simp
theorem find2_none_app {c d : UInt8} (hd : d ≠ c) : ∀ {s : List UInt8} (r : List UInt8), find2 c s = none → find2 c (d :: r) = none → find2 c (s ++ d :: r) = none
  | [], r, _, h => h
  | [a], r, _, h => by
    simp only [List.singleton_append]
    rw [find2, if_neg (by rintro ⟨-, h2⟩; exact hd h2), h]; rfl
  | a :: b :: l, r, h, hr => by
    rw [find2] at h
    split at h
    · cases h
    · next hn =>
      have hf : find2 c (b :: l) = none := by
        cases hf : find2 c (b :: l) with
        | none => rfl
        | some k => rw [hf] at h; cases h
      have ih := find2_none_app hd r hf hr
      simp only [List.cons_append] at ih ⊢
      rw [find2, if_neg hn, ih]; rfl

/-! ### Where an action ends -/
theorem clos_bound : ∀ (n : Nat) {q : Bool} {s : List UInt8} {e : Nat}, s.length ≤ n → clos q s = some e → e + 2 ≤ s.length
  | 0, q, s, e, hn, h => by
    have : s = [] := List.length_eq_zero_iff.1 (by omega)
    subst this; cases q <;> simp [clos] at h
  | n + 1, q, [], e, hn, h => by cases q <;> simp [clos] at h
  | n + 1, q, [a], e, hn, h => by cases q <;> simp [clos] at h
  | n + 1, q, a :: b :: l, e, hn, h => by
    have hl1 : (b :: l).length ≤ n := by simpa using hn
    have hl2 : l.length ≤ n := by simp at hl1; omega
    have go : ∀ (q' : Bool) (t : List UInt8) (k : Nat), t.length ≤ n → t.length + k = (a :: b :: l).length → (clos q' t).map (· + k) = some e → e + 2 ≤ (a :: b :: l).length := by
      intro q' t k ht hk hm
      cases hc : clos q' t with
      | none => rw [hc] at hm; cases hm
      | some x => rw [hc] at hm; simp only [Option.map_some, Option.some.injEq] at hm; have := clos_bound n ht hc; omega
    cases q
    · rw [clos] at h
      split at h
      · injection h with h; subst h; simp
      · split at h
        · exact go true _ 1 hl1 (by simp) h
        · exact go false _ 1 hl1 (by simp) h
    · rw [clos] at h
      split at h
      · exact go false _ 1 hl1 (by simp) h
      · split at h
        · exact go true _ 2 hl2 (by simp) h
        · exact go true _ 1 hl1 (by simp) h
/-- What has neither quotes nor closing braces, closed. -/
theorem clos_plain : ∀ {b : List UInt8} (r : List UInt8), (∀ x ∈ b, x ≠ 34 ∧ x ≠ 125) → clos false (b ++ 125 :: 125 :: r) = some b.length
  | [], r, _ => by simp [clos]
  | [a], r, h => by
    have := h a (by simp)
    simp [clos, this.1, this.2]
  | a :: b :: l, r, h => by
    have h1 := h a (by simp)
    have ih := clos_plain (b := b :: l) r (fun x hx => h x (by simp [hx]))
    simp only [List.cons_append] at ih ⊢
    rw [clos, if_neg (by rintro ⟨e, -⟩; exact h1.2 e), if_neg h1.1, ih]; simp
/-- What has no two closing braces in a row isn't closed. -/
theorem clos_none : ∀ (n : Nat) {q : Bool} {s : List UInt8}, s.length ≤ n → find2 125 s = none → clos q s = none
  | 0, q, s, hn, h => by
    have : s = [] := List.length_eq_zero_iff.1 (by omega)
    subst this; cases q <;> simp [clos]
  | n + 1, q, [], hn, h => by cases q <;> simp [clos]
  | n + 1, q, [a], hn, h => by cases q <;> simp [clos]
  | n + 1, q, a :: b :: l, hn, h => by
    rw [find2] at h
    split at h
    · cases h
    · next hne =>
      have hf : find2 125 (b :: l) = none := by
        cases hf : find2 125 (b :: l) with
        | none => rfl
        | some k => rw [hf] at h; cases h
      have hf2 : find2 125 l = none := by
        cases l with
        | nil => rfl
        | cons c l =>
          rw [find2] at hf
          split at hf
          · cases hf
          · cases hf2 : find2 125 (c :: l) with
            | none => rfl
            | some k => rw [hf2] at hf; cases hf
      have hl1 : (b :: l).length ≤ n := by simpa using hn
      have hl2 : l.length ≤ n := by simp at hl1; omega
      cases q
      · rw [clos, if_neg hne, clos_none n hl1 hf, clos_none n hl1 hf]; simp
      · rw [clos, clos_none n hl1 hf, clos_none n hl1 hf, clos_none n hl2 hf2]; simp

/-! ### The tokens -/
theorem splitM_nil (n i : Nat) (cut : Bool) : splitM n [] i cut = some [] := by cases n <;> simp [splitM]
theorem splitM_plain {n i : Nat} {cut : Bool} {s : List UInt8} (h : find2 123 s = none) : splitM (n + 1) s i cut = some (txt (ahead cut s) (i + (s.length - (ahead cut s).length))) := by
  by_cases hs : s = []
  · subst hs
    rw [splitM_nil]
    have : ahead cut [] = [] := by cases cut <;> simp [ahead, Lib.trimLeftS]
    rw [this]; rfl
  · rw [splitM, if_neg hs, h]
theorem splitM_open {n i : Nat} {cut : Bool} {s t : List UInt8} (h : find2 123 s = none) (hl : ∀ x, s.getLast? = some x → x ≠ 123) (hc : clos false t = none) : splitM (n + 1) (s ++ 123 :: 123 :: t) i cut = none := by
  rw [splitM, if_neg (by simp), find2_app t h hl]
  have e : (s ++ 123 :: 123 :: t).drop (s.length + 2) = t := by
    rw [List.drop_append, List.drop_eq_nil_of_le (by omega)]; simp
  simp only [e, hc]
/-- A text and an action behind it, then the rest. -/
theorem splitM_act {n i : Nat} {cut : Bool} {s raw r : List UInt8} (h : find2 123 s = none) (hl : ∀ x, s.getLast? = some x → x ≠ 123) (hc : clos false (raw ++ 125 :: 125 :: r) = some raw.length) :
    splitM (n + 1) (s ++ 123 :: 123 :: (raw ++ 125 :: 125 :: r)) i cut = (splitM n r (i + (s.length + 2 + (raw.length + 2))) (dashR raw)).map (fun r => txt (behind raw (ahead cut s)) (i + (s.length - (ahead cut s).length)) ++ (actn (body raw) (i + s.length) ++ r)) := by
  rw [splitM, if_neg (by simp), find2_app _ h hl]
  have e : (s ++ 123 :: 123 :: (raw ++ 125 :: 125 :: r)).drop (s.length + 2) = raw ++ 125 :: 125 :: r := by
    rw [List.drop_append, List.drop_eq_nil_of_le (by omega)]; simp
  have e1 : (s ++ 123 :: 123 :: (raw ++ 125 :: 125 :: r)).take s.length = s := by simp
  have e2 : (raw ++ 125 :: 125 :: r).take raw.length = raw := by simp
  have e3 : (s ++ 123 :: 123 :: (raw ++ 125 :: 125 :: r)).drop (s.length + 2 + (raw.length + 2)) = r := by
    rw [← List.drop_drop, e, List.drop_append, List.drop_eq_nil_of_le (by omega)]; simp
  simp only [e, hc, e1, e2, e3]

/-! ### Bodies -/
theorem dropWhile_keep {p : UInt8 → Bool} {l : List UInt8} (h : ∀ x, l.head? = some x → p x = false) : l.dropWhile p = l := by
  cases l with
  | nil => rfl
  | cons a l => rw [List.dropWhile_cons, if_neg (by rw [h a rfl]; simp)]
/-- What neither begins nor ends with a blank stays as it is. -/
theorem trimS_keep {l : List UInt8} (h1 : ∀ x, l.head? = some x → x ∉ blanks) (h2 : ∀ x, l.getLast? = some x → x ∉ blanks) : Lib.trimS l blanks = l := by
  have e2 : Lib.trimRightS l blanks = l := by
    unfold Lib.trimRightS
    rw [dropWhile_keep (fun x hx => by rw [List.head?_reverse] at hx; simpa using h2 x hx), List.reverse_reverse]
  unfold Lib.trimS
  rw [e2]
  exact dropWhile_keep (fun x hx => by simpa using h1 x hx)
end Go.Proofs.YtnblmhfgmehnnaaGreatDoor

/- What the laws ask of trim.Split's tokens, plainly. -/
namespace Go.Proofs.YtnblmhfgmehnnaaGreatDoor

theorem splitM_fuel : ∀ (n m : Nat) {s : List UInt8} {i : Nat} {cut : Bool}, s.length < n → s.length < m → splitM n s i cut = splitM m s i cut
  | 0, m, s, i, cut, hn, hm => by omega
  | n + 1, 0, s, i, cut, hn, hm => by omega
  | n + 1, m + 1, s, i, cut, hn, hm => by
    rw [splitM, splitM]
    split
    · rfl
    · next hs =>
      have hs0 : 0 < s.length := List.length_pos_iff.2 hs
      cases hf : find2 123 s with
      | none => rfl
      | some o =>
        cases hc : clos false (s.drop (o + 2)) with
        | none => simp only [hc]
        | some e =>
          simp only [hc]
          rw [splitM_fuel n m (by rw [List.length_drop]; omega) (by rw [List.length_drop]; omega)]

/-- A text that an action may stand behind: no two open braces, none at its end. -/
def Fine (s : List UInt8) : Prop := find2 123 s = none ∧ ∀ x, s.getLast? = some x → x ≠ 123

theorem fine_nil : Fine [] := ⟨rfl, fun x h => by cases h⟩
theorem ahead_false (s : List UInt8) : ahead false s = s := rfl
theorem txt_plain (s : List UInt8) (i : Nat) : txt s (i + (s.length - s.length)) = txt s i := by rw [Nat.sub_self, Nat.add_zero]

/-! ### P6.2 -/
theorem law_plain {n : Nat} {s : List UInt8} (h : find2 123 s = none) : splitM (n + 1) s 0 false = some (txt s 0) := by
  rw [splitM_plain h, ahead_false, txt_plain]
def wrapped (s : List UInt8) : List UInt8 := [123, 123, 97, 125, 125] ++ s ++ [123, 123, 32, 98, 32, 125, 125]
theorem law_wrapped {n : Nat} {s : List UInt8} (h : Fine s) : splitM (n + 3) (wrapped s) 0 false = some (⟨true, [97], 0⟩ :: (txt s 5 ++ [⟨true, [98], 5 + s.length⟩])) := by
  have e : wrapped s = [] ++ 123 :: 123 :: ([97] ++ 125 :: 125 :: (s ++ 123 :: 123 :: ([32, 98, 32] ++ 125 :: 125 :: []))) := by simp [wrapped]
  rw [e, splitM_act fine_nil.1 fine_nil.2 (clos_plain _ (by decide))]
  have hd : dashR [97] = false := by decide
  rw [hd]
  rw [splitM_act h.1 h.2 (clos_plain _ (by decide))]
  have hd2 : dashR [32, 98, 32] = false := by decide
  have hb1 : body [97] = [97] := by decide
  have hb2 : body [32, 98, 32] = [98] := by decide
  have hc1 : comment [97] = false := by decide
  have hc2 : comment [98] = false := by decide
  have hl1 : dashL [97] = false := by decide
  have hl2 : dashL [32, 98, 32] = false := by decide
  rw [splitM_nil, hb1, hb2]
  simp [actn, hc1, hc2, ahead, behind, hl1, hl2, txt]

/-! ### P6.1: trimmed -/
def mid : List UInt8 := [45, 32, 47, 42, 32, 120, 32, 42, 47, 32, 45]
theorem law_trims {n : Nat} {a b : List UInt8} (ha : Fine a) (hb : find2 123 b = none) : ∃ k, splitM (n + 2) (a ++ 123 :: 123 :: (mid ++ 125 :: 125 :: b)) 0 false = some (txt (Lib.trimRightS a blanks) 0 ++ txt (Lib.trimLeftS b blanks) k) := by
  refine ⟨0 + (a.length + 2 + (mid.length + 2)) + (b.length - (ahead true b).length), ?_⟩
  rw [splitM_act ha.1 ha.2 (clos_plain _ (by decide))]
  have hd : dashR mid = true := by decide
  have hl : dashL mid = true := by decide
  have hb1 : comment (body mid) = true := by decide
  rw [hd, splitM_plain hb]
  simp [actn, hb1, ahead, behind, hl]

/-! ### The tokens are their own -/
/-- What stands in a plain action: no blanks, braces, quotes, dashes, slashes. -/
def Word (a : List UInt8) : Prop := ∀ c ∈ a, 32 < c ∧ c ≠ 123 ∧ c ≠ 125 ∧ c ≠ 34 ∧ c ≠ 45 ∧ c ≠ 47
theorem word_head {a : List UInt8} (h : Word a) : ∀ x, a.head? = some x → x ∉ blanks := fun x hx hb => by
  have := (h x (List.mem_of_mem_head? hx)).1
  simp only [blanks, List.mem_cons, List.not_mem_nil, or_false] at hb
  rcases hb with rfl | rfl | rfl <;> revert this <;> decide
theorem word_last {a : List UInt8} (h : Word a) : ∀ x, a.getLast? = some x → x ∉ blanks := fun x hx hb => by
  have := (h x (List.mem_of_getLast? hx)).1
  simp only [blanks, List.mem_cons, List.not_mem_nil, or_false] at hb
  rcases hb with rfl | rfl | rfl <;> revert this <;> decide
theorem word_dashL {a : List UInt8} (h : Word a) : dashL a = false := by
  cases a with
  | nil => rfl
  | cons c l =>
    have hc := (h c (by simp)).2.2.2.2.1
    simp [dashL, Lib.hasPrefix, List.isPrefixOf, hc, Ne.symm hc]
theorem word_dashR {a : List UInt8} (h : Word a) : dashR a = false := by
  unfold dashR raw1
  rw [word_dashL h]
  cases hs : Lib.hasSuffix a [32, 45] with
  | false => simpa using hs
  | true =>
    exfalso
    have : [32, 45] <:+ a := by simpa [Lib.hasSuffix] using hs
    have h45 : (45 : UInt8) ∈ a := this.subset (by simp)
    exact (h 45 h45).2.2.2.2.1 rfl
theorem word_body {a : List UInt8} (h : Word a) : body a = a := by
  have : raw2 a = a := by unfold raw2 raw1; rw [word_dashR h, word_dashL h]; rfl
  unfold body
  rw [this]
  exact trimS_keep (word_head h) (word_last h)
theorem word_comment {a : List UInt8} (h : Word a) : comment a = false := by
  cases a with
  | nil => rfl
  | cons c l =>
    have hc := (h c (by simp)).2.2.2.2.2
    simp [comment, Lib.hasPrefix, List.isPrefixOf, Ne.symm hc]
/-- Texts with actions between, laid one behind the other, and their tokens. -/
def joinS : List (List UInt8) → List (List UInt8) → List UInt8
  | [], _ => []
  | t :: _, [] => t
  | t :: ts, a :: az => t ++ 123 :: 123 :: (a ++ 125 :: 125 :: joinS ts az)
def wantS : List (List UInt8) → List (List UInt8) → Nat → List Tok
  | [], _, _ => []
  | t :: _, [], i => txt t i
  | t :: ts, a :: az, i => txt t i ++ ⟨true, a, i + t.length⟩ :: wantS ts az (i + (t.length + 2 + (a.length + 2)))
theorem law_joins : ∀ (ts az : List (List UInt8)) (n i : Nat), (joinS ts az).length < n → (∀ t ∈ ts, Fine t) → (∀ a ∈ az, Word a) → splitM n (joinS ts az) i false = some (wantS ts az i)
  | [], az, n, i, hn, ht, ha => by rw [joinS, splitM_nil]; cases az <;> rfl
  | t :: ts, [], 0, i, hn, ht, ha => by omega
  | t :: ts, [], n + 1, i, hn, ht, ha => by rw [joinS, splitM_plain (ht t (by simp)).1, ahead_false, txt_plain]; rfl
  | t :: ts, a :: az, 0, i, hn, ht, ha => by omega
  | t :: ts, a :: az, n + 1, i, hn, ht, ha => by
    have hw := ha a (by simp)
    have hf := ht t (by simp)
    rw [joinS] at hn ⊢
    rw [splitM_act hf.1 hf.2 (clos_plain _ (fun x hx => ⟨(hw x hx).2.2.2.1, (hw x hx).2.2.1⟩)), word_dashR hw]
    rw [law_joins ts az n _ (by simp at hn; omega) (fun x hx => ht x (by simp [hx])) (fun x hx => ha x (by simp [hx]))]
    simp [actn, word_body hw, word_comment hw, ahead, behind, word_dashL hw, wantS]

/-! ### Quotes -/
def esc1 (c : UInt8) : List UInt8 := if c = 10 then [92, 110] else if c = 9 then [92, 116] else if c = 34 ∨ c = 92 then [92, c] else [c]
def escL (s : List UInt8) : List UInt8 := s.flatMap esc1
def quoteL (s : List UInt8) : List UInt8 := 34 :: (escL s ++ [34])
theorem clos_step {a : UInt8} {r : List UInt8} (h1 : a ≠ 34) (h2 : a ≠ 125) (hr : r ≠ []) : clos false (a :: r) = (clos false r).map (· + 1) := by
  cases r with
  | nil => exact absurd rfl hr
  | cons b l => rw [clos, if_neg (by rintro ⟨e, -⟩; exact h2 e), if_neg h1]
theorem clos_quote {r : List UInt8} (hr : r ≠ []) : clos false (34 :: r) = (clos true r).map (· + 1) := by
  cases r with
  | nil => exact absurd rfl hr
  | cons b l => rw [clos, if_neg (by rintro ⟨e, -⟩; exact absurd e (by decide)), if_pos rfl]
theorem clos_unquote {r : List UInt8} (hr : r ≠ []) : clos true (34 :: r) = (clos false r).map (· + 1) := by
  cases r with
  | nil => exact absurd rfl hr
  | cons b l => rw [clos, if_pos rfl]
theorem clos_in {a : UInt8} {r : List UInt8} (h1 : a ≠ 34) (h2 : a ≠ 92) (hr : r ≠ []) : clos true (a :: r) = (clos true r).map (· + 1) := by
  cases r with
  | nil => exact absurd rfl hr
  | cons b l => rw [clos, if_neg h1, if_neg h2]
theorem clos_back {a : UInt8} {r : List UInt8} : clos true (92 :: a :: r) = (clos true r).map (· + 2) := by
  rw [clos, if_neg (by decide), if_pos rfl]
theorem map_map (o : Option Nat) (a b : Nat) : (o.map (· + a)).map (· + b) = o.map (· + (a + b)) := by
  cases o <;> simp [Nat.add_assoc]
theorem clos_skip : ∀ {b r : List UInt8}, (∀ x ∈ b, x ≠ 34 ∧ x ≠ 125) → r ≠ [] → clos false (b ++ r) = (clos false r).map (· + b.length)
  | [], r, h, hr => by simp
  | a :: b, r, h, hr => by
    rw [List.cons_append, clos_step (h a (by simp)).1 (h a (by simp)).2 (by simp [hr]), clos_skip (fun x hx => h x (by simp [hx])) hr, map_map]
    rfl
theorem clos_esc : ∀ (s : List UInt8) {r : List UInt8}, r ≠ [] → clos true (escL s ++ r) = (clos true r).map (· + (escL s).length)
  | [], r, hr => by simp [escL]
  | c :: s, r, hr => by
    have ih := clos_esc s hr
    have e : escL (c :: s) = esc1 c ++ escL s := by simp [escL]
    have hne : escL s ++ r ≠ [] := by simp [hr]
    rw [e, List.append_assoc]
    by_cases h1 : c = 10
    · rw [esc1, if_pos h1]
      show clos true (92 :: 110 :: (escL s ++ r)) = _
      rw [clos_back, ih, map_map]; have e2 : ([92, 110] ++ escL s).length = (escL s).length + 2 := by simp
      rw [e2]
    · by_cases h2 : c = 9
      · rw [esc1, if_neg h1, if_pos h2]
        show clos true (92 :: 116 :: (escL s ++ r)) = _
        rw [clos_back, ih, map_map]; have e2 : ([92, 116] ++ escL s).length = (escL s).length + 2 := by simp
        rw [e2]
      · by_cases h3 : c = 34 ∨ c = 92
        · rw [esc1, if_neg h1, if_neg h2, if_pos h3]
          show clos true (92 :: c :: (escL s ++ r)) = _
          rw [clos_back, ih, map_map]; have e2 : ([92, c] ++ escL s).length = (escL s).length + 2 := by simp
          rw [e2]
        · rw [esc1, if_neg h1, if_neg h2, if_neg h3]
          show clos true (c :: (escL s ++ r)) = _
          rw [clos_in (fun e => h3 (.inl e)) (fun e => h3 (.inr e)) hne, ih, map_map]; have e2 : ([c] ++ escL s).length = (escL s).length + 1 := by simp
          rw [e2]
def pr : List UInt8 := [32, 112, 114, 105, 110, 116, 32]
def prB : List UInt8 := [112, 114, 105, 110, 116, 32]
theorem quoted_clos (s r : List UInt8) : clos false ((pr ++ (quoteL s ++ [32])) ++ 125 :: 125 :: r) = some (pr ++ (quoteL s ++ [32])).length := by
  have e : (pr ++ (quoteL s ++ [32])) ++ 125 :: 125 :: r = pr ++ (34 :: (escL s ++ (34 :: ([32] ++ 125 :: 125 :: r)))) := by simp [quoteL]
  rw [e, clos_skip (by decide) (by simp), clos_quote (by simp), clos_esc s (by simp), clos_unquote (by simp), clos_plain _ (by decide)]
  simp [quoteL, pr]
  omega
theorem quoted_last (s : List UInt8) : ∃ u, pr ++ (quoteL s ++ [32]) = 32 :: (prB ++ 34 :: u ++ [34]) ++ [32] := ⟨escL s, by simp [quoteL, pr, prB]⟩
theorem quoted_dashL (s : List UInt8) : dashL (pr ++ (quoteL s ++ [32])) = false := by
  obtain ⟨u, e⟩ := quoted_last s
  rw [e]; simp [dashL, Lib.hasPrefix, List.isPrefixOf]
theorem quoted_dashR (s : List UInt8) : dashR (pr ++ (quoteL s ++ [32])) = false := by
  unfold dashR raw1
  rw [quoted_dashL]
  obtain ⟨u, e⟩ := quoted_last s
  rw [e]
  simp only [Bool.false_eq_true, if_false]
  cases hs : Lib.hasSuffix (32 :: (prB ++ 34 :: u ++ [34]) ++ [32]) [32, 45] with
  | false => rfl
  | true =>
    exfalso
    have h : [32, 45] <:+ (32 :: (prB ++ 34 :: u ++ [34]) ++ [32]) := by simpa [Lib.hasSuffix] using hs
    obtain ⟨t, ht⟩ := h
    have h1 := congrArg List.getLast? ht
    rw [List.getLast?_append, List.getLast?_append] at h1
    simp at h1
theorem trimR_one (l : List UInt8) : Lib.trimRightS (l ++ [34] ++ [32]) blanks = l ++ [34] := by
  unfold Lib.trimRightS
  have e : (l ++ [34] ++ [32]).reverse = 32 :: 34 :: l.reverse := by simp
  rw [e, List.dropWhile_cons, if_pos (by decide), List.dropWhile_cons, if_neg (by decide)]
  simp
theorem quoted_body (s : List UInt8) : body (pr ++ (quoteL s ++ [32])) = prB ++ quoteL s := by
  have h2 : raw2 (pr ++ (quoteL s ++ [32])) = pr ++ (quoteL s ++ [32]) := by unfold raw2 raw1; rw [quoted_dashR, quoted_dashL]; rfl
  have e0 : prB ++ quoteL s = prB ++ 34 :: escL s ++ [34] := by simp [quoteL]
  have e : pr ++ (quoteL s ++ [32]) = 32 :: (prB ++ 34 :: escL s ++ [34]) ++ [32] := by simp [quoteL, pr, prB]
  unfold body
  rw [h2, e, e0]
  unfold Lib.trimS
  have e1 : Lib.trimRightS (32 :: (prB ++ 34 :: escL s ++ [34]) ++ [32]) blanks = 32 :: (prB ++ 34 :: escL s ++ [34]) := trimR_one (32 :: (prB ++ 34 :: escL s))
  rw [e1]
  unfold Lib.trimLeftS
  simp [List.dropWhile, blanks, prB]
theorem quoted_comment (s : List UInt8) : comment (prB ++ quoteL s) = false := by
  simp [comment, Lib.hasPrefix, List.isPrefixOf, prB]
theorem law_quotes {n : Nat} {s t : List UInt8} (ht : find2 123 t = none) : ∃ k, splitM (n + 2) (123 :: 123 :: ((pr ++ (quoteL s ++ [32])) ++ 125 :: 125 :: t)) 0 false = some (⟨true, prB ++ quoteL s, 0⟩ :: txt t k) := by
  refine ⟨0 + (([] : List UInt8).length + 2 + ((pr ++ (quoteL s ++ [32])).length + 2)), ?_⟩
  have e : (123 :: 123 :: ((pr ++ (quoteL s ++ [32])) ++ 125 :: 125 :: t) : List UInt8) = [] ++ 123 :: 123 :: ((pr ++ (quoteL s ++ [32])) ++ 125 :: 125 :: t) := rfl
  rw [e, splitM_act fine_nil.1 fine_nil.2 (quoted_clos s t), quoted_dashR, splitM_plain ht, quoted_body]
  simp only [actn, quoted_comment, ahead, behind, quoted_dashL]
  simp [txt]

/-! ### What isn't closed -/
theorem law_open {n : Nat} {s t : List UInt8} (hs : Fine s) (ht : find2 125 t = none) : splitM (n + 1) (s ++ 123 :: 123 :: t) 0 false = none :=
  splitM_open hs.1 hs.2 (clos_none t.length (Nat.le_refl _) ht)
theorem law_ends {n : Nat} {s : List UInt8} (hs : find2 123 s = none) : splitM (n + 1) (s ++ [125, 125]) 0 false = some [⟨false, s ++ [125, 125], 0⟩] := by
  rw [law_plain (find2_none_app (d := 125) (by decide) [125] hs (by decide))]
  simp [txt]
end Go.Proofs.YtnblmhfgmehnnaaGreatDoor

/- trim.closed: where an action ends. -/
namespace Go.Proofs.YtnblmhfgmehnnaaGreatDoor
open Go.RowKit

/-- A byte of a text, as its list has it. -/
theorem clos_nil (q : Bool) : clos q [] = none := by cases q <;> simp [clos]
theorem clos_q1 (r : List UInt8) : clos false (34 :: r) = (clos true r).map (· + 1) := by
  cases r with
  | nil => simp [clos]
  | cons b l => exact clos_quote (by simp)
theorem clos_q2 (r : List UInt8) : clos true (34 :: r) = (clos false r).map (· + 1) := by
  cases r with
  | nil => simp [clos]
  | cons b l => exact clos_unquote (by simp)
theorem clos_q3 {a : UInt8} (r : List UInt8) (h1 : a ≠ 34) (h2 : a ≠ 92) : clos true (a :: r) = (clos true r).map (· + 1) := by
  cases r with
  | nil => simp [clos]
  | cons b l => exact clos_in h1 h2 (by simp)
theorem clos_q4 (r : List UInt8) : clos true (92 :: r) = (clos true (r.drop 1)).map (· + 2) := by
  cases r with
  | nil => simp [clos]
  | cons b l => exact clos_back
theorem clos_q5 {a : UInt8} (r : List UInt8) (h1 : a ≠ 34) (h2 : Lib.hasPrefix (a :: r) [125, 125] = false) : clos false (a :: r) = (clos false r).map (· + 1) := by
  cases r with
  | nil => simp [clos]
  | cons b l =>
    rw [clos, if_neg, if_neg h1]
    rintro ⟨rfl, rfl⟩
    simp [Lib.hasPrefix, List.isPrefixOf] at h2
theorem clos_q6 {l : List UInt8} (h2 : Lib.hasPrefix l [125, 125] = true) : clos false l = some 0 := by
  match l, h2 with
  | a :: b :: l, h2 =>
    simp [Lib.hasPrefix, List.isPrefixOf] at h2
    rw [clos, if_pos ⟨h2.1.symm, h2.2.symm⟩]
  | [a], h2 => simp [Lib.hasPrefix, List.isPrefixOf] at h2
  | [], h2 => simp [Lib.hasPrefix, List.isPrefixOf] at h2

/-- The answer as a number. -/
def closI (k : Nat) : Option Nat → Int
  | none => -1
  | some e => ((e + k : Nat) : Int)
/-- From place i on, within quotes or not, it is what it is from the beginning on. -/
def ClosAt (s : ByteArray) (k i : Nat) (q : Bool) : Prop := k ≤ i ∧ clos false (s.data.toList.drop k) = (clos q (s.data.toList.drop i)).map (· + (i - k))
theorem ClosAt.step {s : ByteArray} {k i j : Nat} {q q' : Bool} (h : ClosAt s k i q) (hj : i ≤ j) (e : clos q (s.data.toList.drop i) = (clos q' (s.data.toList.drop j)).map (· + (j - i))) : ClosAt s k j q' := by
  refine ⟨by have := h.1; omega, ?_⟩
  have h1 := h.1
  rw [h.2, e, map_map]
  congr 1; funext x; omega
theorem ClosAt.done {s : ByteArray} {k i : Nat} {q : Bool} (h : ClosAt s k i q) (hi : s.size ≤ i) : closI k (clos false (s.data.toList.drop k)) = -1 := by
  rw [h.2, drop_end hi, clos_nil]; rfl
theorem ClosAt.found {s : ByteArray} {k i : Nat} (h : ClosAt s k i false) (hp : Lib.hasPrefix (s.data.toList.drop i) [125, 125] = true) : closI k (clos false (s.data.toList.drop k)) = (i : Int) := by
  have h1 := h.1
  rw [h.2, clos_q6 hp]
  show ((0 + (i - k) + k : Nat) : Int) = i
  omega
theorem ext_list {s : ByteArray} {k : Nat} : (s.extract k s.size).data.toList = s.data.toList.drop k := Lib.extract_to_end s k

set_option maxRecDepth 100000 in
set_option maxHeartbeats 2000000 in
theorem tclosed (s : ByteArray) (k : Nat) (hk : k ≤ s.size) (hs : s.size ≤ 1000000) (w : World) :
    Calls Tryz.prog 52 #[.string s, .int .i64 k] w fun e w' => e = .returned (.int .i64 (closI k (clos false (s.data.toList.drop k)))) ∧ w = w' := by
  obtain ⟨r, hr⟩ : ∃ r, r = closI k (clos false (s.data.toList.drop k)) := ⟨_, rfl⟩
  rw [← hr]
  have HR := Lib.hid hr
  clear hr
  go_enter Tryz.func52, Tryz.ntmps52
  go_wp2_with fail
  go_loop [5] (fun i => ∃ q : Nat, q ≤ s.size + 2 ∧ i = .int .i64 q ∧ Hid (ClosAt s k q false)) (fun i => s.size + 2 - (intOf i).toNat)
  case atStart => exact ⟨k, by omega, rfl, ⟨Nat.le_refl _, by simp⟩⟩
  case round =>
    obtain ⟨q, hq, rfl, hc⟩ := hrel
    have HC := Lib.hid hc.out
    clear hc
    by_cases hlt : q < s.size
    · have h0 : (0 : Int) ≤ q := by omega
      have h1 : (q : Int) ≤ s.size := by omega
      go_wp2_with fail
      refine (Tryz.strings_HasPrefix _ _ _).mono ?_
      rintro e w' ⟨rfl, rfl⟩
      rw [ext_list]
      have HB := Lib.hid (byte_list hlt)
      cases hp : Lib.hasPrefix (s.data.toList.drop q) [125, 125] with
      | true =>
        have HF := Lib.hid (HC.out.found hp)
        clear hp
        go_wp2_with fail
        go_ret
        exact ⟨by rw [HR.out, HF.out]; rfl, rfl⟩
      | false =>
        have HP := Lib.hid hp
        clear hp
        have hq2 : (q : Int) < s.size := by omega
        have h256 := UInt8.toNat_lt s[q]
        by_cases h34 : s[q] = 34
        · have g34 : ((s[q].toNat : Int) == 34) = true := by rw [h34]; rfl
          have HI := Lib.hid (show ClosAt s k (q + 1) true from HC.out.step (by omega) (by rw [HB.out, h34, clos_q1]; congr 1; funext x; omega))
          clear h34
          go_wp2_with fail
          go_loop [5] (fun i => ∃ j : Nat, q < j ∧ j ≤ s.size + 1 ∧ i = .int .i64 j ∧ Hid (ClosAt s k j true)) (fun i => s.size + 1 - (intOf i).toNat)
          case atStart => exact ⟨q + 1, by omega, by omega, by go_num, HI.out⟩
          case round =>
            obtain ⟨j, hqj, hj, rfl, hcj⟩ := hrel
            have HJ := Lib.hid hcj.out
            clear hcj HI HB HP
            by_cases hlj : j < s.size
            · have hj2 : (j : Int) < s.size := by omega
              have h256j := UInt8.toNat_lt s[j]
              have HBJ := Lib.hid (byte_list hlj)
              by_cases h3 : s[j] = 34
              · have g3 : ((s[j].toNat : Int) == 34) = true := by rw [h3]; rfl
                have g3' : ((s[j].toNat : Int) != 34) = false := by rw [h3]; rfl
                have HI := Lib.hid (show ClosAt s k (j + 1) false from HJ.out.step (by omega) (by rw [HBJ.out, h3, clos_q2]; congr 1; funext x; omega))
                clear h3
                go_wp2_with fail
                go_round
                case rel => exact ⟨j + 1, by omega, by go_num, HI.out⟩
                case measure => simp [intOf]; omega
              · have g3 : ((s[j].toNat : Int) == 34) = false := beq_eq_false_iff_ne.2 (fun h => h3 (UInt8.toNat_inj.1 (by show _ = 34; omega)))
                have g3' : ((s[j].toNat : Int) != 34) = true := bne_iff_ne.2 (fun h => h3 (UInt8.toNat_inj.1 (by show _ = 34; omega)))
                by_cases h9 : s[j] = 92
                · have g9 : ((s[j].toNat : Int) == 92) = true := by rw [h9]; rfl
                  have HI := Lib.hid (show ClosAt s k (j + 2) true from HJ.out.step (by omega) (by rw [HBJ.out, h9, clos_q4, List.drop_drop]; congr 1; funext x; omega))
                  clear h3 h9
                  go_wp2_with fail
                  go_round
                  case rel => exact ⟨j + 2, by omega, by omega, by go_num, HI.out⟩
                  case measure => simp [intOf]; omega
                · have g9 : ((s[j].toNat : Int) == 92) = false := beq_eq_false_iff_ne.2 (fun h => h9 (UInt8.toNat_inj.1 (by show _ = 92; omega)))
                  have HI := Lib.hid (show ClosAt s k (j + 1) true from HJ.out.step (by omega) (by rw [HBJ.out, clos_q3 _ h3 h9]; congr 1; funext x; omega))
                  clear h3 h9
                  go_wp2_with fail
                  go_round
                  case rel => exact ⟨j + 1, by omega, by omega, by go_num, HI.out⟩
                  case measure => simp [intOf]; omega
            · have HI := Lib.hid (show ClosAt s k (j + 1) false from HJ.out.step (by omega) (by rw [drop_end (by omega), drop_end (by omega), clos_nil, clos_nil]; rfl))
              go_wp2_with fail
              go_round
              case rel => exact ⟨j + 1, by omega, by go_num, HI.out⟩
              case measure => simp [intOf]; omega
        · have g34 : ((s[q].toNat : Int) == 34) = false := beq_eq_false_iff_ne.2 (fun h => h34 (UInt8.toNat_inj.1 (by show _ = 34; omega)))
          have HI := Lib.hid (show ClosAt s k (q + 1) false from HC.out.step (by omega) (by rw [HB.out, clos_q5 _ h34 (by rw [← HB.out]; exact HP.out)]; congr 1; funext x; omega))
          clear h34
          go_wp2_with fail
          go_round
          case rel => exact ⟨q + 1, by omega, by go_num, HI.out⟩
          case measure => simp [intOf]; omega
    · go_wp2_with fail
      go_ret
      exact ⟨by rw [HR.out, HC.out.done (by omega)]; rfl, rfl⟩
end Go.Proofs.YtnblmhfgmehnnaaGreatDoor

/- slices.Clone, of values and of pairs: a new row with the same cells. -/
namespace Go.Proofs.YtnblmhfgmehnnaaGreatDoor
open Go.RowKit

/-- The cells of a slice, wherever it begins. -/
def Src (w : World) (a : Option Addr) (xs : List Value) : Prop := ∀ j u, xs[j]? = some u → ∃ b o, a = some ⟨b, o, none⟩ ∧ w.cell? ⟨b, o + j, none⟩ = some u
theorem Src.add {w : World} {ad : Addr} {xs : List Value} (h : Src w (some ad) xs) : ∀ j u, xs[j]? = some u → w.cell? (ad.add j) = some u := by
  intro j u hu
  obtain ⟨b, o, e, hc⟩ := h j u hu
  injection e with e
  subst e
  rw [show (⟨b, o, none⟩ : Addr).add j = ⟨b, o + j, none⟩ by unfold Addr.add; split <;> simp_all]
  exact hc
theorem Src.keep {w w' : World} {a : Option Addr} {xs : List Value} (h : Src w a xs) (hb : Below w.heap.size w w') : Src w' a xs := by
  intro j u hu
  obtain ⟨b, o, e, hc⟩ := h j u hu
  exact ⟨b, o, e, (hb.cell (p := ⟨b, o + j, none⟩) (block_lt_of_cell (a := ⟨b, o + j, none⟩) hc)).trans hc⟩

/-- A copy: nil of nil; else a row of the call's own. -/
def Copied (B : Nat) (ty size n : Nat) (xs : List Value) (w w' : World) (v : Value) : Prop :=
  ∃ (A : Option Addr) (cap : Nat), v = .slice A n cap ∧ n ≤ cap ∧ cap ≤ maxLen ∧ (A = none → n = 0 ∧ cap = 0) ∧ (∀ ad, A = some ad → ∃ g cur, ad = ⟨g, 0, none⟩ ∧ B ≤ g ∧ Blk w' g ty cur ∧ cur.size = cap * size ∧ cur.toList.take (n * size) = xs) ∧ Below w.heap.size w w'
def CopyPost (ty size n : Nat) (xs : List Value) (w : World) (e : Ending) (w' : World) : Prop := ∃ v, e = .returned v ∧ Copied w.heap.size ty size n xs w w' v

theorem sclone_v_info : (Tryz.prog.info? 41).map (fun i => (i.zero, i.size, i.bytes)) = some (some (.agg #[.int .i64 0, .bool false, .int .i64 0, .string ⟨#[]⟩, .slice none 0 0, .slice none 0 0]), 6, 88) := by kernel_rfl
theorem sclone_p_info : (Tryz.prog.info? 118).map (fun i => (i.zero, i.size, i.bytes)) = some (some (.agg #[.string ⟨#[]⟩, .int .i64 0, .bool false, .int .i64 0, .string ⟨#[]⟩, .slice none 0 0, .slice none 0 0]), 7, 104) := by kernel_rfl
end Go.Proofs.YtnblmhfgmehnnaaGreatDoor

/- slices.Insert at pairs, into a row of the call's own: after the library's worked text at strings (SlicesInsert, SlicesInsertGrow), turned to elements of more than one cell. -/
namespace Go.Proofs.YtnblmhfgmehnnaaGreatDoor
open Go.RowKit Go.Lib

section
variable {P : Program}
/-- copy at elements of sz cells. -/
theorem run_copy_wide (w : World) (dT sT ty elem : TypeId) (sz b o dLen dCap : Nat) (a : Addr) (sLen sCap k : Nat) (cs : List Value)
    (hu : P.underlying dT = some (.slice elem)) (hs : (P.info? elem).map (·.size) = some sz) (hk : Nat.min sLen dLen = k) (hn : cs.length = k * sz)
    (hsrc : ∀ j v, cs[j]? = some v → w.cell? (a.add j) = some v) (hc : ∀ j, j < cs.length → (w.cell? ⟨b, o + j, none⟩).isSome = true) (hf : ∀ j, j < cs.length → w.frozen? ⟨b, o + j, none⟩ = false) (h1 : ∀ v ∈ cs, v.oneCell' = true) :
    (Builtin.copy_ #[dT, sT] ty #[.slice (some ⟨b, o, none⟩) dLen dCap, .slice (some a) sLen sCap]).run P w = .ok (goInt k) (w.setCells b o cs) := by
  have hl := run_loadCells_list (P := P) w a cs hsrc
  have hst := run_storeCells_cells (P := P) b o cs 0 w (by simpa using hc) (by simpa using hf) h1
  cases hq : P.info? elem with
  | none => simp [hq] at hs
  | some i =>
    have hi : i.size = sz := by simpa [hq] using hs
    simp [Builtin.copy_, run_underlying hu, Builtin.lenOf, Builtin.firstCells, sizeOf, typeInfo, hq, hi, hk, ← hn, hl, hst]
end

/-- Cells laid into a block that is known whole. -/
theorem Blk.setCells {g ty : Nat} : ∀ (vs : List Value) (o : Nat) {w : World} {cur : Array Value}, Blk w g ty cur → o + vs.length ≤ cur.size →
    Blk (w.setCells g o vs) g ty (cur.toList.take o ++ vs ++ cur.toList.drop (o + vs.length)).toArray
  | [], o, w, cur, h, _ => by simpa [World.setCells] using h
  | v :: r, o, w, cur, h, hl => by
    have h1 := Blk.setCells r (o + 1) (h.set_ o v) (by simp at hl ⊢; omega)
    have e := list_seg_step cur.toList o v r (by simp at hl ⊢; omega)
    rw [World.setCells]
    have e2 : ((cur.setIfInBounds o v).toList.take (o + 1) ++ r ++ (cur.setIfInBounds o v).toList.drop (o + 1 + r.length)) = cur.toList.take o ++ (v :: r) ++ cur.toList.drop (o + (v :: r).length) := by
      simpa [Array.toList_setIfInBounds, Nat.add_assoc] using e
    rw [← e2]
    exact h1
theorem heap_setCells (g : Nat) : ∀ (vs : List Value) (o : Nat) (w : World) (k : Nat), k ≠ g → (w.setCells g o vs).heap[k]? = w.heap[k]?
  | [], _, _, _, _ => rfl
  | v :: r, o, w, k, h => by rw [World.setCells, heap_setCells g r (o + 1) _ k h, Below.heap_setCell w _ v k h]
theorem size_setCells (g : Nat) : ∀ (vs : List Value) (o : Nat) (w : World), (w.setCells g o vs).heap.size = w.heap.size
  | [], _, _ => rfl
  | v :: r, o, w => by rw [World.setCells, size_setCells g r (o + 1) _]; simp [World.setCell]
theorem same_setCells (g : Nat) : ∀ (vs : List Value) (o : Nat) (w : World), (w.setCells g o vs).os = w.os ∧ (w.setCells g o vs).tape = w.tape ∧ (w.setCells g o vs).output = w.output
  | [], _, _ => ⟨rfl, rfl, rfl⟩
  | v :: r, o, w => by
    obtain ⟨h1, h2, h3⟩ := same_setCells g r (o + 1) (w.setCell ⟨g, o, none⟩ v)
    rw [World.setCells]
    exact ⟨h1, h2, h3⟩
theorem grown_setCells {a w : World} {row : Option Nat} {g : Nat} (h : a.grownBy w row) (hg : some g = row ∨ a.heap.size ≤ g) (o : Nat) (vs : List Value) : a.grownBy (w.setCells g o vs) row := by
  obtain ⟨h1, h2, h3⟩ := same_setCells g vs o w
  refine ⟨h1.trans h.os, h2.trans h.tape, h3.trans h.output, by rw [size_setCells]; exact h.size, fun k hk hne => ?_⟩
  rw [heap_setCells g vs o w k ?_]
  · exact h.block k hk hne
  · rintro rfl
    rcases hg with e | e
    · exact hne e
    · omega
theorem cell_setCells_far (b : Nat) (vs : List Value) (o : Nat) (w : World) {c j : Nat} (h : c ≠ b) : (w.setCells b o vs).cell? ⟨c, j, none⟩ = w.cell? ⟨c, j, none⟩ :=
  World.cell?_of_block (a := ⟨c, j, none⟩) (heap_setCells b vs o w c h)
theorem add_lit (b o j : Nat) : (⟨b, o, none⟩ : Addr).add j = ⟨b, o + j, none⟩ := by unfold Addr.add; split <;> simp_all

/-- What Insert leaves: a row of the call's own with the cells laid in. -/
def InsPost (B n m : Nat) (xs' : List Value) (v : Value) (w : World) (e : Ending) (w' : World) : Prop :=
  ∃ v', e = .returned v' ∧ w'.ownsRow B 118 7 v' (n + m) xs' ∧ w.grownBy w' v.ownBlock ∧ (v'.ownBlock = v.ownBlock ∨ v'.ownBlock = some w.heap.size)

theorem pair_size : (Tryz.prog.info? 118).map (·.size) = some 7 := by kernel_rfl
theorem pair_sizeOf (w : World) : (Go.sizeOf 118).run Tryz.prog w = .ok 7 w := by
  obtain ⟨i0, hi, hz0, hz1, hz2⟩ := info_parts sclone_p_info
  simp [sizeOf, typeInfo, hi, hz1]
theorem und_pairs : Tryz.prog.underlying 39 = some (.slice 118) := by kernel_rfl
theorem und_int : Tryz.prog.underlying 3 = some (.int .i64) := by kernel_rfl

end Go.Proofs.YtnblmhfgmehnnaaGreatDoor

/- slices.Insert of one pair into a row of the call's own, whichever road it takes. -/
namespace Go.Proofs.YtnblmhfgmehnnaaGreatDoor
open Go.RowKit Go.Lib

theorem lay_shift {L xs es : List Value} {p q : Nat} (hq : es.length = q) (hp : p ≤ xs.length) (hL : p + q ≤ L.length) (ht : L.take p = xs.take p) :
    (((L.take (p + q) ++ xs.drop p ++ L.drop (p + q + (xs.drop p).length)).take p ++ es ++ (L.take (p + q) ++ xs.drop p ++ L.drop (p + q + (xs.drop p).length)).drop (p + es.length))).take (xs.length + q) = xs.take p ++ es ++ xs.drop p := by
  have h1 : (L.take (p + q)).length = p + q := by rw [List.length_take]; omega
  have h2 : (L.take (p + q) ++ xs.drop p ++ L.drop (p + q + (xs.drop p).length)).take p = xs.take p := by
    rw [List.append_assoc, List.take_append_of_le_length (by omega), List.take_take, show min p (p + q) = p by omega, ht]
  have h3 : (L.take (p + q) ++ xs.drop p ++ L.drop (p + q + (xs.drop p).length)).drop (p + es.length) = xs.drop p ++ L.drop (p + q + (xs.drop p).length) := by
    rw [List.append_assoc, hq, List.drop_append_of_le_length (by omega), List.drop_of_length_le (by omega), List.nil_append]
  rw [h2, h3, ← List.append_assoc, List.take_append_of_le_length (by simp; omega), List.take_of_length_le (by simp; omega)]

theorem lay_grow {L xs es : List Value} {p q : Nat} (hq : es.length = q) (hp : p ≤ xs.length) (hL : xs.length + q ≤ L.length) (ht : L.take p = xs.take p) :
    (((L.take p ++ es ++ L.drop (p + es.length)).take (p + q) ++ xs.drop p ++ (L.take p ++ es ++ L.drop (p + es.length)).drop (p + q + (xs.drop p).length))).take (xs.length + q) = xs.take p ++ es ++ xs.drop p := by
  have h1 : (L.take p ++ es).length = p + q := by rw [List.length_append, List.length_take]; omega
  have h2 : (L.take p ++ es ++ L.drop (p + es.length)).take (p + q) = xs.take p ++ es := by
    rw [List.take_append_of_le_length (by omega), List.take_of_length_le (by omega), ht]
  rw [h2, List.take_append_of_le_length (by simp; omega), List.take_of_length_le (by simp; omega)]

theorem Blk.shape {w : World} {g : Nat} {t : TypeId} {cs : Array Value} (h : Blk w g t cs) : w.shape? g = some (t, cs.size) := by
  unfold Blk at h
  simp [World.shape?, h]

theorem grown_refl (w : World) (row : Option Nat) : w.grownBy w row := World.grownBy.refl w row
theorem grown_drew {a w : World} {row : Option Nat} (h : a.grownBy w row) : a.grownBy w.drew row := ⟨h.os, h.tape, h.output, h.size, h.block⟩
theorem grown_alloc (w : World) (row : Option Nat) (o : Obj) : w.grownBy (w.alloc o) row :=
  ⟨rfl, rfl, rfl, by simp, fun k hk _ => Below.heap_alloc w o k hk⟩

end Go.Proofs.YtnblmhfgmehnnaaGreatDoor

/- Texts, keys, and their order. -/
namespace Go.Proofs.YtnblmhfgmehnnaaGreatDoor
open Go.RowKit

/-- One text stands ahead of another, byte by byte. -/
def klt (a b : ByteArray) : Bool := Op.bytesLess a.toList b.toList

theorem bl_irrefl (l : List UInt8) : Op.bytesLess l l = false := by
  induction l with
  | nil => rfl
  | cons a l ih => simp [Op.bytesLess, ih]
theorem bl_trans : ∀ (a b c : List UInt8), Op.bytesLess a b = true → Op.bytesLess b c = true → Op.bytesLess a c = true
  | _, [], _, h, _ => by simp [Op.bytesLess] at h
  | _, _ :: _, [], _, h => by simp [Op.bytesLess] at h
  | [], _ :: _, _ :: _, _, _ => rfl
  | x :: a, y :: b, z :: c, h1, h2 => by
    simp only [Op.bytesLess, Bool.or_eq_true, decide_eq_true_eq, Bool.and_eq_true, beq_iff_eq] at h1 h2 ⊢
    rcases h1 with h1 | ⟨rfl, h1⟩
    · rcases h2 with h2 | ⟨rfl, h2⟩
      · exact .inl (UInt8.lt_trans h1 h2)
      · exact .inl h1
    · rcases h2 with h2 | ⟨rfl, h2⟩
      · exact .inl h2
      · exact .inr ⟨rfl, bl_trans a b c h1 h2⟩
theorem bl_total : ∀ (a b : List UInt8), Op.bytesLess a b = true ∨ a = b ∨ Op.bytesLess b a = true
  | [], [] => .inr (.inl rfl)
  | [], _ :: _ => .inl rfl
  | _ :: _, [] => .inr (.inr rfl)
  | x :: a, y :: b => by
    simp only [Op.bytesLess, Bool.or_eq_true, decide_eq_true_eq, Bool.and_eq_true, beq_iff_eq, List.cons.injEq]
    rcases Nat.lt_trichotomy x.toNat y.toNat with h | h | h
    · exact .inl (.inl (UInt8.lt_iff_toNat_lt.2 h))
    · have e : x = y := UInt8.toNat_inj.1 h
      subst e
      rcases bl_total a b with h | h | h
      · exact .inl (.inr ⟨rfl, h⟩)
      · exact .inr (.inl ⟨rfl, h⟩)
      · exact .inr (.inr (.inr ⟨rfl, h⟩))
    · exact .inr (.inr (.inl (UInt8.lt_iff_toNat_lt.2 h)))
theorem ba_ext {a b : ByteArray} (h : a.toList = b.toList) : a = b := by
  rw [ByteArray.toList_eq, ByteArray.toList_eq] at h
  obtain ⟨⟨a⟩⟩ := a; obtain ⟨⟨b⟩⟩ := b
  simp at h; subst h; rfl
theorem klt_irrefl (a : ByteArray) : klt a a = false := bl_irrefl _
theorem klt_trans {a b c : ByteArray} (h : klt a b = true) (k : klt b c = true) : klt a c = true := bl_trans _ _ _ h k
theorem klt_total (a b : ByteArray) : klt a b = true ∨ a = b ∨ klt b a = true := by
  rcases bl_total a.toList b.toList with h | h | h
  · exact .inl h
  · exact .inr (.inl (ba_ext h))
  · exact .inr (.inr h)
theorem klt_asymm {a b : ByteArray} (h : klt a b = true) : klt b a = false := by
  cases h2 : klt b a with
  | false => rfl
  | true => have := klt_trans h h2; rw [klt_irrefl] at this; cases this
theorem klt_ne {a b : ByteArray} (h : klt a b = true) : a ≠ b := by rintro rfl; rw [klt_irrefl] at h; cases h
theorem keq_iff (a b : ByteArray) : (a.toList == b.toList) = decide (a = b) := by
  by_cases h : a = b
  · subst h; simp
  · have : a.toList ≠ b.toList := fun e => h (ba_ext e)
    simp [h, this]

theorem cmpb_eq : ∀ (a b : List UInt8), Lib.compareBytes a b = if Op.bytesLess a b then -1 else if a = b then 0 else 1
  | [], [] => rfl
  | [], _ :: _ => rfl
  | _ :: _, [] => rfl
  | x :: a, y :: b => by
    rw [Lib.compareBytes, cmpb_eq a b]
    by_cases h1 : x < y
    · simp [Op.bytesLess, h1]
    · by_cases h2 : y < x
      · have h3 : x ≠ y := by rintro rfl; exact h1 h2
        simp [Op.bytesLess, h1, h2, h3]
      · have h3 : x = y := by
          have a1 : ¬ x.toNat < y.toNat := fun h => h1 (UInt8.lt_iff_toNat_lt.2 h)
          have a2 : ¬ y.toNat < x.toNat := fun h => h2 (UInt8.lt_iff_toNat_lt.2 h)
          exact UInt8.toNat_inj.1 (by omega)
        subst h3
        simp [Op.bytesLess, h1]
/-- How two texts compare. -/
def kcmp (a b : ByteArray) : Int := if klt a b then -1 else if a = b then 0 else 1
theorem kcmp_eq (a b : ByteArray) : Lib.compareBytes a.data.toList b.data.toList = kcmp a b := by
  rw [cmpb_eq, kcmp, klt, ByteArray.toList_eq, ByteArray.toList_eq]
  by_cases h : a = b
  · subst h; simp
  · have : ¬ a.data.toList = b.data.toList := fun e => h (ba_ext (by rw [ByteArray.toList_eq, ByteArray.toList_eq]; exact e))
    rw [if_neg h, if_neg this]

/-- A byte that a text may have; that a key may have. -/
def okText (c : UInt8) : Bool := decide (32 ≤ c.toNat ∧ c.toNat ≤ 126) || decide (c.toNat = 9) || decide (c.toNat = 10)
def okKey (c : UInt8) : Bool := decide (32 ≤ c.toNat ∧ c.toNat ≤ 126)
def textB (s : ByteArray) : Bool := s.data.toList.all okText && decide (s.size ≤ 65536)
def keyB (s : ByteArray) : Bool := s.data.toList.all okKey && decide (1 ≤ s.size) && decide (s.size ≤ 256)

theorem all_of_get {p : UInt8 → Bool} {s : ByteArray} (h : ∀ i (hi : i < s.size), p s[i] = true) : s.data.toList.all p = true := by
  rw [List.all_eq_true]
  intro x hx
  obtain ⟨i, hi, rfl⟩ := List.getElem_of_mem hx
  exact h i (by simpa using hi)
theorem all_not {p : UInt8 → Bool} {s : ByteArray} {i : Nat} (hi : i < s.size) (h : p s[i] = false) : s.data.toList.all p = false := by
  rw [Bool.eq_false_iff]
  intro ha
  have := List.all_eq_true.1 ha s[i] (List.getElem_mem (by simpa using hi : i < s.data.toList.length))
  rw [h] at this; cases this

end Go.Proofs.YtnblmhfgmehnnaaGreatDoor

/- The binary search among pairs by their keys. -/
namespace Go.Proofs.YtnblmhfgmehnnaaGreatDoor
open Go.RowKit

/-- The keys rise. -/
def KS (m : List (ByteArray × T)) : Prop := ∀ i j (hj : j < m.length) (h : i < j), klt m[i].1 m[j].1 = true
/-- Where a key stands, or would stand. -/
def Srch (m : List (ByteArray × T)) (key : ByteArray) (i : Nat) (f : Bool) : Prop :=
  i ≤ m.length ∧ (∀ j (h : j < m.length), j < i → klt m[j].1 key = true) ∧ (∀ j (h : j < m.length), i ≤ j → klt m[j].1 key = false) ∧ (f = true ↔ ∃ h : i < m.length, m[i].1 = key)
def SrchPost (w : World) (m : List (ByteArray × T)) (key : ByteArray) (e : Ending) (w' : World) : Prop :=
  ∃ i f, e = .returned (.tuple #[.int .i64 (i : Nat), .bool f]) ∧ Srch m key i f ∧ Below w.heap.size w w'

theorem KS.mono {m : List (ByteArray × T)} (hks : KS m) {key : ByteArray} {i j : Nat} (hj : j < m.length) (h : i < j) (hk : klt m[j].1 key = true) : klt m[i].1 key = true :=
  klt_trans (hks i j hj h) hk
theorem kcmp_neg (a b : ByteArray) : kcmp a b < 0 ↔ klt a b = true := by
  unfold kcmp
  split
  · simp_all
  · split <;> simp_all
theorem kcmp_zero (a b : ByteArray) : kcmp a b = 0 ↔ a = b := by
  unfold kcmp
  split
  · next h => have := klt_ne h; simp [this]
  · split <;> simp_all

end Go.Proofs.YtnblmhfgmehnnaaGreatDoor

/- Plain laws of a map that is kept by rising keys: one pair laid in. -/
namespace Go.Proofs.YtnblmhfgmehnnaaGreatDoor

/-- One pair laid into a map that is kept by rising keys. -/
def ins : List (ByteArray × T) → ByteArray → T → List (ByteArray × T)
  | [], k, t => [(k, t)]
  | p :: r, k, t => if klt p.1 k = true then p :: ins r k t else if p.1 = k then (k, t) :: r else (k, t) :: p :: r
/-- A map of pairs: of one key the last one. -/
def mapT (l : List (ByteArray × T)) : List (ByteArray × T) := l.foldl (fun m p => ins m p.1 p.2) []

theorem KS.nil : KS [] := fun i j hj _ => by simp at hj
theorem KS.tail {p : ByteArray × T} {r : List (ByteArray × T)} (h : KS (p :: r)) : KS r := fun i j hj hij => by
  have := h (i + 1) (j + 1) (by simpa using hj) (by omega)
  simpa using this
theorem KS.head {p : ByteArray × T} {r : List (ByteArray × T)} (h : KS (p :: r)) : ∀ q ∈ r, klt p.1 q.1 = true := fun q hq => by
  obtain ⟨j, hj, rfl⟩ := List.getElem_of_mem hq
  exact h 0 (j + 1) (by simpa using hj) (by omega)
theorem KS.cons {p : ByteArray × T} {r : List (ByteArray × T)} (h1 : ∀ q ∈ r, klt p.1 q.1 = true) (h2 : KS r) : KS (p :: r) := fun i j hj hij => by
  match i, j, hij, hj with
  | 0, j + 1, _, hj => simpa using h1 _ (List.getElem_mem (by simpa using hj))
  | i + 1, j + 1, hij, hj => simpa using h2 i j (by simpa using hj) (by omega)
theorem ins_mem {m : List (ByteArray × T)} {k : ByteArray} {t : T} : ∀ q ∈ ins m k t, q = (k, t) ∨ q ∈ m := by
  induction m with
  | nil => intro q hq; simp [ins] at hq; exact .inl hq
  | cons p r ih =>
    intro q hq
    unfold ins at hq
    split at hq
    · rcases List.mem_cons.1 hq with rfl | hq
      · exact .inr (by simp)
      · rcases ih q hq with h | h
        · exact .inl h
        · exact .inr (by simp [h])
    · split at hq
      · rcases List.mem_cons.1 hq with rfl | hq
        · exact .inl rfl
        · exact .inr (by simp [hq])
      · rcases List.mem_cons.1 hq with rfl | hq
        · exact .inl rfl
        · exact .inr hq
theorem ins_KS {m : List (ByteArray × T)} (h : KS m) (k : ByteArray) (t : T) : KS (ins m k t) := by
  induction m with
  | nil => exact KS.cons (by simp) KS.nil
  | cons p r ih =>
    unfold ins
    split
    · next hk =>
      refine KS.cons (fun q hq => ?_) (ih h.tail)
      rcases ins_mem q hq with rfl | hq
      · exact hk
      · exact h.head q hq
    · next hk =>
      split
      · next he =>
        subst he
        exact KS.cons h.head h.tail
      · next he =>
        have hpk : klt k p.1 = true := by
          rcases klt_total p.1 k with h' | h' | h'
          · exact absurd h' hk
          · exact absurd h' he
          · exact h'
        refine KS.cons (fun q hq => ?_) h
        rcases List.mem_cons.1 hq with rfl | hq
        · exact hpk
        · exact klt_trans hpk (h.head q hq)
theorem srch_cons {p : ByteArray × T} {r : List (ByteArray × T)} {k : ByteArray} {i : Nat} {f : Bool} (h : Srch (p :: r) k (i + 1) f) : Srch r k i f := by
  obtain ⟨h1, h2, h3, h4⟩ := h
  refine ⟨by simpa using h1, fun j hj hji => ?_, fun j hj hij => ?_, ?_⟩
  · exact h2 (j + 1) (by simpa using hj) (by omega)
  · exact h3 (j + 1) (by simpa using hj) (by omega)
  · rw [h4]
    simp
theorem ins_found {m : List (ByteArray × T)} {k : ByteArray} {i : Nat} (t : T) (h : Srch m k i true) : ins m k t = m.set i (k, t) := by
  induction m generalizing i with
  | nil =>
    obtain ⟨hi, _⟩ := h.2.2.2.1 rfl
    simp at hi
  | cons p r ih =>
    match i, h with
    | 0, h =>
      obtain ⟨_, he⟩ := h.2.2.2.1 rfl
      have h0 := h.2.2.1 0 (by simp) (Nat.le_refl _)
      simp at he h0
      simp [ins, he, klt_irrefl]
    | i + 1, h =>
      have h0 := h.2.1 0 (by simp) (by omega)
      simp at h0
      simp [ins, h0, ih (srch_cons h)]
theorem ins_new {m : List (ByteArray × T)} {k : ByteArray} {i : Nat} (t : T) (h : Srch m k i false) : ins m k t = m.take i ++ (k, t) :: m.drop i := by
  induction m generalizing i with
  | nil => simp [ins]
  | cons p r ih =>
    match i, h with
    | 0, h =>
      have h0 := h.2.2.1 0 (by simp) (Nat.le_refl _)
      simp at h0
      have hne : ¬ p.1 = k := fun e => by
        have := h.2.2.2.2 ⟨by simp, by simpa using e⟩
        cases this
      simp [ins, h0, hne]
    | i + 1, h =>
      have h0 := h.2.1 0 (by simp) (by omega)
      simp at h0
      simp [ins, h0, ih (srch_cons h)]
theorem mapT_KS_from (l : List (ByteArray × T)) {m : List (ByteArray × T)} (h : KS m) : KS (l.foldl (fun m p => ins m p.1 p.2) m) := by
  induction l generalizing m with
  | nil => exact h
  | cons p r ih => exact ih (ins_KS h _ _)
theorem mapT_KS (l : List (ByteArray × T)) : KS (mapT l) := mapT_KS_from l KS.nil
theorem ins_length (m : List (ByteArray × T)) (k : ByteArray) (t : T) : (ins m k t).length ≤ m.length + 1 := by
  induction m with
  | nil => simp [ins]
  | cons p r ih =>
    unfold ins
    split
    · simp; omega
    · split <;> simp
theorem mapT_take_succ {l : List (ByteArray × T)} {i : Nat} (h : i < l.length) : mapT (l.take (i + 1)) = ins (mapT (l.take i)) l[i].1 l[i].2 := by
  unfold mapT
  rw [List.take_succ_eq_append_getElem h, List.foldl_append]
  rfl
theorem mapT_length (l : List (ByteArray × T)) : (mapT l).length ≤ l.length := by
  suffices ∀ (l m : List (ByteArray × T)), (l.foldl (fun m p => ins m p.1 p.2) m).length ≤ m.length + l.length by simpa [mapT] using this l []
  intro l
  induction l with
  | nil => simp
  | cons p r ih =>
    intro m
    have h1 := ih (ins m p.1 p.2)
    have h2 := ins_length m p.1 p.2
    simp only [List.foldl_cons, List.length_cons]
    omega

end Go.Proofs.YtnblmhfgmehnnaaGreatDoor

