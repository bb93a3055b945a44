/- Several texts as one. -/
import Derived.Test.YtgbbojnigicnoaaDoorSchAB
import Derived.Test.YtgbbojnigicnoaaDoorEltS
import Derived.Deep.RegionHeld3
import Derived.Test.YtgbbojnigicnoaaDoorTailB
import Derived.Deep.Cut
/- Flaws as elements; steps with one more; what grows beside what stays; checker.add. -/
namespace Go.Proofs.YtgbbojnigicnoaaDoor
open Go.RowKit Go.Lib
attribute [local go_sem ↓] Go.wp_at_zero Go.wp_at_succ

def FlawR (w : World) (S : Nat → Prop) (cs : List Value) (p : FlawT) : Prop := ∃ a c, cs = [.int .i64 p.1, .slice a p.2.length c] ∧ RepS w S a p.2
theorem FlawR.mono {w w' : World} {S S' : Nat → Prop} {cs : List Value} {x : FlawT} (h : FlawR w S cs x) (hS : ∀ b, S b → b < w.heap.size → S' b) (hw : ∀ b o, S b → b < w.heap.size → w'.cell? ⟨b, o, none⟩ = w.cell? ⟨b, o, none⟩) : FlawR w' S' cs x := by
  obtain ⟨a, c, e, hr⟩ := h
  exact ⟨a, c, e, hr.mono hS hw⟩
def eltF (ty slt : TypeId) (hund : Tryd.prog.underlying slt = some (.slice ty)) (hinfo : (Tryd.prog.info? ty).map (fun i => (i.zero, i.size, i.bytes)) = some (some (.agg #[.int .i64 0, .slice none 0 0]), 2, 32)) : Elt FlawT where
  ty := ty
  slt := slt
  sz := 2
  bytes := 32
  zero := .agg #[.int .i64 0, .slice none 0 0]
  R := FlawR
  len h := by
    obtain ⟨a, c, e, _⟩ := h
    rw [e]; rfl
  one h := by
    obtain ⟨a, c, e, _⟩ := h
    intro u hu
    rw [e] at hu
    simp only [List.mem_cons, List.not_mem_nil, or_false] at hu
    rcases hu with rfl | rfl <;> rfl
  mono h hS hw := h.mono hS hw
  pos := by decide
  hund := hund
  hinfo := hinfo
  hzero := rfl
def eltFP : Elt FlawT := eltF 45 28 Tryd.underlying28 (by kernel_rfl)
def eltFR : Elt FlawT := eltF 54 34 Tryd.underlying34 (by kernel_rfl)

/-- What grows: the row of flaws (its block r) and its owner's box gc; all else stays. -/
structure Grow (w w' : World) (gc : Nat) (r r' : Option Nat) : Prop where
  os : w'.os = w.os
  tape : w'.tape = w.tape
  output : w'.output = w.output
  size : w.heap.size ≤ w'.heap.size
  block : ∀ b, b < w.heap.size → b ≠ gc → r ≠ some b → w'.heap[b]? = w.heap[b]?
  row : ∀ b, r' = some b → r = some b ∨ w.heap.size ≤ b
theorem Grow.refl (w : World) (gc : Nat) (r : Option Nat) : Grow w w gc r r := ⟨rfl, rfl, rfl, Nat.le_refl _, fun _ _ _ _ => rfl, fun _ h => .inl h⟩
theorem Grow.of {w w' : World} {gc : Nat} {r : Option Nat} (h : Below w.heap.size w w') : Grow w w' gc r r := ⟨h.os, h.tape, h.output, h.size, fun b hb _ _ => h.block b hb, fun _ h => .inl h⟩
theorem Grow.trans {w1 w2 w3 : World} {gc : Nat} {r1 r2 r3 : Option Nat} (h : Grow w1 w2 gc r1 r2) (k : Grow w2 w3 gc r2 r3) : Grow w1 w3 gc r1 r3 :=
  ⟨k.os.trans h.os, k.tape.trans h.tape, k.output.trans h.output, Nat.le_trans h.size k.size, fun b hb hg hr => (k.block b (Nat.lt_of_lt_of_le hb h.size) hg (fun e => by rcases h.row b e with e2 | e2; exact hr e2; omega)).trans (h.block b hb hg hr),
    fun b e => by
      rcases k.row b e with e2 | e2
      · exact h.row b e2
      · exact .inr (Nat.le_trans h.size e2)⟩
/-- Neither the row nor its owner's box. -/
def Aw (gc : Nat) (r : Option Nat) : Nat → Prop := fun b => b ≠ gc ∧ r ≠ some b
theorem Grow.aw {w w' : World} {gc : Nat} {r r' : Option Nat} (h : Grow w w' gc r r') {b : Nat} (hb : Aw gc r b) (hlt : b < w.heap.size) : Aw gc r' b := ⟨hb.1, fun e => by rcases h.row b e with e2 | e2; exact hb.2 e2; omega⟩
theorem RepT.grow {w w' : World} {gc : Nat} {r r' : Option Nat} {v : Value} {t : T} (h : RepT w (Aw gc r) v t) (g : Grow w w' gc r r') : RepT w' (Aw gc r') v t :=
  h.mono (fun _ hb hlt => g.aw hb hlt) (fun b o hb hlt => World.cell?_of_block (a := ⟨b, o, none⟩) (g.block b hlt hb.1 hb.2))
theorem RepS.grow {w w' : World} {gc : Nat} {r r' : Option Nat} {a : Option Addr} {l : List ByteArray} (h : RepS w (Aw gc r) a l) (g : Grow w w' gc r r') : RepS w' (Aw gc r') a l :=
  h.mono (fun _ hb hlt => g.aw hb hlt) (fun b o hb hlt => World.cell?_of_block (a := ⟨b, o, none⟩) (g.block b hlt hb.1 hb.2))
theorem Grow.blk {w w' : World} {gc : Nat} {r r' : Option Nat} (g : Grow w w' gc r r') {b ty : Nat} {cs : Array Value} (h : Blk w b ty cs) (hb : Aw gc r b) : Blk w' b ty cs := (g.block b h.lt hb.1 hb.2).trans h
theorem Grow.below {w w' W : World} {gc : Nat} {r r' : Option Nat} {B : Nat} (g : Grow w w' gc r r') (h : Below B W w) (hgc : B ≤ gc) (hr : ∀ b, r = some b → B ≤ b) (hB : B ≤ W.heap.size) : Below B W w' :=
  ⟨g.os.trans h.os, g.tape.trans h.tape, g.output.trans h.output, Nat.le_trans h.size g.size, fun b hb => (g.block b (Nat.lt_of_lt_of_le hb (Nat.le_trans hB h.size)) (by omega) (fun e => by have := hr b e; omega)).trans (h.block b hb)⟩

theorem getD_S (l : List ByteArray) (j : Nat) (hj : j < l.length) : l.getD j ByteArray.empty = l[j] := by simp [List.getD_eq_getElem?_getD, hj]
theorem below_grownS {w w' : World} {B : Nat} {A : Option Addr} {n c : Nat} (h : w.grownBy w' (Value.ownBlock (.slice A n c))) (ho : ∀ g, Value.ownBlock (.slice A n c) = some g → B ≤ g) (hB : B ≤ w.heap.size) : Below B w w' :=
  ⟨h.os, h.tape, h.output, h.size, fun g hg => h.block g (Nat.lt_of_lt_of_le hg hB) (fun e => by have := ho g e.symm; omega)⟩
/-- slices.Clone of steps. -/
theorem tcloneS (l : List ByteArray) (a : Option Addr) (c : Nat) (w : World) (S : Nat → Prop) (h : RepS w S a l) (hl : l.length ≤ 1000000) :
    Calls Tryd.prog 35 #[.slice a l.length c] w fun e w' => ∃ A' c', e = .returned (.slice A' l.length c') ∧ OwnE eltS w' w.heap.size (fun _ => True) A' c' l ∧ Below w.heap.size w w' := by
  have fin : ∀ (w' : World) (v' : Value) (n : Nat), n = l.length → w'.ownsRow w.heap.size 9 1 v' n (l.map Value.string) → ∃ A' c', v' = .slice A' l.length c' ∧ OwnE eltS w' w.heap.size (fun _ => True) A' c' l := by
    intro w' v' n hn ho
    subst hn
    obtain ⟨A', c', rfl⟩ : ∃ A' c', v' = .slice A' l.length c' := by
      rcases ho.2 with ⟨e, h0⟩ | ⟨g', cap', cur', e, _⟩
      · exact ⟨none, 0, by rw [e, h0]⟩
      · exact ⟨_, _, e⟩
    refine ⟨A', c', rfl, _, ho, fun u hu => ?_, fun i hi => ?_⟩
    · obtain ⟨s, _, rfl⟩ := List.mem_map.1 hu
      rfl
    · obtain ⟨b, o, -, -, -, -, hz⟩ := h i hi
      refine ⟨?_, hz⟩
      rw [show i * eltS.sz = i from Nat.mul_one i]
      show List.take 1 _ = _
      rw [List.drop_eq_getElem_cons (by simpa using hi)]
      simp
  cases a with
  | none =>
    have h0 : l = [] := by
      match l, h with
      | [], _ => rfl
      | s :: r, h =>
        obtain ⟨b, o, e, _⟩ := h 0 (by simp)
        cases e
    subst h0
    refine (Tryd.slices_Clone_string_nil 0 c w).mono ?_
    rintro e w' ⟨rfl, rfl⟩
    exact ⟨none, 0, rfl, OwnE.nil, Below.refl _ _⟩
  | some ad =>
    by_cases h0 : l = []
    · subst h0
      refine (Tryd.slices_Clone_string_zero ad c w).mono ?_
      rintro e w' ⟨v', rfl, ho, -, hb⟩
      obtain ⟨A', c', rfl, h2⟩ := fin w' v' 0 rfl ho
      exact ⟨A', c', rfl, h2, hb⟩
    · obtain ⟨b, o, e0, -⟩ := h 0 (List.length_pos_iff.2 h0)
      injection e0 with e0
      subst e0
      refine (Tryd.slices_Clone_string b o l.length c l w (Nat.le_refl _) (by omega) (fun j hj => ?_)).mono ?_
      · obtain ⟨b2, o2, e2, -, -, hc, -⟩ := h j hj
        injection e2 with e2; injection e2 with e3 e4 _
        subst e3 e4
        rw [hc, getD_S l j hj]
      · rintro e w' ⟨v', rfl, ho, -, hb⟩
        rw [List.take_length] at ho
        obtain ⟨A', c', rfl, h2⟩ := fin w' v' l.length rfl ho
        exact ⟨A', c', rfl, h2, hb⟩
/-- append of elements to a row of the call's own; where the row lies behind it. -/
theorem own_append_at {α : Type} {E : Elt α} {w : World} {S : Nat → Prop} {A : Option Addr} {B c : Nat} {l : List α} {l2 : List α} {es : List Value} {ad : Addr} {cc ty t : Nat} (ht : t = E.slt) (h : OwnE E w B S A c l) (hbig : (l.length + l2.length) * E.bytes ≤ 140737488355328) (hmax : l.length + l2.length ≤ maxLen) (hB : B ≤ w.heap.size)
    (hlen : es.length = l2.length * E.sz) (hes : ∀ j u, es[j]? = some u → w.cell? (ad.add j) = some u)
    (hx : ∀ i (hi : i < l2.length), E.R w (fun b => S b ∧ Value.ownBlock (.slice A l.length c) ≠ some b) ((es.drop (i * E.sz)).take E.sz) l2[i]) :
    ∃ A' c' w', (Builtin.append_ #[t, t] ty #[.slice A l.length c, .slice (some ad) l2.length cc]).run Tryd.prog w = .ok (.slice A' (l ++ l2).length c') w' ∧ OwnE E w' B S A' c' (l ++ l2) ∧ w.grownBy w' (Value.ownBlock (.slice A l.length c)) ∧ (Value.ownBlock (.slice A' (l ++ l2).length c') = Value.ownBlock (.slice A l.length c) ∨ Value.ownBlock (.slice A' (l ++ l2).length c') = some w.heap.size) := by
  subst ht
  obtain ⟨i0, hi0, hz0, hz1, hz2⟩ := info_parts E.hinfo
  obtain ⟨xs, h1, h2, h3⟩ := h
  have hone : ∀ u ∈ es, u.oneCell' = true := by
    intro u hu
    obtain ⟨j, hj, rfl⟩ := List.getElem_of_mem hu
    have hp := E.pos
    have hq : j / E.sz < l2.length := by rw [Nat.div_lt_iff_lt_mul hp]; omega
    have := E.one (hx (j / E.sz) hq) es[j] (by
      rw [List.mem_iff_getElem?]
      refine ⟨j % E.sz, ?_⟩
      rw [List.getElem?_take_of_lt (Nat.mod_lt _ hp), List.getElem?_drop, Nat.div_add_mod' j E.sz, List.getElem?_eq_getElem hj])
    exact this
  obtain ⟨v', w', hr, hown, hgr, hnl, hat⟩ := run_append_own_at (P := Tryd.prog) w B E.slt ty E.ty i0 E.zero E.sz E.bytes E.hund hi0 hz0 hz1 hz2 E.hzero E.pos (.slice A l.length c) l.length xs h1 ad l2.length cc es hlen hes hone hmax hbig hB
  have hx1 := h1.1
  obtain ⟨A', c', rfl⟩ : ∃ A' c', v' = .slice A' (l ++ l2).length c' := by
    rcases hown.2 with ⟨e, h0⟩ | ⟨g', cap', cur', e, _⟩
    · exact ⟨none, 0, by rw [e, List.length_append, h0]⟩
    · exact ⟨_, _, by rw [e, List.length_append]⟩
  have hS : ∀ b, S b ∧ Value.ownBlock (.slice A l.length c) ≠ some b → b < w.heap.size → S b ∧ Value.ownBlock (.slice A' (l ++ l2).length c') ≠ some b := fun b hb hlt => by
    refine ⟨hb.1, fun e => ?_⟩
    rcases hat with h | h
    · exact hb.2 (h.symm.trans e)
    · rw [h] at e
      injection e with e
      omega
  have hcl : ∀ b o, S b ∧ Value.ownBlock (.slice A l.length c) ≠ some b → b < w.heap.size → w'.cell? ⟨b, o, none⟩ = w.cell? ⟨b, o, none⟩ := fun b o hb hlt =>
    World.cell?_of_block (hgr.block b hlt (fun e => hb.2 e.symm))
  refine ⟨A', c', w', hr, ⟨xs ++ es, by rw [← List.length_append] at hown; exact hown, fun u hu => ?_, fun i hi => ?_⟩, hgr, hat⟩
  · rcases List.mem_append.1 hu with h | h
    · exact h2 u h
    · exact hone u h
  · have hd := drop_take_append (ys := es) (i := i) hx1
    by_cases h : i < l.length
    · rw [hd.1 h, List.getElem_append_left h]
      exact E.mono (h3 i h) hS hcl
    · rw [hd.2 (by omega), List.getElem_append_right (by omega)]
      exact E.mono (hx (i - l.length) (by rw [List.length_append] at hi; omega)) hS hcl
/-- What a row of the call's own reads as: it lies from B on. -/
theorem OwnE.repS {w : World} {B : Nat} {S : Nat → Prop} {A : Option Addr} {c : Nat} {l : List ByteArray} (h : OwnE eltS w B S A c l) : RepS w (fun b => B ≤ b ∧ Value.ownBlock (.slice A l.length c) = some b) A l := by
  have hr := repS_of h.rep
  intro i hi
  obtain ⟨b, o, e, _, hlt, hc, hz⟩ := hr i hi
  have hob : Value.ownBlock (.slice A l.length c) = some b := by rw [e]; rfl
  exact ⟨b, o, e, ⟨(h.own b hob).1, hob⟩, hlt, hc, hz⟩
/-- One step more. -/
theorem own_snocS {w : World} {B : Nat} {S : Nat → Prop} {A : Option Addr} {c : Nat} {l : List ByteArray} {s : ByteArray} (h : OwnE eltS w B S A c l) (hB : B ≤ w.heap.size) (hs : s.size ≤ 140737488351232) (hl : l.length ≤ 1000000) :
    ∃ A' c' w', (Builtin.append_ #[43, 43] 43 #[.slice A l.length c, .slice (some ⟨w.heap.size, 0, none⟩) 1 1]).run Tryd.prog (w.alloc (.cells #[.string s] 9)) = .ok (.slice A' (l ++ [s]).length c') w' ∧ OwnE eltS w' B S A' c' (l ++ [s]) ∧ Below B w w' := by
  have ha : Below w.heap.size w (w.alloc (.cells #[.string s] 9)) := Below.new _ _
  obtain ⟨A', c', w', hrun, ho, hgr⟩ := own_append (E := eltS) (l2 := [s]) (es := [.string s]) (ad := ⟨w.heap.size, 0, none⟩) (cc := 1) (ty := 43) (t := 43) rfl (h.keep ha) (by show (l.length + 1) * 16 ≤ _; omega) (by simp; unfold maxLen; omega) (by simp; omega) (by rfl)
    (fun j u hu => by rw [show (⟨w.heap.size, 0, none⟩ : Addr).add j = ⟨w.heap.size, 0 + j, none⟩ from by unfold Addr.add; split <;> simp_all, Nat.zero_add, (Blk.new w 9 #[.string s]).cell]; simpa using hu)
    (fun i hi => by
      obtain rfl : i = 0 := by simpa using hi
      exact ⟨rfl, hs⟩)
  exact ⟨A', c', w', hrun, ho, (ha.mono hB).trans (below_grownS hgr (fun g e => ((h.keep ha).own g e).1) (by simp; omega))⟩
end Go.Proofs.YtgbbojnigicnoaaDoor

/- checker.add. -/
namespace Go.Proofs.YtgbbojnigicnoaaDoor
open Go.RowKit Go.Lib
attribute [local go_sem ↓] Go.wp_at_zero Go.wp_at_succ

/-- The checker: its box gc, its row of flaws from B on. -/
structure Chk (w : World) (B gc : Nat) (A : Option Addr) (c : Nat) (F : List FlawT) : Prop where
  box : Blk w gc 48 #[.slice A F.length c]
  own : OwnE eltFP w B (fun b => B ≤ b) A c F
  low : gc < B
  top : B ≤ w.heap.size
theorem Chk.keep {w w' : World} {B gc : Nat} {A : Option Addr} {c : Nat} {F : List FlawT} (h : Chk w B gc A c F) (hb : Below w.heap.size w w') : Chk w' B gc A c F := ⟨h.box.keep hb, h.own.keep hb, h.low, Nat.le_trans h.top hb.size⟩
/-- What is made now is neither the row nor its owner's box. -/
theorem Chk.aw {w : World} {B gc : Nat} {A : Option Addr} {c : Nat} {F : List FlawT} (h : Chk w B gc A c F) {b : Nat} (hb : w.heap.size ≤ b) : Aw gc (Value.ownBlock (.slice A F.length c)) b := ⟨by have := h.low; have := h.top; omega, h.own.ne (.inr hb)⟩
/-- Behind a call: F has N more. -/
def ChkPost (B gc : Nat) (A : Option Addr) (c : Nat) (F N : List FlawT) (r : Value) (w : World) (e : Ending) (w' : World) : Prop :=
  ∃ A' c' F', e = .returned r ∧ Hid (F' = F ++ N) ∧ Chk w' B gc A' c' F' ∧ Grow w w' gc (Value.ownBlock (.slice A F.length c)) (Value.ownBlock (.slice A' F'.length c'))

/-- The steps of a flaw that is made now. -/
theorem flaw_steps {w w1 : World} {B : Nat} {A A1 : Option Addr} {c c1 : Nat} {F : List FlawT} {l : List ByteArray} (h : OwnE eltS w1 w.heap.size (fun _ => True) A1 c1 l) (hw : B ≤ w.heap.size) (hne : ∀ b, w.heap.size ≤ b → Value.ownBlock (.slice A F.length c) ≠ some b) :
    RepS w1 (fun b => B ≤ b ∧ Value.ownBlock (.slice A F.length c) ≠ some b) A1 l := by
  refine h.repS.mono (fun b hb2 _ => ?_) (fun _ _ _ _ => rfl)
  have := hb2.1
  exact ⟨by omega, hne b hb2.1⟩
theorem add_fin {w w1 w3 : World} {B gc : Nat} {A A3 : Option Addr} {c c3 : Nat} {F : List FlawT} {k : Int} {l : List ByteArray} {o : Obj} (h : Chk w B gc A c F) (hb1 : Below w.heap.size w w1) (hba : Below w1.heap.size w1 (w1.alloc o)) (hg : (w1.alloc o).grownBy w3 (Value.ownBlock (.slice A F.length c)))
    (ho : OwnE eltFP w3 B (fun b => B ≤ b) A3 c3 (F ++ [(k, l)])) (hbx : Blk w3 gc 48 #[.slice A F.length c]) (hrow : ∀ b, Value.ownBlock (.slice A3 (F ++ [(k, l)]).length c3) = some b → Value.ownBlock (.slice A F.length c) = some b ∨ w.heap.size ≤ b) :
    ChkPost B gc A c F [(k, l)] (.tuple #[]) w (.returned (.tuple #[])) (w3.setCell ⟨gc, 0, none⟩ (.slice A3 (F ++ [(k, l)]).length c3)) := by
  have hba2 := Below.next hb1 hba
  refine ⟨A3, c3, _, rfl, rfl, ⟨hbx.set_ 0 _, ho.far _ (fun g e => by have := (ho.own g e).1; have := h.low; show g ≠ gc; omega) (by show ¬ B ≤ gc; have := h.low; omega), h.low, ?_⟩, ?_⟩
  · have := hg.size; have := hba2.size; have := h.top; simp [World.setCell]; omega
  · refine ⟨hg.os.trans hba2.os, hg.tape.trans hba2.tape, hg.output.trans hba2.output, ?_, fun b hb hbg hr => ?_, hrow⟩
    · have := hg.size; have := hba2.size; simp [World.setCell]; omega
    · exact (Below.heap_setCell w3 ⟨gc, 0, none⟩ _ b hbg).trans ((hg.block b (Nat.lt_of_lt_of_le hb hba2.size) (fun e => hr e.symm)).trans (hba2.block b hb))

set_option maxRecDepth 100000 in
set_option maxHeartbeats 2000000 in
theorem tadd (k : Int) (l : List ByteArray) (a : Option Addr) (ac : Nat) (w : World) (B gc : Nat) (A : Option Addr) (c : Nat) (F : List FlawT) (h : Chk w B gc A c F) (hl : RepS w (Aw gc (Value.ownBlock (.slice A F.length c))) a l) (hn : l.length ≤ 1000000) (hF : F.length ≤ 1000000000) :
    Calls Tryd.prog 38 #[.pointer (some ⟨gc, 0, none⟩), .int .i64 k, .slice a l.length ac] w (ChkPost B gc A c F [(k, l)] (.tuple #[]) w) := by
  have H := Lib.hid h
  have HL := Lib.hid hl
  have hgl := h.box.lt
  clear h hl
  go_enter Tryd.func38, Tryd.ntmps38
  go_upto_region 0 with fail
  refine wp_region_tail (S := (fun w' => ∀ i, w'.cell? ⟨gc, i, none⟩ = (#[.slice A F.length c] : Array Value)[i]?)) 13 (by kernel_rfl) (by kernel_rfl) (by exact H.out.box.cell) (fun hHeld => ?_)
  simp only [List.dropLast]
  refine wpAnyH_take (i := 0) (v := ?vm1_0) (by conv => lhs; simp only [List.getElem?_toArray, List.getElem?_cons_succ, List.getElem?_cons_zero]) (by kernel_rfl) (by kernel_rfl) (by kernel_rfl) (by exact fun _ _ _ h => h) (Or.inl ⟨by rfl, ?hym1_0⟩) (by assumption) ?_
  case hym1_0 => (intro w0 hSw; (try dsimp only at hSw); go_simp; try with_reducible rfl)
  try simp only [Act.put, List.setIfInBounds_toArray, List.set_cons_zero, List.set_cons_succ]
  refine wpAnyH_take (i := 1) (v := ?vm1_1) (by conv => lhs; simp only [List.getElem?_toArray, List.getElem?_cons_succ, List.getElem?_cons_zero]) (by kernel_rfl) (by kernel_rfl) (by kernel_rfl) (by exact fun _ _ _ h => h) (Or.inl ⟨by rfl, ?hym1_1⟩) (by assumption) ?_
  case hym1_1 => (intro w0 hSw; (try dsimp only at hSw); go_simp; try with_reducible rfl)
  try simp only [Act.put, List.setIfInBounds_toArray, List.set_cons_zero, List.set_cons_succ]
  refine wpAnyH_take (i := 2) (v := ?vm1_2) (by conv => lhs; simp only [List.getElem?_toArray, List.getElem?_cons_succ, List.getElem?_cons_zero]) (by kernel_rfl) (by kernel_rfl) (by kernel_rfl) (by exact fun _ _ _ h => h) (Or.inl ⟨by rfl, ?hym1_2⟩) (by assumption) ?_
  case hym1_2 => (intro w0 hSw; (try dsimp only at hSw); go_simp; try with_reducible rfl)
  try simp only [Act.put, List.setIfInBounds_toArray, List.set_cons_zero, List.set_cons_succ]
  refine wpAnyH_take (i := 3) (v := ?vm1_3) (by conv => lhs; simp only [List.getElem?_toArray, List.getElem?_cons_succ, List.getElem?_cons_zero]) (by kernel_rfl) (by kernel_rfl) (by kernel_rfl) (by exact fun _ _ _ h => h) (Or.inl ⟨by rfl, ?hym1_3⟩) (by assumption) ?_
  case hym1_3 => (intro w0 hSw; (try dsimp only at hSw); go_simp; try with_reducible rfl)
  try simp only [Act.put, List.setIfInBounds_toArray, List.set_cons_zero, List.set_cons_succ]
  refine wpAnyH_take (i := 4) (v := ?vm1_4) (by conv => lhs; simp only [List.getElem?_toArray, List.getElem?_cons_succ, List.getElem?_cons_zero]) (by kernel_rfl) (by kernel_rfl) (by kernel_rfl) (by exact fun _ _ _ h => h) (Or.inl ⟨by rfl, ?hym1_4⟩) (by assumption) ?_
  case hym1_4 => (intro w0 hSw; (try dsimp only at hSw); go_simp; try with_reducible rfl)
  try simp only [Act.put, List.setIfInBounds_toArray, List.set_cons_zero, List.set_cons_succ]
  refine wpAnyH_take (i := 5) (v := ?vm1_5) (by conv => lhs; simp only [List.getElem?_toArray, List.getElem?_cons_succ, List.getElem?_cons_zero]) (by kernel_rfl) (by kernel_rfl) (by kernel_rfl) (by exact fun _ _ _ h => h) (Or.inl ⟨by rfl, ?hym1_5⟩) (by assumption) ?_
  case hym1_5 => (intro w0 hSw; (try dsimp only at hSw); go_simp; try with_reducible rfl)
  try simp only [Act.put, List.setIfInBounds_toArray, List.set_cons_zero, List.set_cons_succ]
  refine wpAnyH_take (i := 6) (v := ?vm1_6) (by conv => lhs; simp only [List.getElem?_toArray, List.getElem?_cons_succ, List.getElem?_cons_zero]) (by kernel_rfl) (by kernel_rfl) (by kernel_rfl) (by exact fun _ _ _ h => h) (Or.inl ⟨by rfl, ?hym1_6⟩) (by assumption) ?_
  case hym1_6 => (intro w0 hSw; (try dsimp only at hSw); go_simp; try with_reducible rfl)
  try simp only [Act.put, List.setIfInBounds_toArray, List.set_cons_zero, List.set_cons_succ]
  refine wpAnyH_ready (rs := [7]) (by kernel_rfl) (by simp) ?_
  refine AllReadyH.cons (by conv => lhs; simp only [List.getElem?_toArray, List.getElem?_cons_succ, List.getElem?_cons_zero]) (fun K hK => ?_) AllReadyH.nil
  go_simp
  refine (tcloneS l a ac _ _ (RepS.mono (w' := w.drew) HL.out (fun _ h _ => h) (fun _ _ _ _ => rfl)) hn).mono ?_
  rintro e w1 ⟨A1, c1, rfl, ho1, hb1⟩
  have HB1 := Lib.hid (Below.next ((Below.refl w.heap.size w).drew) hb1); have HO1 := Lib.hid (show OwnE eltS w1 w.heap.size (fun _ => True) A1 c1 l from ho1); have H1 := Lib.hid (H.out.keep HB1.out)
  clear ho1 hb1
  go_wp2_with fail
  refine hK.out _ _ (by exact H1.out.box.cell) (fun hHeld => ?_)
  clear hK K
  try simp only [Act.put, List.setIfInBounds_toArray, List.set_cons_zero, List.set_cons_succ]
  refine wpAnyH_take (i := 8) (v := ?vm2_8) (by conv => lhs; simp only [List.getElem?_toArray, List.getElem?_cons_succ, List.getElem?_cons_zero]) (by kernel_rfl) (by kernel_rfl) (by kernel_rfl) (by exact fun _ _ _ h => h) (Or.inl ⟨by rfl, ?hym2_8⟩) (by assumption) ?_
  case hym2_8 => (intro w0 hSw; (try dsimp only at hSw); go_simp; try with_reducible rfl)
  try simp only [Act.put, List.setIfInBounds_toArray, List.set_cons_zero, List.set_cons_succ]
  refine wpAnyH_ready (rs := [9]) (by kernel_rfl) (by simp) ?_
  refine AllReadyH.cons (by conv => lhs; simp only [List.getElem?_toArray, List.getElem?_cons_succ, List.getElem?_cons_zero]) (fun K hK => ?_) AllReadyH.nil
  go_simp
  have HRW := Lib.hid (Blk.new w1 45 #[.int .i64 k, .slice A1 l.length c1])
  have HBA := Lib.hid (Below.new w1 (.cells #[.int .i64 k, .slice A1 l.length c1] 45))
  have H2 := Lib.hid (H1.out.keep HBA.out); have HO2 := Lib.hid (HO1.out.keep HBA.out)
  refine hK.out _ _ (by exact H2.out.box.cell) (fun hHeld => ?_)
  clear hK K
  try simp only [Act.put, List.setIfInBounds_toArray, List.set_cons_zero, List.set_cons_succ]
  refine wpAnyH_ready (rs := [10]) (by kernel_rfl) (by simp) ?_
  refine AllReadyH.cons (by conv => lhs; simp only [List.getElem?_toArray, List.getElem?_cons_succ, List.getElem?_cons_zero]) (fun K hK => ?_) AllReadyH.nil
  obtain ⟨A3, c3, w3, hrun, ho3, hgr, hat⟩ := own_append_at (E := eltFP) (l2 := [(k, l)]) (es := [.int .i64 k, .slice A1 l.length c1]) (ad := ⟨w1.heap.size, 0, none⟩) (cc := 1) (ty := 28) (t := 28) rfl H2.out.own (by show (F.length + 1) * 32 ≤ _; omega) (by simp; unfold maxLen; omega) H2.out.top (by rfl) (fun j u hu => by rw [show (⟨w1.heap.size, 0, none⟩ : Addr).add j = ⟨w1.heap.size, 0 + j, none⟩ from by unfold Addr.add; split <;> simp_all, Nat.zero_add, HRW.out.cell]; simpa using hu) (fun i hi => by obtain rfl : i = 0 := (by simpa using hi); exact ⟨A1, c1, rfl, flaw_steps HO2.out H.out.top (fun b hb => H.out.own.ne (.inr hb))⟩)
  have HRUN := Lib.hid hrun; have HO3 := Lib.hid ho3; have HG3 := Lib.hid hgr; have HAT := Lib.hid hat
  clear hrun ho3 hgr hat
  have hgl3 : gc < w3.heap.size := Nat.lt_of_lt_of_le (Nat.lt_of_lt_of_le hgl HB1.out.size) (Nat.le_trans HBA.out.size HG3.out.size)
  have HBX := Lib.hid (show Blk w3 gc 48 #[.slice A F.length c] from (HG3.out.block gc (Nat.lt_of_lt_of_le (Nat.lt_of_lt_of_le hgl HB1.out.size) HBA.out.size) (fun e => by have := (H2.out.own.own gc e.symm).1; have := H.out.low; omega)).trans H2.out.box)
  have zk := HBX.out.cell; have zf := HBX.out.frozen; have zl := HBX.out.lt
  refine step_append_run rfl (.tmp 10) (.tmp 15) 28 rfl HRUN.out rfl rfl ?_
  refine hK.out _ _ (by exact HBX.out.cell) (fun hHeld => ?_)
  clear hK K
  try simp only [Act.put, List.setIfInBounds_toArray, List.set_cons_zero, List.set_cons_succ]
  refine wpAnyH_take (i := 11) (v := ?vm4_11) (by conv => lhs; simp only [List.getElem?_toArray, List.getElem?_cons_succ, List.getElem?_cons_zero]) (by kernel_rfl) (by kernel_rfl) (by kernel_rfl) (by exact fun _ _ _ h => h) (Or.inl ⟨by rfl, ?hym4_11⟩) (by assumption) ?_
  case hym4_11 => (intro w0 hSw; (try dsimp only at hSw); go_simp; try with_reducible rfl)
  try simp only [Act.put, List.setIfInBounds_toArray, List.set_cons_zero, List.set_cons_succ]
  refine wpAnyH_take (i := 12) (v := ?vm4_12) (by conv => lhs; simp only [List.getElem?_toArray, List.getElem?_cons_succ, List.getElem?_cons_zero]) (by kernel_rfl) (by kernel_rfl) (by kernel_rfl) (by exact fun _ _ _ h => h) (Or.inl ⟨by rfl, ?hym4_12⟩) (by assumption) ?_
  case hym4_12 => (intro w0 hSw; (try dsimp only at hSw); go_simp; try with_reducible rfl)
  try simp only [Act.put, List.setIfInBounds_toArray, List.set_cons_zero, List.set_cons_succ]
  refine wpAnyH_done (by kernel_rfl) ?_ _
  refine LastQ.step (by conv => lhs; simp only [List.getElem?_toArray, List.getElem?_cons_succ, List.getElem?_cons_zero]) (fun K hK => ?_)
  go_simp
  refine hK.out _ _ ?_
  clear hK K
  try simp only [Act.put, List.setIfInBounds_toArray, List.set_cons_zero, List.set_cons_succ]
  go_wp2_with fail
  go_end0
  have e9 := add_fin H.out HB1.out HBA.out HG3.out HO3.out HBX.out (fun b e => by rcases HAT.out with h | h; exact .inl (h.symm.trans e); rw [h] at e; injection e with e; exact .inr (by have := HB1.out.size; simp at e; omega))
  rw [show (F ++ [(k, l)]).length = F.length + 1 from by simp] at e9
  exact e9
end Go.Proofs.YtgbbojnigicnoaaDoor

