/- Rows of elements of any kind: what a slice reads as, and rows of the call's own that grow by append. -/
import Derived.Test.YtgbbojnigicnoaaDoorOwnM
import Derived.Deep.RegionLaw
namespace Go.Proofs.YtgbbojnigicnoaaDoor
open Go.RowKit Go.Lib

/-- A kind of element: its type's number, its slice's, how many cells and bytes it has, and how its cells read. -/
structure Elt (α : Type) where
  ty : TypeId
  slt : TypeId
  sz : Nat
  bytes : Nat
  zero : Value
  R : World → (Nat → Prop) → List Value → α → Prop
  len : ∀ {w S cs x}, R w S cs x → cs.length = sz
  one : ∀ {w S cs x}, R w S cs x → ∀ u ∈ cs, u.oneCell' = true
  mono : ∀ {w w' : World} {S S' : Nat → Prop} {cs x}, R w S cs x → (∀ b, S b → b < w.heap.size → S' b) → (∀ b o, S b → b < w.heap.size → w'.cell? ⟨b, o, none⟩ = w.cell? ⟨b, o, none⟩) → R w' S' cs x
  pos : 0 < sz
  hund : Tryd.prog.underlying slt = some (.slice ty)
  hinfo : (Tryd.prog.info? ty).map (fun i => (i.zero, i.size, i.bytes)) = some (some zero, sz, bytes)
  hzero : zero.cells.size = sz

section
variable {α : Type} (E : Elt α)
/-- The elements of a slice. -/
def RepE (w : World) (S : Nat → Prop) (a : Option Addr) (l : List α) : Prop :=
  ∀ i (h : i < l.length), ∃ b o cs, a = some ⟨b, o, none⟩ ∧ S b ∧ cellsAt w b (o + i * E.sz) cs ∧ E.R w S cs l[i]
/-- A row of the call's own; what its elements lead to lies in S, and not in the row. -/
def OwnE (w : World) (B : Nat) (S : Nat → Prop) (A : Option Addr) (c : Nat) (l : List α) : Prop :=
  ∃ xs, w.ownsRow B E.ty E.sz (.slice A l.length c) l.length xs ∧ (∀ u ∈ xs, u.oneCell' = true) ∧
    ∀ i (hi : i < l.length), E.R w (fun b => S b ∧ Value.ownBlock (.slice A l.length c) ≠ some b) ((xs.drop (i * E.sz)).take E.sz) l[i]
end

section
variable {α : Type} {E : Elt α} {w w' : World} {S S' : Nat → Prop} {a A : Option Addr} {B c : Nat} {l : List α}

theorem Elt.keep {cs : List Value} {x : α} (h : E.R w S cs x) (hb : Below w.heap.size w w') : E.R w' S cs x := E.mono h (fun _ h _ => h) fun _ _ _ hlt => hb.cell hlt
theorem Elt.weak {cs : List Value} {x : α} (h : E.R w S cs x) (hS : ∀ b, S b → b < w.heap.size → S' b) : E.R w S' cs x := E.mono h hS fun _ _ _ _ => rfl

theorem RepE.mono (h : RepE E w S a l) (hS : ∀ b, S b → b < w.heap.size → S' b) (hw : ∀ b o, S b → b < w.heap.size → w'.cell? ⟨b, o, none⟩ = w.cell? ⟨b, o, none⟩) : RepE E w' S' a l := by
  intro i hi
  obtain ⟨b, o, cs, e, hb, hc, hr⟩ := h i hi
  have hlt : b < w.heap.size := by
    have hl := E.len hr
    have hp := E.pos
    match cs, hl with
    | c :: cs, _ => exact hc.lt
    | [], hl => simp at hl; omega
  exact ⟨b, o, cs, e, hS b hb hlt, hc.keep fun i => hw _ _ hb hlt, E.mono hr hS hw⟩
theorem RepE.keep (h : RepE E w S a l) (hb : Below w.heap.size w w') : RepE E w' S a l := h.mono (fun _ h _ => h) fun _ _ _ hlt => hb.cell hlt
theorem RepE.weak (h : RepE E w S a l) (hS : ∀ b, S b → b < w.heap.size → S' b) : RepE E w S' a l := h.mono hS fun _ _ _ _ => rfl
theorem RepE.nil : RepE E w S a [] := fun i hi => by simp at hi

theorem OwnE.nil : OwnE E w B S none 0 [] := ⟨[], ⟨by simp, Or.inl ⟨rfl, rfl⟩⟩, by simp, fun i hi => by simp at hi⟩
theorem OwnE.own (h : OwnE E w B S A c l) : ∀ g, Value.ownBlock (.slice A l.length c) = some g → B ≤ g ∧ g < w.heap.size := by
  obtain ⟨xs, ⟨_, hc⟩, _⟩ := h
  intro g hg
  rcases hc with ⟨e, _⟩ | ⟨g', cap, cur, e, h1, h2, _⟩
  · rw [e] at hg; cases hg
  · rw [e] at hg
    simp [Value.ownBlock] at hg
    subst hg
    exact ⟨h1, Blk.lt h2⟩
theorem OwnE.ne (h : OwnE E w B S A c l) {k : Nat} (hk : k < B ∨ w.heap.size ≤ k) : Value.ownBlock (.slice A l.length c) ≠ some k := fun e => by
  have := h.own k e
  omega
theorem OwnE.mono (h : OwnE E w B S A c l) (hg : ∀ g, Value.ownBlock (.slice A l.length c) = some g → w'.heap[g]? = w.heap[g]?) (hS : ∀ b, S b → b < w.heap.size → Value.ownBlock (.slice A l.length c) ≠ some b → S' b)
    (hw : ∀ b o, S b → b < w.heap.size → Value.ownBlock (.slice A l.length c) ≠ some b → w'.cell? ⟨b, o, none⟩ = w.cell? ⟨b, o, none⟩) : OwnE E w' B S' A c l := by
  obtain ⟨xs, h1, h2, h3⟩ := h
  exact ⟨xs, ownsRow_of h1 hg, h2, fun i hi => E.mono (h3 i hi) (fun b hb hlt => ⟨hS b hb.1 hlt hb.2, hb.2⟩) (fun b o hb hlt => hw b o hb.1 hlt hb.2)⟩
theorem OwnE.keep (h : OwnE E w B S A c l) (hb : Below w.heap.size w w') : OwnE E w' B S A c l :=
  h.mono (fun g hg => hb.block g (h.own g hg).2) (fun _ h _ _ => h) (fun _ _ _ hlt _ => hb.cell hlt)
theorem OwnE.weak (h : OwnE E w B S A c l) (hS : ∀ b, S b → b < w.heap.size → S' b) : OwnE E w B S' A c l :=
  h.mono (fun _ _ => rfl) (fun b hb hlt _ => hS b hb hlt) (fun _ _ _ _ _ => rfl)
/-- A store into a block that is neither the row nor anything that its elements lead to. -/
theorem OwnE.far (h : OwnE E w B S A c l) {p : Addr} (u : Value) (hp : ∀ g, Value.ownBlock (.slice A l.length c) = some g → g ≠ p.block) (hS : ¬ S p.block) : OwnE E (w.setCell p u) B S A c l :=
  h.mono (fun g hg => Below.heap_setCell _ _ _ g (hp g hg)) (fun _ h _ _ => h) (fun b o hb _ _ => World.cell?_of_block (a := ⟨b, o, none⟩) (Below.heap_setCell _ _ _ b (fun e => hS (e ▸ hb))))
theorem OwnE.len (h : OwnE E w B S A c l) : l.length ≤ c ∧ c ≤ maxLen := by
  obtain ⟨xs, ⟨_, hc⟩, _⟩ := h
  rcases hc with ⟨e, h0⟩ | ⟨g, cap, cur, e, h1, h2, h3, h4, _⟩
  · simp at e
    rw [e.2.2, h0]
    exact ⟨Nat.le_refl _, by unfold maxLen; omega⟩
  · simp at e
    rw [e.2]
    exact ⟨h3, h4⟩
theorem OwnE.rep (h : OwnE E w B S A c l) : RepE E w (fun b => S b ∨ B ≤ b) A l := by
  obtain ⟨xs, ⟨hl, hc⟩, _, h3⟩ := h
  intro i hi
  have hr := h3 i hi
  have hlr := E.len hr
  rcases hc with ⟨e', h0⟩ | ⟨g, cap, cur, e', h1, h2, hn, hm, hs, ht⟩
  · omega
  · simp at e'
    obtain ⟨rfl, rfl⟩ := e'
    refine ⟨g, 0, _, rfl, .inr h1, fun j u hu => ?_, E.weak hr (fun b hb _ => .inl hb.1)⟩
    have hj : j < E.sz := by
      have := (List.getElem?_eq_some_iff.1 hu).1
      omega
    have hb : Blk w g E.ty cur := h2
    rw [hb.cell, Nat.zero_add]
    rw [List.getElem?_take_of_lt hj, List.getElem?_drop, ← ht, List.getElem?_take_of_lt] at hu
    · simpa using hu
    · have : (i + 1) * E.sz ≤ l.length * E.sz := Nat.mul_le_mul_right _ hi
      rw [Nat.add_mul, Nat.one_mul] at this
      omega

theorem drop_take_append {xs ys : List Value} {n sz i : Nat} (hx : xs.length = n * sz) : (i < n → (((xs ++ ys).drop (i * sz)).take sz = (xs.drop (i * sz)).take sz)) ∧ (n ≤ i → ((xs ++ ys).drop (i * sz)).take sz = (ys.drop ((i - n) * sz)).take sz) := by
  constructor
  · intro h
    have : (i + 1) * sz ≤ n * sz := Nat.mul_le_mul_right _ h
    rw [Nat.add_mul, Nat.one_mul] at this
    rw [List.drop_append_of_le_length (by omega), List.take_append_of_le_length (by rw [List.length_drop]; omega)]
  · intro h
    have : n * sz ≤ i * sz := Nat.mul_le_mul_right _ h
    rw [List.drop_append, List.drop_of_length_le (by omega), List.nil_append, hx, ← Nat.sub_mul]

/-- append of elements to a row of the call's own. -/
theorem own_append {l2 : List α} {es : List Value} {ad : Addr} {cc ty t : Nat} (ht : t = E.slt) (h : OwnE E w B S A c l) (hbig : (l.length + l2.length) * E.bytes ≤ 140737488355328) (hmax : l.length + l2.length ≤ maxLen) (hB : B ≤ w.heap.size)
    (hlen : es.length = l2.length * E.sz) (hes : ∀ j u, es[j]? = some u → w.cell? (ad.add j) = some u)
    (hx : ∀ i (hi : i < l2.length), E.R w (fun b => S b ∧ Value.ownBlock (.slice A l.length c) ≠ some b) ((es.drop (i * E.sz)).take E.sz) l2[i]) :
    ∃ A' c' w', (Builtin.append_ #[t, t] ty #[.slice A l.length c, .slice (some ad) l2.length cc]).run Tryd.prog w = .ok (.slice A' (l ++ l2).length c') w' ∧ OwnE E w' B S A' c' (l ++ l2) ∧ w.grownBy w' (Value.ownBlock (.slice A l.length c)) := by
  subst ht
  obtain ⟨i0, hi0, hz0, hz1, hz2⟩ := info_parts E.hinfo
  obtain ⟨xs, h1, h2, h3⟩ := h
  have hone : ∀ u ∈ es, u.oneCell' = true := by
    intro u hu
    obtain ⟨j, hj, rfl⟩ := List.getElem_of_mem hu
    have hp := E.pos
    have hq : j / E.sz < l2.length := by rw [Nat.div_lt_iff_lt_mul hp]; omega
    have := E.one (hx (j / E.sz) hq) es[j] (by
      rw [List.mem_iff_getElem?]
      refine ⟨j % E.sz, ?_⟩
      rw [List.getElem?_take_of_lt (Nat.mod_lt _ hp), List.getElem?_drop, Nat.div_add_mod' j E.sz, List.getElem?_eq_getElem hj])
    exact this
  obtain ⟨v', w', hr, hown, hgr, hnl, hat⟩ := run_append_own_at (P := Tryd.prog) w B E.slt ty E.ty i0 E.zero E.sz E.bytes E.hund hi0 hz0 hz1 hz2 E.hzero E.pos (.slice A l.length c) l.length xs h1 ad l2.length cc es hlen hes hone hmax hbig hB
  have hx1 := h1.1
  obtain ⟨A', c', rfl⟩ : ∃ A' c', v' = .slice A' (l ++ l2).length c' := by
    rcases hown.2 with ⟨e, h0⟩ | ⟨g', cap', cur', e, _⟩
    · exact ⟨none, 0, by rw [e, List.length_append, h0]⟩
    · exact ⟨_, _, by rw [e, List.length_append]⟩
  have hS : ∀ b, S b ∧ Value.ownBlock (.slice A l.length c) ≠ some b → b < w.heap.size → S b ∧ Value.ownBlock (.slice A' (l ++ l2).length c') ≠ some b := fun b hb hlt => by
    refine ⟨hb.1, fun e => ?_⟩
    rcases hat with h | h
    · exact hb.2 (h.symm.trans e)
    · rw [h] at e
      injection e with e
      omega
  have hcl : ∀ b o, S b ∧ Value.ownBlock (.slice A l.length c) ≠ some b → b < w.heap.size → w'.cell? ⟨b, o, none⟩ = w.cell? ⟨b, o, none⟩ := fun b o hb hlt =>
    World.cell?_of_block (hgr.block b hlt (fun e => hb.2 e.symm))
  refine ⟨A', c', w', hr, ⟨xs ++ es, by rw [← List.length_append] at hown; exact hown, fun u hu => ?_, fun i hi => ?_⟩, hgr⟩
  · rcases List.mem_append.1 hu with h | h
    · exact h2 u h
    · exact hone u h
  · have hd := drop_take_append (ys := es) (i := i) hx1
    by_cases h : i < l.length
    · rw [hd.1 h, List.getElem_append_left h]
      exact E.mono (h3 i h) hS hcl
    · rw [hd.2 (by omega), List.getElem_append_right (by omega)]
      exact E.mono (hx (i - l.length) (by rw [List.length_append] at hi; omega)) hS hcl
end

/-- append as one step, out of the run that is known: in a region that draws its order, and in a list of operations. -/
theorem step_append_run {P : Program} {ops : Array Oper} {o : Oper} {a : Act} {w : World} {K : Act → World → Prop} {Q : Exit → Act → World → Prop} {F : Prop}
    (hg : o.guard = none) (s x : Operand) (t : TypeId) (hop : o.op = Op.call { callee := Callee.builtin Builtin.append, args := #[s, x], argTypes := #[t, t] })
    {v xv v' : Value} {w' : World} (hrun : (Builtin.append_ #[t, t] o.type #[v, xv]).run P w = .ok v' w') (hs : a.eval s = v) (hx : a.eval x = xv) (hK : K (a.put o.dst v') w') :
    if Region.wanted o (yielded ops a.tmps) = true then Oper.wp P o a w K Q else F := by
  have hw : Region.wanted o (yielded ops a.tmps) = true := by simp [Region.wanted, hg]
  rw [if_pos hw]
  unfold Oper.wp
  simp only [execOp, hop, resolve, invoke, builtin, Sem.run_bind, Sem.run_pure, Result.andThen_ok, List.map_toArray, List.map_cons, List.map_nil, hs, hx, hrun]
  exact hK
theorem wpList_append_run {P : Program} {ops : Array Oper} {rest : List Oper} {o : Oper} {a : Act} {w : World} {Q : Exit → Act → World → Prop}
    (hg : o.guard = none) (s x : Operand) (t : TypeId) (hop : o.op = Op.call { callee := Callee.builtin Builtin.append, args := #[s, x], argTypes := #[t, t] })
    {v xv v' : Value} {w' : World} (hrun : (Builtin.append_ #[t, t] o.type #[v, xv]).run P w = .ok v' w') (hs : a.eval s = v) (hx : a.eval x = xv) (hK : wpList P ops Q rest (a.put o.dst v') w') :
    wpList P ops Q (o :: rest) a w := by
  refine wpList_plain hg fun K hk => ?_
  unfold Oper.wp
  simp only [execOp, hop, resolve, invoke, builtin, Sem.run_bind, Sem.run_pure, Result.andThen_ok, List.map_toArray, List.map_cons, List.map_nil, hs, hx, hrun]
  exact hk _ _ hK

/-- Values, and pairs, as elements. -/
def eltV : Elt T where
  ty := 25
  slt := 22
  sz := 6
  bytes := 88
  zero := .agg #[.int .i64 0, .bool false, .int .i64 0, .string ⟨#[]⟩, .slice none 0 0, .slice none 0 0]
  R w S cs x := RepT w S (.agg cs.toArray) x
  len h := (tree_one h).1
  one h := (tree_one h).2
  mono h hS hw := h.mono hS hw
  pos := by decide
  hund := Tryd.underlying22
  hinfo := sclone_v_info
  hzero := rfl
theorem pair_info : (Tryd.prog.info? 41).map (fun i => (i.zero, i.size, i.bytes)) = some (some (.agg #[.string ⟨#[]⟩, .int .i64 0, .bool false, .int .i64 0, .string ⟨#[]⟩, .slice none 0 0, .slice none 0 0]), 7, 104) := by kernel_rfl
def eltP : Elt (ByteArray × T) where
  ty := 41
  slt := 23
  sz := 7
  bytes := 104
  zero := .agg #[.string ⟨#[]⟩, .int .i64 0, .bool false, .int .i64 0, .string ⟨#[]⟩, .slice none 0 0, .slice none 0 0]
  R w S cs p := ∃ r, cs = .string p.1 :: r ∧ p.1.size ≤ 140737488351232 ∧ RepT w S (.agg r.toArray) p.2
  len h := by
    obtain ⟨r, rfl, _, hr⟩ := h
    simp [(tree_one hr).1]
  one h := by
    obtain ⟨r, rfl, _, hr⟩ := h
    intro u hu
    rcases List.mem_cons.1 hu with rfl | hu
    · rfl
    · exact (tree_one hr).2 u hu
  mono h hS hw := by
    obtain ⟨r, e, hz, hr⟩ := h
    exact ⟨r, e, hz, hr.mono hS hw⟩
  pos := by decide
  hund := und_pairs
  hinfo := pair_info
  hzero := rfl

section
variable {w : World} {S : Nat → Prop} {a : Option Addr}
theorem repE_L {l : List T} : RepE eltV w S a l ↔ RepL w S a l := Iff.rfl
theorem repE_M {m : List (ByteArray × T)} : RepE eltP w S a m ↔ RepM w S a m := by
  constructor
  · intro h i hi
    obtain ⟨b, o, cs, e, hS, hc, r, rfl, hz, hr⟩ := h i hi
    exact ⟨b, o, r, e, hS, hz, hc, hr⟩
  · intro h i hi
    obtain ⟨b, o, r, e, hS, hz, hc, hr⟩ := h i hi
    exact ⟨b, o, _, e, hS, hc, r, rfl, hz, hr⟩
/-- A copy is a row of the call's own. -/
theorem own_copied {α : Type} {E : Elt α} {w w' : World} {v : Value} {S : Nat → Prop} {l : List α} {xs : List Value} (h : Copied w.heap.size E.ty E.sz l.length xs w w' v) (hl : xs.length = l.length * E.sz) (h1 : ∀ u ∈ xs, u.oneCell' = true)
    (hr : ∀ i (hi : i < l.length), E.R w S ((xs.drop (i * E.sz)).take E.sz) l[i]) : ∃ A c, v = .slice A l.length c ∧ OwnE E w' w.heap.size S A c l ∧ Below w.heap.size w w' := by
  obtain ⟨A, cap, rfl, hn, hm, hnone, hsome, hb⟩ := h
  refine ⟨A, cap, rfl, ⟨xs, ⟨hl, ?_⟩, h1, fun i hi => E.mono (hr i hi) (fun b hb hlt => ⟨hb, fun e => ?_⟩) (fun b o _ hlt => hb.cell hlt)⟩, hb⟩
  · cases A with
    | none =>
      obtain ⟨h0, rfl⟩ := hnone rfl
      exact .inl ⟨by rw [h0], h0⟩
    | some ad =>
      obtain ⟨g, cur, rfl, hg, hbk, hcs, htk⟩ := hsome ad rfl
      exact .inr ⟨g, cap, cur, rfl, hg, hbk, hn, hm, hcs, htk⟩
  · cases A with
    | none => cases e
    | some ad =>
      obtain ⟨g, cur, rfl, hg, _⟩ := hsome ad rfl
      injection e with e
      have : g = b := e
      omega
end

end Go.Proofs.YtgbbojnigicnoaaDoor
