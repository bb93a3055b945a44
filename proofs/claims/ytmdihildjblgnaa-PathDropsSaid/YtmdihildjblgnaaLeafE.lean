/- Texts and leaves as elements of rows; the row of a leaf's steps. -/
import Derived.Test.YtmdihildjblgnaaPath
import Derived.Test.YtmdihildjblgnaaLeafP
import Derived.Test.YtmdihildjblgnaaMapsP
namespace Go.Proofs.Ytmdihildjblgnaa
open Go.RowKit Go.Lib

theorem text_info : (Try.prog.info? 9).map (fun i => (i.zero, i.size, i.bytes)) = some (some (.string ⟨#[]⟩), 1, 16) := by kernel_rfl
def eltS : Elt ByteArray where
  ty := 9
  slt := 41
  sz := 1
  bytes := 16
  zero := .string ⟨#[]⟩
  R _ _ cs s := cs = [.string s] ∧ s.size ≤ 140737488351232
  len h := by rw [h.1]; rfl
  one h := by
    intro u hu
    rw [h.1, List.mem_singleton] at hu
    rw [hu]; rfl
  mono h _ _ := h
  pos := by decide
  hund := und_ss
  hinfo := text_info
  hzero := rfl
theorem RepS.mono {w w' : World} {S S' : Nat → Prop} {a : Option Addr} {l : List ByteArray} (h : RepS w S a l) (hS : ∀ b, S b → b < w.heap.size → S' b) (hw : ∀ b o, S b → b < w.heap.size → w'.cell? ⟨b, o, none⟩ = w.cell? ⟨b, o, none⟩) : RepS w' S' a l := fun i hi => by
  obtain ⟨b, o, e, hs, hlt, hc, hz⟩ := h i hi
  have hc2 := (hw b (o + i) hs hlt).trans hc
  exact ⟨b, o, e, hS b hs hlt, block_lt_of_cell (a := ⟨b, o + i, none⟩) hc2, hc2, hz⟩
theorem repS_of {w : World} {S : Nat → Prop} {a : Option Addr} {l : List ByteArray} (h : RepE eltS w S a l) : RepS w S a l := fun i hi => by
  obtain ⟨b, o, cs, e, hS, hc, hr⟩ := h i hi
  have h0 := hc 0 (.string l[i]) (by rw [hr.1]; rfl)
  rw [show o + i * eltS.sz + 0 = o + i by show o + i * 1 + 0 = o + i; omega] at h0
  exact ⟨b, o, e, hS, block_lt_of_cell (a := ⟨b, o + i, none⟩) h0, h0, hr.2⟩

/-- A leaf: its steps and its value. -/
def LeafR (w : World) (S : Nat → Prop) (cs : List Value) (l : LeafT) : Prop := ∃ (a : Option Addr) (c : Nat) (r : List Value), cs = .slice a l.1.length c :: r ∧ l.1.length ≤ c ∧ c ≤ maxLen ∧ RepS w S a l.1 ∧ RepT w S (.agg r.toArray) l.2
theorem leaf_len {w : World} {S : Nat → Prop} {cs : List Value} {l : LeafT} (h : LeafR w S cs l) : cs.length = 7 ∧ ∀ u ∈ cs, u.oneCell' = true := by
  obtain ⟨a, c, r, rfl, _, _, _, hr⟩ := h
  refine ⟨by simp [(tree_one hr).1], fun u hu => ?_⟩
  rcases List.mem_cons.1 hu with rfl | hu
  · rfl
  · exact (tree_one hr).2 u hu
theorem LeafR.mono {w w' : World} {S S' : Nat → Prop} {cs : List Value} {l : LeafT} (h : LeafR w S cs l) (hS : ∀ b, S b → b < w.heap.size → S' b) (hw : ∀ b o, S b → b < w.heap.size → w'.cell? ⟨b, o, none⟩ = w.cell? ⟨b, o, none⟩) : LeafR w' S' cs l := by
  obtain ⟨a, c, r, e, h1, h2, hs, hr⟩ := h
  exact ⟨a, c, r, e, h1, h2, hs.mono hS hw, hr.mono hS hw⟩
def eltL (ty slt : TypeId) (hund : Try.prog.underlying slt = some (.slice ty)) (hinfo : (Try.prog.info? ty).map (fun i => (i.zero, i.size, i.bytes)) = some (some (.agg #[.slice none 0 0, .int .i64 0, .bool false, .int .i64 0, .string ⟨#[]⟩, .slice none 0 0, .slice none 0 0]), 7, 112)) : Elt LeafT where
  ty := ty
  slt := slt
  sz := 7
  bytes := 112
  zero := .agg #[.slice none 0 0, .int .i64 0, .bool false, .int .i64 0, .string ⟨#[]⟩, .slice none 0 0, .slice none 0 0]
  R := LeafR
  len h := (leaf_len h).1
  one h := (leaf_len h).2
  mono h hS hw := h.mono hS hw
  pos := by decide
  hund := hund
  hinfo := hinfo
  hzero := rfl
def eltP2 : Elt LeafT := eltL 66 63 Try.underlying63 (by kernel_rfl)
def eltR2 : Elt LeafT := eltL 60 57 Try.underlying57 (by kernel_rfl)

theorem run_append_none (w : World) (B : Nat) (t ty e : TypeId) (i : TypeInfo) (size : Nat) (ht : Try.prog.underlying t = some (.slice e)) (hi : Try.prog.info? e = some i)
    (v : Value) (n : Nat) (xs : List Value) (hown : w.ownsRow B e size v n xs) (c : Nat) : (Builtin.append_ #[t, t] ty #[v, .slice none 0 c]).run Try.prog w = .ok v w := by
  rcases hown.2 with ⟨rfl, rfl⟩ | ⟨g, cap, cur, rfl, _, _, hnc, _⟩
  · simp [Builtin.append_, run_underlying ht, sizeOf, typeInfo, hi, Builtin.lenOf, Builtin.firstCells]
  · simp [Builtin.append_, run_underlying ht, sizeOf, typeInfo, hi, Builtin.lenOf, Builtin.firstCells, hnc, storeCells]

/-- append of a leaf's steps to a row of one key that was made just now. -/
theorem steps_append {w : World} {k : ByteArray} {a : Option Addr} {c : Nat} {l : List ByteArray} (hk : k.size ≤ 140737488351232) (hl : RepS w (fun _ => True) a l) (hlen : l.length ≤ 1000000) (g : Nat) (hg : g = w.heap.size) :
    ∃ A' c' w', (Builtin.append_ #[41, 41] 41 #[.slice (some ⟨g, 0, none⟩) 1 1, .slice a l.length c]).run Try.prog (w.alloc (.cells #[.string k] 9)) = .ok (.slice A' (l.length + 1) c') w' ∧
      l.length + 1 ≤ c' ∧ c' ≤ maxLen ∧ RepS w' (fun b => w.heap.size ≤ b) A' (k :: l) ∧ Below w.heap.size w w' := by
  subst hg
  have ha : Below w.heap.size w (w.alloc (.cells #[.string k] 9)) := Below.new _ _
  have hown : OwnE eltS (w.alloc (.cells #[.string k] 9)) w.heap.size (fun _ => True) (some ⟨w.heap.size, 0, none⟩) 1 [k] := by
    refine ⟨[.string k], ⟨by rfl, .inr ⟨w.heap.size, 1, #[.string k], rfl, Nat.le_refl _, Blk.new _ _ _, by simp, by unfold maxLen; omega, by rfl, by rfl⟩⟩, by simp [Value.oneCell'], fun i hi => ?_⟩
    obtain rfl : i = 0 := by simpa using hi
    exact ⟨rfl, hk⟩
  have fin : ∀ A' c' w', OwnE eltS w' w.heap.size (fun _ => True) A' c' (k :: l) → Below w.heap.size w w' → l.length + 1 ≤ c' ∧ c' ≤ maxLen ∧ RepS w' (fun b => w.heap.size ≤ b) A' (k :: l) ∧ Below w.heap.size w w' := by
    intro A' c' w' h hb
    have h1 := h.len
    refine ⟨h1.1, h1.2, ?_, hb⟩
    intro i hi
    obtain ⟨b, o, e, hs, hlt, hc, hz⟩ := repS_of h.rep i hi
    refine ⟨b, o, e, ?_, hlt, hc, hz⟩
    have := h.own b (by rw [e]; rfl)
    exact this.1
  cases l with
  | nil =>
    cases a with
    | none =>
      obtain ⟨xs, h1, h2, h3⟩ := hown
      obtain ⟨i0, hi0, hz0, hz1, hz2⟩ := info_parts eltS.hinfo
      refine ⟨_, _, _, run_append_none _ _ _ _ _ i0 _ und_ss hi0 _ _ _ h1 c, fin _ _ _ ⟨xs, h1, h2, h3⟩ ha⟩
    | some ad =>
      obtain ⟨A', c', w', hr, ho, hgr⟩ := own_append (E := eltS) (l2 := []) (es := []) (ad := ad) (cc := c) (ty := 41) (t := 41) rfl hown (by simp [eltS]) (by simp; unfold maxLen; omega) (by simp) (by simp) (by simp) (by intro i hi; simp at hi)
      have hb : Below w.heap.size w w' := ⟨hgr.os.trans ha.os, hgr.tape.trans ha.tape, hgr.output.trans ha.output, Nat.le_trans ha.size hgr.size, fun g hg => (hgr.block g (Nat.lt_of_lt_of_le hg ha.size) (fun e => by injection e with e; have : g = w.heap.size := e; omega)).trans (ha.block g hg)⟩
      exact ⟨A', c', w', hr, fin _ _ _ ho hb⟩
  | cons s r =>
    obtain ⟨b, o, rfl, -⟩ := hl 0 (by simp)
    have hl2 := hl.keep ha
    obtain ⟨A', c', w', hr, ho, hgr⟩ := own_append (E := eltS) (l2 := s :: r) (es := (s :: r).map Value.string) (ad := ⟨b, o, none⟩) (cc := c) (ty := 41) (t := 41) rfl hown (by show (1 + (s :: r).length) * 16 ≤ _; omega) (by show 1 + (s :: r).length ≤ _; unfold maxLen; omega) (by simp) (by simp [eltS]) (fun j u hu => by
        have hj : j < (s :: r).length := by have := (List.getElem?_eq_some_iff.1 hu).1; simpa using this
        obtain ⟨b', o', e, _, _, hc, _⟩ := hl2 j hj
        obtain ⟨rfl, rfl⟩ : b = b' ∧ o = o' := by simpa using e
        rw [add_lit, hc]
        rw [List.getElem?_map, List.getElem?_eq_getElem hj] at hu
        exact hu) (fun i hi => ⟨by
          rw [show eltS.sz = 1 from rfl, Nat.mul_one, ← List.map_drop, List.drop_eq_getElem_cons hi]; rfl, by obtain ⟨_, _, _, _, _, _, hz⟩ := hl2 i hi; exact hz⟩)
    have hb : Below w.heap.size w w' := ⟨hgr.os.trans ha.os, hgr.tape.trans ha.tape, hgr.output.trans ha.output, Nat.le_trans ha.size hgr.size, fun g hg => (hgr.block g (Nat.lt_of_lt_of_le hg ha.size) (fun e => by injection e with e; have : g = w.heap.size := e; omega)).trans (ha.block g hg)⟩
    have hl3 : ([k] ++ s :: r).length = (s :: r).length + 1 := by simp
    rw [hl3] at hr
    exact ⟨A', c', w', hr, fin _ _ _ ho hb⟩
end Go.Proofs.Ytmdihildjblgnaa
