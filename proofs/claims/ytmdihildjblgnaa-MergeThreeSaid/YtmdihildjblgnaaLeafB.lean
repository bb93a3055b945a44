/- Several texts as one. -/
import Derived.Test.YtmdihildjblgnaaPath
import Derived.Test.YtmdihildjblgnaaMapsP
/- The leaves of a value, plainly; put one by one they are the value. -/
namespace Go.Proofs.Ytmdihildjblgnaa

abbrev LeafT := List ByteArray × T
mutual
def T.leaves : T → List (List ByteArray × T)
  | .mk k b n s l m => match m with
    | [] => [([], .mk k b n s l m)]
    | _ :: _ => T.leavesM m
def T.leavesM : List (ByteArray × T) → List (List ByteArray × T)
  | [] => []
  | p :: r => T.leavesP p ++ T.leavesM r
def T.leavesP : (ByteArray × T) → List (List ByteArray × T)
  | (k, x) => x.leaves.map fun l => (k :: l.1, l.2)
end
theorem leaves_eq (t : T) : t.leaves = if t.map = [] then [([], t)] else T.leavesM t.map := by
  cases t with
  | mk k b n s l m => cases m <;> rw [T.leaves] <;> simp [T.map]
theorem leavesP_eq (p : ByteArray × T) : T.leavesP p = p.2.leaves.map fun l => (p.1 :: l.1, l.2) := by cases p; rw [T.leavesP]
theorem leavesM_take (m : List (ByteArray × T)) (k : Nat) (h : k < m.length) : T.leavesM (m.take (k + 1)) = T.leavesM (m.take k) ++ T.leavesP m[k] := by
  induction m generalizing k with
  | nil => simp at h
  | cons p r ih =>
    cases k with
    | zero => simp [T.leavesM]
    | succ k => simp only [List.take_succ_cons, T.leavesM, List.getElem_cons_succ]; rw [ih k (by simpa using h), List.append_assoc]
theorem leaves_ne (t : T) : t.leaves ≠ [] := by
  induction t using T.ind' with
  | h t ihl ihm =>
    rw [leaves_eq]
    split
    · simp
    · next h =>
      cases e : t.map with
      | nil => exact absurd e h
      | cons p r =>
        rw [T.leavesM, leavesP_eq]
        have := ihm p (by rw [e]; simp)
        simp [this]
/-- Those of some leaves that begin with a key, behind it. -/
def heads (k : ByteArray) (L : List LeafT) : List LeafT := L.filterMap fun l => match l.1 with
  | [] => none
  | s :: r => if s = k then some (r, l.2) else none
theorem heads_app (k : ByteArray) (L M : List LeafT) : heads k (L ++ M) = heads k L ++ heads k M := List.filterMap_append
theorem heads_P (k : ByteArray) (p : ByteArray × T) : heads k (T.leavesP p) = if p.1 = k then p.2.leaves else [] := by
  rw [leavesP_eq, heads, List.filterMap_map]
  by_cases h : p.1 = k
  · rw [if_pos h]
    have : ((fun l : LeafT => match l.1 with
      | [] => none
      | s :: r => if s = k then some (r, l.2) else none) ∘ fun l : LeafT => (p.1 :: l.1, l.2)) = some := by
      funext l; simp [h]
    rw [this, List.filterMap_some]
  · rw [if_neg h]
    rw [List.filterMap_eq_nil_iff]
    intro l _
    simp [h]
theorem heads_M {m : List (ByteArray × T)} (h : KS m) (k : ByteArray) : heads k (T.leavesM m) = ((look m k).map T.leaves).getD [] := by
  induction m with
  | nil => rfl
  | cons p r ih =>
    rw [T.leavesM, heads_app, heads_P, ih h.tail, look]
    by_cases he : p.1 = k
    · rw [if_pos he, if_pos he, look_not fun q hq e => klt_ne (h.head q hq) (he.trans e.symm)]
      simp
    · rw [if_neg he, if_neg he]; simp
/-- Leaves, put one by one. -/
def putAll (L : List LeafT) (t : T) : T := L.foldl (fun t l => putP l.1 l.2 t) t
theorem putAll_look {n : Nat} : ∀ {L : List LeafT} {t : T}, (∀ l ∈ L, l.1 ≠ []) → (∀ l ∈ L, (∀ s ∈ l.1, keyB s = true) ∧ Neat n l.2) → (∃ m, Neat m t) → t.kind = 5 ∨ L ≠ [] →
    ∃ M, putAll L t = mkMap M ∧ KS M ∧ (∃ m, Neat m (mkMap M)) ∧ ∀ k, look M k = if heads k L = [] then look t.map k else some (putAll (heads k L) ((look t.map k).getD T.zero))
  | [], t, _, _, ⟨m, ht⟩, h => by
    have h5 : t.kind = 5 := by simpa using h
    exact ⟨t.map, ht.map h5, ht.KS, ⟨m, (ht.map h5) ▸ ht⟩, fun k => by rw [if_pos (show heads k [] = [] from rfl)]⟩
  | ([], x) :: L, t, hne, _, _, _ => absurd rfl (hne ([], x) (by simp))
  | (s :: r, x) :: L, t, hne, hn, ⟨m, ht⟩, _ => by
    have hx := hn (s :: r, x) (by simp)
    have hp : Neat (m + n + 1) (putP r x ((getT t s).getD T.zero)) := putP_neat (n := m) (fun z hz => hx.1 z (by simp [hz])) (ht.get s) (hx.2.mono (by omega)) (by omega)
    obtain ⟨M, e, hks, hneat, hlk⟩ := putAll_look (L := L) (t := putT t s (putP r x ((getT t s).getD T.zero))) (fun l hl => hne l (by simp [hl])) (fun l hl => hn l (by simp [hl])) ⟨_, putT_neat ht (hx.1 s (by simp)) hp (by omega)⟩ (.inl rfl)
    refine ⟨M, e, hks, hneat, fun k => ?_⟩
    rw [hlk]
    have hgk : look (putT t s (putP r x ((getT t s).getD T.zero))).map k = if s = k then some (putP r x ((look t.map s).getD T.zero)) else look t.map k := by
      rw [putT_ins ht, getT_look ht]
      exact look_ins _ _ _ ht.KS k
    rw [hgk]
    by_cases he : s = k
    · subst he
      have e2 : heads s ((s :: r, x) :: L) = (r, x) :: heads s L := by simp [heads]
      rw [if_pos rfl, e2, if_neg (show ¬ (r, x) :: heads s L = [] by simp)]
      by_cases hh : heads s L = []
      · rw [if_pos hh, hh]; rfl
      · rw [if_neg hh]; rfl
    · have e2 : heads k ((s :: r, x) :: L) = heads k L := by simp [heads, he]
      rw [if_neg he, e2]
theorem heads_perm {k : ByteArray} {L M : List LeafT} (h : L.Perm M) : (heads k L).Perm (heads k M) := h.filterMap _
theorem leaves_of {n : Nat} {v : T} (h : Neat n v) : ∀ l ∈ v.leaves, (∀ s ∈ l.1, keyB s = true) ∧ Neat n l.2 := by
  induction v using T.ind' with
  | h v ihl ihm =>
    intro l hl
    rw [leaves_eq] at hl
    split at hl
    · obtain rfl : l = ([], v) := by simpa using hl
      exact ⟨by simp, h⟩
    · have : ∀ {m : List (ByteArray × T)}, l ∈ T.leavesM m → ∃ p ∈ m, l ∈ T.leavesP p := by
        intro m
        induction m with
        | nil => intro h; simp [T.leavesM] at h
        | cons p r ih =>
          intro h
          rw [T.leavesM] at h
          rcases List.mem_append.1 h with h | h
          · exact ⟨p, by simp, h⟩
          · obtain ⟨q, hq, h⟩ := ih h; exact ⟨q, by simp [hq], h⟩
      obtain ⟨p, hp, hl⟩ := this hl
      rw [leavesP_eq] at hl
      obtain ⟨l0, hl0, rfl⟩ := List.mem_map.1 hl
      obtain ⟨h1, h2⟩ := ihm p hp (h.mem p hp) l0 hl0
      refine ⟨fun s hs => ?_, h2⟩
      rcases List.mem_cons.1 hs with rfl | hs
      · exact h.key p hp
      · exact h1 s hs
theorem leaves_cons {v : T} (hm : v.map ≠ []) : ∀ l ∈ v.leaves, l.1 ≠ [] := by
  intro l hl
  rw [leaves_eq, if_neg hm] at hl
  have : ∀ {m : List (ByteArray × T)}, l ∈ T.leavesM m → l.1 ≠ [] := by
    intro m
    induction m with
    | nil => intro h; simp [T.leavesM] at h
    | cons p r ih =>
      intro h
      rw [T.leavesM, leavesP_eq] at h
      rcases List.mem_append.1 h with h | h
      · obtain ⟨l0, _, rfl⟩ := List.mem_map.1 h; simp
      · exact ih h
  exact this hl
/-- All leaves of a value, put in any order, are the value. -/
theorem putAll_leaves {n : Nat} {v : T} (h : Neat n v) : ∀ {L : List LeafT}, L.Perm v.leaves → putAll L T.zero = v := by
  induction v using T.ind' with
  | h v ihl ihm =>
    intro L hL
    by_cases hm : v.map = []
    · rw [leaves_eq, if_pos hm] at hL
      rw [List.perm_singleton.1 hL]; rfl
    · have h5 : v.kind = 5 := Classical.byContradiction fun h5 => hm (h.nomap h5)
      have hne : L ≠ [] := fun e => leaves_ne v (by rw [e] at hL; exact hL.nil_eq.symm ▸ rfl)
      obtain ⟨M, e, hks, -, hlk⟩ := putAll_look (n := n) (L := L) (t := T.zero) (fun l hl => leaves_cons hm l (hL.mem_iff.1 hl)) (fun l hl => leaves_of h l (hL.mem_iff.1 hl)) ⟨0, Neat.zero⟩ (.inr hne)
      rw [e, h.map h5]
      congr 1
      refine KS_ext hks h.KS fun k => ?_
      rw [hlk, show T.zero.map = [] from rfl, look]
      have hp := heads_perm (k := k) hL
      rw [leaves_eq, if_neg hm, heads_M h.KS] at hp
      cases ex : look v.map k with
      | none =>
        rw [ex] at hp
        rw [if_pos (List.perm_nil.1 hp)]
      | some x =>
        rw [ex] at hp
        rw [if_neg fun e => leaves_ne x (by rw [e] at hp; exact (List.nil_perm.1 hp))]
        rw [Option.getD_none, ihm _ (look_mem ex) (h.look ex) hp]
end Go.Proofs.Ytmdihildjblgnaa

/- Texts and leaves as elements of rows; the row of a leaf's steps. -/
namespace Go.Proofs.Ytmdihildjblgnaa
open Go.RowKit Go.Lib

theorem text_info : (Try.prog.info? 9).map (fun i => (i.zero, i.size, i.bytes)) = some (some (.string ⟨#[]⟩), 1, 16) := by kernel_rfl
def eltS : Elt ByteArray where
  ty := 9
  slt := 41
  sz := 1
  bytes := 16
  zero := .string ⟨#[]⟩
  R _ _ cs s := cs = [.string s] ∧ s.size ≤ 140737488351232
  len h := by rw [h.1]; rfl
  one h := by
    intro u hu
    rw [h.1, List.mem_singleton] at hu
    rw [hu]; rfl
  mono h _ _ := h
  pos := by decide
  hund := und_ss
  hinfo := text_info
  hzero := rfl
theorem RepS.mono {w w' : World} {S S' : Nat → Prop} {a : Option Addr} {l : List ByteArray} (h : RepS w S a l) (hS : ∀ b, S b → b < w.heap.size → S' b) (hw : ∀ b o, S b → b < w.heap.size → w'.cell? ⟨b, o, none⟩ = w.cell? ⟨b, o, none⟩) : RepS w' S' a l := fun i hi => by
  obtain ⟨b, o, e, hs, hlt, hc, hz⟩ := h i hi
  have hc2 := (hw b (o + i) hs hlt).trans hc
  exact ⟨b, o, e, hS b hs hlt, block_lt_of_cell (a := ⟨b, o + i, none⟩) hc2, hc2, hz⟩
theorem repS_of {w : World} {S : Nat → Prop} {a : Option Addr} {l : List ByteArray} (h : RepE eltS w S a l) : RepS w S a l := fun i hi => by
  obtain ⟨b, o, cs, e, hS, hc, hr⟩ := h i hi
  have h0 := hc 0 (.string l[i]) (by rw [hr.1]; rfl)
  rw [show o + i * eltS.sz + 0 = o + i by show o + i * 1 + 0 = o + i; omega] at h0
  exact ⟨b, o, e, hS, block_lt_of_cell (a := ⟨b, o + i, none⟩) h0, h0, hr.2⟩

/-- A leaf: its steps and its value. -/
def LeafR (w : World) (S : Nat → Prop) (cs : List Value) (l : LeafT) : Prop := ∃ (a : Option Addr) (c : Nat) (r : List Value), cs = .slice a l.1.length c :: r ∧ l.1.length ≤ c ∧ c ≤ maxLen ∧ RepS w S a l.1 ∧ RepT w S (.agg r.toArray) l.2
theorem leaf_len {w : World} {S : Nat → Prop} {cs : List Value} {l : LeafT} (h : LeafR w S cs l) : cs.length = 7 ∧ ∀ u ∈ cs, u.oneCell' = true := by
  obtain ⟨a, c, r, rfl, _, _, _, hr⟩ := h
  refine ⟨by simp [(tree_one hr).1], fun u hu => ?_⟩
  rcases List.mem_cons.1 hu with rfl | hu
  · rfl
  · exact (tree_one hr).2 u hu
theorem LeafR.mono {w w' : World} {S S' : Nat → Prop} {cs : List Value} {l : LeafT} (h : LeafR w S cs l) (hS : ∀ b, S b → b < w.heap.size → S' b) (hw : ∀ b o, S b → b < w.heap.size → w'.cell? ⟨b, o, none⟩ = w.cell? ⟨b, o, none⟩) : LeafR w' S' cs l := by
  obtain ⟨a, c, r, e, h1, h2, hs, hr⟩ := h
  exact ⟨a, c, r, e, h1, h2, hs.mono hS hw, hr.mono hS hw⟩
def eltL (ty slt : TypeId) (hund : Try.prog.underlying slt = some (.slice ty)) (hinfo : (Try.prog.info? ty).map (fun i => (i.zero, i.size, i.bytes)) = some (some (.agg #[.slice none 0 0, .int .i64 0, .bool false, .int .i64 0, .string ⟨#[]⟩, .slice none 0 0, .slice none 0 0]), 7, 112)) : Elt LeafT where
  ty := ty
  slt := slt
  sz := 7
  bytes := 112
  zero := .agg #[.slice none 0 0, .int .i64 0, .bool false, .int .i64 0, .string ⟨#[]⟩, .slice none 0 0, .slice none 0 0]
  R := LeafR
  len h := (leaf_len h).1
  one h := (leaf_len h).2
  mono h hS hw := h.mono hS hw
  pos := by decide
  hund := hund
  hinfo := hinfo
  hzero := rfl
def eltP2 : Elt LeafT := eltL 66 63 Try.underlying63 (by kernel_rfl)
def eltR2 : Elt LeafT := eltL 60 57 Try.underlying57 (by kernel_rfl)

theorem run_append_none (w : World) (B : Nat) (t ty e : TypeId) (i : TypeInfo) (size : Nat) (ht : Try.prog.underlying t = some (.slice e)) (hi : Try.prog.info? e = some i)
    (v : Value) (n : Nat) (xs : List Value) (hown : w.ownsRow B e size v n xs) (c : Nat) : (Builtin.append_ #[t, t] ty #[v, .slice none 0 c]).run Try.prog w = .ok v w := by
  rcases hown.2 with ⟨rfl, rfl⟩ | ⟨g, cap, cur, rfl, _, _, hnc, _⟩
  · simp [Builtin.append_, run_underlying ht, sizeOf, typeInfo, hi, Builtin.lenOf, Builtin.firstCells]
  · simp [Builtin.append_, run_underlying ht, sizeOf, typeInfo, hi, Builtin.lenOf, Builtin.firstCells, hnc, storeCells]

/-- append of a leaf's steps to a row of one key that was made just now. -/
theorem steps_append {w : World} {k : ByteArray} {a : Option Addr} {c : Nat} {l : List ByteArray} (hk : k.size ≤ 140737488351232) (hl : RepS w (fun _ => True) a l) (hlen : l.length ≤ 1000000) (g : Nat) (hg : g = w.heap.size) :
    ∃ A' c' w', (Builtin.append_ #[41, 41] 41 #[.slice (some ⟨g, 0, none⟩) 1 1, .slice a l.length c]).run Try.prog (w.alloc (.cells #[.string k] 9)) = .ok (.slice A' (l.length + 1) c') w' ∧
      l.length + 1 ≤ c' ∧ c' ≤ maxLen ∧ RepS w' (fun b => w.heap.size ≤ b) A' (k :: l) ∧ Below w.heap.size w w' := by
  subst hg
  have ha : Below w.heap.size w (w.alloc (.cells #[.string k] 9)) := Below.new _ _
  have hown : OwnE eltS (w.alloc (.cells #[.string k] 9)) w.heap.size (fun _ => True) (some ⟨w.heap.size, 0, none⟩) 1 [k] := by
    refine ⟨[.string k], ⟨by rfl, .inr ⟨w.heap.size, 1, #[.string k], rfl, Nat.le_refl _, Blk.new _ _ _, by simp, by unfold maxLen; omega, by rfl, by rfl⟩⟩, by simp [Value.oneCell'], fun i hi => ?_⟩
    obtain rfl : i = 0 := by simpa using hi
    exact ⟨rfl, hk⟩
  have fin : ∀ A' c' w', OwnE eltS w' w.heap.size (fun _ => True) A' c' (k :: l) → Below w.heap.size w w' → l.length + 1 ≤ c' ∧ c' ≤ maxLen ∧ RepS w' (fun b => w.heap.size ≤ b) A' (k :: l) ∧ Below w.heap.size w w' := by
    intro A' c' w' h hb
    have h1 := h.len
    refine ⟨h1.1, h1.2, ?_, hb⟩
    intro i hi
    obtain ⟨b, o, e, hs, hlt, hc, hz⟩ := repS_of h.rep i hi
    refine ⟨b, o, e, ?_, hlt, hc, hz⟩
    have := h.own b (by rw [e]; rfl)
    exact this.1
  cases l with
  | nil =>
    cases a with
    | none =>
      obtain ⟨xs, h1, h2, h3⟩ := hown
      obtain ⟨i0, hi0, hz0, hz1, hz2⟩ := info_parts eltS.hinfo
      refine ⟨_, _, _, run_append_none _ _ _ _ _ i0 _ und_ss hi0 _ _ _ h1 c, fin _ _ _ ⟨xs, h1, h2, h3⟩ ha⟩
    | some ad =>
      obtain ⟨A', c', w', hr, ho, hgr⟩ := own_append (E := eltS) (l2 := []) (es := []) (ad := ad) (cc := c) (ty := 41) (t := 41) rfl hown (by simp [eltS]) (by simp; unfold maxLen; omega) (by simp) (by simp) (by simp) (by intro i hi; simp at hi)
      have hb : Below w.heap.size w w' := ⟨hgr.os.trans ha.os, hgr.tape.trans ha.tape, hgr.output.trans ha.output, Nat.le_trans ha.size hgr.size, fun g hg => (hgr.block g (Nat.lt_of_lt_of_le hg ha.size) (fun e => by injection e with e; have : g = w.heap.size := e; omega)).trans (ha.block g hg)⟩
      exact ⟨A', c', w', hr, fin _ _ _ ho hb⟩
  | cons s r =>
    obtain ⟨b, o, rfl, -⟩ := hl 0 (by simp)
    have hl2 := hl.keep ha
    obtain ⟨A', c', w', hr, ho, hgr⟩ := own_append (E := eltS) (l2 := s :: r) (es := (s :: r).map Value.string) (ad := ⟨b, o, none⟩) (cc := c) (ty := 41) (t := 41) rfl hown (by show (1 + (s :: r).length) * 16 ≤ _; omega) (by show 1 + (s :: r).length ≤ _; unfold maxLen; omega) (by simp) (by simp [eltS]) (fun j u hu => by
        have hj : j < (s :: r).length := by have := (List.getElem?_eq_some_iff.1 hu).1; simpa using this
        obtain ⟨b', o', e, _, _, hc, _⟩ := hl2 j hj
        obtain ⟨rfl, rfl⟩ : b = b' ∧ o = o' := by simpa using e
        rw [add_lit, hc]
        rw [List.getElem?_map, List.getElem?_eq_getElem hj] at hu
        exact hu) (fun i hi => ⟨by
          rw [show eltS.sz = 1 from rfl, Nat.mul_one, ← List.map_drop, List.drop_eq_getElem_cons hi]; rfl, by obtain ⟨_, _, _, _, _, _, hz⟩ := hl2 i hi; exact hz⟩)
    have hb : Below w.heap.size w w' := ⟨hgr.os.trans ha.os, hgr.tape.trans ha.tape, hgr.output.trans ha.output, Nat.le_trans ha.size hgr.size, fun g hg => (hgr.block g (Nat.lt_of_lt_of_le hg ha.size) (fun e => by injection e with e; have : g = w.heap.size := e; omega)).trans (ha.block g hg)⟩
    have hl3 : ([k] ++ s :: r).length = (s :: r).length + 1 := by simp
    rw [hl3] at hr
    exact ⟨A', c', w', hr, fin _ _ _ ho hb⟩
end Go.Proofs.Ytmdihildjblgnaa

/- Rows of leaves that grow: how things stand in the loops of Leaves. -/
namespace Go.Proofs.Ytmdihildjblgnaa
open Go.RowKit Go.Lib

/-- How many leaves, and how long their paths. -/
theorem leaves_wt (t : T) : t.leaves.length ≤ t.wt ∧ ∀ l ∈ t.leaves, l.1.length ≤ t.wt := by
  induction t using T.ind' with
  | h t ihl ihm =>
    have h1 := t.wt_eq
    rw [leaves_eq]
    split
    · refine ⟨by rw [List.length_singleton]; omega, fun l hl => ?_⟩
      obtain rfl : l = ([], t) := by simpa using hl
      simp
    · have : ∀ {m : List (ByteArray × T)}, (∀ p ∈ m, p.2.leaves.length ≤ p.2.wt ∧ ∀ l ∈ p.2.leaves, l.1.length ≤ p.2.wt) → (T.leavesM m).length ≤ T.wtM m ∧ ∀ l ∈ T.leavesM m, l.1.length ≤ T.wtM m + 1 := by
        intro m
        induction m with
        | nil => intro _; simp [T.leavesM]
        | cons p r ih =>
          intro h
          obtain ⟨a, b⟩ := ih fun p hp => h p (by simp [hp])
          obtain ⟨c, d⟩ := h p (by simp)
          have hp : p.2.wt ≤ T.wtP p := by obtain ⟨k, x⟩ := p; simp only [T.wtP]; omega
          rw [T.leavesM, T.wtM, leavesP_eq]
          refine ⟨by rw [List.length_append, List.length_map]; omega, fun l hl => ?_⟩
          rcases List.mem_append.1 hl with hl | hl
          · obtain ⟨l0, h0, rfl⟩ := List.mem_map.1 hl
            have := d l0 h0
            simp only [List.length_cons]; omega
          · have := b l hl; omega
      obtain ⟨a, b⟩ := this fun p hp => ihm p hp
      exact ⟨by omega, fun l hl => by have := b l hl; omega⟩
theorem leavesM_ne {m : List (ByteArray × T)} (h : m ≠ []) : T.leavesM m ≠ [] := by
  cases m with
  | nil => exact absurd rfl h
  | cons p r => rw [T.leavesM, leavesP_eq]; have := leaves_ne p.2; simp [this]
def LeavesPost (E : Elt LeafT) (S0 : Nat → Prop) (w : World) (L : List LeafT) (e : Ending) (w' : World) : Prop :=
  ∃ A c, e = .returned (.slice A L.length c) ∧ RepE E w' (fun b => S0 b ∨ w.heap.size ≤ b) A L ∧ L.length ≤ c ∧ c ≤ maxLen ∧ Below w.heap.size w w'

section
variable {ty slt : TypeId} {hund : Try.prog.underlying slt = some (.slice ty)} {hinfo : (Try.prog.info? ty).map (fun i => (i.zero, i.size, i.bytes)) = some (some (.agg #[.slice none 0 0, .int .i64 0, .bool false, .int .i64 0, .string ⟨#[]⟩, .slice none 0 0, .slice none 0 0]), 7, 112)}
/-- A leaf in a row: where it lies, cell by cell. -/
theorem leaf_at {w : World} {S : Nat → Prop} {a : Option Addr} {L : List LeafT} (h : RepE (eltL ty slt hund hinfo) w S a L) {i : Nat} (hi : i < L.length) : ∃ b o sa sc la lc ma mc, a = some ⟨b, o, none⟩ ∧ b < w.heap.size ∧
    (w.cell? ⟨b, o + i * 7, none⟩ = some (.slice sa L[i].1.length sc) ∧ w.cell? ⟨b, o + i * 7 + 1, none⟩ = some (.int .i64 L[i].2.kind) ∧ w.cell? ⟨b, o + i * 7 + 2, none⟩ = some (.bool L[i].2.bool) ∧ w.cell? ⟨b, o + i * 7 + 3, none⟩ = some (.int .i64 L[i].2.int) ∧
      w.cell? ⟨b, o + i * 7 + 4, none⟩ = some (.string L[i].2.str) ∧ w.cell? ⟨b, o + i * 7 + 5, none⟩ = some (.slice la L[i].2.list.length lc) ∧ w.cell? ⟨b, o + i * 7 + 6, none⟩ = some (.slice ma L[i].2.map.length mc)) ∧
    L[i].1.length ≤ sc ∧ sc ≤ maxLen ∧ RepS w S sa L[i].1 ∧ RepT w S (.agg #[.int .i64 L[i].2.kind, .bool L[i].2.bool, .int .i64 L[i].2.int, .string L[i].2.str, .slice la L[i].2.list.length lc, .slice ma L[i].2.map.length mc]) L[i].2 := by
  obtain ⟨b, o, cs, e, hb, hc, a2, c2, r, rfl, h1, h2, hs, hr⟩ := h i hi
  obtain ⟨la, lc, ma, mc, hv, hp⟩ := hr.inv
  have := agg_list hv
  subst this
  exact ⟨b, o, a2, c2, la, lc, ma, mc, e, hc.lt, ⟨hc 0 _ rfl, hc 1 _ rfl, hc 2 _ rfl, hc 3 _ rfl, hc 4 _ rfl, hc 5 _ rfl, hc 6 _ rfl⟩, h1, h2, hs, hr⟩

/-- How things stand in the inner loop: the pair's box, the inner leaves, the row that is made. -/
structure LvInv (E : Elt LeafT) (S0 : Nat → Prop) (w wr : World) (lo hi : Nat) (A2 : Option Addr) (L : List LeafT) (A : Option Addr) (c : Nat) (out : List LeafT) : Prop where
  rep : RepE E wr (fun b => S0 b ∨ (lo ≤ b ∧ b < hi)) A2 L
  bel : Below w.heap.size w wr
  own : OwnE E wr (w.heap.size + 1) (fun b => S0 b ∨ w.heap.size < b) A c out
  away : ∀ g, Value.ownBlock (.slice A out.length c) = some g → g < lo ∨ hi ≤ g
  low : w.heap.size < lo
  mid : lo ≤ hi
  top : hi ≤ wr.heap.size
  old : ∀ b, S0 b → b < w.heap.size
theorem LvInv.keep {E : Elt LeafT} {S0 : Nat → Prop} {w wr w3 : World} {lo hi : Nat} {A2 : Option Addr} {L : List LeafT} {A : Option Addr} {c : Nat} {out : List LeafT} (h : LvInv E S0 w wr lo hi A2 L A c out) (hb : Below wr.heap.size wr w3) : LvInv E S0 w w3 lo hi A2 L A c out :=
  ⟨h.rep.keep hb, Below.next h.bel hb, h.own.keep hb, h.away, h.low, h.mid, Nat.le_trans h.top hb.size, h.old⟩

/-- One leaf more. -/
theorem leaf_next {S0 : Nat → Prop} {w wr : World} {lo hi : Nat} {A2 : Option Addr} {L : List LeafT} {A : Option Addr} {c : Nat} {out : List LeafT} (h : LvInv (eltL ty slt hund hinfo) S0 w wr lo hi A2 L A c out)
    {x : T} {la : Option Addr} {lc : Nat} {ma : Option Addr} {mc : Nat} {sa : Option Addr} {sc : Nat} {st : List ByteArray} (hx : RepT wr (fun b => S0 b ∨ (lo ≤ b ∧ b < hi)) (.agg #[.int .i64 x.kind, .bool x.bool, .int .i64 x.int, .string x.str, .slice la x.list.length lc, .slice ma x.map.length mc]) x) (hs : RepS wr (fun b => hi ≤ b) sa st) (hso : ∀ g, Value.ownBlock (.slice A out.length c) = some g → ∀ b o, sa = some ⟨b, o, none⟩ → g ≠ b) (h1 : st.length ≤ sc) (h2 : sc ≤ maxLen) (hbig : out.length + 1 ≤ 1000000) (g : Nat) (hg : g = wr.heap.size) :
    ∃ (out2 : List LeafT) (A' : Option Addr) (c' : Nat) (w4 : World), Hid (out2 = out ++ [(st, x)]) ∧
      (Builtin.append_ #[slt, slt] slt #[.slice A out.length c, .slice (some ⟨g, 0, none⟩) 1 1]).run Try.prog (wr.alloc (.cells #[.slice sa st.length sc, .int .i64 x.kind, .bool x.bool, .int .i64 x.int, .string x.str, .slice la x.list.length lc, .slice ma x.map.length mc] ty)) = .ok (.slice A' out2.length c') w4 ∧
      LvInv (eltL ty slt hund hinfo) S0 w w4 lo hi A2 L A' c' out2 ∧ (∀ k, k < wr.heap.size → Value.ownBlock (.slice A out.length c) ≠ some k → w4.heap[k]? = wr.heap[k]?) ∧ wr.heap.size ≤ w4.heap.size ∧ (Value.ownBlock (.slice A' out2.length c') = Value.ownBlock (.slice A out.length c) ∨ ∃ k, Value.ownBlock (.slice A' out2.length c') = some k ∧ wr.heap.size ≤ k) := by
  subst hg
  have ha : Below wr.heap.size wr (wr.alloc (.cells #[.slice sa st.length sc, .int .i64 x.kind, .bool x.bool, .int .i64 x.int, .string x.str, .slice la x.list.length lc, .slice ma x.map.length mc] ty)) := Below.new _ _
  have hown : ∀ g, Value.ownBlock (.slice A out.length c) = some g → w.heap.size + 1 ≤ g ∧ g < wr.heap.size := h.own.own
  obtain ⟨A', c', w4, hrun, ho, hgr, hat⟩ := own_append_at (E := eltL ty slt hund hinfo) (l2 := [(st, x)]) (es := [.slice sa st.length sc, .int .i64 x.kind, .bool x.bool, .int .i64 x.int, .string x.str, .slice la x.list.length lc, .slice ma x.map.length mc]) (ad := ⟨wr.heap.size, 0, none⟩) (cc := 1) (ty := slt) (t := slt) rfl (h.own.keep ha) (by show (out.length + 1) * 112 ≤ _; omega) (by simp; unfold maxLen; omega) (by have := h.bel.size; have := h.low; have := h.mid; have := h.top; have := ha.size; omega) (by rfl)
    (fun j u hu => by rw [add_lit, Nat.zero_add, (Blk.new wr ty #[.slice sa st.length sc, .int .i64 x.kind, .bool x.bool, .int .i64 x.int, .string x.str, .slice la x.list.length lc, .slice ma x.map.length mc]).cell]; simpa using hu)
    (fun i hi2 => by
      obtain rfl : i = 0 := by simpa using hi2
      refine ⟨sa, sc, [.int .i64 x.kind, .bool x.bool, .int .i64 x.int, .string x.str, .slice la x.list.length lc, .slice ma x.map.length mc], rfl, h1, h2, ?_, ?_⟩
      · intro k hk
        obtain ⟨b, o, e, hs1, hlt, hc, hz⟩ := hs k hk
        exact ⟨b, o, e, ⟨.inr (by have := h.low; have := h.mid; have := h.top; omega), fun e2 => hso b e2 b o e rfl⟩, Nat.lt_of_lt_of_le hlt ha.size, (ha.cell (p := ⟨b, o + k, none⟩) hlt).trans hc, hz⟩
      · exact (hx.keep ha).weak (fun b (hb : S0 b ∨ (lo ≤ b ∧ b < hi)) _ => by
          rcases hb with hb | hb
          · exact ⟨.inl hb, fun e => by have := hown b e; have := h.old b hb; omega⟩
          · exact ⟨.inr (by have := h.low; omega), fun e => by have := h.away b e; omega⟩))
  have hfr : ∀ k, k < wr.heap.size → Value.ownBlock (.slice A out.length c) ≠ some k → w4.heap[k]? = wr.heap[k]? := fun k hk hne => (hgr.block k (Nat.lt_of_lt_of_le hk ha.size) (fun e => hne e.symm)).trans (ha.block k hk)
  have hsz : wr.heap.size ≤ w4.heap.size := Nat.le_trans ha.size hgr.size
  have hbw : Below w.heap.size w w4 := ⟨hgr.os.trans (ha.os.trans h.bel.os), hgr.tape.trans (ha.tape.trans h.bel.tape), hgr.output.trans (ha.output.trans h.bel.output), Nat.le_trans h.bel.size hsz, fun k hk => (hfr k (Nat.lt_of_lt_of_le hk h.bel.size) (fun e => by have := (hown k e).1; omega)).trans (h.bel.block k hk)⟩
  have hob : Value.ownBlock (.slice A' (out ++ [(st, x)]).length c') = Value.ownBlock (.slice A out.length c) ∨ ∃ k, Value.ownBlock (.slice A' (out ++ [(st, x)]).length c') = some k ∧ wr.heap.size ≤ k := by
    rcases hat with e | e
    · exact .inl e
    · exact .inr ⟨_, e, by have := ha.size; omega⟩
  refine ⟨out ++ [(st, x)], A', c', w4, rfl, hrun, ⟨?_, hbw, ho, ?_, h.low, h.mid, Nat.le_trans h.top hsz, h.old⟩, hfr, hsz, hob⟩
  · exact h.rep.mono (fun _ hb _ => hb) (fun b o hb hlt => World.cell?_of_block (hfr b hlt (fun e => by
      rcases hb with hb | hb
      · have := (hown b e).1; have := h.old b hb; omega
      · have := h.away b e; omega)))
  · intro k hk
    rcases hob with e | ⟨k2, e, hk2⟩
    · exact h.away k (e.symm.trans hk)
    · rw [e] at hk
      injection hk with hk
      have := h.top
      omega
end
end Go.Proofs.Ytmdihildjblgnaa
