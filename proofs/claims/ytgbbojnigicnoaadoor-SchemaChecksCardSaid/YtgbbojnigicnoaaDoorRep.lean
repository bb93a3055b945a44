/- The trees that values stand for, and when a value in memory reads as one. -/
import Derived.Test.YtgbbojnigicnoaaDoorMem
namespace Go.Proofs.YtgbbojnigicnoaaDoor
open Go.RowKit

/-- A value as a tree. -/
inductive T where
  | mk (kind : Int) (b : Bool) (n : Int) (s : ByteArray) (l : List T) (m : List (ByteArray × T))

theorem T.ind {C : T → Prop} (h : ∀ k b n s l m, (∀ x ∈ l, C x) → (∀ p ∈ m, C p.2) → C (.mk k b n s l m)) : ∀ t, C t := by
  intro t
  refine T.rec (motive_1 := C) (motive_2 := fun l => ∀ x ∈ l, C x) (motive_3 := fun m => ∀ p ∈ m, C p.2) (motive_4 := fun p => C p.2) ?_ ?_ ?_ ?_ ?_ ?_ t
  · exact fun k b n s l m hl hm => h k b n s l m hl hm
  · simp
  · intro a l ha hl x hx
    rcases List.mem_cons.1 hx with rfl | hx
    · exact ha
    · exact hl x hx
  · simp
  · intro a l ha hl x hx
    rcases List.mem_cons.1 hx with rfl | hx
    · exact ha
    · exact hl x hx
  · exact fun k t ht => ht

def T.kind : T → Int | .mk k _ _ _ _ _ => k
def T.bool : T → Bool | .mk _ b _ _ _ _ => b
def T.int : T → Int | .mk _ _ n _ _ _ => n
def T.str : T → ByteArray | .mk _ _ _ s _ _ => s
def T.list : T → List T | .mk _ _ _ _ l _ => l
def T.map : T → List (ByteArray × T) | .mk _ _ _ _ _ m => m
theorem T.ind' {C : T → Prop} (h : ∀ t : T, (∀ x ∈ t.list, C x) → (∀ p ∈ t.map, C p.2) → C t) : ∀ t, C t :=
  T.ind fun k b n s l m hl hm => h (.mk k b n s l m) hl hm
/-- The zero value. -/
def T.zero : T := .mk 0 false 0 ⟨#[]⟩ [] []

theorem agg_list {cs : List Value} {a : Array Value} (h : Value.agg cs.toArray = .agg a) : cs = a.toList := by
  injection h with h
  rw [← h]

/-- Value v reads, in world w, as tree t; of memory only blocks in S are met. -/
inductive RepT (w : World) (S : Nat → Prop) : Value → T → Prop
  | mk (k : Int) (b : Bool) (n : Int) (s : ByteArray) (l : List T) (m : List (ByteArray × T)) (la : Option Addr) (lc : Nat) (ma : Option Addr) (mc : Nat)
      (C : Nat → List Value) (D : Nat → List Value)
      (hk : i64ok k) (hn : i64ok n) (hs : s.size ≤ 140737488351232) (hl : l.length * 88 ≤ 140737488355328) (hm : m.length * 104 ≤ 140737488355328) (hlc : l.length ≤ lc) (hmc : m.length ≤ mc) (hlx : lc ≤ maxLen) (hmx : mc ≤ maxLen)
      (hla : ∀ i, i < l.length → ∃ b o, la = some ⟨b, o, none⟩ ∧ S b ∧ cellsAt w b (o + i * 6) (C i))
      (hlr : ∀ i (h : i < l.length), RepT w S (.agg (C i).toArray) l[i])
      (hma : ∀ i (h : i < m.length), ∃ b o, ma = some ⟨b, o, none⟩ ∧ S b ∧ m[i].1.size ≤ 140737488351232 ∧ cellsAt w b (o + i * 7) (.string m[i].1 :: D i))
      (hmr : ∀ i (h : i < m.length), RepT w S (.agg (D i).toArray) m[i].2) :
      RepT w S (.agg #[.int .i64 k, .bool b, .int .i64 n, .string s, .slice la l.length lc, .slice ma m.length mc]) (.mk k b n s l m)

/-- The elements of a slice of values. -/
def RepL (w : World) (S : Nat → Prop) (a : Option Addr) (l : List T) : Prop :=
  ∀ i (h : i < l.length), ∃ b o cs, a = some ⟨b, o, none⟩ ∧ S b ∧ cellsAt w b (o + i * 6) cs ∧ RepT w S (.agg cs.toArray) l[i]
/-- The elements of a slice of pairs. -/
def RepM (w : World) (S : Nat → Prop) (a : Option Addr) (m : List (ByteArray × T)) : Prop :=
  ∀ i (h : i < m.length), ∃ b o cs, a = some ⟨b, o, none⟩ ∧ S b ∧ m[i].1.size ≤ 140737488351232 ∧ cellsAt w b (o + i * 7) (.string m[i].1 :: cs) ∧ RepT w S (.agg cs.toArray) m[i].2

/-- What a value is, laid open. -/
def RepParts (w : World) (S : Nat → Prop) (la : Option Addr) (lc : Nat) (ma : Option Addr) (mc : Nat) (t : T) : Prop :=
  i64ok t.kind ∧ i64ok t.int ∧ t.str.size ≤ 140737488351232 ∧ t.list.length * 88 ≤ 140737488355328 ∧ t.map.length * 104 ≤ 140737488355328 ∧ t.list.length ≤ lc ∧ t.map.length ≤ mc ∧ lc ≤ maxLen ∧ mc ≤ maxLen ∧
    RepL w S la t.list ∧ RepM w S ma t.map

section
variable {w w' : World} {S S' : Nat → Prop} {v : Value} {t : T}

theorem RepT.inv (h : RepT w S v t) : ∃ la lc ma mc, v = .agg #[.int .i64 t.kind, .bool t.bool, .int .i64 t.int, .string t.str, .slice la t.list.length lc, .slice ma t.map.length mc] ∧ RepParts w S la lc ma mc t := by
  cases h with
  | mk k b n s l m la lc ma mc C D hk hn hs hl hm hlc hmc hlx hmx hla hlr hma hmr =>
    refine ⟨la, lc, ma, mc, rfl, hk, hn, hs, hl, hm, hlc, hmc, hlx, hmx, fun i hi => ?_, fun i hi => ?_⟩
    · obtain ⟨b, o, e, hb, hc⟩ := hla i hi
      exact ⟨b, o, C i, e, hb, hc, hlr i hi⟩
    · obtain ⟨b, o, e, hb, hz, hc⟩ := hma i hi
      exact ⟨b, o, D i, e, hb, hz, hc, hmr i hi⟩

theorem RepT.of {la : Option Addr} {lc : Nat} {ma : Option Addr} {mc : Nat} (h : RepParts w S la lc ma mc t) :
    RepT w S (.agg #[.int .i64 t.kind, .bool t.bool, .int .i64 t.int, .string t.str, .slice la t.list.length lc, .slice ma t.map.length mc]) t := by
  obtain ⟨hk, hn, hs, hl, hm, hlc, hmc, hlx, hmx, hL, hM⟩ := h
  cases t with
  | mk k b n s l m =>
    have hL' : ∀ i, ∃ cs, ∀ h : i < l.length, ∃ b o, la = some ⟨b, o, none⟩ ∧ S b ∧ cellsAt w b (o + i * 6) cs ∧ RepT w S (.agg cs.toArray) l[i] := by
      intro i
      by_cases h : i < l.length
      · obtain ⟨b, o, cs, r⟩ := hL i h
        exact ⟨cs, fun _ => ⟨b, o, r⟩⟩
      · exact ⟨[], fun h' => absurd h' h⟩
    have hM' : ∀ i, ∃ cs, ∀ h : i < m.length, ∃ b o, ma = some ⟨b, o, none⟩ ∧ S b ∧ m[i].1.size ≤ 140737488351232 ∧ cellsAt w b (o + i * 7) (.string m[i].1 :: cs) ∧ RepT w S (.agg cs.toArray) m[i].2 := by
      intro i
      by_cases h : i < m.length
      · obtain ⟨b, o, cs, r⟩ := hM i h
        exact ⟨cs, fun _ => ⟨b, o, r⟩⟩
      · exact ⟨[], fun h' => absurd h' h⟩
    refine .mk k b n s l m la lc ma mc (fun i => Classical.choose (hL' i)) (fun i => Classical.choose (hM' i)) hk hn hs hl hm hlc hmc hlx hmx (fun i h => ?_) (fun i h => ?_) (fun i h => ?_) (fun i h => ?_)
    · obtain ⟨b, o, e, hb, hc, _⟩ := Classical.choose_spec (hL' i) h
      exact ⟨b, o, e, hb, hc⟩
    · obtain ⟨_, _, _, _, _, hr⟩ := Classical.choose_spec (hL' i) h
      exact hr
    · obtain ⟨b, o, e, hb, hz, hc, _⟩ := Classical.choose_spec (hM' i) h
      exact ⟨b, o, e, hb, hz, hc⟩
    · obtain ⟨_, _, _, _, _, _, hr⟩ := Classical.choose_spec (hM' i) h
      exact hr

theorem RepT.mono (h : RepT w S v t) (hS : ∀ b, S b → b < w.heap.size → S' b) (hw : ∀ b o, S b → b < w.heap.size → w'.cell? ⟨b, o, none⟩ = w.cell? ⟨b, o, none⟩) : RepT w' S' v t := by
  induction h with
  | mk k b n s l m la lc ma mc C D hk hn hs hl hm hlc hmc hlx hmx hla hlr hma hmr ihl ihm =>
    refine .mk k b n s l m la lc ma mc C D hk hn hs hl hm hlc hmc hlx hmx ?_ ihl ?_ ihm
    · intro i hi
      obtain ⟨b, o, e, hb, hc⟩ := hla i hi
      have hr := hlr i hi
      have hlt : b < w.heap.size := by
        generalize C i = cs at hc hr
        obtain ⟨_, _, _, _, hv, _⟩ := hr.inv
        have := agg_list hv
        subst this
        exact hc.lt
      exact ⟨b, o, e, hS b hb hlt, hc.keep fun i => hw _ _ hb hlt⟩
    · intro i hi
      obtain ⟨b, o, e, hb, hz, hc⟩ := hma i hi
      have hlt := hc.lt
      exact ⟨b, o, e, hS b hb hlt, hz, hc.keep fun i => hw _ _ hb hlt⟩

theorem RepT.keep (h : RepT w S v t) (hb : Below w.heap.size w w') : RepT w' S v t :=
  h.mono (fun _ h _ => h) fun _ _ _ hlt => hb.cell hlt
theorem RepT.weak (h : RepT w S v t) (hS : ∀ b, S b → b < w.heap.size → S' b) : RepT w S' v t := h.mono hS fun _ _ _ _ => rfl

theorem RepL.mono {a : Option Addr} {l : List T} (h : RepL w S a l) (hS : ∀ b, S b → b < w.heap.size → S' b) (hw : ∀ b o, S b → b < w.heap.size → w'.cell? ⟨b, o, none⟩ = w.cell? ⟨b, o, none⟩) : RepL w' S' a l := by
  intro i hi
  obtain ⟨b, o, cs, e, hb, hc, hr⟩ := h i hi
  have hlt : b < w.heap.size := by
    obtain ⟨_, _, _, _, hv, _⟩ := hr.inv
    have := agg_list hv
    subst this
    exact hc.lt
  exact ⟨b, o, cs, e, hS b hb hlt, hc.keep fun i => hw _ _ hb hlt, hr.mono hS hw⟩
theorem RepM.mono {a : Option Addr} {m : List (ByteArray × T)} (h : RepM w S a m) (hS : ∀ b, S b → b < w.heap.size → S' b) (hw : ∀ b o, S b → b < w.heap.size → w'.cell? ⟨b, o, none⟩ = w.cell? ⟨b, o, none⟩) : RepM w' S' a m := by
  intro i hi
  obtain ⟨b, o, cs, e, hb, hz, hc, hr⟩ := h i hi
  have hlt := hc.lt
  exact ⟨b, o, cs, e, hS b hb hlt, hz, hc.keep fun i => hw _ _ hb hlt, hr.mono hS hw⟩
theorem RepL.keep {a : Option Addr} {l : List T} (h : RepL w S a l) (hb : Below w.heap.size w w') : RepL w' S a l := h.mono (fun _ h _ => h) fun _ _ _ hlt => hb.cell hlt
theorem RepM.keep {a : Option Addr} {m : List (ByteArray × T)} (h : RepM w S a m) (hb : Below w.heap.size w w') : RepM w' S a m := h.mono (fun _ h _ => h) fun _ _ _ hlt => hb.cell hlt

/-- Element i of a slice of values: where it lies, cell by cell, and what it is. -/
theorem RepL.at_ {a : Option Addr} {l : List T} (h : RepL w S a l) {i : Nat} (hi : i < l.length) : ∃ b o la lc ma mc, a = some ⟨b, o, none⟩ ∧ S b ∧ b < w.heap.size ∧
    (w.cell? ⟨b, o + i * 6, none⟩ = some (.int .i64 l[i].kind) ∧ w.cell? ⟨b, o + i * 6 + 1, none⟩ = some (.bool l[i].bool) ∧ w.cell? ⟨b, o + i * 6 + 2, none⟩ = some (.int .i64 l[i].int) ∧ w.cell? ⟨b, o + i * 6 + 3, none⟩ = some (.string l[i].str) ∧
      w.cell? ⟨b, o + i * 6 + 4, none⟩ = some (.slice la l[i].list.length lc) ∧ w.cell? ⟨b, o + i * 6 + 5, none⟩ = some (.slice ma l[i].map.length mc)) ∧
    RepT w S (.agg #[.int .i64 l[i].kind, .bool l[i].bool, .int .i64 l[i].int, .string l[i].str, .slice la l[i].list.length lc, .slice ma l[i].map.length mc]) l[i] := by
  obtain ⟨b, o, cs, e, hb, hc, hr⟩ := h i hi
  obtain ⟨la, lc, ma, mc, hv, hp⟩ := hr.inv
  have := agg_list hv
  subst this
  exact ⟨b, o, la, lc, ma, mc, e, hb, hc.lt, ⟨hc 0 _ rfl, hc 1 _ rfl, hc 2 _ rfl, hc 3 _ rfl, hc 4 _ rfl, hc 5 _ rfl⟩, hr⟩
/-- Element i of a slice of pairs. -/
theorem RepM.at_ {a : Option Addr} {m : List (ByteArray × T)} (h : RepM w S a m) {i : Nat} (hi : i < m.length) : ∃ b o la lc ma mc, a = some ⟨b, o, none⟩ ∧ S b ∧ b < w.heap.size ∧ m[i].1.size ≤ 140737488351232 ∧
    (w.cell? ⟨b, o + i * 7, none⟩ = some (.string m[i].1) ∧ w.cell? ⟨b, o + i * 7 + 1, none⟩ = some (.int .i64 m[i].2.kind) ∧ w.cell? ⟨b, o + i * 7 + 2, none⟩ = some (.bool m[i].2.bool) ∧ w.cell? ⟨b, o + i * 7 + 3, none⟩ = some (.int .i64 m[i].2.int) ∧
      w.cell? ⟨b, o + i * 7 + 4, none⟩ = some (.string m[i].2.str) ∧ w.cell? ⟨b, o + i * 7 + 5, none⟩ = some (.slice la m[i].2.list.length lc) ∧ w.cell? ⟨b, o + i * 7 + 6, none⟩ = some (.slice ma m[i].2.map.length mc)) ∧
    RepT w S (.agg #[.int .i64 m[i].2.kind, .bool m[i].2.bool, .int .i64 m[i].2.int, .string m[i].2.str, .slice la m[i].2.list.length lc, .slice ma m[i].2.map.length mc]) m[i].2 := by
  obtain ⟨b, o, cs, e, hb, hz, hc, hr⟩ := h i hi
  obtain ⟨la, lc, ma, mc, hv, hp⟩ := hr.inv
  have := agg_list hv
  subst this
  exact ⟨b, o, la, lc, ma, mc, e, hb, hc.lt, hz, ⟨hc 0 _ rfl, hc 1 _ rfl, hc 2 _ rfl, hc 3 _ rfl, hc 4 _ rfl, hc 5 _ rfl, hc 6 _ rfl⟩, hr⟩
end

end Go.Proofs.YtgbbojnigicnoaaDoor
