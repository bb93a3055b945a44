/- tree.Get, Int, and what a map has under a key. -/
import Derived.Test.YtdgeegfoocoohaaDoorMap
namespace Go.Proofs.YtdgeegfoocoohaaDoor
open Go.RowKit

/-- What a map has under a key. -/
def look : List (ByteArray × T) → ByteArray → Option T
  | [], _ => none
  | p :: r, k => if p.1 = k then some p.2 else look r k
def getT (t : T) (k : ByteArray) : Option T := if t.kind = 5 then look t.map k else none

theorem look_found {m : List (ByteArray × T)} {k : ByteArray} {i : Nat} (hi : i < m.length) (h : Srch m k i true) : look m k = some m[i].2 := by
  induction m generalizing i with
  | nil => simp at hi
  | cons p r ih =>
    match i, h with
    | 0, h =>
      obtain ⟨_, he⟩ := h.2.2.2.1 rfl
      simp at he
      simp [look, he]
    | i + 1, h =>
      have h0 := h.2.1 0 (by simp) (by omega)
      have hne : ¬ p.1 = k := fun e => by
        simp [e, klt_irrefl] at h0
      simp [look, hne, ih (by simpa using hi) (srch_cons h)]
theorem look_none {m : List (ByteArray × T)} {k : ByteArray} {i : Nat} (hks : KS m) (h : Srch m k i false) : look m k = none := by
  have hall : ∀ j (hj : j < m.length), m[j].1 ≠ k := fun j hj e => by
    rcases Nat.lt_trichotomy j i with hlt | rfl | hgt
    · have := h.2.1 j hj hlt
      rw [e, klt_irrefl] at this
      cases this
    · have := h.2.2.2.2 ⟨hj, e⟩
      cases this
    · have h1 := h.2.2.1 i (by omega) (Nat.le_refl _)
      have h2 := hks i j hj hgt
      rw [e, h1] at h2
      cases h2
  clear hks h
  induction m with
  | nil => rfl
  | cons p r ih =>
    have h0 : ¬ p.1 = k := hall 0 (by simp)
    simp only [look, if_neg h0]
    exact ih (fun j hj => hall (j + 1) (by simpa using hj))

def GetPost (w : World) (o : Option T) (e : Ending) (w' : World) : Prop :=
  ∃ v, e = .returned (.tuple #[v, .bool o.isSome]) ∧ RepT w' (fun b => w.heap.size ≤ b) v (o.getD T.zero) ∧ Below w.heap.size w w'

theorem rep_zero (w : World) (S : Nat → Prop) : RepT w S (.agg zcells) T.zero :=
  RepT.of (t := T.zero) (la := none) (lc := 0) (ma := none) (mc := 0) ⟨(show i64ok 0 by unfold i64ok; omega), (show i64ok 0 by unfold i64ok; omega), by show ByteArray.size ⟨#[]⟩ ≤ _; simp [ByteArray.size], by simp [T.zero, T.list], by simp [T.zero, T.map], by simp [T.zero, T.list], by simp [T.zero, T.map], by unfold maxLen; omega, by unfold maxLen; omega, fun i hi => by simp [T.zero, T.list] at hi, fun i hi => by simp [T.zero, T.map] at hi⟩

/-- A struct in memory and a truth: what two results are. -/
theorem ret_cell2 {fn : Func} {R : Ending → World → Prop} {a : Act} {w : World} {p q : Tmp} {ty g t : Nat} {cs : Array Value} {v : Value} {fs : Array Field} (h : fn.results = #[.cell p ty, .tmp q]) (hp : a.tmps.getD p undef = .pointer (some ⟨g, 0, none⟩)) (hq : a.tmps.getD q undef = v) (hb : Blk w g t cs)
    (hu : Tryd.prog.underlying ty = some (.struct fs)) (hi : (Tryd.prog.info? ty).map (·.size) = some cs.size) (hdf : a.defers = []) (hR : R (.returned (.tuple #[.agg cs, v])) w) : bodyPost Tryd.prog fn R .ret a w := by
  refine bodyPost_ret ?_ hdf hR
  have hp' : a.tmps[p]?.getD undef = .pointer (some ⟨g, 0, none⟩) := by simpa using hp
  have hq' : a.tmps[q]?.getD undef = v := by simpa using hq
  simp [results, h, hp', hq', asAddr, run_loadVar_row w g t ty cs (0, 0) (.struct fs) hb hu rfl hi]

end Go.Proofs.YtdgeegfoocoohaaDoor
