/- A drawn region by one invariant: boxes of values that it makes. -/
import Derived.Test.YtmdihildjblgnaaInv
import Derived.Test.YtmdihildjblgnaaLaw
import Derived.Test.YtmdihildjblgnaaPath
namespace Go.Proofs.Ytmdihildjblgnaa
open Go.RowKit

def cellsOf : Value → Array Value
  | .agg cs => cs
  | _ => #[]
/-- A box that the region makes: owner k; v lies in it once it is stored. -/
def BoxI (O : Nat → Nat) (w : World) (B : Nat) (x : Value) (k : Nat) (st : Bool) (v : Value) : Prop :=
  ∃ g, x = .pointer (some ⟨g, 0, none⟩) ∧ O g = k ∧ B ≤ g ∧ Blk w g 25 (bif st then cellsOf v else #[.int .i64 0, .bool false, .int .i64 0, .string ⟨#[]⟩, .slice none 0 0, .slice none 0 0])
section
variable {O O' : Nat → Nat} {w w' : World} {g : Option Nat} {B k : Nat} {x v v' : Value} {st : Bool}
theorem BoxI.stp (h : BoxI O w B x k st v) (s : Stp O w O' w' g) (hg : ∀ b, g = some b → O b ≠ k) : BoxI O' w' B x k st v := by
  obtain ⟨b, e, ho, hB, hb⟩ := h
  exact ⟨b, e, (s.own b hb.lt).trans ho, hB, hb.stp s fun e2 => hg b e2.symm ho⟩
theorem BoxI.val (h : BoxI O w B x k st v) (hs : st = false) : BoxI O w B x k st v' := by
  subst hs
  exact h
theorem BoxI.new (k : Nat) (v : Value) (hB : B ≤ w.heap.size) : BoxI (ownN O w.heap.size k) (w.alloc (.cells #[.int .i64 0, .bool false, .int .i64 0, .string ⟨#[]⟩, .slice none 0 0, .slice none 0 0] 25)) B (.pointer (some ⟨w.heap.size, 0, none⟩)) k false v :=
  ⟨_, rfl, ownN_new k, hB, Blk.new _ _ _⟩
theorem BoxI.put {b : Nat} {c0 c1 c2 c3 c4 c5 : Value} (h : BoxI O w B (.pointer (some ⟨b, 0, none⟩)) k false v') : BoxI O (set6 w b 0 c0 c1 c2 c3 c4 c5) B (.pointer (some ⟨b, 0, none⟩)) k true (.agg #[c0, c1, c2, c3, c4, c5]) := by
  obtain ⟨b', e, ho, hB, hb⟩ := h
  injection e with e; injection e with e; injection e with e
  subst e
  exact ⟨b, rfl, ho, hB, (((((hb.set_ 0 _).set_ 1 _).set_ 2 _).set_ 3 _).set_ 4 _).set_ 5 _⟩
theorem Stp.set6 {b o : Nat} {c0 c1 c2 c3 c4 c5 : Value} : Stp O w O (set6 w b o c0 c1 c2 c3 c4 c5) (some b) :=
  ⟨(set6_below (B := 0) (Below.refl _ _) (Nat.zero_le _)).size, fun _ _ => rfl, fun c _ hc => set6_heap (fun e => hc (by rw [e]))⟩
theorem BoxI.at_ (h : BoxI O w B x k st v) : ∃ g, x = .pointer (some ⟨g, 0, none⟩) ∧ O g = k ∧ B ≤ g ∧ Blk w g 25 (bif st then cellsOf v else #[.int .i64 0, .bool false, .int .i64 0, .string ⟨#[]⟩, .slice none 0 0, .slice none 0 0]) := h
end
end Go.Proofs.Ytmdihildjblgnaa
