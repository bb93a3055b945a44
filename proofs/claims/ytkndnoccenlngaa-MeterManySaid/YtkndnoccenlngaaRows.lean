/-
  No cell of these rows narrows 'for every input' (looked for: loops, veiled, ifaces, maps, wideKeys, modest, calm, conditions, laid).
  DERIVED. THE GIVEN ROWS OF THIS SEAT. 3 by the template 'for every input the law returns true; each argument reads behind the call as it read before'; 0 by the template 'total and deterministic' (their statements: YtkndnoccenlngaaTotals.lean).
  GIVEN WITH THE SEED: the statements are not yours to turn. If you find one false, say at which input.
  Laid BY PROGRAM, IN A SANDBOX (cutbox-rows.mjs): the forced cells as the released guide's own fill.sh prints them over the translation add164f86dcaaa8d… (all of the seat's roots in one cut). By AI agents, Wed Nov 11 2026. No macro, syntax, notation, axiom, sorry.
-/
import Derived.Test.YtkndnoccenlngaaChecked
import GoSem.Claim
import GoSem.ClaimJoined
import GoSem.ClaimMapViews
import Derived.JoinedTies
import Derived.KernelRfl
namespace Go.Proofs.Ytkndnoccenlngaa
/- THE CELL 'sum', in the pinned program and in every row, IS THE sha256 OF THE DUMP (.gsa) THAT YtkndnoccenlngaaProg.lean LOADS. Nothing in Lean hashes anything: it is a label: what it is worth is what the hold of that sum in a sandbox is worth. -/
noncomputable def Try.pinned : Pinned := { name := "ytkndnoccenlngaa", sum := "add164f86dcaaa8d81cd31cbb7fb834cb64fe23d6ffebb0d670f057a343242f3", checked := Try.checked }
namespace Rows
def none {H : Type} : Left H := { results := [], args := [] }

/-- 'mizzenlaw15.MeterMany': WHATEVER THE INPUT: true; the input reads as it did. -/
def meterManySpec : ChangeSpec := { name := "meterMany", fn := fun _ => fun
  | [d1, d2] => { results := [.lit (.bool true)], args := [d1, d2] }
  | _ => none }
def meterManyRow : OpenClaim := { program := "ytkndnoccenlngaa", sum := "add164f86dcaaa8d81cd31cbb7fb834cb64fe23d6ffebb0d670f057a343242f3", func := "mizzen/mizzenlaw15.MeterMany", spec := "meterMany", inPlace := ["sync/atomic.AddInt64", "sync/atomic.LoadInt64", "sync/atomic.CompareAndSwapInt64"], unfollowed := true, recurses := true, apart := false }
def MeterManySaid : Prop := meterManyRow.holds Try.pinned (OpenSpec.ofChange meterManySpec)

/-- ITS FALSE NEIGHBOUR: 'it returns false'. Refute it at one input. -/
def meterManyWrong : ChangeSpec := { name := "meterMany", fn := fun _ => fun
  | [d1, d2] => { results := [.lit (.bool false)], args := [d1, d2] }
  | _ => none }
def MeterManyWrongFalsely : Prop := meterManyRow.holds Try.pinned (OpenSpec.ofChange meterManyWrong)

/-- 'mizzenlaw15.MeterPlays': WHATEVER THE INPUT: true; the input reads as it did. -/
def meterPlaysSpec : ChangeSpec := { name := "meterPlays", fn := fun _ => fun
  | [d1, d2, d3] => { results := [.lit (.bool true)], args := [d1, d2, d3] }
  | _ => none }
def meterPlaysRow : OpenClaim := { program := "ytkndnoccenlngaa", sum := "add164f86dcaaa8d81cd31cbb7fb834cb64fe23d6ffebb0d670f057a343242f3", func := "mizzen/mizzenlaw15.MeterPlays", spec := "meterPlays", inPlace := ["sync/atomic.AddInt64", "sync/atomic.LoadInt64", "sync/atomic.CompareAndSwapInt64", "sync/atomic.StoreInt64"], apart := false }
def MeterPlaysSaid : Prop := meterPlaysRow.holds Try.pinned (OpenSpec.ofChange meterPlaysSpec)

/-- ITS FALSE NEIGHBOUR: 'it returns false'. Refute it at one input. -/
def meterPlaysWrong : ChangeSpec := { name := "meterPlays", fn := fun _ => fun
  | [d1, d2, d3] => { results := [.lit (.bool false)], args := [d1, d2, d3] }
  | _ => none }
def MeterPlaysWrongFalsely : Prop := meterPlaysRow.holds Try.pinned (OpenSpec.ofChange meterPlaysWrong)

/-- 'mizzenlaw15.MeterKeeps': WHATEVER THE INPUT: true; the input reads as it did. -/
def meterKeepsSpec : ChangeSpec := { name := "meterKeeps", fn := fun _ => fun
  | [d1, d2, d3, d4] => { results := [.lit (.bool true)], args := [d1, d2, d3, d4] }
  | _ => none }
def meterKeepsRow : OpenClaim := { program := "ytkndnoccenlngaa", sum := "add164f86dcaaa8d81cd31cbb7fb834cb64fe23d6ffebb0d670f057a343242f3", func := "mizzen/mizzenlaw15.MeterKeeps", spec := "meterKeeps", inPlace := ["sync/atomic.AddInt64", "sync/atomic.LoadInt64", "sync/atomic.CompareAndSwapInt64", "sync/atomic.StoreInt64"], apart := false }
def MeterKeepsSaid : Prop := meterKeepsRow.holds Try.pinned (OpenSpec.ofChange meterKeepsSpec)

/-- ITS FALSE NEIGHBOUR: 'it returns false'. Refute it at one input. -/
def meterKeepsWrong : ChangeSpec := { name := "meterKeeps", fn := fun _ => fun
  | [d1, d2, d3, d4] => { results := [.lit (.bool false)], args := [d1, d2, d3, d4] }
  | _ => none }
def MeterKeepsWrongFalsely : Prop := meterKeepsRow.holds Try.pinned (OpenSpec.ofChange meterKeepsWrong)

/- THE SECOND FORM. 'bulk': how many values and letters a reading holds, each counted each time it is reached (what is shared counts as often as it is met; a slice's spare places count too). A statement '..UptoSaid' is the law's where the arguments, and the package variables that the reading takes, are together of bulk at most 1048576: NARROWER than '..Said'. Prove '..Said' where nothing that the law and all that it calls make is longer than what came in: it says more and counts as full. Else prove '..UptoSaid'. A law counts once. -/
mutual
def uptoBulk {H : Type} : DataW H → Nat
  | .lit (.string bytes) => bytes.length + 1
  | .lit _ => 1
  | .nil => 1
  | .ptr d => uptoBulk d + 1
  | .slice elems spare => uptoBulkAll elems + uptoBulkAll spare + 1
  | .agg parts => uptoBulkAll parts + 1
  | .iface _ d => uptoBulk d + 1
  | .map entries => uptoBulkEntries entries + 1
  | .held _ => 1
def uptoBulkAll {H : Type} : List (DataW H) → Nat
  | [] => 0
  | d :: r => uptoBulk d + uptoBulkAll r
def uptoBulkEntries {H : Type} : List (Lit × DataW H) → Nat
  | [] => 0
  | x :: r => uptoBulkEntry x + uptoBulkEntries r
def uptoBulkEntry {H : Type} : Lit × DataW H → Nat
  | (.string bytes, d) => bytes.length + uptoBulk d + 1
  | (_, d) => uptoBulk d + 1
 end
def uptoSmall : (H : Type) → List (DataW H) → Bool := fun _ ds => decide (uptoBulkAll ds ≤ 1048576)
def OpenSpec.upto (s : _root_.Go.ChangeSpec) : _root_.Go.OpenSpec := { _root_.Go.OpenSpec.ofChange s with cond := some uptoSmall }

/-- 'mizzenlaw15.MeterMany', WHERE WHAT IT READS IS OF BULK AT MOST 1048576: true; the input reads as it did. -/
def meterManyUptoRow : OpenClaim := { program := "ytkndnoccenlngaa", sum := "add164f86dcaaa8d81cd31cbb7fb834cb64fe23d6ffebb0d670f057a343242f3", func := "mizzen/mizzenlaw15.MeterMany", spec := "meterMany", inPlace := ["sync/atomic.AddInt64", "sync/atomic.LoadInt64", "sync/atomic.CompareAndSwapInt64"], unfollowed := true, recurses := true, apart := false, narrowed := true }
def MeterManyUptoSaid : Prop := meterManyUptoRow.holds Try.pinned (OpenSpec.upto meterManySpec)

/-- 'mizzenlaw15.MeterPlays', WHERE WHAT IT READS IS OF BULK AT MOST 1048576: true; the input reads as it did. -/
def meterPlaysUptoRow : OpenClaim := { program := "ytkndnoccenlngaa", sum := "add164f86dcaaa8d81cd31cbb7fb834cb64fe23d6ffebb0d670f057a343242f3", func := "mizzen/mizzenlaw15.MeterPlays", spec := "meterPlays", inPlace := ["sync/atomic.AddInt64", "sync/atomic.LoadInt64", "sync/atomic.CompareAndSwapInt64", "sync/atomic.StoreInt64"], apart := false, narrowed := true }
def MeterPlaysUptoSaid : Prop := meterPlaysUptoRow.holds Try.pinned (OpenSpec.upto meterPlaysSpec)

/-- 'mizzenlaw15.MeterKeeps', WHERE WHAT IT READS IS OF BULK AT MOST 1048576: true; the input reads as it did. -/
def meterKeepsUptoRow : OpenClaim := { program := "ytkndnoccenlngaa", sum := "add164f86dcaaa8d81cd31cbb7fb834cb64fe23d6ffebb0d670f057a343242f3", func := "mizzen/mizzenlaw15.MeterKeeps", spec := "meterKeeps", inPlace := ["sync/atomic.AddInt64", "sync/atomic.LoadInt64", "sync/atomic.CompareAndSwapInt64", "sync/atomic.StoreInt64"], apart := false, narrowed := true }
def MeterKeepsUptoSaid : Prop := meterKeepsUptoRow.holds Try.pinned (OpenSpec.upto meterKeepsSpec)

end Rows
end Go.Proofs.Ytkndnoccenlngaa
