/- The frame of a law whose card is tied: as XFrame's, with the world's shape and the listed variables handed to the walk. -/
import Derived.Test.YtgbbojnigicnoaaDoorFrame
import Derived.Test.YtgbbojnigicnoaaDoorCards
import Derived.Test.YtgbbojnigicnoaaDoorTie
import Derived.HandedShaped
import Derived.Lay
import Derived.LaidOnce
import Derived.SevenTiedAt
import Derived.Shelf.Vars
namespace Go.Proofs.YtgbbojnigicnoaaDoor
open Go.ChangeShapes Go.WideShapes Go.ChangeAt Go.RowKit

set_option maxRecDepth 100000 in
/-- A tied law's row step: the walk is asked of every world of the form's shape in which the listed variables read as listed and the arguments read as data within the form's reach. -/
theorem lifted_tied {f : FuncId} {fn : Func} {s : ChangeSpec} {tb : TypeId} {laid : List (String × DataW Unit)} (os : Os) (started : os.Started) (H : Type) (enc : TypeId × Value → H)
    (noInit : Tryd.checked.prog.inits.idxOf? f = none) (hfn : Tryd.checked.prog.funcs[f]? = some fn)
    (witness : ∃ (w : World) (tape : Tape) (i : Input), w.os = os ∧ (w.forCall tape i).Shaped Tryd.checked.prog ∧ i.vars = [] ∧ Input.okWide Tryd.checked.prog (w.forCall tape i) .any w.heap.size f i ∧
      ((s.pre enc Tryd.checked.prog fn [] false (w.forCall tape i).memory i.args ∧ laidMetH Tryd.prog laid (w.forCall tape i).memory) ∧ sizedMet enc Tryd.checked.prog fn (OpenSpec.ofChange s) false (w.forCall tape i).memory i.args) ∧ ({} : Assume).holds Tryd.checked.prog (lone (Frame.enter Tryd.checked.prog f i.args .normal) [] (w.forCall tape i)))
    (hr0 : fn.params.toList.all (fun t => Tryd.prog.readableRec t && decide (t < Tryd.prog.types.size)) = true) (hv : s.vars = []) (hb : fn.resultTypes = #[tb]) (ub : Tryd.prog.underlying tb = some .bool)
    (hsp : ∀ ds : List (DataW H), ds.length = fn.params.size → s.fn H ds = { results := [.lit (.bool true)], args := ds })
    (walk : ∀ (W : World) (base : Nat) (args : Array Value) (ds : List (DataW H)) (p : List MemPlace),
      (∀ (j : Nat) t v, fn.params[j]? = some t → args[j]? = some v → Value.okWide Tryd.prog W .any base t v) →
      DataW.TrodAll enc Tryd.prog W 0 (fun _ => true) true fn.params.toList args.toList ds p →
      (DataW.weightsEach Tryd.prog fn.params.toList ds).all (· ≤ reachBytes) = true → W.ShapedOpen Tryd.prog → laidMetH Tryd.prog laid W →
      Calls Tryd.prog f args W fun e w' => e = .returned (.bool true) ∧ Below W.heap.size W w') :
    ReturnsInHanded {} Tryd.checked os f .any (fun w args => (s.pre enc Tryd.prog fn [] false w args ∧ laidMetH Tryd.prog laid w) ∧ sizedMet enc Tryd.prog fn (OpenSpec.ofChange s) false w args) (s.post enc Tryd.prog fn false true false false) := by
  have hr : ∀ t ∈ fn.params.toList, Tryd.prog.readableRec t = true ∧ t < Tryd.prog.types.size := fun t ht => by
    have := List.all_eq_true.1 hr0 t ht
    simpa using this
  refine returnsInHanded_of_calls own started noInit witness ?_
  intro w tape i _ hsh _ hok hpre hholds
  obtain ⟨_, _, _, fn', hfn', _, _, _, _, hval⟩ := hok
  have e : fn' = fn := Option.some.inj (hfn'.symm.trans hfn)
  subst e
  obtain ⟨⟨⟨ds, gs, before, hw, hc⟩, hx⟩, hz⟩ := hpre
  have hW : DataW.Whole enc Tryd.prog fn'.params.toList s.vars false (w.forCall tape i) i.args.toList ds gs before := DataW.Whole.of_heap (w' := w.forCall tape i) (by rfl) hw
  have hsz : (DataW.weightsEach Tryd.prog (fn'.params.toList ++ s.plain.varTypes Tryd.prog) (ds ++ gs)).all (· ≤ reachBytes) = true := hz.weights hw
  have hL : laidMetH Tryd.prog laid (w.forCall tape i) := hx.of_heap (by rfl)
  have hW' := hW
  obtain ⟨p, q, hA, hV, rfl, hfz, hnd⟩ := hW
  rw [hv] at hV
  obtain ⟨rfl, rfl⟩ := trodVars_none hV
  have hlen : ds.length = fn'.params.size := by
    have : ∀ {W : World} {ts : List TypeId} {vs : List Value} {ds : List (DataW H)} {ps : List MemPlace}, DataW.TrodAll enc Tryd.prog W 0 (fun _ => true) true ts vs ds ps → ds.length = ts.length := by
      intro W ts
      induction ts with
      | nil =>
        intro vs ds ps h
        match vs, ds, h with
        | [], [], _ => rfl
      | cons t ts ih =>
        intro vs ds ps h
        match vs, ds, h with
        | v :: vs, d :: ds, h =>
          obtain ⟨p, q, _, h2, rfl⟩ := h
          simp [ih h2]
    simpa using this hA
  have hsz' : (DataW.weightsEach Tryd.prog fn'.params.toList ds).all (· ≤ reachBytes) = true := by
    have h := hsz
    simp only [ChangeSpec.plain, DataSpec.varTypes, hv, List.filterMap_nil, List.append_nil] at h
    exact h
  refine (walk (w.forCall tape i) w.heap.size i.args ds p hval hA hsz' hsh hL).mono fun e W' ⟨he, hbl⟩ => ?_
  subst he
  exact ChangeSpec.post_blind (post_law laidOut hr hv hb ub (by rw [List.append_nil]; exact hsp ds hlen) hW' hbl)

end Go.Proofs.YtgbbojnigicnoaaDoor
