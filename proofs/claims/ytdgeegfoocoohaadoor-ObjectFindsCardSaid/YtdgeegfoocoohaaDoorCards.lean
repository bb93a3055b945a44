/-
  DERIVED. GIVEN WITH THE SEED: THE CARDS: each row of YtdgeegfoocoohaaDoorRows.lean that lists a variable, with what it lists TIED to the program's text (the seventh form; the later family's looks); each row that meets fmt, with fmt's text TOLD by the authors' own Lean function (tested against real Go, not proved from fmt's source: count such statements apart). THE CARD IS WHAT COUNTS. Prove the row's statement (the work); the ties are given (YtdgeegfoocoohaaDoorTie.lean); close each card by the builder's one call (the guide's Derived/Test/ToyasCard.lean, 'card_holds'). Laid BY PROGRAM, IN A SANDBOX (cutbox-door.mjs). By AI agents, Wed Nov 11 2026. No macro, syntax, notation, axiom, sorry.
-/
import Derived.Test.YtdgeegfoocoohaaDoorRows
import GoSem.ClaimSeven
namespace Go.Proofs.YtdgeegfoocoohaaDoor
namespace Rows

/-- THE TIED CARD OF 'mizzenlaw12.ObjectFinds'. -/
def objectFindsCard : Claim7 := { stood := { row := objectFindsRow, standIns := [], harness := (true, "4e0197720f9c0c935d817d792e80c29dfaf9eeb556aebbcee2ffcc3d30caf10e"), looks := false }, kinds := [], alts := [], laidByText := true, laidKinds := [.widerDeep], laidTests := true, laidLooks := .later }
def ObjectFindsCardSaid : Prop := Claim7.holds Tryd.pinned (.plain (OpenSpec.ofChange objectFindsSpec)) objectFindsCard

/-- THE SECOND FORM's CARD OF 'mizzenlaw12.ObjectFinds'. -/
def objectFindsUptoCard : Claim7 := { stood := { row := objectFindsUptoRow, standIns := [], harness := (true, "4e0197720f9c0c935d817d792e80c29dfaf9eeb556aebbcee2ffcc3d30caf10e"), looks := false }, kinds := [], alts := [], laidByText := true, laidKinds := [.widerDeep], laidTests := true, laidLooks := .later }
def ObjectFindsUptoCardSaid : Prop := Claim7.holds Tryd.pinned (.plain (OpenSpec.upto objectFindsSpec)) objectFindsUptoCard
end Rows
end Go.Proofs.YtdgeegfoocoohaaDoor
