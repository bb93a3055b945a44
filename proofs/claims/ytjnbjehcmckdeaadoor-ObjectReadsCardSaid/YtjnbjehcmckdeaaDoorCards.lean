/-
  DERIVED. GIVEN WITH THE SEED: THE CARDS: each row of YtjnbjehcmckdeaaDoorRows.lean that lists a variable, with what it lists TIED to the program's text (the seventh form; the later family's looks); each row that meets fmt, with fmt's text TOLD by the authors' own Lean function (tested against real Go, not proved from fmt's source: count such statements apart). THE CARD IS WHAT COUNTS. Prove the row's statement (the work); the ties are given (YtjnbjehcmckdeaaDoorTie.lean); close each card by the builder's one call (the guide's Derived/Test/ToyasCard.lean, 'card_holds'). Laid BY PROGRAM, IN A SANDBOX (cutbox-door.mjs). By AI agents, Wed Nov 11 2026. No macro, syntax, notation, axiom, sorry.
-/
import Derived.Test.YtjnbjehcmckdeaaDoorRows
import GoSem.ClaimSeven
namespace Go.Proofs.YtjnbjehcmckdeaaDoor
namespace Rows

/-- THE TIED CARD OF 'mizzenlaw12.ObjectKeys'. -/
def objectKeysCard : Claim7 := { stood := { row := objectKeysRow, standIns := [], harness := (true, "459c3d60c330bf331c26fde285ee92f51a4a158d8387a76f92c7748abc199153"), looks := true }, kinds := [], alts := [], laidByText := true, laidKinds := [.widerDeep], laidTests := true, laidLooks := .later }
def ObjectKeysCardSaid : Prop := Claim7.holds Tryd.pinned (.plain (OpenSpec.ofChange objectKeysSpec)) objectKeysCard

/-- THE TIED CARD OF 'mizzenlaw12.ObjectFinds'. -/
def objectFindsCard : Claim7 := { stood := { row := objectFindsRow, standIns := [], harness := (true, "459c3d60c330bf331c26fde285ee92f51a4a158d8387a76f92c7748abc199153"), looks := true }, kinds := [], alts := [], laidByText := true, laidKinds := [.widerDeep], laidTests := true, laidLooks := .later }
def ObjectFindsCardSaid : Prop := Claim7.holds Tryd.pinned (.plain (OpenSpec.ofChange objectFindsSpec)) objectFindsCard

/-- THE TIED CARD OF 'mizzenlaw12.ObjectReads'. -/
def objectReadsCard : Claim7 := { stood := { row := objectReadsRow, standIns := [], harness := (true, "459c3d60c330bf331c26fde285ee92f51a4a158d8387a76f92c7748abc199153"), looks := true }, kinds := [], alts := [], laidByText := true, laidKinds := [.data, .widerDeep, .pinned], laidTests := true, laidLooks := .later }
def ObjectReadsCardSaid : Prop := Claim7.holds Tryd.pinned (.plain (OpenSpec.ofChange objectReadsSpec)) objectReadsCard

/-- THE TIED CARD OF 'mizzenlaw04.ScalarBares'. -/
def scalarBaresCard : Claim7 := { stood := { row := scalarBaresRow, standIns := [], harness := (true, "459c3d60c330bf331c26fde285ee92f51a4a158d8387a76f92c7748abc199153"), looks := true }, kinds := [], alts := [], laidByText := true, laidKinds := [.data, .data, .data, .sentinel, .sentinel], laidTests := true, laidLooks := .later }
def ScalarBaresCardSaid : Prop := Claim7.holds Tryd.pinned (.plain (OpenSpec.ofChange scalarBaresSpec)) scalarBaresCard

/-- THE TIED CARD OF 'mizzenlaw04.ScalarWords'. -/
def scalarWordsCard : Claim7 := { stood := { row := scalarWordsRow, standIns := [], harness := (true, "459c3d60c330bf331c26fde285ee92f51a4a158d8387a76f92c7748abc199153"), looks := true }, kinds := [], alts := [], laidByText := true, laidKinds := [.data, .data, .data, .sentinel, .sentinel], laidTests := true, laidLooks := .later }
def ScalarWordsCardSaid : Prop := Claim7.holds Tryd.pinned (.plain (OpenSpec.ofChange scalarWordsSpec)) scalarWordsCard

/-- THE TIED CARD OF 'mizzenlaw04.ScalarNumbers'. -/
def scalarNumbersCard : Claim7 := { stood := { row := scalarNumbersRow, standIns := [], harness := (true, "459c3d60c330bf331c26fde285ee92f51a4a158d8387a76f92c7748abc199153"), looks := true }, kinds := [], alts := [], laidByText := true, laidKinds := [.data, .data, .data, .sentinel, .sentinel], laidTests := true, laidLooks := .later }
def ScalarNumbersCardSaid : Prop := Claim7.holds Tryd.pinned (.plain (OpenSpec.ofChange scalarNumbersSpec)) scalarNumbersCard

/-- THE TIED CARD OF 'mizzenlaw02.PathWords'. -/
def pathWordsCard : Claim7 := { stood := { row := pathWordsRow, standIns := [], harness := (true, "459c3d60c330bf331c26fde285ee92f51a4a158d8387a76f92c7748abc199153"), looks := true }, kinds := [], alts := [], laidByText := true, laidKinds := [.data, .pinned], laidTests := true, laidLooks := .later }
def PathWordsCardSaid : Prop := Claim7.holds Tryd.pinned (.plain (OpenSpec.ofChange pathWordsSpec)) pathWordsCard

/-- THE TIED CARD OF 'mizzenlaw04.ScalarQuotes'. -/
def scalarQuotesCard : Claim7 := { stood := { row := scalarQuotesRow, standIns := [], harness := (true, "459c3d60c330bf331c26fde285ee92f51a4a158d8387a76f92c7748abc199153"), looks := true }, kinds := [], alts := [], laidByText := true, laidKinds := [.data, .data, .data, .sentinel, .sentinel], laidTests := true, laidLooks := .later }
def ScalarQuotesCardSaid : Prop := Claim7.holds Tryd.pinned (.plain (OpenSpec.ofChange scalarQuotesSpec)) scalarQuotesCard

/-- THE TIED CARD OF 'mizzenlaw04.ScalarBack'. -/
def scalarBackCard : Claim7 := { stood := { row := scalarBackRow, standIns := [], harness := (true, "459c3d60c330bf331c26fde285ee92f51a4a158d8387a76f92c7748abc199153"), looks := true }, kinds := [], alts := [], laidByText := true, laidKinds := [.data, .data, .data, .sentinel, .sentinel], laidTests := true, laidLooks := .later }
def ScalarBackCardSaid : Prop := Claim7.holds Tryd.pinned (.plain (OpenSpec.ofChange scalarBackSpec)) scalarBackCard

/-- THE SECOND FORM's CARD OF 'mizzenlaw12.ObjectKeys'. -/
def objectKeysUptoCard : Claim7 := { stood := { row := objectKeysUptoRow, standIns := [], harness := (true, "459c3d60c330bf331c26fde285ee92f51a4a158d8387a76f92c7748abc199153"), looks := true }, kinds := [], alts := [], laidByText := true, laidKinds := [.widerDeep], laidTests := true, laidLooks := .later }
def ObjectKeysUptoCardSaid : Prop := Claim7.holds Tryd.pinned (.plain (OpenSpec.upto objectKeysSpec)) objectKeysUptoCard

/-- THE SECOND FORM's CARD OF 'mizzenlaw12.ObjectFinds'. -/
def objectFindsUptoCard : Claim7 := { stood := { row := objectFindsUptoRow, standIns := [], harness := (true, "459c3d60c330bf331c26fde285ee92f51a4a158d8387a76f92c7748abc199153"), looks := true }, kinds := [], alts := [], laidByText := true, laidKinds := [.widerDeep], laidTests := true, laidLooks := .later }
def ObjectFindsUptoCardSaid : Prop := Claim7.holds Tryd.pinned (.plain (OpenSpec.upto objectFindsSpec)) objectFindsUptoCard

/-- THE SECOND FORM's CARD OF 'mizzenlaw12.ObjectReads'. -/
def objectReadsUptoCard : Claim7 := { stood := { row := objectReadsUptoRow, standIns := [], harness := (true, "459c3d60c330bf331c26fde285ee92f51a4a158d8387a76f92c7748abc199153"), looks := true }, kinds := [], alts := [], laidByText := true, laidKinds := [.data, .widerDeep, .pinned], laidTests := true, laidLooks := .later }
def ObjectReadsUptoCardSaid : Prop := Claim7.holds Tryd.pinned (.plain (OpenSpec.upto objectReadsSpec)) objectReadsUptoCard

/-- THE SECOND FORM's CARD OF 'mizzenlaw04.ScalarBares'. -/
def scalarBaresUptoCard : Claim7 := { stood := { row := scalarBaresUptoRow, standIns := [], harness := (true, "459c3d60c330bf331c26fde285ee92f51a4a158d8387a76f92c7748abc199153"), looks := true }, kinds := [], alts := [], laidByText := true, laidKinds := [.data, .data, .data, .sentinel, .sentinel], laidTests := true, laidLooks := .later }
def ScalarBaresUptoCardSaid : Prop := Claim7.holds Tryd.pinned (.plain (OpenSpec.upto scalarBaresSpec)) scalarBaresUptoCard

/-- THE SECOND FORM's CARD OF 'mizzenlaw04.ScalarWords'. -/
def scalarWordsUptoCard : Claim7 := { stood := { row := scalarWordsUptoRow, standIns := [], harness := (true, "459c3d60c330bf331c26fde285ee92f51a4a158d8387a76f92c7748abc199153"), looks := true }, kinds := [], alts := [], laidByText := true, laidKinds := [.data, .data, .data, .sentinel, .sentinel], laidTests := true, laidLooks := .later }
def ScalarWordsUptoCardSaid : Prop := Claim7.holds Tryd.pinned (.plain (OpenSpec.upto scalarWordsSpec)) scalarWordsUptoCard

/-- THE SECOND FORM's CARD OF 'mizzenlaw04.ScalarNumbers'. -/
def scalarNumbersUptoCard : Claim7 := { stood := { row := scalarNumbersUptoRow, standIns := [], harness := (true, "459c3d60c330bf331c26fde285ee92f51a4a158d8387a76f92c7748abc199153"), looks := true }, kinds := [], alts := [], laidByText := true, laidKinds := [.data, .data, .data, .sentinel, .sentinel], laidTests := true, laidLooks := .later }
def ScalarNumbersUptoCardSaid : Prop := Claim7.holds Tryd.pinned (.plain (OpenSpec.upto scalarNumbersSpec)) scalarNumbersUptoCard

/-- THE SECOND FORM's CARD OF 'mizzenlaw02.PathWords'. -/
def pathWordsUptoCard : Claim7 := { stood := { row := pathWordsUptoRow, standIns := [], harness := (true, "459c3d60c330bf331c26fde285ee92f51a4a158d8387a76f92c7748abc199153"), looks := true }, kinds := [], alts := [], laidByText := true, laidKinds := [.data, .pinned], laidTests := true, laidLooks := .later }
def PathWordsUptoCardSaid : Prop := Claim7.holds Tryd.pinned (.plain (OpenSpec.upto pathWordsSpec)) pathWordsUptoCard

/-- THE SECOND FORM's CARD OF 'mizzenlaw04.ScalarQuotes'. -/
def scalarQuotesUptoCard : Claim7 := { stood := { row := scalarQuotesUptoRow, standIns := [], harness := (true, "459c3d60c330bf331c26fde285ee92f51a4a158d8387a76f92c7748abc199153"), looks := true }, kinds := [], alts := [], laidByText := true, laidKinds := [.data, .data, .data, .sentinel, .sentinel], laidTests := true, laidLooks := .later }
def ScalarQuotesUptoCardSaid : Prop := Claim7.holds Tryd.pinned (.plain (OpenSpec.upto scalarQuotesSpec)) scalarQuotesUptoCard

/-- THE SECOND FORM's CARD OF 'mizzenlaw04.ScalarBack'. -/
def scalarBackUptoCard : Claim7 := { stood := { row := scalarBackUptoRow, standIns := [], harness := (true, "459c3d60c330bf331c26fde285ee92f51a4a158d8387a76f92c7748abc199153"), looks := true }, kinds := [], alts := [], laidByText := true, laidKinds := [.data, .data, .data, .sentinel, .sentinel], laidTests := true, laidLooks := .later }
def ScalarBackUptoCardSaid : Prop := Claim7.holds Tryd.pinned (.plain (OpenSpec.upto scalarBackSpec)) scalarBackUptoCard
end Rows
end Go.Proofs.YtjnbjehcmckdeaaDoor
