/-
  DERIVED. GIVEN WITH THE SEED: THE CARDS: each row of YthhemdjggdgaaaaDoorRows.lean that lists a variable, with what it lists TIED to the program's text (the seventh form; the later family's looks); each row that meets fmt, with fmt's text TOLD by the authors' own Lean function (tested against real Go, not proved from fmt's source: count such statements apart). THE CARD IS WHAT COUNTS. Prove the row's statement (the work); the ties are given (YthhemdjggdgaaaaDoorTie.lean); close each card by the builder's one call (the guide's Derived/Test/ToyasCard.lean, 'card_holds'). Laid BY PROGRAM, IN A SANDBOX (cutbox-door.mjs). By AI agents, Wed Nov 11 2026. No macro, syntax, notation, axiom, sorry.
-/
import Derived.Test.YthhemdjggdgaaaaDoorRows
import GoSem.ClaimSeven
namespace Go.Proofs.YthhemdjggdgaaaaDoor
namespace Rows

/-- THE TIED CARD OF 'tansylaw16.RootDoes'. -/
def rootDoesCard : Claim7 := { stood := { row := rootDoesRow, standIns := [], harness := (true, "cdd5f00d42043bf0db205781ff6d9be3ff363814f96486b2ba7adbdb797a1ea3"), looks := false }, kinds := [], alts := [], laidByText := true, laidKinds := [.data], laidTests := true, laidLooks := .later }
def RootDoesCardSaid : Prop := Claim7.holds Tryd.pinned (.plain (OpenSpec.ofChange rootDoesSpec)) rootDoesCard

/-- THE TIED CARD OF 'tansylaw16.RootBack'. -/
def rootBackCard : Claim7 := { stood := { row := rootBackRow, standIns := [], harness := (true, "cdd5f00d42043bf0db205781ff6d9be3ff363814f96486b2ba7adbdb797a1ea3"), looks := false }, kinds := [], alts := [], laidByText := true, laidKinds := [.data], laidTests := true, laidLooks := .later }
def RootBackCardSaid : Prop := Claim7.holds Tryd.pinned (.plain (OpenSpec.ofChange rootBackSpec)) rootBackCard

/-- THE TIED CARD OF 'tansylaw16.RootFound'. -/
def rootFoundCard : Claim7 := { stood := { row := rootFoundRow, standIns := [], harness := (true, "cdd5f00d42043bf0db205781ff6d9be3ff363814f96486b2ba7adbdb797a1ea3"), looks := false }, kinds := [], alts := [], laidByText := true, laidKinds := [.data], laidTests := true, laidLooks := .later }
def RootFoundCardSaid : Prop := Claim7.holds Tryd.pinned (.plain (OpenSpec.ofChange rootFoundSpec)) rootFoundCard

/-- THE TIED CARD OF 'tansylaw16.RootGroups'. -/
def rootGroupsCard : Claim7 := { stood := { row := rootGroupsRow, standIns := [], harness := (true, "cdd5f00d42043bf0db205781ff6d9be3ff363814f96486b2ba7adbdb797a1ea3"), looks := false }, kinds := [], alts := [], laidByText := true, laidKinds := [.data], laidTests := true, laidLooks := .later }
def RootGroupsCardSaid : Prop := Claim7.holds Tryd.pinned (.plain (OpenSpec.ofChange rootGroupsSpec)) rootGroupsCard

/-- THE TIED CARD OF 'tansylaw16.RootTorn'. -/
def rootTornCard : Claim7 := { stood := { row := rootTornRow, standIns := [], harness := (true, "cdd5f00d42043bf0db205781ff6d9be3ff363814f96486b2ba7adbdb797a1ea3"), looks := false }, kinds := [], alts := [], laidByText := true, laidKinds := [.data], laidTests := true, laidLooks := .later }
def RootTornCardSaid : Prop := Claim7.holds Tryd.pinned (.plain (OpenSpec.ofChange rootTornSpec)) rootTornCard

/-- THE SECOND FORM's CARD OF 'tansylaw16.RootDoes'. -/
def rootDoesUptoCard : Claim7 := { stood := { row := rootDoesUptoRow, standIns := [], harness := (true, "cdd5f00d42043bf0db205781ff6d9be3ff363814f96486b2ba7adbdb797a1ea3"), looks := false }, kinds := [], alts := [], laidByText := true, laidKinds := [.data], laidTests := true, laidLooks := .later }
def RootDoesUptoCardSaid : Prop := Claim7.holds Tryd.pinned (.plain (OpenSpec.upto rootDoesSpec)) rootDoesUptoCard

/-- THE SECOND FORM's CARD OF 'tansylaw16.RootBack'. -/
def rootBackUptoCard : Claim7 := { stood := { row := rootBackUptoRow, standIns := [], harness := (true, "cdd5f00d42043bf0db205781ff6d9be3ff363814f96486b2ba7adbdb797a1ea3"), looks := false }, kinds := [], alts := [], laidByText := true, laidKinds := [.data], laidTests := true, laidLooks := .later }
def RootBackUptoCardSaid : Prop := Claim7.holds Tryd.pinned (.plain (OpenSpec.upto rootBackSpec)) rootBackUptoCard

/-- THE SECOND FORM's CARD OF 'tansylaw16.RootFound'. -/
def rootFoundUptoCard : Claim7 := { stood := { row := rootFoundUptoRow, standIns := [], harness := (true, "cdd5f00d42043bf0db205781ff6d9be3ff363814f96486b2ba7adbdb797a1ea3"), looks := false }, kinds := [], alts := [], laidByText := true, laidKinds := [.data], laidTests := true, laidLooks := .later }
def RootFoundUptoCardSaid : Prop := Claim7.holds Tryd.pinned (.plain (OpenSpec.upto rootFoundSpec)) rootFoundUptoCard

/-- THE SECOND FORM's CARD OF 'tansylaw16.RootGroups'. -/
def rootGroupsUptoCard : Claim7 := { stood := { row := rootGroupsUptoRow, standIns := [], harness := (true, "cdd5f00d42043bf0db205781ff6d9be3ff363814f96486b2ba7adbdb797a1ea3"), looks := false }, kinds := [], alts := [], laidByText := true, laidKinds := [.data], laidTests := true, laidLooks := .later }
def RootGroupsUptoCardSaid : Prop := Claim7.holds Tryd.pinned (.plain (OpenSpec.upto rootGroupsSpec)) rootGroupsUptoCard

/-- THE SECOND FORM's CARD OF 'tansylaw16.RootTorn'. -/
def rootTornUptoCard : Claim7 := { stood := { row := rootTornUptoRow, standIns := [], harness := (true, "cdd5f00d42043bf0db205781ff6d9be3ff363814f96486b2ba7adbdb797a1ea3"), looks := false }, kinds := [], alts := [], laidByText := true, laidKinds := [.data], laidTests := true, laidLooks := .later }
def RootTornUptoCardSaid : Prop := Claim7.holds Tryd.pinned (.plain (OpenSpec.upto rootTornSpec)) rootTornUptoCard
end Rows
end Go.Proofs.YthhemdjggdgaaaaDoor
