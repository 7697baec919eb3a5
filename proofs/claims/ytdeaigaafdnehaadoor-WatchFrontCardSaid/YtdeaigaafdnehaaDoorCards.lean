/-
  DERIVED. GIVEN WITH THE SEED: THE CARDS: each row of YtdeaigaafdnehaaDoorRows.lean that lists a variable, with what it lists TIED to the program's text (the seventh form; the later family's looks); each row that meets fmt, with fmt's text TOLD by the authors' own Lean function (tested against real Go, not proved from fmt's source: count such statements apart). THE CARD IS WHAT COUNTS. Prove the row's statement (the work); the ties are given (YtdeaigaafdnehaaDoorTie.lean); close each card by the builder's one call (the guide's Derived/Test/ToyasCard.lean, 'card_holds'). Laid BY PROGRAM, IN A SANDBOX (cutbox-door.mjs). By AI agents, Wed Nov 11 2026. No macro, syntax, notation, axiom, sorry.
-/
import Derived.Test.YtdeaigaafdnehaaDoorRows
import GoSem.ClaimSeven
namespace Go.Proofs.YtdeaigaafdnehaaDoor
namespace Rows

/-- THE TIED CARD OF 'ostinatolaw26.WatchRows'. -/
def watchRowsCard : Claim7 := { stood := { row := watchRowsRow, standIns := [], harness := (true, "1e69dd91ff1125ae135d52bd2a4ec6b0c74aaf1be4884cdad21fa8ea37581dcc"), looks := false }, kinds := [], alts := [], laidByText := true, laidKinds := [.data, .pinned], laidTests := true, laidLooks := .later }
def WatchRowsCardSaid : Prop := Claim7.holds Tryd.pinned (.plain (OpenSpec.ofChange watchRowsSpec)) watchRowsCard

/-- THE TIED CARD OF 'ostinatolaw26.WatchFront'. -/
def watchFrontCard : Claim7 := { stood := { row := watchFrontRow, standIns := [], harness := (true, "1e69dd91ff1125ae135d52bd2a4ec6b0c74aaf1be4884cdad21fa8ea37581dcc"), looks := false }, kinds := [], alts := [], laidByText := true, laidKinds := [.data, .pinned], laidTests := true, laidLooks := .later }
def WatchFrontCardSaid : Prop := Claim7.holds Tryd.pinned (.plain (OpenSpec.ofChange watchFrontSpec)) watchFrontCard

/-- THE TIED CARD OF 'ostinatolaw26.WatchErrors'. -/
def watchErrorsCard : Claim7 := { stood := { row := watchErrorsRow, standIns := [], harness := (true, "1e69dd91ff1125ae135d52bd2a4ec6b0c74aaf1be4884cdad21fa8ea37581dcc"), looks := false }, kinds := [], alts := [], laidByText := true, laidKinds := [.data, .pinned], laidTests := true, laidLooks := .later }
def WatchErrorsCardSaid : Prop := Claim7.holds Tryd.pinned (.plain (OpenSpec.ofChange watchErrorsSpec)) watchErrorsCard

/-- THE TIED CARD OF 'ostinatolaw26.WatchBeats'. -/
def watchBeatsCard : Claim7 := { stood := { row := watchBeatsRow, standIns := [], harness := (true, "1e69dd91ff1125ae135d52bd2a4ec6b0c74aaf1be4884cdad21fa8ea37581dcc"), looks := false }, kinds := [], alts := [], laidByText := true, laidKinds := [.data, .pinned], laidTests := true, laidLooks := .later }
def WatchBeatsCardSaid : Prop := Claim7.holds Tryd.pinned (.plain (OpenSpec.ofChange watchBeatsSpec)) watchBeatsCard

/-- THE SECOND FORM's CARD OF 'ostinatolaw26.WatchRows'. -/
def watchRowsUptoCard : Claim7 := { stood := { row := watchRowsUptoRow, standIns := [], harness := (true, "1e69dd91ff1125ae135d52bd2a4ec6b0c74aaf1be4884cdad21fa8ea37581dcc"), looks := false }, kinds := [], alts := [], laidByText := true, laidKinds := [.data, .pinned], laidTests := true, laidLooks := .later }
def WatchRowsUptoCardSaid : Prop := Claim7.holds Tryd.pinned (.plain (OpenSpec.upto watchRowsSpec)) watchRowsUptoCard

/-- THE SECOND FORM's CARD OF 'ostinatolaw26.WatchFront'. -/
def watchFrontUptoCard : Claim7 := { stood := { row := watchFrontUptoRow, standIns := [], harness := (true, "1e69dd91ff1125ae135d52bd2a4ec6b0c74aaf1be4884cdad21fa8ea37581dcc"), looks := false }, kinds := [], alts := [], laidByText := true, laidKinds := [.data, .pinned], laidTests := true, laidLooks := .later }
def WatchFrontUptoCardSaid : Prop := Claim7.holds Tryd.pinned (.plain (OpenSpec.upto watchFrontSpec)) watchFrontUptoCard

/-- THE SECOND FORM's CARD OF 'ostinatolaw26.WatchErrors'. -/
def watchErrorsUptoCard : Claim7 := { stood := { row := watchErrorsUptoRow, standIns := [], harness := (true, "1e69dd91ff1125ae135d52bd2a4ec6b0c74aaf1be4884cdad21fa8ea37581dcc"), looks := false }, kinds := [], alts := [], laidByText := true, laidKinds := [.data, .pinned], laidTests := true, laidLooks := .later }
def WatchErrorsUptoCardSaid : Prop := Claim7.holds Tryd.pinned (.plain (OpenSpec.upto watchErrorsSpec)) watchErrorsUptoCard

/-- THE SECOND FORM's CARD OF 'ostinatolaw26.WatchBeats'. -/
def watchBeatsUptoCard : Claim7 := { stood := { row := watchBeatsUptoRow, standIns := [], harness := (true, "1e69dd91ff1125ae135d52bd2a4ec6b0c74aaf1be4884cdad21fa8ea37581dcc"), looks := false }, kinds := [], alts := [], laidByText := true, laidKinds := [.data, .pinned], laidTests := true, laidLooks := .later }
def WatchBeatsUptoCardSaid : Prop := Claim7.holds Tryd.pinned (.plain (OpenSpec.upto watchBeatsSpec)) watchBeatsUptoCard
end Rows
end Go.Proofs.YtdeaigaafdnehaaDoor
