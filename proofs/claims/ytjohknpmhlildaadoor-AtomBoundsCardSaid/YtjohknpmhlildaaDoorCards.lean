/-
  DERIVED. GIVEN WITH THE SEED: THE CARDS: each row of YtjohknpmhlildaaDoorRows.lean that lists a variable, with what it lists TIED to the program's text (the seventh form; the later family's looks); each row that meets fmt, with fmt's text TOLD by the authors' own Lean function (tested against real Go, not proved from fmt's source: count such statements apart). THE CARD IS WHAT COUNTS. Prove the row's statement (the work); the ties are given (YtjohknpmhlildaaDoorTie.lean); close each card by the builder's one call (the guide's Derived/Test/ToyasCard.lean, 'card_holds'). Laid BY PROGRAM, IN A SANDBOX (cutbox-door.mjs). By AI agents, Wed Nov 11 2026. No macro, syntax, notation, axiom, sorry.
-/
import Derived.Test.YtjohknpmhlildaaDoorRows
import GoSem.ClaimSeven
namespace Go.Proofs.YtjohknpmhlildaaDoor
namespace Rows

/-- THE TIED CARD OF 'sextantlaw3.AtomPlays'. -/
def atomPlaysCard : Claim7 := { stood := { row := atomPlaysRow, standIns := [], harness := (true, "abc16a1ec7bf849be58c8fc6a7d55c08b0e941ef9f962cdc0af3c44a05f29d7d"), looks := false }, kinds := [], alts := [], laidByText := true, laidKinds := [.data], laidTests := true, laidLooks := .later }
def AtomPlaysCardSaid : Prop := Claim7.holds Tryd.pinned (.plain (OpenSpec.ofChange atomPlaysSpec)) atomPlaysCard

/-- THE TIED CARD OF 'sextantlaw3.AtomLinear'. -/
def atomLinearCard : Claim7 := { stood := { row := atomLinearRow, standIns := [], harness := (true, "abc16a1ec7bf849be58c8fc6a7d55c08b0e941ef9f962cdc0af3c44a05f29d7d"), looks := false }, kinds := [], alts := [], laidByText := true, laidKinds := [.data], laidTests := true, laidLooks := .later }
def AtomLinearCardSaid : Prop := Claim7.holds Tryd.pinned (.plain (OpenSpec.ofChange atomLinearSpec)) atomLinearCard

/-- THE TIED CARD OF 'sextantlaw3.AtomAlone'. -/
def atomAloneCard : Claim7 := { stood := { row := atomAloneRow, standIns := [], harness := (true, "abc16a1ec7bf849be58c8fc6a7d55c08b0e941ef9f962cdc0af3c44a05f29d7d"), looks := false }, kinds := [], alts := [], laidByText := true, laidKinds := [.data], laidTests := true, laidLooks := .later }
def AtomAloneCardSaid : Prop := Claim7.holds Tryd.pinned (.plain (OpenSpec.ofChange atomAloneSpec)) atomAloneCard

/-- THE TIED CARD OF 'sextantlaw3.AtomBounds'. -/
def atomBoundsCard : Claim7 := { stood := { row := atomBoundsRow, standIns := [], harness := (true, "abc16a1ec7bf849be58c8fc6a7d55c08b0e941ef9f962cdc0af3c44a05f29d7d"), looks := false }, kinds := [], alts := [], laidByText := true, laidKinds := [.data], laidTests := true, laidLooks := .later }
def AtomBoundsCardSaid : Prop := Claim7.holds Tryd.pinned (.plain (OpenSpec.ofChange atomBoundsSpec)) atomBoundsCard

/-- THE TIED CARD OF 'sextantlaw3.AtomPicks'. -/
def atomPicksCard : Claim7 := { stood := { row := atomPicksRow, standIns := [], harness := (true, "abc16a1ec7bf849be58c8fc6a7d55c08b0e941ef9f962cdc0af3c44a05f29d7d"), looks := false }, kinds := [], alts := [], laidByText := true, laidKinds := [.data], laidTests := true, laidLooks := .later }
def AtomPicksCardSaid : Prop := Claim7.holds Tryd.pinned (.plain (OpenSpec.ofChange atomPicksSpec)) atomPicksCard

/-- THE SECOND FORM's CARD OF 'sextantlaw3.AtomPlays'. -/
def atomPlaysUptoCard : Claim7 := { stood := { row := atomPlaysUptoRow, standIns := [], harness := (true, "abc16a1ec7bf849be58c8fc6a7d55c08b0e941ef9f962cdc0af3c44a05f29d7d"), looks := false }, kinds := [], alts := [], laidByText := true, laidKinds := [.data], laidTests := true, laidLooks := .later }
def AtomPlaysUptoCardSaid : Prop := Claim7.holds Tryd.pinned (.plain (OpenSpec.upto atomPlaysSpec)) atomPlaysUptoCard

/-- THE SECOND FORM's CARD OF 'sextantlaw3.AtomLinear'. -/
def atomLinearUptoCard : Claim7 := { stood := { row := atomLinearUptoRow, standIns := [], harness := (true, "abc16a1ec7bf849be58c8fc6a7d55c08b0e941ef9f962cdc0af3c44a05f29d7d"), looks := false }, kinds := [], alts := [], laidByText := true, laidKinds := [.data], laidTests := true, laidLooks := .later }
def AtomLinearUptoCardSaid : Prop := Claim7.holds Tryd.pinned (.plain (OpenSpec.upto atomLinearSpec)) atomLinearUptoCard

/-- THE SECOND FORM's CARD OF 'sextantlaw3.AtomAlone'. -/
def atomAloneUptoCard : Claim7 := { stood := { row := atomAloneUptoRow, standIns := [], harness := (true, "abc16a1ec7bf849be58c8fc6a7d55c08b0e941ef9f962cdc0af3c44a05f29d7d"), looks := false }, kinds := [], alts := [], laidByText := true, laidKinds := [.data], laidTests := true, laidLooks := .later }
def AtomAloneUptoCardSaid : Prop := Claim7.holds Tryd.pinned (.plain (OpenSpec.upto atomAloneSpec)) atomAloneUptoCard

/-- THE SECOND FORM's CARD OF 'sextantlaw3.AtomBounds'. -/
def atomBoundsUptoCard : Claim7 := { stood := { row := atomBoundsUptoRow, standIns := [], harness := (true, "abc16a1ec7bf849be58c8fc6a7d55c08b0e941ef9f962cdc0af3c44a05f29d7d"), looks := false }, kinds := [], alts := [], laidByText := true, laidKinds := [.data], laidTests := true, laidLooks := .later }
def AtomBoundsUptoCardSaid : Prop := Claim7.holds Tryd.pinned (.plain (OpenSpec.upto atomBoundsSpec)) atomBoundsUptoCard

/-- THE SECOND FORM's CARD OF 'sextantlaw3.AtomPicks'. -/
def atomPicksUptoCard : Claim7 := { stood := { row := atomPicksUptoRow, standIns := [], harness := (true, "abc16a1ec7bf849be58c8fc6a7d55c08b0e941ef9f962cdc0af3c44a05f29d7d"), looks := false }, kinds := [], alts := [], laidByText := true, laidKinds := [.data], laidTests := true, laidLooks := .later }
def AtomPicksUptoCardSaid : Prop := Claim7.holds Tryd.pinned (.plain (OpenSpec.upto atomPicksSpec)) atomPicksUptoCard
end Rows
end Go.Proofs.YtjohknpmhlildaaDoor
