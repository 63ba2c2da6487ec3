/-
  DERIVED. GIVEN WITH THE SEED: THE CARDS: each row of YtnjocahkiodifaaDoorRows.lean that lists a variable, with what it lists TIED to the program's text (the seventh form; the later family's looks); each row that meets fmt, with fmt's text TOLD by the authors' own Lean function (tested against real Go, not proved from fmt's source: count such statements apart). THE CARD IS WHAT COUNTS. Prove the row's statement (the work); the ties are given (YtnjocahkiodifaaDoorTie.lean); close each card by the builder's one call (the guide's Derived/Test/ToyasCard.lean, 'card_holds'). Laid BY PROGRAM, IN A SANDBOX (cutbox-door.mjs). By AI agents, Wed Nov 11 2026. No macro, syntax, notation, axiom, sorry.
-/
import Derived.Test.YtnjocahkiodifaaDoorRows
import GoSem.ClaimSeven
namespace Go.Proofs.YtnjocahkiodifaaDoor
namespace Rows

/-- THE TIED CARD OF 'domesdaylaw05.StampJoins'. -/
def stampJoinsCard : Claim7 := { stood := { row := stampJoinsRow, standIns := [], harness := (true, "4243282af2323be20f583461e3a821127118a20745800cd353aeeba571f371a6"), looks := true }, kinds := [], alts := [], laidByText := true, laidKinds := [.data, .data, .data], laidTests := true, laidLooks := .later }
def StampJoinsCardSaid : Prop := Claim7.holds Tryd.pinned (.plain (OpenSpec.ofChange stampJoinsSpec)) stampJoinsCard

/-- THE TIED CARD OF 'domesdaylaw01.DigitsWrites'. -/
def digitsWritesCard : Claim7 := { stood := { row := digitsWritesRow, standIns := [], harness := (true, "4243282af2323be20f583461e3a821127118a20745800cd353aeeba571f371a6"), looks := true }, kinds := [], alts := [], laidByText := true, laidKinds := [.data, .data, .data, .sentinel, .sentinel], laidTests := true, laidLooks := .later }
def DigitsWritesCardSaid : Prop := Claim7.holds Tryd.pinned (.plain (OpenSpec.ofChange digitsWritesSpec)) digitsWritesCard

/-- THE TIED CARD OF 'domesdaylaw05.StampStyles'. -/
def stampStylesCard : Claim7 := { stood := { row := stampStylesRow, standIns := [], harness := (true, "4243282af2323be20f583461e3a821127118a20745800cd353aeeba571f371a6"), looks := true }, kinds := [], alts := [], laidByText := true, laidKinds := [.data, .data, .data], laidTests := true, laidLooks := .later }
def StampStylesCardSaid : Prop := Claim7.holds Tryd.pinned (.plain (OpenSpec.ofChange stampStylesSpec)) stampStylesCard

/-- THE TIED CARD OF 'domesdaylaw08.PathUp'. -/
def pathUpCard : Claim7 := { stood := { row := pathUpRow, standIns := [], harness := (true, "4243282af2323be20f583461e3a821127118a20745800cd353aeeba571f371a6"), looks := true }, kinds := [], alts := [], laidByText := true, laidKinds := [.data, .pinned], laidTests := true, laidLooks := .later }
def PathUpCardSaid : Prop := Claim7.holds Tryd.pinned (.plain (OpenSpec.ofChange pathUpSpec)) pathUpCard

/-- THE TIED CARD OF 'domesdaylaw08.PathMore'. -/
def pathMoreCard : Claim7 := { stood := { row := pathMoreRow, standIns := [], harness := (true, "4243282af2323be20f583461e3a821127118a20745800cd353aeeba571f371a6"), looks := true }, kinds := [], alts := [], laidByText := true, laidKinds := [.data, .pinned], laidTests := true, laidLooks := .later }
def PathMoreCardSaid : Prop := Claim7.holds Tryd.pinned (.plain (OpenSpec.ofChange pathMoreSpec)) pathMoreCard

/-- THE TIED CARD OF 'domesdaylaw08.PathLoops'. -/
def pathLoopsCard : Claim7 := { stood := { row := pathLoopsRow, standIns := [], harness := (true, "4243282af2323be20f583461e3a821127118a20745800cd353aeeba571f371a6"), looks := true }, kinds := [], alts := [], laidByText := true, laidKinds := [.data, .pinned], laidTests := true, laidLooks := .later }
def PathLoopsCardSaid : Prop := Claim7.holds Tryd.pinned (.plain (OpenSpec.ofChange pathLoopsSpec)) pathLoopsCard

/-- THE TIED CARD OF 'domesdaylaw12.RoamDepth'. -/
def roamDepthCard : Claim7 := { stood := { row := roamDepthRow, standIns := [], harness := (true, "4243282af2323be20f583461e3a821127118a20745800cd353aeeba571f371a6"), looks := true }, kinds := [], alts := [], laidByText := true, laidKinds := [.data, .pinned], laidTests := true, laidLooks := .later }
def RoamDepthCardSaid : Prop := Claim7.holds Tryd.pinned (.plain (OpenSpec.ofChange roamDepthSpec)) roamDepthCard

/-- THE TIED CARD OF 'domesdaylaw12.RoamOver'. -/
def roamOverCard : Claim7 := { stood := { row := roamOverRow, standIns := [], harness := (true, "4243282af2323be20f583461e3a821127118a20745800cd353aeeba571f371a6"), looks := true }, kinds := [], alts := [], laidByText := true, laidKinds := [.data, .pinned], laidTests := true, laidLooks := .later }
def RoamOverCardSaid : Prop := Claim7.holds Tryd.pinned (.plain (OpenSpec.ofChange roamOverSpec)) roamOverCard

/-- THE TIED CARD OF 'domesdaylaw09.RealFixed'. -/
def realFixedCard : Claim7 := { stood := { row := realFixedRow, standIns := [], harness := (true, "4243282af2323be20f583461e3a821127118a20745800cd353aeeba571f371a6"), looks := true }, kinds := [], alts := [], laidByText := true, laidKinds := [.data, .pinned], laidTests := true, laidLooks := .later }
def RealFixedCardSaid : Prop := Claim7.holds Tryd.pinned (.plain (OpenSpec.ofChange realFixedSpec)) realFixedCard

/-- THE SECOND FORM's CARD OF 'domesdaylaw05.StampJoins'. -/
def stampJoinsUptoCard : Claim7 := { stood := { row := stampJoinsUptoRow, standIns := [], harness := (true, "4243282af2323be20f583461e3a821127118a20745800cd353aeeba571f371a6"), looks := true }, kinds := [], alts := [], laidByText := true, laidKinds := [.data, .data, .data], laidTests := true, laidLooks := .later }
def StampJoinsUptoCardSaid : Prop := Claim7.holds Tryd.pinned (.plain (OpenSpec.upto stampJoinsSpec)) stampJoinsUptoCard

/-- THE SECOND FORM's CARD OF 'domesdaylaw01.DigitsWrites'. -/
def digitsWritesUptoCard : Claim7 := { stood := { row := digitsWritesUptoRow, standIns := [], harness := (true, "4243282af2323be20f583461e3a821127118a20745800cd353aeeba571f371a6"), looks := true }, kinds := [], alts := [], laidByText := true, laidKinds := [.data, .data, .data, .sentinel, .sentinel], laidTests := true, laidLooks := .later }
def DigitsWritesUptoCardSaid : Prop := Claim7.holds Tryd.pinned (.plain (OpenSpec.upto digitsWritesSpec)) digitsWritesUptoCard

/-- THE SECOND FORM's CARD OF 'domesdaylaw05.StampStyles'. -/
def stampStylesUptoCard : Claim7 := { stood := { row := stampStylesUptoRow, standIns := [], harness := (true, "4243282af2323be20f583461e3a821127118a20745800cd353aeeba571f371a6"), looks := true }, kinds := [], alts := [], laidByText := true, laidKinds := [.data, .data, .data], laidTests := true, laidLooks := .later }
def StampStylesUptoCardSaid : Prop := Claim7.holds Tryd.pinned (.plain (OpenSpec.upto stampStylesSpec)) stampStylesUptoCard

/-- THE SECOND FORM's CARD OF 'domesdaylaw08.PathUp'. -/
def pathUpUptoCard : Claim7 := { stood := { row := pathUpUptoRow, standIns := [], harness := (true, "4243282af2323be20f583461e3a821127118a20745800cd353aeeba571f371a6"), looks := true }, kinds := [], alts := [], laidByText := true, laidKinds := [.data, .pinned], laidTests := true, laidLooks := .later }
def PathUpUptoCardSaid : Prop := Claim7.holds Tryd.pinned (.plain (OpenSpec.upto pathUpSpec)) pathUpUptoCard

/-- THE SECOND FORM's CARD OF 'domesdaylaw08.PathMore'. -/
def pathMoreUptoCard : Claim7 := { stood := { row := pathMoreUptoRow, standIns := [], harness := (true, "4243282af2323be20f583461e3a821127118a20745800cd353aeeba571f371a6"), looks := true }, kinds := [], alts := [], laidByText := true, laidKinds := [.data, .pinned], laidTests := true, laidLooks := .later }
def PathMoreUptoCardSaid : Prop := Claim7.holds Tryd.pinned (.plain (OpenSpec.upto pathMoreSpec)) pathMoreUptoCard

/-- THE SECOND FORM's CARD OF 'domesdaylaw08.PathLoops'. -/
def pathLoopsUptoCard : Claim7 := { stood := { row := pathLoopsUptoRow, standIns := [], harness := (true, "4243282af2323be20f583461e3a821127118a20745800cd353aeeba571f371a6"), looks := true }, kinds := [], alts := [], laidByText := true, laidKinds := [.data, .pinned], laidTests := true, laidLooks := .later }
def PathLoopsUptoCardSaid : Prop := Claim7.holds Tryd.pinned (.plain (OpenSpec.upto pathLoopsSpec)) pathLoopsUptoCard

/-- THE SECOND FORM's CARD OF 'domesdaylaw12.RoamDepth'. -/
def roamDepthUptoCard : Claim7 := { stood := { row := roamDepthUptoRow, standIns := [], harness := (true, "4243282af2323be20f583461e3a821127118a20745800cd353aeeba571f371a6"), looks := true }, kinds := [], alts := [], laidByText := true, laidKinds := [.data, .pinned], laidTests := true, laidLooks := .later }
def RoamDepthUptoCardSaid : Prop := Claim7.holds Tryd.pinned (.plain (OpenSpec.upto roamDepthSpec)) roamDepthUptoCard

/-- THE SECOND FORM's CARD OF 'domesdaylaw12.RoamOver'. -/
def roamOverUptoCard : Claim7 := { stood := { row := roamOverUptoRow, standIns := [], harness := (true, "4243282af2323be20f583461e3a821127118a20745800cd353aeeba571f371a6"), looks := true }, kinds := [], alts := [], laidByText := true, laidKinds := [.data, .pinned], laidTests := true, laidLooks := .later }
def RoamOverUptoCardSaid : Prop := Claim7.holds Tryd.pinned (.plain (OpenSpec.upto roamOverSpec)) roamOverUptoCard

/-- THE SECOND FORM's CARD OF 'domesdaylaw09.RealFixed'. -/
def realFixedUptoCard : Claim7 := { stood := { row := realFixedUptoRow, standIns := [], harness := (true, "4243282af2323be20f583461e3a821127118a20745800cd353aeeba571f371a6"), looks := true }, kinds := [], alts := [], laidByText := true, laidKinds := [.data, .pinned], laidTests := true, laidLooks := .later }
def RealFixedUptoCardSaid : Prop := Claim7.holds Tryd.pinned (.plain (OpenSpec.upto realFixedSpec)) realFixedUptoCard
end Rows
end Go.Proofs.YtnjocahkiodifaaDoor
