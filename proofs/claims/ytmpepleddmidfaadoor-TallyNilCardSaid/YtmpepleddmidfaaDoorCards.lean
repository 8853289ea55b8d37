/-
  DERIVED. GIVEN WITH THE SEED: THE CARDS: each row of YtmpepleddmidfaaDoorRows.lean that lists a variable, with what it lists TIED to the program's text (the seventh form; the later family's looks); each row that meets fmt, with fmt's text TOLD by the authors' own Lean function (tested against real Go, not proved from fmt's source: count such statements apart). THE CARD IS WHAT COUNTS. Prove the row's statement (the work); the ties are given (YtmpepleddmidfaaDoorTie.lean); close each card by the builder's one call (the guide's Derived/Test/ToyasCard.lean, 'card_holds'). Laid BY PROGRAM, IN A SANDBOX (cutbox-door.mjs). By AI agents, Wed Nov 11 2026. No macro, syntax, notation, axiom, sorry.
-/
import Derived.Test.YtmpepleddmidfaaDoorRows
import GoSem.ClaimSeven
namespace Go.Proofs.YtmpepleddmidfaaDoor
namespace Rows

/-- THE TIED CARD OF 'cuneiformlaw23.EventMakes'. -/
def eventMakesCard : Claim7 := { stood := { row := eventMakesRow, standIns := [], harness := (true, "05b4acde93946fbc4e5bb058dea67de1f12f889be29e4c33d9ea79748127b8e7"), looks := true }, kinds := [], alts := [], laidByText := true, laidKinds := [.data, .data, .data], laidTests := true, laidLooks := .later }
def EventMakesCardSaid : Prop := Claim7.holds Tryd.pinned (.plain (OpenSpec.ofChange eventMakesSpec)) eventMakesCard

/-- THE TIED CARD OF 'cuneiformlaw25.TallyNil'. -/
def tallyNilCard : Claim7 := { stood := { row := tallyNilRow, standIns := [], harness := (true, "05b4acde93946fbc4e5bb058dea67de1f12f889be29e4c33d9ea79748127b8e7"), looks := true }, kinds := [], alts := [], laidByText := true, laidKinds := [.data, .data, .data], laidTests := true, laidLooks := .later }
def TallyNilCardSaid : Prop := Claim7.holds Tryd.pinned (.plain (OpenSpec.ofChange tallyNilSpec)) tallyNilCard

/-- THE TIED CARD OF 'cuneiformlaw25.TallyMerges'. -/
def tallyMergesCard : Claim7 := { stood := { row := tallyMergesRow, standIns := [], harness := (true, "05b4acde93946fbc4e5bb058dea67de1f12f889be29e4c33d9ea79748127b8e7"), looks := true }, kinds := [], alts := [], laidByText := true, laidKinds := [.data, .data, .data], laidTests := true, laidLooks := .later }
def TallyMergesCardSaid : Prop := Claim7.holds Tryd.pinned (.plain (OpenSpec.ofChange tallyMergesSpec)) tallyMergesCard

/-- THE TIED CARD OF 'cuneiformlaw29.DumpParses'. -/
def dumpParsesCard : Claim7 := { stood := { row := dumpParsesRow, standIns := [], harness := (true, "05b4acde93946fbc4e5bb058dea67de1f12f889be29e4c33d9ea79748127b8e7"), looks := true }, kinds := [], alts := [], laidByText := true, laidKinds := [.data, .data, .data, .data, .pinned], laidTests := true, laidLooks := .later }
def DumpParsesCardSaid : Prop := Claim7.holds Tryd.pinned (.plain (OpenSpec.ofChange dumpParsesSpec)) dumpParsesCard

/-- THE TIED CARD OF 'cuneiformlaw21.ConfParses'. -/
def confParsesCard : Claim7 := { stood := { row := confParsesRow, standIns := [], harness := (true, "05b4acde93946fbc4e5bb058dea67de1f12f889be29e4c33d9ea79748127b8e7"), looks := true }, kinds := [], alts := [], laidByText := true, laidKinds := [.data, .data, .data, .data, .sentinel, .sentinel, .pinned], laidTests := true, laidLooks := .later }
def ConfParsesCardSaid : Prop := Claim7.holds Tryd.pinned (.plain (OpenSpec.ofChange confParsesSpec)) confParsesCard

/-- THE TIED CARD OF 'cuneiformlaw26.NoiseRuns'. -/
def noiseRunsCard : Claim7 := { stood := { row := noiseRunsRow, standIns := [], harness := (true, "05b4acde93946fbc4e5bb058dea67de1f12f889be29e4c33d9ea79748127b8e7"), looks := true }, kinds := [], alts := [], laidByText := true, laidKinds := [.data, .data, .data, .data, .sentinel, .sentinel, .pinned], laidTests := true, laidLooks := .later }
def NoiseRunsCardSaid : Prop := Claim7.holds Tryd.pinned (.plain (OpenSpec.ofChange noiseRunsSpec)) noiseRunsCard

/-- THE TIED CARD OF 'cuneiformlaw21.ConfTells'. -/
def confTellsCard : Claim7 := { stood := { row := confTellsRow, standIns := [], harness := (true, "05b4acde93946fbc4e5bb058dea67de1f12f889be29e4c33d9ea79748127b8e7"), looks := true }, kinds := [], alts := [], laidByText := true, laidKinds := [.data, .data, .data, .data, .sentinel, .sentinel, .pinned], laidTests := true, laidLooks := .later }
def ConfTellsCardSaid : Prop := Claim7.holds Tryd.pinned (.plain (OpenSpec.ofChange confTellsSpec)) confTellsCard

/-- THE TIED CARD OF 'cuneiformlaw26.NoiseLines'. -/
def noiseLinesCard : Claim7 := { stood := { row := noiseLinesRow, standIns := [], harness := (true, "05b4acde93946fbc4e5bb058dea67de1f12f889be29e4c33d9ea79748127b8e7"), looks := true }, kinds := [], alts := [], laidByText := true, laidKinds := [.data, .data, .data, .data, .sentinel, .sentinel, .pinned], laidTests := true, laidLooks := .later }
def NoiseLinesCardSaid : Prop := Claim7.holds Tryd.pinned (.plain (OpenSpec.ofChange noiseLinesSpec)) noiseLinesCard

/-- THE TIED CARD OF 'cuneiformlaw26.NoiseParses'. -/
def noiseParsesCard : Claim7 := { stood := { row := noiseParsesRow, standIns := [], harness := (true, "05b4acde93946fbc4e5bb058dea67de1f12f889be29e4c33d9ea79748127b8e7"), looks := true }, kinds := [], alts := [], laidByText := true, laidKinds := [.data, .data, .data, .data, .sentinel, .sentinel, .pinned], laidTests := true, laidLooks := .later }
def NoiseParsesCardSaid : Prop := Claim7.holds Tryd.pinned (.plain (OpenSpec.ofChange noiseParsesSpec)) noiseParsesCard

/-- THE TIED CARD OF 'cuneiformlaw20.SayNumbers'. -/
def sayNumbersCard : Claim7 := { stood := { row := sayNumbersRow, standIns := [], harness := (true, "05b4acde93946fbc4e5bb058dea67de1f12f889be29e4c33d9ea79748127b8e7"), looks := true }, kinds := [], alts := [], laidByText := true, laidKinds := [.data, .data, .data, .data, .sentinel, .sentinel, .pinned], laidTests := true, laidLooks := .later }
def SayNumbersCardSaid : Prop := Claim7.holds Tryd.pinned (.plain (OpenSpec.ofChange sayNumbersSpec)) sayNumbersCard

/-- THE TIED CARD OF 'cuneiformlaw30.FleetOrder'. -/
def fleetOrderCard : Claim7 := { stood := { row := fleetOrderRow, standIns := [], harness := (true, "05b4acde93946fbc4e5bb058dea67de1f12f889be29e4c33d9ea79748127b8e7"), looks := true }, kinds := [], alts := [], laidByText := true, laidKinds := [.data, .data, .data], laidTests := true, laidLooks := .later }
def FleetOrderCardSaid : Prop := Claim7.holds Tryd.pinned (.plain (OpenSpec.ofChange fleetOrderSpec)) fleetOrderCard

/-- THE SECOND FORM's CARD OF 'cuneiformlaw23.EventMakes'. -/
def eventMakesUptoCard : Claim7 := { stood := { row := eventMakesUptoRow, standIns := [], harness := (true, "05b4acde93946fbc4e5bb058dea67de1f12f889be29e4c33d9ea79748127b8e7"), looks := true }, kinds := [], alts := [], laidByText := true, laidKinds := [.data, .data, .data], laidTests := true, laidLooks := .later }
def EventMakesUptoCardSaid : Prop := Claim7.holds Tryd.pinned (.plain (OpenSpec.upto eventMakesSpec)) eventMakesUptoCard

/-- THE SECOND FORM's CARD OF 'cuneiformlaw25.TallyNil'. -/
def tallyNilUptoCard : Claim7 := { stood := { row := tallyNilUptoRow, standIns := [], harness := (true, "05b4acde93946fbc4e5bb058dea67de1f12f889be29e4c33d9ea79748127b8e7"), looks := true }, kinds := [], alts := [], laidByText := true, laidKinds := [.data, .data, .data], laidTests := true, laidLooks := .later }
def TallyNilUptoCardSaid : Prop := Claim7.holds Tryd.pinned (.plain (OpenSpec.upto tallyNilSpec)) tallyNilUptoCard

/-- THE SECOND FORM's CARD OF 'cuneiformlaw25.TallyMerges'. -/
def tallyMergesUptoCard : Claim7 := { stood := { row := tallyMergesUptoRow, standIns := [], harness := (true, "05b4acde93946fbc4e5bb058dea67de1f12f889be29e4c33d9ea79748127b8e7"), looks := true }, kinds := [], alts := [], laidByText := true, laidKinds := [.data, .data, .data], laidTests := true, laidLooks := .later }
def TallyMergesUptoCardSaid : Prop := Claim7.holds Tryd.pinned (.plain (OpenSpec.upto tallyMergesSpec)) tallyMergesUptoCard

/-- THE SECOND FORM's CARD OF 'cuneiformlaw29.DumpParses'. -/
def dumpParsesUptoCard : Claim7 := { stood := { row := dumpParsesUptoRow, standIns := [], harness := (true, "05b4acde93946fbc4e5bb058dea67de1f12f889be29e4c33d9ea79748127b8e7"), looks := true }, kinds := [], alts := [], laidByText := true, laidKinds := [.data, .data, .data, .data, .pinned], laidTests := true, laidLooks := .later }
def DumpParsesUptoCardSaid : Prop := Claim7.holds Tryd.pinned (.plain (OpenSpec.upto dumpParsesSpec)) dumpParsesUptoCard

/-- THE SECOND FORM's CARD OF 'cuneiformlaw21.ConfParses'. -/
def confParsesUptoCard : Claim7 := { stood := { row := confParsesUptoRow, standIns := [], harness := (true, "05b4acde93946fbc4e5bb058dea67de1f12f889be29e4c33d9ea79748127b8e7"), looks := true }, kinds := [], alts := [], laidByText := true, laidKinds := [.data, .data, .data, .data, .sentinel, .sentinel, .pinned], laidTests := true, laidLooks := .later }
def ConfParsesUptoCardSaid : Prop := Claim7.holds Tryd.pinned (.plain (OpenSpec.upto confParsesSpec)) confParsesUptoCard

/-- THE SECOND FORM's CARD OF 'cuneiformlaw26.NoiseRuns'. -/
def noiseRunsUptoCard : Claim7 := { stood := { row := noiseRunsUptoRow, standIns := [], harness := (true, "05b4acde93946fbc4e5bb058dea67de1f12f889be29e4c33d9ea79748127b8e7"), looks := true }, kinds := [], alts := [], laidByText := true, laidKinds := [.data, .data, .data, .data, .sentinel, .sentinel, .pinned], laidTests := true, laidLooks := .later }
def NoiseRunsUptoCardSaid : Prop := Claim7.holds Tryd.pinned (.plain (OpenSpec.upto noiseRunsSpec)) noiseRunsUptoCard

/-- THE SECOND FORM's CARD OF 'cuneiformlaw21.ConfTells'. -/
def confTellsUptoCard : Claim7 := { stood := { row := confTellsUptoRow, standIns := [], harness := (true, "05b4acde93946fbc4e5bb058dea67de1f12f889be29e4c33d9ea79748127b8e7"), looks := true }, kinds := [], alts := [], laidByText := true, laidKinds := [.data, .data, .data, .data, .sentinel, .sentinel, .pinned], laidTests := true, laidLooks := .later }
def ConfTellsUptoCardSaid : Prop := Claim7.holds Tryd.pinned (.plain (OpenSpec.upto confTellsSpec)) confTellsUptoCard

/-- THE SECOND FORM's CARD OF 'cuneiformlaw26.NoiseLines'. -/
def noiseLinesUptoCard : Claim7 := { stood := { row := noiseLinesUptoRow, standIns := [], harness := (true, "05b4acde93946fbc4e5bb058dea67de1f12f889be29e4c33d9ea79748127b8e7"), looks := true }, kinds := [], alts := [], laidByText := true, laidKinds := [.data, .data, .data, .data, .sentinel, .sentinel, .pinned], laidTests := true, laidLooks := .later }
def NoiseLinesUptoCardSaid : Prop := Claim7.holds Tryd.pinned (.plain (OpenSpec.upto noiseLinesSpec)) noiseLinesUptoCard

/-- THE SECOND FORM's CARD OF 'cuneiformlaw26.NoiseParses'. -/
def noiseParsesUptoCard : Claim7 := { stood := { row := noiseParsesUptoRow, standIns := [], harness := (true, "05b4acde93946fbc4e5bb058dea67de1f12f889be29e4c33d9ea79748127b8e7"), looks := true }, kinds := [], alts := [], laidByText := true, laidKinds := [.data, .data, .data, .data, .sentinel, .sentinel, .pinned], laidTests := true, laidLooks := .later }
def NoiseParsesUptoCardSaid : Prop := Claim7.holds Tryd.pinned (.plain (OpenSpec.upto noiseParsesSpec)) noiseParsesUptoCard

/-- THE SECOND FORM's CARD OF 'cuneiformlaw20.SayNumbers'. -/
def sayNumbersUptoCard : Claim7 := { stood := { row := sayNumbersUptoRow, standIns := [], harness := (true, "05b4acde93946fbc4e5bb058dea67de1f12f889be29e4c33d9ea79748127b8e7"), looks := true }, kinds := [], alts := [], laidByText := true, laidKinds := [.data, .data, .data, .data, .sentinel, .sentinel, .pinned], laidTests := true, laidLooks := .later }
def SayNumbersUptoCardSaid : Prop := Claim7.holds Tryd.pinned (.plain (OpenSpec.upto sayNumbersSpec)) sayNumbersUptoCard

/-- THE SECOND FORM's CARD OF 'cuneiformlaw30.FleetOrder'. -/
def fleetOrderUptoCard : Claim7 := { stood := { row := fleetOrderUptoRow, standIns := [], harness := (true, "05b4acde93946fbc4e5bb058dea67de1f12f889be29e4c33d9ea79748127b8e7"), looks := true }, kinds := [], alts := [], laidByText := true, laidKinds := [.data, .data, .data], laidTests := true, laidLooks := .later }
def FleetOrderUptoCardSaid : Prop := Claim7.holds Tryd.pinned (.plain (OpenSpec.upto fleetOrderSpec)) fleetOrderUptoCard
end Rows
end Go.Proofs.YtmpepleddmidfaaDoor
