/-
  DERIVED. GIVEN WITH THE SEED: THE CARDS: each row of YtageielcdebjlaaGreatDoorRows.lean that lists a variable, with what it lists TIED to the program's text (the seventh form; the later family's looks); each row that meets fmt, with fmt's text TOLD by the authors' own Lean function (tested against real Go, not proved from fmt's source: count such statements apart). THE CARD IS WHAT COUNTS. Prove the row's statement (the work); the ties are given (YtageielcdebjlaaGreatDoorTie.lean); close each card by the builder's one call (the guide's Derived/Test/ToyasCard.lean, 'card_holds'). Laid BY PROGRAM, IN A SANDBOX (cutbox-door.mjs). By AI agents, Wed Nov 11 2026. No macro, syntax, notation, axiom, sorry.
-/
import Derived.Test.YtageielcdebjlaaGreatDoorRows
import GoSem.ClaimSeven
namespace Go.Proofs.YtageielcdebjlaaGreatDoor
namespace Rows

/-- THE TIED CARD OF 'timetablelaw41.SubscriberMerges'. -/
def subscriberMergesCard : Claim7 := { stood := { row := subscriberMergesRow, standIns := [], harness := (true, "07ddf99c5924eda806e62948dbf932d557c94846eb02d5445fabf3621cc05926"), looks := true }, kinds := [], alts := [], laidByText := true, laidKinds := [.data, .data, .data], laidTests := true, laidLooks := .later }
def SubscriberMergesCardSaid : Prop := Claim7.holds Tryz.pinned (.plain (OpenSpec.ofChange subscriberMergesSpec)) subscriberMergesCard

/-- THE TIED CARD OF 'timetablelaw41.SubscriberStill'. -/
def subscriberStillCard : Claim7 := { stood := { row := subscriberStillRow, standIns := [], harness := (true, "07ddf99c5924eda806e62948dbf932d557c94846eb02d5445fabf3621cc05926"), looks := true }, kinds := [], alts := [], laidByText := true, laidKinds := [.data, .data, .data], laidTests := true, laidLooks := .later }
def SubscriberStillCardSaid : Prop := Claim7.holds Tryz.pinned (.plain (OpenSpec.ofChange subscriberStillSpec)) subscriberStillCard

/-- THE TIED CARD OF 'timetablelaw41.SubscriberAgenda'. -/
def subscriberAgendaCard : Claim7 := { stood := { row := subscriberAgendaRow, standIns := [], harness := (true, "07ddf99c5924eda806e62948dbf932d557c94846eb02d5445fabf3621cc05926"), looks := true }, kinds := [], alts := [], laidByText := true, laidKinds := [.data, .data, .data], laidTests := true, laidLooks := .later }
def SubscriberAgendaCardSaid : Prop := Claim7.holds Tryz.pinned (.plain (OpenSpec.ofChange subscriberAgendaSpec)) subscriberAgendaCard

/-- THE TIED CARD OF 'timetablelaw40.FeedEscapes'. -/
def feedEscapesCard : Claim7 := { stood := { row := feedEscapesRow, standIns := [], harness := (true, "07ddf99c5924eda806e62948dbf932d557c94846eb02d5445fabf3621cc05926"), looks := true }, kinds := [], alts := [], laidByText := true, laidKinds := [.data, .data, .data, .data, .data, .sentinel, .sentinel, .pinned], laidTests := true, laidLooks := .later }
def FeedEscapesCardSaid : Prop := Claim7.holds Tryz.pinned (.plain (OpenSpec.ofChange feedEscapesSpec)) feedEscapesCard

/-- THE TIED CARD OF 'timetablelaw40.FeedTexts'. -/
def feedTextsCard : Claim7 := { stood := { row := feedTextsRow, standIns := [], harness := (true, "07ddf99c5924eda806e62948dbf932d557c94846eb02d5445fabf3621cc05926"), looks := true }, kinds := [], alts := [], laidByText := true, laidKinds := [.data, .data, .data, .data, .data, .sentinel, .sentinel, .pinned], laidTests := true, laidLooks := .later }
def FeedTextsCardSaid : Prop := Claim7.holds Tryz.pinned (.plain (OpenSpec.ofChange feedTextsSpec)) feedTextsCard

/-- THE TIED CARD OF 'timetablelaw40.FeedFormats'. -/
def feedFormatsCard : Claim7 := { stood := { row := feedFormatsRow, standIns := [], harness := (true, "07ddf99c5924eda806e62948dbf932d557c94846eb02d5445fabf3621cc05926"), looks := true }, kinds := [], alts := [], laidByText := true, laidKinds := [.data, .data, .data, .data, .data, .sentinel, .sentinel, .pinned], laidTests := true, laidLooks := .later }
def FeedFormatsCardSaid : Prop := Claim7.holds Tryz.pinned (.plain (OpenSpec.ofChange feedFormatsSpec)) feedFormatsCard

/-- THE TIED CARD OF 'timetablelaw40.FeedReads'. -/
def feedReadsCard : Claim7 := { stood := { row := feedReadsRow, standIns := [], harness := (true, "07ddf99c5924eda806e62948dbf932d557c94846eb02d5445fabf3621cc05926"), looks := true }, kinds := [], alts := [], laidByText := true, laidKinds := [.data, .data, .data, .data, .data, .sentinel, .sentinel, .pinned], laidTests := true, laidLooks := .later }
def FeedReadsCardSaid : Prop := Claim7.holds Tryz.pinned (.plain (OpenSpec.ofChange feedReadsSpec)) feedReadsCard

/-- THE TIED CARD OF 'timetablelaw40.FeedStarts'. -/
def feedStartsCard : Claim7 := { stood := { row := feedStartsRow, standIns := [], harness := (true, "07ddf99c5924eda806e62948dbf932d557c94846eb02d5445fabf3621cc05926"), looks := true }, kinds := [], alts := [], laidByText := true, laidKinds := [.data, .data, .data, .data, .data, .sentinel, .sentinel, .pinned], laidTests := true, laidLooks := .later }
def FeedStartsCardSaid : Prop := Claim7.holds Tryz.pinned (.plain (OpenSpec.ofChange feedStartsSpec)) feedStartsCard

/-- THE TIED CARD OF 'timetablelaw41.SubscriberOnce'. -/
def subscriberOnceCard : Claim7 := { stood := { row := subscriberOnceRow, standIns := [], harness := (true, "07ddf99c5924eda806e62948dbf932d557c94846eb02d5445fabf3621cc05926"), looks := true }, kinds := [], alts := [], laidByText := true, laidKinds := [.data, .data, .data], laidTests := true, laidLooks := .later }
def SubscriberOnceCardSaid : Prop := Claim7.holds Tryz.pinned (.plain (OpenSpec.ofChange subscriberOnceSpec)) subscriberOnceCard

/-- THE TIED CARD OF 'timetablelaw40.FeedEvents'. -/
def feedEventsCard : Claim7 := { stood := { row := feedEventsRow, standIns := [], harness := (true, "07ddf99c5924eda806e62948dbf932d557c94846eb02d5445fabf3621cc05926"), looks := true }, kinds := [], alts := [], laidByText := true, laidKinds := [.data, .data, .data, .data, .data, .sentinel, .sentinel, .pinned], laidTests := true, laidLooks := .later }
def FeedEventsCardSaid : Prop := Claim7.holds Tryz.pinned (.plain (OpenSpec.ofChange feedEventsSpec)) feedEventsCard

/-- THE TIED CARD OF 'timetablelaw40.FeedShows'. -/
def feedShowsCard : Claim7 := { stood := { row := feedShowsRow, standIns := [], harness := (true, "07ddf99c5924eda806e62948dbf932d557c94846eb02d5445fabf3621cc05926"), looks := true }, kinds := [], alts := [], laidByText := true, laidKinds := [.data, .data, .data, .data, .data, .sentinel, .sentinel, .pinned], laidTests := true, laidLooks := .later }
def FeedShowsCardSaid : Prop := Claim7.holds Tryz.pinned (.plain (OpenSpec.ofChange feedShowsSpec)) feedShowsCard

/-- THE TIED CARD OF 'timetablelaw40.FeedMakes'. -/
def feedMakesCard : Claim7 := { stood := { row := feedMakesRow, standIns := [], harness := (true, "07ddf99c5924eda806e62948dbf932d557c94846eb02d5445fabf3621cc05926"), looks := true }, kinds := [], alts := [], laidByText := true, laidKinds := [.data, .data, .data, .data, .data, .sentinel, .sentinel, .pinned], laidTests := true, laidLooks := .later }
def FeedMakesCardSaid : Prop := Claim7.holds Tryz.pinned (.plain (OpenSpec.ofChange feedMakesSpec)) feedMakesCard

/-- THE SECOND FORM's CARD OF 'timetablelaw41.SubscriberMerges'. -/
def subscriberMergesUptoCard : Claim7 := { stood := { row := subscriberMergesUptoRow, standIns := [], harness := (true, "07ddf99c5924eda806e62948dbf932d557c94846eb02d5445fabf3621cc05926"), looks := true }, kinds := [], alts := [], laidByText := true, laidKinds := [.data, .data, .data], laidTests := true, laidLooks := .later }
def SubscriberMergesUptoCardSaid : Prop := Claim7.holds Tryz.pinned (.plain (OpenSpec.upto subscriberMergesSpec)) subscriberMergesUptoCard

/-- THE SECOND FORM's CARD OF 'timetablelaw41.SubscriberStill'. -/
def subscriberStillUptoCard : Claim7 := { stood := { row := subscriberStillUptoRow, standIns := [], harness := (true, "07ddf99c5924eda806e62948dbf932d557c94846eb02d5445fabf3621cc05926"), looks := true }, kinds := [], alts := [], laidByText := true, laidKinds := [.data, .data, .data], laidTests := true, laidLooks := .later }
def SubscriberStillUptoCardSaid : Prop := Claim7.holds Tryz.pinned (.plain (OpenSpec.upto subscriberStillSpec)) subscriberStillUptoCard

/-- THE SECOND FORM's CARD OF 'timetablelaw41.SubscriberAgenda'. -/
def subscriberAgendaUptoCard : Claim7 := { stood := { row := subscriberAgendaUptoRow, standIns := [], harness := (true, "07ddf99c5924eda806e62948dbf932d557c94846eb02d5445fabf3621cc05926"), looks := true }, kinds := [], alts := [], laidByText := true, laidKinds := [.data, .data, .data], laidTests := true, laidLooks := .later }
def SubscriberAgendaUptoCardSaid : Prop := Claim7.holds Tryz.pinned (.plain (OpenSpec.upto subscriberAgendaSpec)) subscriberAgendaUptoCard

/-- THE SECOND FORM's CARD OF 'timetablelaw40.FeedEscapes'. -/
def feedEscapesUptoCard : Claim7 := { stood := { row := feedEscapesUptoRow, standIns := [], harness := (true, "07ddf99c5924eda806e62948dbf932d557c94846eb02d5445fabf3621cc05926"), looks := true }, kinds := [], alts := [], laidByText := true, laidKinds := [.data, .data, .data, .data, .data, .sentinel, .sentinel, .pinned], laidTests := true, laidLooks := .later }
def FeedEscapesUptoCardSaid : Prop := Claim7.holds Tryz.pinned (.plain (OpenSpec.upto feedEscapesSpec)) feedEscapesUptoCard

/-- THE SECOND FORM's CARD OF 'timetablelaw40.FeedTexts'. -/
def feedTextsUptoCard : Claim7 := { stood := { row := feedTextsUptoRow, standIns := [], harness := (true, "07ddf99c5924eda806e62948dbf932d557c94846eb02d5445fabf3621cc05926"), looks := true }, kinds := [], alts := [], laidByText := true, laidKinds := [.data, .data, .data, .data, .data, .sentinel, .sentinel, .pinned], laidTests := true, laidLooks := .later }
def FeedTextsUptoCardSaid : Prop := Claim7.holds Tryz.pinned (.plain (OpenSpec.upto feedTextsSpec)) feedTextsUptoCard

/-- THE SECOND FORM's CARD OF 'timetablelaw40.FeedFormats'. -/
def feedFormatsUptoCard : Claim7 := { stood := { row := feedFormatsUptoRow, standIns := [], harness := (true, "07ddf99c5924eda806e62948dbf932d557c94846eb02d5445fabf3621cc05926"), looks := true }, kinds := [], alts := [], laidByText := true, laidKinds := [.data, .data, .data, .data, .data, .sentinel, .sentinel, .pinned], laidTests := true, laidLooks := .later }
def FeedFormatsUptoCardSaid : Prop := Claim7.holds Tryz.pinned (.plain (OpenSpec.upto feedFormatsSpec)) feedFormatsUptoCard

/-- THE SECOND FORM's CARD OF 'timetablelaw40.FeedReads'. -/
def feedReadsUptoCard : Claim7 := { stood := { row := feedReadsUptoRow, standIns := [], harness := (true, "07ddf99c5924eda806e62948dbf932d557c94846eb02d5445fabf3621cc05926"), looks := true }, kinds := [], alts := [], laidByText := true, laidKinds := [.data, .data, .data, .data, .data, .sentinel, .sentinel, .pinned], laidTests := true, laidLooks := .later }
def FeedReadsUptoCardSaid : Prop := Claim7.holds Tryz.pinned (.plain (OpenSpec.upto feedReadsSpec)) feedReadsUptoCard

/-- THE SECOND FORM's CARD OF 'timetablelaw40.FeedStarts'. -/
def feedStartsUptoCard : Claim7 := { stood := { row := feedStartsUptoRow, standIns := [], harness := (true, "07ddf99c5924eda806e62948dbf932d557c94846eb02d5445fabf3621cc05926"), looks := true }, kinds := [], alts := [], laidByText := true, laidKinds := [.data, .data, .data, .data, .data, .sentinel, .sentinel, .pinned], laidTests := true, laidLooks := .later }
def FeedStartsUptoCardSaid : Prop := Claim7.holds Tryz.pinned (.plain (OpenSpec.upto feedStartsSpec)) feedStartsUptoCard

/-- THE SECOND FORM's CARD OF 'timetablelaw41.SubscriberOnce'. -/
def subscriberOnceUptoCard : Claim7 := { stood := { row := subscriberOnceUptoRow, standIns := [], harness := (true, "07ddf99c5924eda806e62948dbf932d557c94846eb02d5445fabf3621cc05926"), looks := true }, kinds := [], alts := [], laidByText := true, laidKinds := [.data, .data, .data], laidTests := true, laidLooks := .later }
def SubscriberOnceUptoCardSaid : Prop := Claim7.holds Tryz.pinned (.plain (OpenSpec.upto subscriberOnceSpec)) subscriberOnceUptoCard

/-- THE SECOND FORM's CARD OF 'timetablelaw40.FeedEvents'. -/
def feedEventsUptoCard : Claim7 := { stood := { row := feedEventsUptoRow, standIns := [], harness := (true, "07ddf99c5924eda806e62948dbf932d557c94846eb02d5445fabf3621cc05926"), looks := true }, kinds := [], alts := [], laidByText := true, laidKinds := [.data, .data, .data, .data, .data, .sentinel, .sentinel, .pinned], laidTests := true, laidLooks := .later }
def FeedEventsUptoCardSaid : Prop := Claim7.holds Tryz.pinned (.plain (OpenSpec.upto feedEventsSpec)) feedEventsUptoCard

/-- THE SECOND FORM's CARD OF 'timetablelaw40.FeedShows'. -/
def feedShowsUptoCard : Claim7 := { stood := { row := feedShowsUptoRow, standIns := [], harness := (true, "07ddf99c5924eda806e62948dbf932d557c94846eb02d5445fabf3621cc05926"), looks := true }, kinds := [], alts := [], laidByText := true, laidKinds := [.data, .data, .data, .data, .data, .sentinel, .sentinel, .pinned], laidTests := true, laidLooks := .later }
def FeedShowsUptoCardSaid : Prop := Claim7.holds Tryz.pinned (.plain (OpenSpec.upto feedShowsSpec)) feedShowsUptoCard

/-- THE SECOND FORM's CARD OF 'timetablelaw40.FeedMakes'. -/
def feedMakesUptoCard : Claim7 := { stood := { row := feedMakesUptoRow, standIns := [], harness := (true, "07ddf99c5924eda806e62948dbf932d557c94846eb02d5445fabf3621cc05926"), looks := true }, kinds := [], alts := [], laidByText := true, laidKinds := [.data, .data, .data, .data, .data, .sentinel, .sentinel, .pinned], laidTests := true, laidLooks := .later }
def FeedMakesUptoCardSaid : Prop := Claim7.holds Tryz.pinned (.plain (OpenSpec.upto feedMakesSpec)) feedMakesUptoCard
end Rows
end Go.Proofs.YtageielcdebjlaaGreatDoor
