/-
  NARROWER THAN 'FOR EVERY INPUT', by the rows' own cells (each row's printed sentence says how): SubscriberMerges: laid · SubscriberStill: laid · SubscriberAgenda: laid · FeedEscapes: laid · FeedTexts: laid · FeedFormats: laid · FeedReads: laid · FeedStarts: laid · SubscriberOnce: laid · FeedEvents: laid · FeedShows: laid · FeedMakes: laid.
  DERIVED. THE GIVEN ROWS OF THIS SEAT. 12 by the template 'for every input the law returns true; each argument reads behind the call as it read before'; 0 by the template 'total and deterministic' (their statements: YtageielcdebjlaaGreatDoorTotals.lean).
  GIVEN WITH THE SEED: the statements are not yours to turn. If you find one false, say at which input.
  Laid BY PROGRAM, IN A SANDBOX (cutbox-rows.mjs): the forced cells as the released guide's own fill.sh prints them over the translation fa8f482e85b77a8a… (all of the seat's roots in one cut). By AI agents, Wed Nov 11 2026. No macro, syntax, notation, axiom, sorry.
-/
import Derived.Test.YtageielcdebjlaaGreatDoorChecked
import GoSem.PinnedTables
import GoSem.Claim
import GoSem.ClaimJoined
import GoSem.ClaimMapViews
import Derived.JoinedTies
import Derived.KernelRfl
namespace Go.Proofs.YtageielcdebjlaaGreatDoor
/- THE CELL 'sum', in the pinned program and in every row, IS THE sha256 OF THE DUMP (.gsa) THAT YtageielcdebjlaaGreatDoorProg.lean LOADS. Nothing in Lean hashes anything: it is a label: what it is worth is what the hold of that sum in a sandbox is worth. -/
noncomputable def Tryz.pinned : Pinned := { name := "ytageielcdebjlaagreatdoor", sum := "fa8f482e85b77a8ab0046ad7ebb5df8a5d07ffe37f027e1219eb44d24b19256a", checked := Tryz.checked }
namespace Rows
def none {H : Type} : Left H := { results := [], args := [] }

/- WHAT THE LISTED PACKAGE-LEVEL VARIABLES READ AS WHEN THE CALL BEGINS. Each datum BY PROGRAM (the guide's laid-datum.mjs) off the statement by which the dump's own 'gosem.cut.vars' lays the variable. In a bare row this is a premise. The card (YtageielcdebjlaaGreatDoorCards.lean) ties it to the program's text. -/
def laid_math_bits_deBruijn32tab {H : Type} : DataW H := .agg [.lit (.int .u8 0), .lit (.int .u8 1), .lit (.int .u8 28), .lit (.int .u8 2), .lit (.int .u8 29), .lit (.int .u8 14), .lit (.int .u8 24), .lit (.int .u8 3), .lit (.int .u8 30), .lit (.int .u8 22), .lit (.int .u8 20), .lit (.int .u8 15), .lit (.int .u8 25), .lit (.int .u8 17), .lit (.int .u8 4), .lit (.int .u8 8), .lit (.int .u8 31), .lit (.int .u8 27), .lit (.int .u8 13), .lit (.int .u8 23), .lit (.int .u8 21), .lit (.int .u8 19), .lit (.int .u8 16), .lit (.int .u8 7), .lit (.int .u8 26), .lit (.int .u8 12), .lit (.int .u8 18), .lit (.int .u8 6), .lit (.int .u8 11), .lit (.int .u8 5), .lit (.int .u8 10), .lit (.int .u8 9)]
def laid_math_bits_deBruijn64tab {H : Type} : DataW H := .agg [.lit (.int .u8 0), .lit (.int .u8 1), .lit (.int .u8 56), .lit (.int .u8 2), .lit (.int .u8 57), .lit (.int .u8 49), .lit (.int .u8 28), .lit (.int .u8 3), .lit (.int .u8 61), .lit (.int .u8 58), .lit (.int .u8 42), .lit (.int .u8 50), .lit (.int .u8 38), .lit (.int .u8 29), .lit (.int .u8 17), .lit (.int .u8 4), .lit (.int .u8 62), .lit (.int .u8 47), .lit (.int .u8 59), .lit (.int .u8 36), .lit (.int .u8 45), .lit (.int .u8 43), .lit (.int .u8 51), .lit (.int .u8 22), .lit (.int .u8 53), .lit (.int .u8 39), .lit (.int .u8 33), .lit (.int .u8 30), .lit (.int .u8 24), .lit (.int .u8 18), .lit (.int .u8 12), .lit (.int .u8 5), .lit (.int .u8 63), .lit (.int .u8 55), .lit (.int .u8 48), .lit (.int .u8 27), .lit (.int .u8 60), .lit (.int .u8 41), .lit (.int .u8 37), .lit (.int .u8 16), .lit (.int .u8 46), .lit (.int .u8 35), .lit (.int .u8 44), .lit (.int .u8 21), .lit (.int .u8 52), .lit (.int .u8 32), .lit (.int .u8 23), .lit (.int .u8 11), .lit (.int .u8 54), .lit (.int .u8 26), .lit (.int .u8 40), .lit (.int .u8 15), .lit (.int .u8 34), .lit (.int .u8 20), .lit (.int .u8 31), .lit (.int .u8 10), .lit (.int .u8 25), .lit (.int .u8 14), .lit (.int .u8 19), .lit (.int .u8 9), .lit (.int .u8 13), .lit (.int .u8 8), .lit (.int .u8 7), .lit (.int .u8 6)]
def laid_internal_strconv_uint64pow10 {H : Type} : DataW H := .agg [.lit (.int .u64 1), .lit (.int .u64 10), .lit (.int .u64 100), .lit (.int .u64 1000), .lit (.int .u64 10000), .lit (.int .u64 100000), .lit (.int .u64 1000000), .lit (.int .u64 10000000), .lit (.int .u64 100000000), .lit (.int .u64 1000000000), .lit (.int .u64 10000000000), .lit (.int .u64 100000000000), .lit (.int .u64 1000000000000), .lit (.int .u64 10000000000000), .lit (.int .u64 100000000000000), .lit (.int .u64 1000000000000000), .lit (.int .u64 10000000000000000), .lit (.int .u64 100000000000000000), .lit (.int .u64 1000000000000000000), .lit (.int .u64 10000000000000000000)]
def laid_timetable_calendar_lengths {H : Type} : DataW H := .agg [.lit (.int .i64 31), .lit (.int .i64 28), .lit (.int .i64 31), .lit (.int .i64 30), .lit (.int .i64 31), .lit (.int .i64 30), .lit (.int .i64 31), .lit (.int .i64 31), .lit (.int .i64 30), .lit (.int .i64 31), .lit (.int .i64 30), .lit (.int .i64 31)]
def laid_unicode_utf8_acceptRanges {H : Type} : DataW H := .agg [.agg [.lit (.int .u8 128), .lit (.int .u8 191)], .agg [.lit (.int .u8 160), .lit (.int .u8 191)], .agg [.lit (.int .u8 128), .lit (.int .u8 159)], .agg [.lit (.int .u8 144), .lit (.int .u8 191)], .agg [.lit (.int .u8 128), .lit (.int .u8 143)], .agg [.lit (.int .u8 0), .lit (.int .u8 0)], .agg [.lit (.int .u8 0), .lit (.int .u8 0)], .agg [.lit (.int .u8 0), .lit (.int .u8 0)], .agg [.lit (.int .u8 0), .lit (.int .u8 0)], .agg [.lit (.int .u8 0), .lit (.int .u8 0)], .agg [.lit (.int .u8 0), .lit (.int .u8 0)], .agg [.lit (.int .u8 0), .lit (.int .u8 0)], .agg [.lit (.int .u8 0), .lit (.int .u8 0)], .agg [.lit (.int .u8 0), .lit (.int .u8 0)], .agg [.lit (.int .u8 0), .lit (.int .u8 0)], .agg [.lit (.int .u8 0), .lit (.int .u8 0)]]
def laid_strconv_ErrRange {H : Type} : DataW H := .iface "*errors.errorString" (.ptr (.agg [.lit (.string [118, 97, 108, 117, 101, 32, 111, 117, 116, 32, 111, 102, 32, 114, 97, 110, 103, 101])]))
def laid_strconv_ErrSyntax {H : Type} : DataW H := .iface "*errors.errorString" (.ptr (.agg [.lit (.string [105, 110, 118, 97, 108, 105, 100, 32, 115, 121, 110, 116, 97, 120])]))
/-- One of Go's own tables, pinned by name: the form's constant. -/
def laid_unicode_utf8_first : DataW Unit := Go.Pinned.utf8First

/-- 'timetablelaw41.SubscriberMerges': WHATEVER THE INPUT: true; the input reads as it did. -/
def subscriberMergesSpec : ChangeSpec := { name := "subscriberMerges", fn := fun _ => fun
  | [d1, d2, d3] => { results := [.lit (.bool true)], args := [d1, d2, d3] }
  | _ => none }
def subscriberMergesRow : OpenClaim := { program := "ytageielcdebjlaagreatdoor", sum := "fa8f482e85b77a8ab0046ad7ebb5df8a5d07ffe37f027e1219eb44d24b19256a", func := "timetable/timetablelaw41.SubscriberMerges", spec := "subscriberMerges", inPlace := ["internal/bytealg.IndexByteString", "internal/bytealg.IndexString", "internal/bytealg.abigen_runtime_cmpstring", "slices.overlaps[timetable/api.Event]"], unfollowed := true, recurses := true, named := ["internal/bytealg.MaxLen", "internal/strconv.uint64pow10", "math/bits.deBruijn32tab", "math/bits.deBruijn64tab"], apart := false, laid := [("math/bits.deBruijn32tab", laid_math_bits_deBruijn32tab), ("math/bits.deBruijn64tab", laid_math_bits_deBruijn64tab), ("internal/strconv.uint64pow10", laid_internal_strconv_uint64pow10)] }
def SubscriberMergesSaid : Prop := subscriberMergesRow.holds Tryz.pinned (OpenSpec.ofChange subscriberMergesSpec)

/-- ITS FALSE NEIGHBOUR: 'it returns false'. Refute it at one input. -/
def subscriberMergesWrong : ChangeSpec := { name := "subscriberMerges", fn := fun _ => fun
  | [d1, d2, d3] => { results := [.lit (.bool false)], args := [d1, d2, d3] }
  | _ => none }
def SubscriberMergesWrongFalsely : Prop := subscriberMergesRow.holds Tryz.pinned (OpenSpec.ofChange subscriberMergesWrong)

/-- 'timetablelaw41.SubscriberStill': WHATEVER THE INPUT: true; the input reads as it did. -/
def subscriberStillSpec : ChangeSpec := { name := "subscriberStill", fn := fun _ => fun
  | [d] => { results := [.lit (.bool true)], args := [d] }
  | _ => none }
def subscriberStillRow : OpenClaim := { program := "ytageielcdebjlaagreatdoor", sum := "fa8f482e85b77a8ab0046ad7ebb5df8a5d07ffe37f027e1219eb44d24b19256a", func := "timetable/timetablelaw41.SubscriberStill", spec := "subscriberStill", inPlace := ["internal/bytealg.IndexByteString", "internal/bytealg.IndexString", "internal/bytealg.abigen_runtime_cmpstring", "slices.overlaps[timetable/api.Event]"], unfollowed := true, recurses := true, named := ["internal/bytealg.MaxLen", "internal/strconv.uint64pow10", "math/bits.deBruijn32tab", "math/bits.deBruijn64tab"], apart := false, laid := [("math/bits.deBruijn32tab", laid_math_bits_deBruijn32tab), ("math/bits.deBruijn64tab", laid_math_bits_deBruijn64tab), ("internal/strconv.uint64pow10", laid_internal_strconv_uint64pow10)] }
def SubscriberStillSaid : Prop := subscriberStillRow.holds Tryz.pinned (OpenSpec.ofChange subscriberStillSpec)

/-- ITS FALSE NEIGHBOUR: 'it returns false'. Refute it at one input. -/
def subscriberStillWrong : ChangeSpec := { name := "subscriberStill", fn := fun _ => fun
  | [d] => { results := [.lit (.bool false)], args := [d] }
  | _ => none }
def SubscriberStillWrongFalsely : Prop := subscriberStillRow.holds Tryz.pinned (OpenSpec.ofChange subscriberStillWrong)

/-- 'timetablelaw41.SubscriberAgenda': WHATEVER THE INPUT: true; the input reads as it did. -/
def subscriberAgendaSpec : ChangeSpec := { name := "subscriberAgenda", fn := fun _ => fun
  | [d1, d2] => { results := [.lit (.bool true)], args := [d1, d2] }
  | _ => none }
def subscriberAgendaRow : OpenClaim := { program := "ytageielcdebjlaagreatdoor", sum := "fa8f482e85b77a8ab0046ad7ebb5df8a5d07ffe37f027e1219eb44d24b19256a", func := "timetable/timetablelaw41.SubscriberAgenda", spec := "subscriberAgenda", inPlace := ["internal/bytealg.IndexByteString", "internal/bytealg.IndexString", "internal/bytealg.abigen_runtime_cmpstring", "slices.overlaps[timetable/api.Event]"], unfollowed := true, recurses := true, named := ["internal/bytealg.MaxLen", "internal/strconv.uint64pow10", "math/bits.deBruijn32tab", "math/bits.deBruijn64tab"], apart := false, laid := [("math/bits.deBruijn32tab", laid_math_bits_deBruijn32tab), ("math/bits.deBruijn64tab", laid_math_bits_deBruijn64tab), ("internal/strconv.uint64pow10", laid_internal_strconv_uint64pow10)] }
def SubscriberAgendaSaid : Prop := subscriberAgendaRow.holds Tryz.pinned (OpenSpec.ofChange subscriberAgendaSpec)

/-- ITS FALSE NEIGHBOUR: 'it returns false'. Refute it at one input. -/
def subscriberAgendaWrong : ChangeSpec := { name := "subscriberAgenda", fn := fun _ => fun
  | [d1, d2] => { results := [.lit (.bool false)], args := [d1, d2] }
  | _ => none }
def SubscriberAgendaWrongFalsely : Prop := subscriberAgendaRow.holds Tryz.pinned (OpenSpec.ofChange subscriberAgendaWrong)

/-- 'timetablelaw40.FeedEscapes': WHATEVER THE INPUT: true; the input reads as it did. -/
def feedEscapesSpec : ChangeSpec := { name := "feedEscapes", fn := fun _ => fun
  | [d1, d2] => { results := [.lit (.bool true)], args := [d1, d2] }
  | _ => none }
def feedEscapesRow : OpenClaim := { program := "ytageielcdebjlaagreatdoor", sum := "fa8f482e85b77a8ab0046ad7ebb5df8a5d07ffe37f027e1219eb44d24b19256a", func := "timetable/timetablelaw40.FeedEscapes", spec := "feedEscapes", inPlace := ["internal/bytealg.IndexByteString", "internal/bytealg.IndexString", "internal/abi.NoEscape", "internal/bytealg.MakeNoZero", "internal/bytealg.CountString"], unfollowed := true, recurses := true, named := ["internal/bytealg.MaxLen", "internal/strconv.uint64pow10", "math/bits.deBruijn32tab", "math/bits.deBruijn64tab", "timetable/calendar.lengths", "unicode/utf8.first", "unicode/utf8.acceptRanges", "strconv.ErrSyntax", "strconv.ErrRange"], apart := false, laid := [("math/bits.deBruijn32tab", laid_math_bits_deBruijn32tab), ("math/bits.deBruijn64tab", laid_math_bits_deBruijn64tab), ("internal/strconv.uint64pow10", laid_internal_strconv_uint64pow10), ("timetable/calendar.lengths", laid_timetable_calendar_lengths), ("unicode/utf8.acceptRanges", laid_unicode_utf8_acceptRanges), ("strconv.ErrRange", laid_strconv_ErrRange), ("strconv.ErrSyntax", laid_strconv_ErrSyntax), ("unicode/utf8.first", laid_unicode_utf8_first)] }
def FeedEscapesSaid : Prop := feedEscapesRow.holds Tryz.pinned (OpenSpec.ofChange feedEscapesSpec)

/-- ITS FALSE NEIGHBOUR: 'it returns false'. Refute it at one input. -/
def feedEscapesWrong : ChangeSpec := { name := "feedEscapes", fn := fun _ => fun
  | [d1, d2] => { results := [.lit (.bool false)], args := [d1, d2] }
  | _ => none }
def FeedEscapesWrongFalsely : Prop := feedEscapesRow.holds Tryz.pinned (OpenSpec.ofChange feedEscapesWrong)

/-- 'timetablelaw40.FeedTexts': WHATEVER THE INPUT: true; the input reads as it did. -/
def feedTextsSpec : ChangeSpec := { name := "feedTexts", fn := fun _ => fun
  | [d1, d2] => { results := [.lit (.bool true)], args := [d1, d2] }
  | _ => none }
def feedTextsRow : OpenClaim := { program := "ytageielcdebjlaagreatdoor", sum := "fa8f482e85b77a8ab0046ad7ebb5df8a5d07ffe37f027e1219eb44d24b19256a", func := "timetable/timetablelaw40.FeedTexts", spec := "feedTexts", inPlace := ["internal/bytealg.IndexByteString", "internal/bytealg.IndexString", "internal/abi.NoEscape", "internal/bytealg.MakeNoZero", "internal/bytealg.CountString"], unfollowed := true, recurses := true, named := ["internal/bytealg.MaxLen", "internal/strconv.uint64pow10", "math/bits.deBruijn32tab", "math/bits.deBruijn64tab", "timetable/calendar.lengths", "unicode/utf8.first", "unicode/utf8.acceptRanges", "strconv.ErrSyntax", "strconv.ErrRange"], apart := false, laid := [("math/bits.deBruijn32tab", laid_math_bits_deBruijn32tab), ("math/bits.deBruijn64tab", laid_math_bits_deBruijn64tab), ("internal/strconv.uint64pow10", laid_internal_strconv_uint64pow10), ("timetable/calendar.lengths", laid_timetable_calendar_lengths), ("unicode/utf8.acceptRanges", laid_unicode_utf8_acceptRanges), ("strconv.ErrRange", laid_strconv_ErrRange), ("strconv.ErrSyntax", laid_strconv_ErrSyntax), ("unicode/utf8.first", laid_unicode_utf8_first)] }
def FeedTextsSaid : Prop := feedTextsRow.holds Tryz.pinned (OpenSpec.ofChange feedTextsSpec)

/-- ITS FALSE NEIGHBOUR: 'it returns false'. Refute it at one input. -/
def feedTextsWrong : ChangeSpec := { name := "feedTexts", fn := fun _ => fun
  | [d1, d2] => { results := [.lit (.bool false)], args := [d1, d2] }
  | _ => none }
def FeedTextsWrongFalsely : Prop := feedTextsRow.holds Tryz.pinned (OpenSpec.ofChange feedTextsWrong)

/-- 'timetablelaw40.FeedFormats': WHATEVER THE INPUT: true; the input reads as it did. -/
def feedFormatsSpec : ChangeSpec := { name := "feedFormats", fn := fun _ => fun
  | [d1, d2, d3] => { results := [.lit (.bool true)], args := [d1, d2, d3] }
  | _ => none }
def feedFormatsRow : OpenClaim := { program := "ytageielcdebjlaagreatdoor", sum := "fa8f482e85b77a8ab0046ad7ebb5df8a5d07ffe37f027e1219eb44d24b19256a", func := "timetable/timetablelaw40.FeedFormats", spec := "feedFormats", inPlace := ["internal/bytealg.IndexByteString", "internal/bytealg.IndexString", "internal/abi.NoEscape", "internal/bytealg.MakeNoZero", "internal/bytealg.CountString"], unfollowed := true, recurses := true, named := ["internal/bytealg.MaxLen", "internal/strconv.uint64pow10", "math/bits.deBruijn32tab", "math/bits.deBruijn64tab", "timetable/calendar.lengths", "unicode/utf8.first", "unicode/utf8.acceptRanges", "strconv.ErrSyntax", "strconv.ErrRange"], apart := false, laid := [("math/bits.deBruijn32tab", laid_math_bits_deBruijn32tab), ("math/bits.deBruijn64tab", laid_math_bits_deBruijn64tab), ("internal/strconv.uint64pow10", laid_internal_strconv_uint64pow10), ("timetable/calendar.lengths", laid_timetable_calendar_lengths), ("unicode/utf8.acceptRanges", laid_unicode_utf8_acceptRanges), ("strconv.ErrRange", laid_strconv_ErrRange), ("strconv.ErrSyntax", laid_strconv_ErrSyntax), ("unicode/utf8.first", laid_unicode_utf8_first)] }
def FeedFormatsSaid : Prop := feedFormatsRow.holds Tryz.pinned (OpenSpec.ofChange feedFormatsSpec)

/-- ITS FALSE NEIGHBOUR: 'it returns false'. Refute it at one input. -/
def feedFormatsWrong : ChangeSpec := { name := "feedFormats", fn := fun _ => fun
  | [d1, d2, d3] => { results := [.lit (.bool false)], args := [d1, d2, d3] }
  | _ => none }
def FeedFormatsWrongFalsely : Prop := feedFormatsRow.holds Tryz.pinned (OpenSpec.ofChange feedFormatsWrong)

/-- 'timetablelaw40.FeedReads': WHATEVER THE INPUT: true; the input reads as it did. -/
def feedReadsSpec : ChangeSpec := { name := "feedReads", fn := fun _ => fun
  | [d1, d2, d3, d4, d5] => { results := [.lit (.bool true)], args := [d1, d2, d3, d4, d5] }
  | _ => none }
def feedReadsRow : OpenClaim := { program := "ytageielcdebjlaagreatdoor", sum := "fa8f482e85b77a8ab0046ad7ebb5df8a5d07ffe37f027e1219eb44d24b19256a", func := "timetable/timetablelaw40.FeedReads", spec := "feedReads", inPlace := ["internal/bytealg.IndexByteString", "internal/bytealg.IndexString", "internal/abi.NoEscape", "internal/bytealg.MakeNoZero", "internal/bytealg.CountString"], unfollowed := true, recurses := true, named := ["internal/bytealg.MaxLen", "internal/strconv.uint64pow10", "math/bits.deBruijn32tab", "math/bits.deBruijn64tab", "timetable/calendar.lengths", "unicode/utf8.first", "unicode/utf8.acceptRanges", "strconv.ErrSyntax", "strconv.ErrRange"], apart := false, laid := [("math/bits.deBruijn32tab", laid_math_bits_deBruijn32tab), ("math/bits.deBruijn64tab", laid_math_bits_deBruijn64tab), ("internal/strconv.uint64pow10", laid_internal_strconv_uint64pow10), ("timetable/calendar.lengths", laid_timetable_calendar_lengths), ("unicode/utf8.acceptRanges", laid_unicode_utf8_acceptRanges), ("strconv.ErrRange", laid_strconv_ErrRange), ("strconv.ErrSyntax", laid_strconv_ErrSyntax), ("unicode/utf8.first", laid_unicode_utf8_first)] }
def FeedReadsSaid : Prop := feedReadsRow.holds Tryz.pinned (OpenSpec.ofChange feedReadsSpec)

/-- ITS FALSE NEIGHBOUR: 'it returns false'. Refute it at one input. -/
def feedReadsWrong : ChangeSpec := { name := "feedReads", fn := fun _ => fun
  | [d1, d2, d3, d4, d5] => { results := [.lit (.bool false)], args := [d1, d2, d3, d4, d5] }
  | _ => none }
def FeedReadsWrongFalsely : Prop := feedReadsRow.holds Tryz.pinned (OpenSpec.ofChange feedReadsWrong)

/-- 'timetablelaw40.FeedStarts': WHATEVER THE INPUT: true; the input reads as it did. -/
def feedStartsSpec : ChangeSpec := { name := "feedStarts", fn := fun _ => fun
  | [d1, d2] => { results := [.lit (.bool true)], args := [d1, d2] }
  | _ => none }
def feedStartsRow : OpenClaim := { program := "ytageielcdebjlaagreatdoor", sum := "fa8f482e85b77a8ab0046ad7ebb5df8a5d07ffe37f027e1219eb44d24b19256a", func := "timetable/timetablelaw40.FeedStarts", spec := "feedStarts", inPlace := ["internal/bytealg.IndexByteString", "internal/bytealg.IndexString", "internal/abi.NoEscape", "internal/bytealg.MakeNoZero", "internal/bytealg.CountString"], unfollowed := true, recurses := true, named := ["internal/bytealg.MaxLen", "internal/strconv.uint64pow10", "math/bits.deBruijn32tab", "math/bits.deBruijn64tab", "timetable/calendar.lengths", "unicode/utf8.first", "unicode/utf8.acceptRanges", "strconv.ErrSyntax", "strconv.ErrRange"], apart := false, laid := [("math/bits.deBruijn32tab", laid_math_bits_deBruijn32tab), ("math/bits.deBruijn64tab", laid_math_bits_deBruijn64tab), ("internal/strconv.uint64pow10", laid_internal_strconv_uint64pow10), ("timetable/calendar.lengths", laid_timetable_calendar_lengths), ("unicode/utf8.acceptRanges", laid_unicode_utf8_acceptRanges), ("strconv.ErrRange", laid_strconv_ErrRange), ("strconv.ErrSyntax", laid_strconv_ErrSyntax), ("unicode/utf8.first", laid_unicode_utf8_first)] }
def FeedStartsSaid : Prop := feedStartsRow.holds Tryz.pinned (OpenSpec.ofChange feedStartsSpec)

/-- ITS FALSE NEIGHBOUR: 'it returns false'. Refute it at one input. -/
def feedStartsWrong : ChangeSpec := { name := "feedStarts", fn := fun _ => fun
  | [d1, d2] => { results := [.lit (.bool false)], args := [d1, d2] }
  | _ => none }
def FeedStartsWrongFalsely : Prop := feedStartsRow.holds Tryz.pinned (OpenSpec.ofChange feedStartsWrong)

/-- 'timetablelaw41.SubscriberOnce': WHATEVER THE INPUT: true; the input reads as it did. -/
def subscriberOnceSpec : ChangeSpec := { name := "subscriberOnce", fn := fun _ => fun
  | [d1, d2] => { results := [.lit (.bool true)], args := [d1, d2] }
  | _ => none }
def subscriberOnceRow : OpenClaim := { program := "ytageielcdebjlaagreatdoor", sum := "fa8f482e85b77a8ab0046ad7ebb5df8a5d07ffe37f027e1219eb44d24b19256a", func := "timetable/timetablelaw41.SubscriberOnce", spec := "subscriberOnce", inPlace := ["internal/bytealg.IndexByteString", "internal/bytealg.IndexString", "internal/bytealg.abigen_runtime_cmpstring", "slices.overlaps[timetable/api.Event]"], unfollowed := true, recurses := true, named := ["internal/bytealg.MaxLen", "internal/strconv.uint64pow10", "math/bits.deBruijn32tab", "math/bits.deBruijn64tab"], apart := false, laid := [("math/bits.deBruijn32tab", laid_math_bits_deBruijn32tab), ("math/bits.deBruijn64tab", laid_math_bits_deBruijn64tab), ("internal/strconv.uint64pow10", laid_internal_strconv_uint64pow10)] }
def SubscriberOnceSaid : Prop := subscriberOnceRow.holds Tryz.pinned (OpenSpec.ofChange subscriberOnceSpec)

/-- ITS FALSE NEIGHBOUR: 'it returns false'. Refute it at one input. -/
def subscriberOnceWrong : ChangeSpec := { name := "subscriberOnce", fn := fun _ => fun
  | [d1, d2] => { results := [.lit (.bool false)], args := [d1, d2] }
  | _ => none }
def SubscriberOnceWrongFalsely : Prop := subscriberOnceRow.holds Tryz.pinned (OpenSpec.ofChange subscriberOnceWrong)

/-- 'timetablelaw40.FeedEvents': WHATEVER THE INPUT: true; the input reads as it did. -/
def feedEventsSpec : ChangeSpec := { name := "feedEvents", fn := fun _ => fun
  | [d1, d2, d3] => { results := [.lit (.bool true)], args := [d1, d2, d3] }
  | _ => none }
def feedEventsRow : OpenClaim := { program := "ytageielcdebjlaagreatdoor", sum := "fa8f482e85b77a8ab0046ad7ebb5df8a5d07ffe37f027e1219eb44d24b19256a", func := "timetable/timetablelaw40.FeedEvents", spec := "feedEvents", inPlace := ["internal/bytealg.IndexByteString", "internal/bytealg.IndexString", "internal/abi.NoEscape", "internal/bytealg.MakeNoZero", "internal/bytealg.CountString"], unfollowed := true, recurses := true, named := ["internal/bytealg.MaxLen", "internal/strconv.uint64pow10", "math/bits.deBruijn32tab", "math/bits.deBruijn64tab", "timetable/calendar.lengths", "unicode/utf8.first", "unicode/utf8.acceptRanges", "strconv.ErrSyntax", "strconv.ErrRange"], apart := false, laid := [("math/bits.deBruijn32tab", laid_math_bits_deBruijn32tab), ("math/bits.deBruijn64tab", laid_math_bits_deBruijn64tab), ("internal/strconv.uint64pow10", laid_internal_strconv_uint64pow10), ("timetable/calendar.lengths", laid_timetable_calendar_lengths), ("unicode/utf8.acceptRanges", laid_unicode_utf8_acceptRanges), ("strconv.ErrRange", laid_strconv_ErrRange), ("strconv.ErrSyntax", laid_strconv_ErrSyntax), ("unicode/utf8.first", laid_unicode_utf8_first)] }
def FeedEventsSaid : Prop := feedEventsRow.holds Tryz.pinned (OpenSpec.ofChange feedEventsSpec)

/-- ITS FALSE NEIGHBOUR: 'it returns false'. Refute it at one input. -/
def feedEventsWrong : ChangeSpec := { name := "feedEvents", fn := fun _ => fun
  | [d1, d2, d3] => { results := [.lit (.bool false)], args := [d1, d2, d3] }
  | _ => none }
def FeedEventsWrongFalsely : Prop := feedEventsRow.holds Tryz.pinned (OpenSpec.ofChange feedEventsWrong)

/-- 'timetablelaw40.FeedShows': WHATEVER THE INPUT: true; the input reads as it did. -/
def feedShowsSpec : ChangeSpec := { name := "feedShows", fn := fun _ => fun
  | [d] => { results := [.lit (.bool true)], args := [d] }
  | _ => none }
def feedShowsRow : OpenClaim := { program := "ytageielcdebjlaagreatdoor", sum := "fa8f482e85b77a8ab0046ad7ebb5df8a5d07ffe37f027e1219eb44d24b19256a", func := "timetable/timetablelaw40.FeedShows", spec := "feedShows", inPlace := ["internal/bytealg.IndexByteString", "internal/bytealg.IndexString", "internal/abi.NoEscape", "internal/bytealg.MakeNoZero", "internal/bytealg.CountString"], unfollowed := true, recurses := true, named := ["internal/bytealg.MaxLen", "internal/strconv.uint64pow10", "math/bits.deBruijn32tab", "math/bits.deBruijn64tab", "timetable/calendar.lengths", "unicode/utf8.first", "unicode/utf8.acceptRanges", "strconv.ErrSyntax", "strconv.ErrRange"], apart := false, laid := [("math/bits.deBruijn32tab", laid_math_bits_deBruijn32tab), ("math/bits.deBruijn64tab", laid_math_bits_deBruijn64tab), ("internal/strconv.uint64pow10", laid_internal_strconv_uint64pow10), ("timetable/calendar.lengths", laid_timetable_calendar_lengths), ("unicode/utf8.acceptRanges", laid_unicode_utf8_acceptRanges), ("strconv.ErrRange", laid_strconv_ErrRange), ("strconv.ErrSyntax", laid_strconv_ErrSyntax), ("unicode/utf8.first", laid_unicode_utf8_first)] }
def FeedShowsSaid : Prop := feedShowsRow.holds Tryz.pinned (OpenSpec.ofChange feedShowsSpec)

/-- ITS FALSE NEIGHBOUR: 'it returns false'. Refute it at one input. -/
def feedShowsWrong : ChangeSpec := { name := "feedShows", fn := fun _ => fun
  | [d] => { results := [.lit (.bool false)], args := [d] }
  | _ => none }
def FeedShowsWrongFalsely : Prop := feedShowsRow.holds Tryz.pinned (OpenSpec.ofChange feedShowsWrong)

/-- 'timetablelaw40.FeedMakes': WHATEVER THE INPUT: true; the input reads as it did. -/
def feedMakesSpec : ChangeSpec := { name := "feedMakes", fn := fun _ => fun
  | [d1, d2, d3] => { results := [.lit (.bool true)], args := [d1, d2, d3] }
  | _ => none }
def feedMakesRow : OpenClaim := { program := "ytageielcdebjlaagreatdoor", sum := "fa8f482e85b77a8ab0046ad7ebb5df8a5d07ffe37f027e1219eb44d24b19256a", func := "timetable/timetablelaw40.FeedMakes", spec := "feedMakes", inPlace := ["internal/bytealg.IndexByteString", "internal/bytealg.IndexString", "internal/abi.NoEscape", "internal/bytealg.MakeNoZero", "internal/bytealg.CountString", "internal/bytealg.abigen_runtime_cmpstring"], unfollowed := true, recurses := true, named := ["internal/bytealg.MaxLen", "internal/strconv.uint64pow10", "math/bits.deBruijn32tab", "math/bits.deBruijn64tab", "timetable/calendar.lengths", "unicode/utf8.first", "unicode/utf8.acceptRanges", "strconv.ErrSyntax", "strconv.ErrRange"], apart := false, laid := [("math/bits.deBruijn32tab", laid_math_bits_deBruijn32tab), ("math/bits.deBruijn64tab", laid_math_bits_deBruijn64tab), ("internal/strconv.uint64pow10", laid_internal_strconv_uint64pow10), ("timetable/calendar.lengths", laid_timetable_calendar_lengths), ("unicode/utf8.acceptRanges", laid_unicode_utf8_acceptRanges), ("strconv.ErrRange", laid_strconv_ErrRange), ("strconv.ErrSyntax", laid_strconv_ErrSyntax), ("unicode/utf8.first", laid_unicode_utf8_first)] }
def FeedMakesSaid : Prop := feedMakesRow.holds Tryz.pinned (OpenSpec.ofChange feedMakesSpec)

/-- ITS FALSE NEIGHBOUR: 'it returns false'. Refute it at one input. -/
def feedMakesWrong : ChangeSpec := { name := "feedMakes", fn := fun _ => fun
  | [d1, d2, d3] => { results := [.lit (.bool false)], args := [d1, d2, d3] }
  | _ => none }
def FeedMakesWrongFalsely : Prop := feedMakesRow.holds Tryz.pinned (OpenSpec.ofChange feedMakesWrong)

/- THE SECOND FORM. 'bulk': how many values and letters a reading holds, each counted each time it is reached (what is shared counts as often as it is met; a slice's spare places count too). A statement '..UptoSaid' is the law's where the arguments, and the package variables that the reading takes, are together of bulk at most 1048576: NARROWER than '..Said'. Prove '..Said' where nothing that the law and all that it calls make is longer than what came in: it says more and counts as full. Else prove '..UptoSaid'. A law counts once. -/
mutual
def uptoBulk {H : Type} : DataW H → Nat
  | .lit (.string bytes) => bytes.length + 1
  | .lit _ => 1
  | .nil => 1
  | .ptr d => uptoBulk d + 1
  | .slice elems spare => uptoBulkAll elems + uptoBulkAll spare + 1
  | .agg parts => uptoBulkAll parts + 1
  | .iface _ d => uptoBulk d + 1
  | .map entries => uptoBulkEntries entries + 1
  | .held _ => 1
def uptoBulkAll {H : Type} : List (DataW H) → Nat
  | [] => 0
  | d :: r => uptoBulk d + uptoBulkAll r
def uptoBulkEntries {H : Type} : List (Lit × DataW H) → Nat
  | [] => 0
  | x :: r => uptoBulkEntry x + uptoBulkEntries r
def uptoBulkEntry {H : Type} : Lit × DataW H → Nat
  | (.string bytes, d) => bytes.length + uptoBulk d + 1
  | (_, d) => uptoBulk d + 1
 end
def uptoSmall : (H : Type) → List (DataW H) → Bool := fun _ ds => decide (uptoBulkAll ds ≤ 1048576)
def OpenSpec.upto (s : _root_.Go.ChangeSpec) : _root_.Go.OpenSpec := { _root_.Go.OpenSpec.ofChange s with cond := some uptoSmall }

/-- 'timetablelaw41.SubscriberMerges', WHERE WHAT IT READS IS OF BULK AT MOST 1048576: true; the input reads as it did. -/
def subscriberMergesUptoRow : OpenClaim := { program := "ytageielcdebjlaagreatdoor", sum := "fa8f482e85b77a8ab0046ad7ebb5df8a5d07ffe37f027e1219eb44d24b19256a", func := "timetable/timetablelaw41.SubscriberMerges", spec := "subscriberMerges", inPlace := ["internal/bytealg.IndexByteString", "internal/bytealg.IndexString", "internal/bytealg.abigen_runtime_cmpstring", "slices.overlaps[timetable/api.Event]"], unfollowed := true, recurses := true, named := ["internal/bytealg.MaxLen", "internal/strconv.uint64pow10", "math/bits.deBruijn32tab", "math/bits.deBruijn64tab"], apart := false, laid := [("math/bits.deBruijn32tab", laid_math_bits_deBruijn32tab), ("math/bits.deBruijn64tab", laid_math_bits_deBruijn64tab), ("internal/strconv.uint64pow10", laid_internal_strconv_uint64pow10)], narrowed := true }
def SubscriberMergesUptoSaid : Prop := subscriberMergesUptoRow.holds Tryz.pinned (OpenSpec.upto subscriberMergesSpec)

/-- 'timetablelaw41.SubscriberStill', WHERE WHAT IT READS IS OF BULK AT MOST 1048576: true; the input reads as it did. -/
def subscriberStillUptoRow : OpenClaim := { program := "ytageielcdebjlaagreatdoor", sum := "fa8f482e85b77a8ab0046ad7ebb5df8a5d07ffe37f027e1219eb44d24b19256a", func := "timetable/timetablelaw41.SubscriberStill", spec := "subscriberStill", inPlace := ["internal/bytealg.IndexByteString", "internal/bytealg.IndexString", "internal/bytealg.abigen_runtime_cmpstring", "slices.overlaps[timetable/api.Event]"], unfollowed := true, recurses := true, named := ["internal/bytealg.MaxLen", "internal/strconv.uint64pow10", "math/bits.deBruijn32tab", "math/bits.deBruijn64tab"], apart := false, laid := [("math/bits.deBruijn32tab", laid_math_bits_deBruijn32tab), ("math/bits.deBruijn64tab", laid_math_bits_deBruijn64tab), ("internal/strconv.uint64pow10", laid_internal_strconv_uint64pow10)], narrowed := true }
def SubscriberStillUptoSaid : Prop := subscriberStillUptoRow.holds Tryz.pinned (OpenSpec.upto subscriberStillSpec)

/-- 'timetablelaw41.SubscriberAgenda', WHERE WHAT IT READS IS OF BULK AT MOST 1048576: true; the input reads as it did. -/
def subscriberAgendaUptoRow : OpenClaim := { program := "ytageielcdebjlaagreatdoor", sum := "fa8f482e85b77a8ab0046ad7ebb5df8a5d07ffe37f027e1219eb44d24b19256a", func := "timetable/timetablelaw41.SubscriberAgenda", spec := "subscriberAgenda", inPlace := ["internal/bytealg.IndexByteString", "internal/bytealg.IndexString", "internal/bytealg.abigen_runtime_cmpstring", "slices.overlaps[timetable/api.Event]"], unfollowed := true, recurses := true, named := ["internal/bytealg.MaxLen", "internal/strconv.uint64pow10", "math/bits.deBruijn32tab", "math/bits.deBruijn64tab"], apart := false, laid := [("math/bits.deBruijn32tab", laid_math_bits_deBruijn32tab), ("math/bits.deBruijn64tab", laid_math_bits_deBruijn64tab), ("internal/strconv.uint64pow10", laid_internal_strconv_uint64pow10)], narrowed := true }
def SubscriberAgendaUptoSaid : Prop := subscriberAgendaUptoRow.holds Tryz.pinned (OpenSpec.upto subscriberAgendaSpec)

/-- 'timetablelaw40.FeedEscapes', WHERE WHAT IT READS IS OF BULK AT MOST 1048576: true; the input reads as it did. -/
def feedEscapesUptoRow : OpenClaim := { program := "ytageielcdebjlaagreatdoor", sum := "fa8f482e85b77a8ab0046ad7ebb5df8a5d07ffe37f027e1219eb44d24b19256a", func := "timetable/timetablelaw40.FeedEscapes", spec := "feedEscapes", inPlace := ["internal/bytealg.IndexByteString", "internal/bytealg.IndexString", "internal/abi.NoEscape", "internal/bytealg.MakeNoZero", "internal/bytealg.CountString"], unfollowed := true, recurses := true, named := ["internal/bytealg.MaxLen", "internal/strconv.uint64pow10", "math/bits.deBruijn32tab", "math/bits.deBruijn64tab", "timetable/calendar.lengths", "unicode/utf8.first", "unicode/utf8.acceptRanges", "strconv.ErrSyntax", "strconv.ErrRange"], apart := false, laid := [("math/bits.deBruijn32tab", laid_math_bits_deBruijn32tab), ("math/bits.deBruijn64tab", laid_math_bits_deBruijn64tab), ("internal/strconv.uint64pow10", laid_internal_strconv_uint64pow10), ("timetable/calendar.lengths", laid_timetable_calendar_lengths), ("unicode/utf8.acceptRanges", laid_unicode_utf8_acceptRanges), ("strconv.ErrRange", laid_strconv_ErrRange), ("strconv.ErrSyntax", laid_strconv_ErrSyntax), ("unicode/utf8.first", laid_unicode_utf8_first)], narrowed := true }
def FeedEscapesUptoSaid : Prop := feedEscapesUptoRow.holds Tryz.pinned (OpenSpec.upto feedEscapesSpec)

/-- 'timetablelaw40.FeedTexts', WHERE WHAT IT READS IS OF BULK AT MOST 1048576: true; the input reads as it did. -/
def feedTextsUptoRow : OpenClaim := { program := "ytageielcdebjlaagreatdoor", sum := "fa8f482e85b77a8ab0046ad7ebb5df8a5d07ffe37f027e1219eb44d24b19256a", func := "timetable/timetablelaw40.FeedTexts", spec := "feedTexts", inPlace := ["internal/bytealg.IndexByteString", "internal/bytealg.IndexString", "internal/abi.NoEscape", "internal/bytealg.MakeNoZero", "internal/bytealg.CountString"], unfollowed := true, recurses := true, named := ["internal/bytealg.MaxLen", "internal/strconv.uint64pow10", "math/bits.deBruijn32tab", "math/bits.deBruijn64tab", "timetable/calendar.lengths", "unicode/utf8.first", "unicode/utf8.acceptRanges", "strconv.ErrSyntax", "strconv.ErrRange"], apart := false, laid := [("math/bits.deBruijn32tab", laid_math_bits_deBruijn32tab), ("math/bits.deBruijn64tab", laid_math_bits_deBruijn64tab), ("internal/strconv.uint64pow10", laid_internal_strconv_uint64pow10), ("timetable/calendar.lengths", laid_timetable_calendar_lengths), ("unicode/utf8.acceptRanges", laid_unicode_utf8_acceptRanges), ("strconv.ErrRange", laid_strconv_ErrRange), ("strconv.ErrSyntax", laid_strconv_ErrSyntax), ("unicode/utf8.first", laid_unicode_utf8_first)], narrowed := true }
def FeedTextsUptoSaid : Prop := feedTextsUptoRow.holds Tryz.pinned (OpenSpec.upto feedTextsSpec)

/-- 'timetablelaw40.FeedFormats', WHERE WHAT IT READS IS OF BULK AT MOST 1048576: true; the input reads as it did. -/
def feedFormatsUptoRow : OpenClaim := { program := "ytageielcdebjlaagreatdoor", sum := "fa8f482e85b77a8ab0046ad7ebb5df8a5d07ffe37f027e1219eb44d24b19256a", func := "timetable/timetablelaw40.FeedFormats", spec := "feedFormats", inPlace := ["internal/bytealg.IndexByteString", "internal/bytealg.IndexString", "internal/abi.NoEscape", "internal/bytealg.MakeNoZero", "internal/bytealg.CountString"], unfollowed := true, recurses := true, named := ["internal/bytealg.MaxLen", "internal/strconv.uint64pow10", "math/bits.deBruijn32tab", "math/bits.deBruijn64tab", "timetable/calendar.lengths", "unicode/utf8.first", "unicode/utf8.acceptRanges", "strconv.ErrSyntax", "strconv.ErrRange"], apart := false, laid := [("math/bits.deBruijn32tab", laid_math_bits_deBruijn32tab), ("math/bits.deBruijn64tab", laid_math_bits_deBruijn64tab), ("internal/strconv.uint64pow10", laid_internal_strconv_uint64pow10), ("timetable/calendar.lengths", laid_timetable_calendar_lengths), ("unicode/utf8.acceptRanges", laid_unicode_utf8_acceptRanges), ("strconv.ErrRange", laid_strconv_ErrRange), ("strconv.ErrSyntax", laid_strconv_ErrSyntax), ("unicode/utf8.first", laid_unicode_utf8_first)], narrowed := true }
def FeedFormatsUptoSaid : Prop := feedFormatsUptoRow.holds Tryz.pinned (OpenSpec.upto feedFormatsSpec)

/-- 'timetablelaw40.FeedReads', WHERE WHAT IT READS IS OF BULK AT MOST 1048576: true; the input reads as it did. -/
def feedReadsUptoRow : OpenClaim := { program := "ytageielcdebjlaagreatdoor", sum := "fa8f482e85b77a8ab0046ad7ebb5df8a5d07ffe37f027e1219eb44d24b19256a", func := "timetable/timetablelaw40.FeedReads", spec := "feedReads", inPlace := ["internal/bytealg.IndexByteString", "internal/bytealg.IndexString", "internal/abi.NoEscape", "internal/bytealg.MakeNoZero", "internal/bytealg.CountString"], unfollowed := true, recurses := true, named := ["internal/bytealg.MaxLen", "internal/strconv.uint64pow10", "math/bits.deBruijn32tab", "math/bits.deBruijn64tab", "timetable/calendar.lengths", "unicode/utf8.first", "unicode/utf8.acceptRanges", "strconv.ErrSyntax", "strconv.ErrRange"], apart := false, laid := [("math/bits.deBruijn32tab", laid_math_bits_deBruijn32tab), ("math/bits.deBruijn64tab", laid_math_bits_deBruijn64tab), ("internal/strconv.uint64pow10", laid_internal_strconv_uint64pow10), ("timetable/calendar.lengths", laid_timetable_calendar_lengths), ("unicode/utf8.acceptRanges", laid_unicode_utf8_acceptRanges), ("strconv.ErrRange", laid_strconv_ErrRange), ("strconv.ErrSyntax", laid_strconv_ErrSyntax), ("unicode/utf8.first", laid_unicode_utf8_first)], narrowed := true }
def FeedReadsUptoSaid : Prop := feedReadsUptoRow.holds Tryz.pinned (OpenSpec.upto feedReadsSpec)

/-- 'timetablelaw40.FeedStarts', WHERE WHAT IT READS IS OF BULK AT MOST 1048576: true; the input reads as it did. -/
def feedStartsUptoRow : OpenClaim := { program := "ytageielcdebjlaagreatdoor", sum := "fa8f482e85b77a8ab0046ad7ebb5df8a5d07ffe37f027e1219eb44d24b19256a", func := "timetable/timetablelaw40.FeedStarts", spec := "feedStarts", inPlace := ["internal/bytealg.IndexByteString", "internal/bytealg.IndexString", "internal/abi.NoEscape", "internal/bytealg.MakeNoZero", "internal/bytealg.CountString"], unfollowed := true, recurses := true, named := ["internal/bytealg.MaxLen", "internal/strconv.uint64pow10", "math/bits.deBruijn32tab", "math/bits.deBruijn64tab", "timetable/calendar.lengths", "unicode/utf8.first", "unicode/utf8.acceptRanges", "strconv.ErrSyntax", "strconv.ErrRange"], apart := false, laid := [("math/bits.deBruijn32tab", laid_math_bits_deBruijn32tab), ("math/bits.deBruijn64tab", laid_math_bits_deBruijn64tab), ("internal/strconv.uint64pow10", laid_internal_strconv_uint64pow10), ("timetable/calendar.lengths", laid_timetable_calendar_lengths), ("unicode/utf8.acceptRanges", laid_unicode_utf8_acceptRanges), ("strconv.ErrRange", laid_strconv_ErrRange), ("strconv.ErrSyntax", laid_strconv_ErrSyntax), ("unicode/utf8.first", laid_unicode_utf8_first)], narrowed := true }
def FeedStartsUptoSaid : Prop := feedStartsUptoRow.holds Tryz.pinned (OpenSpec.upto feedStartsSpec)

/-- 'timetablelaw41.SubscriberOnce', WHERE WHAT IT READS IS OF BULK AT MOST 1048576: true; the input reads as it did. -/
def subscriberOnceUptoRow : OpenClaim := { program := "ytageielcdebjlaagreatdoor", sum := "fa8f482e85b77a8ab0046ad7ebb5df8a5d07ffe37f027e1219eb44d24b19256a", func := "timetable/timetablelaw41.SubscriberOnce", spec := "subscriberOnce", inPlace := ["internal/bytealg.IndexByteString", "internal/bytealg.IndexString", "internal/bytealg.abigen_runtime_cmpstring", "slices.overlaps[timetable/api.Event]"], unfollowed := true, recurses := true, named := ["internal/bytealg.MaxLen", "internal/strconv.uint64pow10", "math/bits.deBruijn32tab", "math/bits.deBruijn64tab"], apart := false, laid := [("math/bits.deBruijn32tab", laid_math_bits_deBruijn32tab), ("math/bits.deBruijn64tab", laid_math_bits_deBruijn64tab), ("internal/strconv.uint64pow10", laid_internal_strconv_uint64pow10)], narrowed := true }
def SubscriberOnceUptoSaid : Prop := subscriberOnceUptoRow.holds Tryz.pinned (OpenSpec.upto subscriberOnceSpec)

/-- 'timetablelaw40.FeedEvents', WHERE WHAT IT READS IS OF BULK AT MOST 1048576: true; the input reads as it did. -/
def feedEventsUptoRow : OpenClaim := { program := "ytageielcdebjlaagreatdoor", sum := "fa8f482e85b77a8ab0046ad7ebb5df8a5d07ffe37f027e1219eb44d24b19256a", func := "timetable/timetablelaw40.FeedEvents", spec := "feedEvents", inPlace := ["internal/bytealg.IndexByteString", "internal/bytealg.IndexString", "internal/abi.NoEscape", "internal/bytealg.MakeNoZero", "internal/bytealg.CountString"], unfollowed := true, recurses := true, named := ["internal/bytealg.MaxLen", "internal/strconv.uint64pow10", "math/bits.deBruijn32tab", "math/bits.deBruijn64tab", "timetable/calendar.lengths", "unicode/utf8.first", "unicode/utf8.acceptRanges", "strconv.ErrSyntax", "strconv.ErrRange"], apart := false, laid := [("math/bits.deBruijn32tab", laid_math_bits_deBruijn32tab), ("math/bits.deBruijn64tab", laid_math_bits_deBruijn64tab), ("internal/strconv.uint64pow10", laid_internal_strconv_uint64pow10), ("timetable/calendar.lengths", laid_timetable_calendar_lengths), ("unicode/utf8.acceptRanges", laid_unicode_utf8_acceptRanges), ("strconv.ErrRange", laid_strconv_ErrRange), ("strconv.ErrSyntax", laid_strconv_ErrSyntax), ("unicode/utf8.first", laid_unicode_utf8_first)], narrowed := true }
def FeedEventsUptoSaid : Prop := feedEventsUptoRow.holds Tryz.pinned (OpenSpec.upto feedEventsSpec)

/-- 'timetablelaw40.FeedShows', WHERE WHAT IT READS IS OF BULK AT MOST 1048576: true; the input reads as it did. -/
def feedShowsUptoRow : OpenClaim := { program := "ytageielcdebjlaagreatdoor", sum := "fa8f482e85b77a8ab0046ad7ebb5df8a5d07ffe37f027e1219eb44d24b19256a", func := "timetable/timetablelaw40.FeedShows", spec := "feedShows", inPlace := ["internal/bytealg.IndexByteString", "internal/bytealg.IndexString", "internal/abi.NoEscape", "internal/bytealg.MakeNoZero", "internal/bytealg.CountString"], unfollowed := true, recurses := true, named := ["internal/bytealg.MaxLen", "internal/strconv.uint64pow10", "math/bits.deBruijn32tab", "math/bits.deBruijn64tab", "timetable/calendar.lengths", "unicode/utf8.first", "unicode/utf8.acceptRanges", "strconv.ErrSyntax", "strconv.ErrRange"], apart := false, laid := [("math/bits.deBruijn32tab", laid_math_bits_deBruijn32tab), ("math/bits.deBruijn64tab", laid_math_bits_deBruijn64tab), ("internal/strconv.uint64pow10", laid_internal_strconv_uint64pow10), ("timetable/calendar.lengths", laid_timetable_calendar_lengths), ("unicode/utf8.acceptRanges", laid_unicode_utf8_acceptRanges), ("strconv.ErrRange", laid_strconv_ErrRange), ("strconv.ErrSyntax", laid_strconv_ErrSyntax), ("unicode/utf8.first", laid_unicode_utf8_first)], narrowed := true }
def FeedShowsUptoSaid : Prop := feedShowsUptoRow.holds Tryz.pinned (OpenSpec.upto feedShowsSpec)

/-- 'timetablelaw40.FeedMakes', WHERE WHAT IT READS IS OF BULK AT MOST 1048576: true; the input reads as it did. -/
def feedMakesUptoRow : OpenClaim := { program := "ytageielcdebjlaagreatdoor", sum := "fa8f482e85b77a8ab0046ad7ebb5df8a5d07ffe37f027e1219eb44d24b19256a", func := "timetable/timetablelaw40.FeedMakes", spec := "feedMakes", inPlace := ["internal/bytealg.IndexByteString", "internal/bytealg.IndexString", "internal/abi.NoEscape", "internal/bytealg.MakeNoZero", "internal/bytealg.CountString", "internal/bytealg.abigen_runtime_cmpstring"], unfollowed := true, recurses := true, named := ["internal/bytealg.MaxLen", "internal/strconv.uint64pow10", "math/bits.deBruijn32tab", "math/bits.deBruijn64tab", "timetable/calendar.lengths", "unicode/utf8.first", "unicode/utf8.acceptRanges", "strconv.ErrSyntax", "strconv.ErrRange"], apart := false, laid := [("math/bits.deBruijn32tab", laid_math_bits_deBruijn32tab), ("math/bits.deBruijn64tab", laid_math_bits_deBruijn64tab), ("internal/strconv.uint64pow10", laid_internal_strconv_uint64pow10), ("timetable/calendar.lengths", laid_timetable_calendar_lengths), ("unicode/utf8.acceptRanges", laid_unicode_utf8_acceptRanges), ("strconv.ErrRange", laid_strconv_ErrRange), ("strconv.ErrSyntax", laid_strconv_ErrSyntax), ("unicode/utf8.first", laid_unicode_utf8_first)], narrowed := true }
def FeedMakesUptoSaid : Prop := feedMakesUptoRow.holds Tryz.pinned (OpenSpec.upto feedMakesSpec)

end Rows
end Go.Proofs.YtageielcdebjlaaGreatDoor
