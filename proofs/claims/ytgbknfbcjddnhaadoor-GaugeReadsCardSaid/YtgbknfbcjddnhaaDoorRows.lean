/-
  NARROWER THAN 'FOR EVERY INPUT', by the rows' own cells (each row's printed sentence says how): GaugeSeries: laid · GaugeLast: laid · GaugeNotices: laid · GaugeReads: laid · GaugeWrites: laid · GaugeBack: laid.
  DERIVED. THE GIVEN ROWS OF THIS SEAT. 6 by the template 'for every input the law returns true; each argument reads behind the call as it read before'; 0 by the template 'total and deterministic' (their statements: YtgbknfbcjddnhaaDoorTotals.lean).
  GIVEN WITH THE SEED: the statements are not yours to turn. If you find one false, say at which input.
  Laid BY PROGRAM, IN A SANDBOX (cutbox-rows.mjs): the forced cells as the released guide's own fill.sh prints them over the translation 4ced420f17e6bca1… (all of the seat's roots in one cut). By AI agents, Wed Nov 11 2026. No macro, syntax, notation, axiom, sorry.
-/
import Derived.Test.YtgbknfbcjddnhaaDoorChecked
import GoSem.PinnedTables
import GoSem.Claim
import GoSem.ClaimJoined
import GoSem.ClaimMapViews
import Derived.JoinedTies
import Derived.KernelRfl
namespace Go.Proofs.YtgbknfbcjddnhaaDoor
/- THE CELL 'sum', in the pinned program and in every row, IS THE sha256 OF THE DUMP (.gsa) THAT YtgbknfbcjddnhaaDoorProg.lean LOADS. Nothing in Lean hashes anything: it is a label: what it is worth is what the hold of that sum in a sandbox is worth. -/
noncomputable def Tryd.pinned : Pinned := { name := "ytgbknfbcjddnhaadoor", sum := "4ced420f17e6bca19d9059350e9c7ec78e40840cc4538c62e9deb1fe1fff5b55", checked := Tryd.checked }
namespace Rows
def none {H : Type} : Left H := { results := [], args := [] }

/- WHAT THE LISTED PACKAGE-LEVEL VARIABLES READ AS WHEN THE CALL BEGINS. Each datum BY PROGRAM (the guide's laid-datum.mjs) off the statement by which the dump's own 'gosem.cut.vars' lays the variable. In a bare row this is a premise. The card (YtgbknfbcjddnhaaDoorCards.lean) ties it to the program's text. -/
def laid_unicode_utf8_acceptRanges {H : Type} : DataW H := .agg [.agg [.lit (.int .u8 128), .lit (.int .u8 191)], .agg [.lit (.int .u8 160), .lit (.int .u8 191)], .agg [.lit (.int .u8 128), .lit (.int .u8 159)], .agg [.lit (.int .u8 144), .lit (.int .u8 191)], .agg [.lit (.int .u8 128), .lit (.int .u8 143)], .agg [.lit (.int .u8 0), .lit (.int .u8 0)], .agg [.lit (.int .u8 0), .lit (.int .u8 0)], .agg [.lit (.int .u8 0), .lit (.int .u8 0)], .agg [.lit (.int .u8 0), .lit (.int .u8 0)], .agg [.lit (.int .u8 0), .lit (.int .u8 0)], .agg [.lit (.int .u8 0), .lit (.int .u8 0)], .agg [.lit (.int .u8 0), .lit (.int .u8 0)], .agg [.lit (.int .u8 0), .lit (.int .u8 0)], .agg [.lit (.int .u8 0), .lit (.int .u8 0)], .agg [.lit (.int .u8 0), .lit (.int .u8 0)], .agg [.lit (.int .u8 0), .lit (.int .u8 0)]]
def laid_hydrocascade_gauge_words {H : Type} : DataW H := .agg [.lit (.string [111, 107]), .lit (.string [105, 99, 101]), .lit (.string [102, 97, 117, 108, 116])]
/-- One of Go's own tables, pinned by name: the form's constant. -/
def laid_unicode_utf8_first : DataW Unit := Go.Pinned.utf8First
def laid_math_bits_deBruijn32tab {H : Type} : DataW H := .agg [.lit (.int .u8 0), .lit (.int .u8 1), .lit (.int .u8 28), .lit (.int .u8 2), .lit (.int .u8 29), .lit (.int .u8 14), .lit (.int .u8 24), .lit (.int .u8 3), .lit (.int .u8 30), .lit (.int .u8 22), .lit (.int .u8 20), .lit (.int .u8 15), .lit (.int .u8 25), .lit (.int .u8 17), .lit (.int .u8 4), .lit (.int .u8 8), .lit (.int .u8 31), .lit (.int .u8 27), .lit (.int .u8 13), .lit (.int .u8 23), .lit (.int .u8 21), .lit (.int .u8 19), .lit (.int .u8 16), .lit (.int .u8 7), .lit (.int .u8 26), .lit (.int .u8 12), .lit (.int .u8 18), .lit (.int .u8 6), .lit (.int .u8 11), .lit (.int .u8 5), .lit (.int .u8 10), .lit (.int .u8 9)]
def laid_math_bits_deBruijn64tab {H : Type} : DataW H := .agg [.lit (.int .u8 0), .lit (.int .u8 1), .lit (.int .u8 56), .lit (.int .u8 2), .lit (.int .u8 57), .lit (.int .u8 49), .lit (.int .u8 28), .lit (.int .u8 3), .lit (.int .u8 61), .lit (.int .u8 58), .lit (.int .u8 42), .lit (.int .u8 50), .lit (.int .u8 38), .lit (.int .u8 29), .lit (.int .u8 17), .lit (.int .u8 4), .lit (.int .u8 62), .lit (.int .u8 47), .lit (.int .u8 59), .lit (.int .u8 36), .lit (.int .u8 45), .lit (.int .u8 43), .lit (.int .u8 51), .lit (.int .u8 22), .lit (.int .u8 53), .lit (.int .u8 39), .lit (.int .u8 33), .lit (.int .u8 30), .lit (.int .u8 24), .lit (.int .u8 18), .lit (.int .u8 12), .lit (.int .u8 5), .lit (.int .u8 63), .lit (.int .u8 55), .lit (.int .u8 48), .lit (.int .u8 27), .lit (.int .u8 60), .lit (.int .u8 41), .lit (.int .u8 37), .lit (.int .u8 16), .lit (.int .u8 46), .lit (.int .u8 35), .lit (.int .u8 44), .lit (.int .u8 21), .lit (.int .u8 52), .lit (.int .u8 32), .lit (.int .u8 23), .lit (.int .u8 11), .lit (.int .u8 54), .lit (.int .u8 26), .lit (.int .u8 40), .lit (.int .u8 15), .lit (.int .u8 34), .lit (.int .u8 20), .lit (.int .u8 31), .lit (.int .u8 10), .lit (.int .u8 25), .lit (.int .u8 14), .lit (.int .u8 19), .lit (.int .u8 9), .lit (.int .u8 13), .lit (.int .u8 8), .lit (.int .u8 7), .lit (.int .u8 6)]
def laid_internal_strconv_uint64pow10 {H : Type} : DataW H := .agg [.lit (.int .u64 1), .lit (.int .u64 10), .lit (.int .u64 100), .lit (.int .u64 1000), .lit (.int .u64 10000), .lit (.int .u64 100000), .lit (.int .u64 1000000), .lit (.int .u64 10000000), .lit (.int .u64 100000000), .lit (.int .u64 1000000000), .lit (.int .u64 10000000000), .lit (.int .u64 100000000000), .lit (.int .u64 1000000000000), .lit (.int .u64 10000000000000), .lit (.int .u64 100000000000000), .lit (.int .u64 1000000000000000), .lit (.int .u64 10000000000000000), .lit (.int .u64 100000000000000000), .lit (.int .u64 1000000000000000000), .lit (.int .u64 10000000000000000000)]

/-- 'hydrocascadelaw06.GaugeSeries': WHATEVER THE INPUT: true; the input reads as it did. -/
def gaugeSeriesSpec : ChangeSpec := { name := "gaugeSeries", fn := fun _ => fun
  | [d1, d2, d3, d4, d5] => { results := [.lit (.bool true)], args := [d1, d2, d3, d4, d5] }
  | _ => none }
def gaugeSeriesRow : OpenClaim := { program := "ytgbknfbcjddnhaadoor", sum := "4ced420f17e6bca19d9059350e9c7ec78e40840cc4538c62e9deb1fe1fff5b55", func := "hydrocascade/hydrocascadelaw06.GaugeSeries", spec := "gaugeSeries", inPlace := ["internal/bytealg.CountString", "internal/bytealg.IndexByteString", "internal/bytealg.IndexString"], unfollowed := true, recurses := true, named := ["unicode/utf8.first", "unicode/utf8.acceptRanges", "internal/bytealg.MaxLen", "hydrocascade/gauge.words"], apart := false, laid := [("unicode/utf8.acceptRanges", laid_unicode_utf8_acceptRanges), ("hydrocascade/gauge.words", laid_hydrocascade_gauge_words), ("unicode/utf8.first", laid_unicode_utf8_first)] }
def GaugeSeriesSaid : Prop := gaugeSeriesRow.holds Tryd.pinned (OpenSpec.ofChange gaugeSeriesSpec)

/-- ITS FALSE NEIGHBOUR: 'it returns false'. Refute it at one input. -/
def gaugeSeriesWrong : ChangeSpec := { name := "gaugeSeries", fn := fun _ => fun
  | [d1, d2, d3, d4, d5] => { results := [.lit (.bool false)], args := [d1, d2, d3, d4, d5] }
  | _ => none }
def GaugeSeriesWrongFalsely : Prop := gaugeSeriesRow.holds Tryd.pinned (OpenSpec.ofChange gaugeSeriesWrong)

/-- 'hydrocascadelaw06.GaugeLast': WHATEVER THE INPUT: true; the input reads as it did. -/
def gaugeLastSpec : ChangeSpec := { name := "gaugeLast", fn := fun _ => fun
  | [d1, d2, d3] => { results := [.lit (.bool true)], args := [d1, d2, d3] }
  | _ => none }
def gaugeLastRow : OpenClaim := { program := "ytgbknfbcjddnhaadoor", sum := "4ced420f17e6bca19d9059350e9c7ec78e40840cc4538c62e9deb1fe1fff5b55", func := "hydrocascade/hydrocascadelaw06.GaugeLast", spec := "gaugeLast", inPlace := ["internal/bytealg.CountString", "internal/bytealg.IndexByteString", "internal/bytealg.IndexString"], unfollowed := true, recurses := true, named := ["unicode/utf8.first", "unicode/utf8.acceptRanges", "internal/bytealg.MaxLen", "hydrocascade/gauge.words"], apart := false, laid := [("unicode/utf8.acceptRanges", laid_unicode_utf8_acceptRanges), ("hydrocascade/gauge.words", laid_hydrocascade_gauge_words), ("unicode/utf8.first", laid_unicode_utf8_first)] }
def GaugeLastSaid : Prop := gaugeLastRow.holds Tryd.pinned (OpenSpec.ofChange gaugeLastSpec)

/-- ITS FALSE NEIGHBOUR: 'it returns false'. Refute it at one input. -/
def gaugeLastWrong : ChangeSpec := { name := "gaugeLast", fn := fun _ => fun
  | [d1, d2, d3] => { results := [.lit (.bool false)], args := [d1, d2, d3] }
  | _ => none }
def GaugeLastWrongFalsely : Prop := gaugeLastRow.holds Tryd.pinned (OpenSpec.ofChange gaugeLastWrong)

/-- 'hydrocascadelaw06.GaugeNotices': WHATEVER THE INPUT: true; the input reads as it did. -/
def gaugeNoticesSpec : ChangeSpec := { name := "gaugeNotices", fn := fun _ => fun
  | [d1, d2, d3] => { results := [.lit (.bool true)], args := [d1, d2, d3] }
  | _ => none }
def gaugeNoticesRow : OpenClaim := { program := "ytgbknfbcjddnhaadoor", sum := "4ced420f17e6bca19d9059350e9c7ec78e40840cc4538c62e9deb1fe1fff5b55", func := "hydrocascade/hydrocascadelaw06.GaugeNotices", spec := "gaugeNotices", inPlace := ["internal/bytealg.CountString", "internal/bytealg.IndexByteString", "internal/bytealg.IndexString"], unfollowed := true, recurses := true, named := ["unicode/utf8.first", "unicode/utf8.acceptRanges", "internal/bytealg.MaxLen", "hydrocascade/gauge.words"], apart := false, laid := [("unicode/utf8.acceptRanges", laid_unicode_utf8_acceptRanges), ("hydrocascade/gauge.words", laid_hydrocascade_gauge_words), ("unicode/utf8.first", laid_unicode_utf8_first)] }
def GaugeNoticesSaid : Prop := gaugeNoticesRow.holds Tryd.pinned (OpenSpec.ofChange gaugeNoticesSpec)

/-- ITS FALSE NEIGHBOUR: 'it returns false'. Refute it at one input. -/
def gaugeNoticesWrong : ChangeSpec := { name := "gaugeNotices", fn := fun _ => fun
  | [d1, d2, d3] => { results := [.lit (.bool false)], args := [d1, d2, d3] }
  | _ => none }
def GaugeNoticesWrongFalsely : Prop := gaugeNoticesRow.holds Tryd.pinned (OpenSpec.ofChange gaugeNoticesWrong)

/-- 'hydrocascadelaw06.GaugeReads': WHATEVER THE INPUT: true; the input reads as it did. -/
def gaugeReadsSpec : ChangeSpec := { name := "gaugeReads", fn := fun _ => fun
  | [d1, d2, d3, d4, d5] => { results := [.lit (.bool true)], args := [d1, d2, d3, d4, d5] }
  | _ => none }
def gaugeReadsRow : OpenClaim := { program := "ytgbknfbcjddnhaadoor", sum := "4ced420f17e6bca19d9059350e9c7ec78e40840cc4538c62e9deb1fe1fff5b55", func := "hydrocascade/hydrocascadelaw06.GaugeReads", spec := "gaugeReads", inPlace := ["internal/bytealg.CountString", "internal/bytealg.IndexByteString", "internal/bytealg.IndexString"], unfollowed := true, recurses := true, named := ["unicode/utf8.first", "unicode/utf8.acceptRanges", "internal/bytealg.MaxLen", "hydrocascade/gauge.words", "internal/strconv.uint64pow10", "math/bits.deBruijn32tab", "math/bits.deBruijn64tab"], apart := false, laid := [("math/bits.deBruijn32tab", laid_math_bits_deBruijn32tab), ("math/bits.deBruijn64tab", laid_math_bits_deBruijn64tab), ("internal/strconv.uint64pow10", laid_internal_strconv_uint64pow10), ("unicode/utf8.acceptRanges", laid_unicode_utf8_acceptRanges), ("hydrocascade/gauge.words", laid_hydrocascade_gauge_words), ("unicode/utf8.first", laid_unicode_utf8_first)] }
def GaugeReadsSaid : Prop := gaugeReadsRow.holds Tryd.pinned (OpenSpec.ofChange gaugeReadsSpec)

/-- ITS FALSE NEIGHBOUR: 'it returns false'. Refute it at one input. -/
def gaugeReadsWrong : ChangeSpec := { name := "gaugeReads", fn := fun _ => fun
  | [d1, d2, d3, d4, d5] => { results := [.lit (.bool false)], args := [d1, d2, d3, d4, d5] }
  | _ => none }
def GaugeReadsWrongFalsely : Prop := gaugeReadsRow.holds Tryd.pinned (OpenSpec.ofChange gaugeReadsWrong)

/-- 'hydrocascadelaw06.GaugeWrites': WHATEVER THE INPUT: true; the input reads as it did. -/
def gaugeWritesSpec : ChangeSpec := { name := "gaugeWrites", fn := fun _ => fun
  | [d1, d2, d3, d4, d5] => { results := [.lit (.bool true)], args := [d1, d2, d3, d4, d5] }
  | _ => none }
def gaugeWritesRow : OpenClaim := { program := "ytgbknfbcjddnhaadoor", sum := "4ced420f17e6bca19d9059350e9c7ec78e40840cc4538c62e9deb1fe1fff5b55", func := "hydrocascade/hydrocascadelaw06.GaugeWrites", spec := "gaugeWrites", inPlace := ["internal/bytealg.CountString", "internal/bytealg.IndexByteString", "internal/bytealg.IndexString", "internal/abi.NoEscape"], unfollowed := true, recurses := true, named := ["unicode/utf8.first", "unicode/utf8.acceptRanges", "internal/bytealg.MaxLen", "hydrocascade/gauge.words", "internal/strconv.uint64pow10", "math/bits.deBruijn32tab", "math/bits.deBruijn64tab"], apart := false, laid := [("math/bits.deBruijn32tab", laid_math_bits_deBruijn32tab), ("math/bits.deBruijn64tab", laid_math_bits_deBruijn64tab), ("internal/strconv.uint64pow10", laid_internal_strconv_uint64pow10), ("unicode/utf8.acceptRanges", laid_unicode_utf8_acceptRanges), ("hydrocascade/gauge.words", laid_hydrocascade_gauge_words), ("unicode/utf8.first", laid_unicode_utf8_first)] }
def GaugeWritesSaid : Prop := gaugeWritesRow.holds Tryd.pinned (OpenSpec.ofChange gaugeWritesSpec)

/-- ITS FALSE NEIGHBOUR: 'it returns false'. Refute it at one input. -/
def gaugeWritesWrong : ChangeSpec := { name := "gaugeWrites", fn := fun _ => fun
  | [d1, d2, d3, d4, d5] => { results := [.lit (.bool false)], args := [d1, d2, d3, d4, d5] }
  | _ => none }
def GaugeWritesWrongFalsely : Prop := gaugeWritesRow.holds Tryd.pinned (OpenSpec.ofChange gaugeWritesWrong)

/-- 'hydrocascadelaw06.GaugeBack': WHATEVER THE INPUT: true; the input reads as it did. -/
def gaugeBackSpec : ChangeSpec := { name := "gaugeBack", fn := fun _ => fun
  | [d1, d2] => { results := [.lit (.bool true)], args := [d1, d2] }
  | _ => none }
def gaugeBackRow : OpenClaim := { program := "ytgbknfbcjddnhaadoor", sum := "4ced420f17e6bca19d9059350e9c7ec78e40840cc4538c62e9deb1fe1fff5b55", func := "hydrocascade/hydrocascadelaw06.GaugeBack", spec := "gaugeBack", inPlace := ["internal/abi.NoEscape", "internal/bytealg.CountString", "internal/bytealg.IndexByteString", "internal/bytealg.IndexString"], unfollowed := true, recurses := true, named := ["hydrocascade/gauge.words", "internal/strconv.uint64pow10", "math/bits.deBruijn32tab", "math/bits.deBruijn64tab", "unicode/utf8.first", "unicode/utf8.acceptRanges", "internal/bytealg.MaxLen"], apart := false, laid := [("math/bits.deBruijn32tab", laid_math_bits_deBruijn32tab), ("math/bits.deBruijn64tab", laid_math_bits_deBruijn64tab), ("internal/strconv.uint64pow10", laid_internal_strconv_uint64pow10), ("unicode/utf8.acceptRanges", laid_unicode_utf8_acceptRanges), ("hydrocascade/gauge.words", laid_hydrocascade_gauge_words), ("unicode/utf8.first", laid_unicode_utf8_first)] }
def GaugeBackSaid : Prop := gaugeBackRow.holds Tryd.pinned (OpenSpec.ofChange gaugeBackSpec)

/-- ITS FALSE NEIGHBOUR: 'it returns false'. Refute it at one input. -/
def gaugeBackWrong : ChangeSpec := { name := "gaugeBack", fn := fun _ => fun
  | [d1, d2] => { results := [.lit (.bool false)], args := [d1, d2] }
  | _ => none }
def GaugeBackWrongFalsely : Prop := gaugeBackRow.holds Tryd.pinned (OpenSpec.ofChange gaugeBackWrong)

/- THE SECOND FORM. 'bulk': how many values and letters a reading holds, each counted each time it is reached (what is shared counts as often as it is met; a slice's spare places count too). A statement '..UptoSaid' is the law's where the arguments, and the package variables that the reading takes, are together of bulk at most 1048576: NARROWER than '..Said'. Prove '..Said' where nothing that the law and all that it calls make is longer than what came in: it says more and counts as full. Else prove '..UptoSaid'. A law counts once. -/
mutual
def uptoBulk {H : Type} : DataW H → Nat
  | .lit (.string bytes) => bytes.length + 1
  | .lit _ => 1
  | .nil => 1
  | .ptr d => uptoBulk d + 1
  | .slice elems spare => uptoBulkAll elems + uptoBulkAll spare + 1
  | .agg parts => uptoBulkAll parts + 1
  | .iface _ d => uptoBulk d + 1
  | .map entries => uptoBulkEntries entries + 1
  | .held _ => 1
def uptoBulkAll {H : Type} : List (DataW H) → Nat
  | [] => 0
  | d :: r => uptoBulk d + uptoBulkAll r
def uptoBulkEntries {H : Type} : List (Lit × DataW H) → Nat
  | [] => 0
  | x :: r => uptoBulkEntry x + uptoBulkEntries r
def uptoBulkEntry {H : Type} : Lit × DataW H → Nat
  | (.string bytes, d) => bytes.length + uptoBulk d + 1
  | (_, d) => uptoBulk d + 1
 end
def uptoSmall : (H : Type) → List (DataW H) → Bool := fun _ ds => decide (uptoBulkAll ds ≤ 1048576)
def OpenSpec.upto (s : _root_.Go.ChangeSpec) : _root_.Go.OpenSpec := { _root_.Go.OpenSpec.ofChange s with cond := some uptoSmall }

/-- 'hydrocascadelaw06.GaugeSeries', WHERE WHAT IT READS IS OF BULK AT MOST 1048576: true; the input reads as it did. -/
def gaugeSeriesUptoRow : OpenClaim := { program := "ytgbknfbcjddnhaadoor", sum := "4ced420f17e6bca19d9059350e9c7ec78e40840cc4538c62e9deb1fe1fff5b55", func := "hydrocascade/hydrocascadelaw06.GaugeSeries", spec := "gaugeSeries", inPlace := ["internal/bytealg.CountString", "internal/bytealg.IndexByteString", "internal/bytealg.IndexString"], unfollowed := true, recurses := true, named := ["unicode/utf8.first", "unicode/utf8.acceptRanges", "internal/bytealg.MaxLen", "hydrocascade/gauge.words"], apart := false, laid := [("unicode/utf8.acceptRanges", laid_unicode_utf8_acceptRanges), ("hydrocascade/gauge.words", laid_hydrocascade_gauge_words), ("unicode/utf8.first", laid_unicode_utf8_first)], narrowed := true }
def GaugeSeriesUptoSaid : Prop := gaugeSeriesUptoRow.holds Tryd.pinned (OpenSpec.upto gaugeSeriesSpec)

/-- 'hydrocascadelaw06.GaugeLast', WHERE WHAT IT READS IS OF BULK AT MOST 1048576: true; the input reads as it did. -/
def gaugeLastUptoRow : OpenClaim := { program := "ytgbknfbcjddnhaadoor", sum := "4ced420f17e6bca19d9059350e9c7ec78e40840cc4538c62e9deb1fe1fff5b55", func := "hydrocascade/hydrocascadelaw06.GaugeLast", spec := "gaugeLast", inPlace := ["internal/bytealg.CountString", "internal/bytealg.IndexByteString", "internal/bytealg.IndexString"], unfollowed := true, recurses := true, named := ["unicode/utf8.first", "unicode/utf8.acceptRanges", "internal/bytealg.MaxLen", "hydrocascade/gauge.words"], apart := false, laid := [("unicode/utf8.acceptRanges", laid_unicode_utf8_acceptRanges), ("hydrocascade/gauge.words", laid_hydrocascade_gauge_words), ("unicode/utf8.first", laid_unicode_utf8_first)], narrowed := true }
def GaugeLastUptoSaid : Prop := gaugeLastUptoRow.holds Tryd.pinned (OpenSpec.upto gaugeLastSpec)

/-- 'hydrocascadelaw06.GaugeNotices', WHERE WHAT IT READS IS OF BULK AT MOST 1048576: true; the input reads as it did. -/
def gaugeNoticesUptoRow : OpenClaim := { program := "ytgbknfbcjddnhaadoor", sum := "4ced420f17e6bca19d9059350e9c7ec78e40840cc4538c62e9deb1fe1fff5b55", func := "hydrocascade/hydrocascadelaw06.GaugeNotices", spec := "gaugeNotices", inPlace := ["internal/bytealg.CountString", "internal/bytealg.IndexByteString", "internal/bytealg.IndexString"], unfollowed := true, recurses := true, named := ["unicode/utf8.first", "unicode/utf8.acceptRanges", "internal/bytealg.MaxLen", "hydrocascade/gauge.words"], apart := false, laid := [("unicode/utf8.acceptRanges", laid_unicode_utf8_acceptRanges), ("hydrocascade/gauge.words", laid_hydrocascade_gauge_words), ("unicode/utf8.first", laid_unicode_utf8_first)], narrowed := true }
def GaugeNoticesUptoSaid : Prop := gaugeNoticesUptoRow.holds Tryd.pinned (OpenSpec.upto gaugeNoticesSpec)

/-- 'hydrocascadelaw06.GaugeReads', WHERE WHAT IT READS IS OF BULK AT MOST 1048576: true; the input reads as it did. -/
def gaugeReadsUptoRow : OpenClaim := { program := "ytgbknfbcjddnhaadoor", sum := "4ced420f17e6bca19d9059350e9c7ec78e40840cc4538c62e9deb1fe1fff5b55", func := "hydrocascade/hydrocascadelaw06.GaugeReads", spec := "gaugeReads", inPlace := ["internal/bytealg.CountString", "internal/bytealg.IndexByteString", "internal/bytealg.IndexString"], unfollowed := true, recurses := true, named := ["unicode/utf8.first", "unicode/utf8.acceptRanges", "internal/bytealg.MaxLen", "hydrocascade/gauge.words", "internal/strconv.uint64pow10", "math/bits.deBruijn32tab", "math/bits.deBruijn64tab"], apart := false, laid := [("math/bits.deBruijn32tab", laid_math_bits_deBruijn32tab), ("math/bits.deBruijn64tab", laid_math_bits_deBruijn64tab), ("internal/strconv.uint64pow10", laid_internal_strconv_uint64pow10), ("unicode/utf8.acceptRanges", laid_unicode_utf8_acceptRanges), ("hydrocascade/gauge.words", laid_hydrocascade_gauge_words), ("unicode/utf8.first", laid_unicode_utf8_first)], narrowed := true }
def GaugeReadsUptoSaid : Prop := gaugeReadsUptoRow.holds Tryd.pinned (OpenSpec.upto gaugeReadsSpec)

/-- 'hydrocascadelaw06.GaugeWrites', WHERE WHAT IT READS IS OF BULK AT MOST 1048576: true; the input reads as it did. -/
def gaugeWritesUptoRow : OpenClaim := { program := "ytgbknfbcjddnhaadoor", sum := "4ced420f17e6bca19d9059350e9c7ec78e40840cc4538c62e9deb1fe1fff5b55", func := "hydrocascade/hydrocascadelaw06.GaugeWrites", spec := "gaugeWrites", inPlace := ["internal/bytealg.CountString", "internal/bytealg.IndexByteString", "internal/bytealg.IndexString", "internal/abi.NoEscape"], unfollowed := true, recurses := true, named := ["unicode/utf8.first", "unicode/utf8.acceptRanges", "internal/bytealg.MaxLen", "hydrocascade/gauge.words", "internal/strconv.uint64pow10", "math/bits.deBruijn32tab", "math/bits.deBruijn64tab"], apart := false, laid := [("math/bits.deBruijn32tab", laid_math_bits_deBruijn32tab), ("math/bits.deBruijn64tab", laid_math_bits_deBruijn64tab), ("internal/strconv.uint64pow10", laid_internal_strconv_uint64pow10), ("unicode/utf8.acceptRanges", laid_unicode_utf8_acceptRanges), ("hydrocascade/gauge.words", laid_hydrocascade_gauge_words), ("unicode/utf8.first", laid_unicode_utf8_first)], narrowed := true }
def GaugeWritesUptoSaid : Prop := gaugeWritesUptoRow.holds Tryd.pinned (OpenSpec.upto gaugeWritesSpec)

/-- 'hydrocascadelaw06.GaugeBack', WHERE WHAT IT READS IS OF BULK AT MOST 1048576: true; the input reads as it did. -/
def gaugeBackUptoRow : OpenClaim := { program := "ytgbknfbcjddnhaadoor", sum := "4ced420f17e6bca19d9059350e9c7ec78e40840cc4538c62e9deb1fe1fff5b55", func := "hydrocascade/hydrocascadelaw06.GaugeBack", spec := "gaugeBack", inPlace := ["internal/abi.NoEscape", "internal/bytealg.CountString", "internal/bytealg.IndexByteString", "internal/bytealg.IndexString"], unfollowed := true, recurses := true, named := ["hydrocascade/gauge.words", "internal/strconv.uint64pow10", "math/bits.deBruijn32tab", "math/bits.deBruijn64tab", "unicode/utf8.first", "unicode/utf8.acceptRanges", "internal/bytealg.MaxLen"], apart := false, laid := [("math/bits.deBruijn32tab", laid_math_bits_deBruijn32tab), ("math/bits.deBruijn64tab", laid_math_bits_deBruijn64tab), ("internal/strconv.uint64pow10", laid_internal_strconv_uint64pow10), ("unicode/utf8.acceptRanges", laid_unicode_utf8_acceptRanges), ("hydrocascade/gauge.words", laid_hydrocascade_gauge_words), ("unicode/utf8.first", laid_unicode_utf8_first)], narrowed := true }
def GaugeBackUptoSaid : Prop := gaugeBackUptoRow.holds Tryd.pinned (OpenSpec.upto gaugeBackSpec)

end Rows
end Go.Proofs.YtgbknfbcjddnhaaDoor
