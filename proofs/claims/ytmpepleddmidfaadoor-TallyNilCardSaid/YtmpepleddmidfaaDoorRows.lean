/-
  NARROWER THAN 'FOR EVERY INPUT', by the rows' own cells (each row's printed sentence says how): EventMakes: laid · TallyNil: laid · TallyMerges: laid · DumpParses: laid · ConfParses: laid · NoiseRuns: laid · ConfTells: laid · NoiseLines: laid · NoiseParses: laid · SayNumbers: laid · FleetOrder: laid.
  DERIVED. THE GIVEN ROWS OF THIS SEAT. 11 by the template 'for every input the law returns true; each argument reads behind the call as it read before'; 0 by the template 'total and deterministic' (their statements: YtmpepleddmidfaaDoorTotals.lean).
  GIVEN WITH THE SEED: the statements are not yours to turn. If you find one false, say at which input.
  Laid BY PROGRAM, IN A SANDBOX (cutbox-rows.mjs): the forced cells as the released guide's own fill.sh prints them over the translation 6e3d72b04e168861… (all of the seat's roots in one cut). By AI agents, Wed Nov 11 2026. No macro, syntax, notation, axiom, sorry.
-/
import Derived.Test.YtmpepleddmidfaaDoorChecked
import GoSem.PinnedTables
import GoSem.Claim
import GoSem.ClaimJoined
import GoSem.ClaimMapViews
import Derived.JoinedTies
import Derived.KernelRfl
namespace Go.Proofs.YtmpepleddmidfaaDoor
/- THE CELL 'sum', in the pinned program and in every row, IS THE sha256 OF THE DUMP (.gsa) THAT YtmpepleddmidfaaDoorProg.lean LOADS. Nothing in Lean hashes anything: it is a label: what it is worth is what the hold of that sum in a sandbox is worth. -/
noncomputable def Tryd.pinned : Pinned := { name := "ytmpepleddmidfaadoor", sum := "6e3d72b04e1688615083074ad7452229a255f5ee30e32c89601882a316a81f9c", checked := Tryd.checked }
namespace Rows
def none {H : Type} : Left H := { results := [], args := [] }

/- WHAT THE LISTED PACKAGE-LEVEL VARIABLES READ AS WHEN THE CALL BEGINS. Each datum BY PROGRAM (the guide's laid-datum.mjs) off the statement by which the dump's own 'gosem.cut.vars' lays the variable. In a bare row this is a premise. The card (YtmpepleddmidfaaDoorCards.lean) ties it to the program's text. -/
def laid_math_bits_deBruijn32tab {H : Type} : DataW H := .agg [.lit (.int .u8 0), .lit (.int .u8 1), .lit (.int .u8 28), .lit (.int .u8 2), .lit (.int .u8 29), .lit (.int .u8 14), .lit (.int .u8 24), .lit (.int .u8 3), .lit (.int .u8 30), .lit (.int .u8 22), .lit (.int .u8 20), .lit (.int .u8 15), .lit (.int .u8 25), .lit (.int .u8 17), .lit (.int .u8 4), .lit (.int .u8 8), .lit (.int .u8 31), .lit (.int .u8 27), .lit (.int .u8 13), .lit (.int .u8 23), .lit (.int .u8 21), .lit (.int .u8 19), .lit (.int .u8 16), .lit (.int .u8 7), .lit (.int .u8 26), .lit (.int .u8 12), .lit (.int .u8 18), .lit (.int .u8 6), .lit (.int .u8 11), .lit (.int .u8 5), .lit (.int .u8 10), .lit (.int .u8 9)]
def laid_math_bits_deBruijn64tab {H : Type} : DataW H := .agg [.lit (.int .u8 0), .lit (.int .u8 1), .lit (.int .u8 56), .lit (.int .u8 2), .lit (.int .u8 57), .lit (.int .u8 49), .lit (.int .u8 28), .lit (.int .u8 3), .lit (.int .u8 61), .lit (.int .u8 58), .lit (.int .u8 42), .lit (.int .u8 50), .lit (.int .u8 38), .lit (.int .u8 29), .lit (.int .u8 17), .lit (.int .u8 4), .lit (.int .u8 62), .lit (.int .u8 47), .lit (.int .u8 59), .lit (.int .u8 36), .lit (.int .u8 45), .lit (.int .u8 43), .lit (.int .u8 51), .lit (.int .u8 22), .lit (.int .u8 53), .lit (.int .u8 39), .lit (.int .u8 33), .lit (.int .u8 30), .lit (.int .u8 24), .lit (.int .u8 18), .lit (.int .u8 12), .lit (.int .u8 5), .lit (.int .u8 63), .lit (.int .u8 55), .lit (.int .u8 48), .lit (.int .u8 27), .lit (.int .u8 60), .lit (.int .u8 41), .lit (.int .u8 37), .lit (.int .u8 16), .lit (.int .u8 46), .lit (.int .u8 35), .lit (.int .u8 44), .lit (.int .u8 21), .lit (.int .u8 52), .lit (.int .u8 32), .lit (.int .u8 23), .lit (.int .u8 11), .lit (.int .u8 54), .lit (.int .u8 26), .lit (.int .u8 40), .lit (.int .u8 15), .lit (.int .u8 34), .lit (.int .u8 20), .lit (.int .u8 31), .lit (.int .u8 10), .lit (.int .u8 25), .lit (.int .u8 14), .lit (.int .u8 19), .lit (.int .u8 9), .lit (.int .u8 13), .lit (.int .u8 8), .lit (.int .u8 7), .lit (.int .u8 6)]
def laid_internal_strconv_uint64pow10 {H : Type} : DataW H := .agg [.lit (.int .u64 1), .lit (.int .u64 10), .lit (.int .u64 100), .lit (.int .u64 1000), .lit (.int .u64 10000), .lit (.int .u64 100000), .lit (.int .u64 1000000), .lit (.int .u64 10000000), .lit (.int .u64 100000000), .lit (.int .u64 1000000000), .lit (.int .u64 10000000000), .lit (.int .u64 100000000000), .lit (.int .u64 1000000000000), .lit (.int .u64 10000000000000), .lit (.int .u64 100000000000000), .lit (.int .u64 1000000000000000), .lit (.int .u64 10000000000000000), .lit (.int .u64 100000000000000000), .lit (.int .u64 1000000000000000000), .lit (.int .u64 10000000000000000000)]
def laid_unicode_utf8_acceptRanges {H : Type} : DataW H := .agg [.agg [.lit (.int .u8 128), .lit (.int .u8 191)], .agg [.lit (.int .u8 160), .lit (.int .u8 191)], .agg [.lit (.int .u8 128), .lit (.int .u8 159)], .agg [.lit (.int .u8 144), .lit (.int .u8 191)], .agg [.lit (.int .u8 128), .lit (.int .u8 143)], .agg [.lit (.int .u8 0), .lit (.int .u8 0)], .agg [.lit (.int .u8 0), .lit (.int .u8 0)], .agg [.lit (.int .u8 0), .lit (.int .u8 0)], .agg [.lit (.int .u8 0), .lit (.int .u8 0)], .agg [.lit (.int .u8 0), .lit (.int .u8 0)], .agg [.lit (.int .u8 0), .lit (.int .u8 0)], .agg [.lit (.int .u8 0), .lit (.int .u8 0)], .agg [.lit (.int .u8 0), .lit (.int .u8 0)], .agg [.lit (.int .u8 0), .lit (.int .u8 0)], .agg [.lit (.int .u8 0), .lit (.int .u8 0)], .agg [.lit (.int .u8 0), .lit (.int .u8 0)]]
/-- One of Go's own tables, pinned by name: the form's constant. -/
def laid_unicode_utf8_first : DataW Unit := Go.Pinned.utf8First
def laid_strconv_ErrRange {H : Type} : DataW H := .iface "*errors.errorString" (.ptr (.agg [.lit (.string [118, 97, 108, 117, 101, 32, 111, 117, 116, 32, 111, 102, 32, 114, 97, 110, 103, 101])]))
def laid_strconv_ErrSyntax {H : Type} : DataW H := .iface "*errors.errorString" (.ptr (.agg [.lit (.string [105, 110, 118, 97, 108, 105, 100, 32, 115, 121, 110, 116, 97, 120])]))

/-- 'cuneiformlaw23.EventMakes': WHATEVER THE INPUT: true; the input reads as it did. -/
def eventMakesSpec : ChangeSpec := { name := "eventMakes", fn := fun _ => fun
  | [d1, d2, d3, d4] => { results := [.lit (.bool true)], args := [d1, d2, d3, d4] }
  | _ => none }
def eventMakesRow : OpenClaim := { program := "ytmpepleddmidfaadoor", sum := "6e3d72b04e1688615083074ad7452229a255f5ee30e32c89601882a316a81f9c", func := "cuneiform/cuneiformlaw23.EventMakes", spec := "eventMakes", inPlace := ["internal/abi.NoEscape", "internal/bytealg.MakeNoZero"], unfollowed := true, recurses := true, named := ["internal/strconv.uint64pow10", "math/bits.deBruijn32tab", "math/bits.deBruijn64tab"], plainKeys := false, apart := false, laid := [("math/bits.deBruijn32tab", laid_math_bits_deBruijn32tab), ("math/bits.deBruijn64tab", laid_math_bits_deBruijn64tab), ("internal/strconv.uint64pow10", laid_internal_strconv_uint64pow10)] }
def EventMakesSaid : Prop := eventMakesRow.holds Tryd.pinned (OpenSpec.ofChange eventMakesSpec)

/-- ITS FALSE NEIGHBOUR: 'it returns false'. Refute it at one input. -/
def eventMakesWrong : ChangeSpec := { name := "eventMakes", fn := fun _ => fun
  | [d1, d2, d3, d4] => { results := [.lit (.bool false)], args := [d1, d2, d3, d4] }
  | _ => none }
def EventMakesWrongFalsely : Prop := eventMakesRow.holds Tryd.pinned (OpenSpec.ofChange eventMakesWrong)

/-- 'cuneiformlaw25.TallyNil': WHATEVER THE INPUT: true; the input reads as it did. -/
def tallyNilSpec : ChangeSpec := { name := "tallyNil", fn := fun _ => fun
  | [d1, d2] => { results := [.lit (.bool true)], args := [d1, d2] }
  | _ => none }
def tallyNilRow : OpenClaim := { program := "ytmpepleddmidfaadoor", sum := "6e3d72b04e1688615083074ad7452229a255f5ee30e32c89601882a316a81f9c", func := "cuneiform/cuneiformlaw25.TallyNil", spec := "tallyNil", inPlace := ["maps.clone"], unfollowed := true, recurses := true, named := ["internal/strconv.uint64pow10", "math/bits.deBruijn32tab", "math/bits.deBruijn64tab"], plainKeys := false, apart := false, laid := [("math/bits.deBruijn32tab", laid_math_bits_deBruijn32tab), ("math/bits.deBruijn64tab", laid_math_bits_deBruijn64tab), ("internal/strconv.uint64pow10", laid_internal_strconv_uint64pow10)] }
def TallyNilSaid : Prop := tallyNilRow.holds Tryd.pinned (OpenSpec.ofChange tallyNilSpec)

/-- ITS FALSE NEIGHBOUR: 'it returns false'. Refute it at one input. -/
def tallyNilWrong : ChangeSpec := { name := "tallyNil", fn := fun _ => fun
  | [d1, d2] => { results := [.lit (.bool false)], args := [d1, d2] }
  | _ => none }
def TallyNilWrongFalsely : Prop := tallyNilRow.holds Tryd.pinned (OpenSpec.ofChange tallyNilWrong)

/-- 'cuneiformlaw25.TallyMerges': WHATEVER THE INPUT: true; the input reads as it did. -/
def tallyMergesSpec : ChangeSpec := { name := "tallyMerges", fn := fun _ => fun
  | [d1, d2] => { results := [.lit (.bool true)], args := [d1, d2] }
  | _ => none }
def tallyMergesRow : OpenClaim := { program := "ytmpepleddmidfaadoor", sum := "6e3d72b04e1688615083074ad7452229a255f5ee30e32c89601882a316a81f9c", func := "cuneiform/cuneiformlaw25.TallyMerges", spec := "tallyMerges", inPlace := ["maps.clone"], unfollowed := true, recurses := true, named := ["internal/strconv.uint64pow10", "math/bits.deBruijn32tab", "math/bits.deBruijn64tab"], plainKeys := false, apart := false, laid := [("math/bits.deBruijn32tab", laid_math_bits_deBruijn32tab), ("math/bits.deBruijn64tab", laid_math_bits_deBruijn64tab), ("internal/strconv.uint64pow10", laid_internal_strconv_uint64pow10)] }
def TallyMergesSaid : Prop := tallyMergesRow.holds Tryd.pinned (OpenSpec.ofChange tallyMergesSpec)

/-- ITS FALSE NEIGHBOUR: 'it returns false'. Refute it at one input. -/
def tallyMergesWrong : ChangeSpec := { name := "tallyMerges", fn := fun _ => fun
  | [d1, d2] => { results := [.lit (.bool false)], args := [d1, d2] }
  | _ => none }
def TallyMergesWrongFalsely : Prop := tallyMergesRow.holds Tryd.pinned (OpenSpec.ofChange tallyMergesWrong)

/-- 'cuneiformlaw29.DumpParses': WHATEVER THE INPUT: true; the input reads as it did. -/
def dumpParsesSpec : ChangeSpec := { name := "dumpParses", fn := fun _ => fun
  | [d] => { results := [.lit (.bool true)], args := [d] }
  | _ => none }
def dumpParsesRow : OpenClaim := { program := "ytmpepleddmidfaadoor", sum := "6e3d72b04e1688615083074ad7452229a255f5ee30e32c89601882a316a81f9c", func := "cuneiform/cuneiformlaw29.DumpParses", spec := "dumpParses", inPlace := ["internal/bytealg.IndexByteString", "internal/bytealg.IndexString", "internal/abi.NoEscape"], unfollowed := true, recurses := true, named := ["internal/bytealg.MaxLen", "unicode/utf8.first", "unicode/utf8.acceptRanges", "internal/strconv.uint64pow10", "math/bits.deBruijn32tab", "math/bits.deBruijn64tab"], plainKeys := false, apart := false, laid := [("math/bits.deBruijn32tab", laid_math_bits_deBruijn32tab), ("math/bits.deBruijn64tab", laid_math_bits_deBruijn64tab), ("internal/strconv.uint64pow10", laid_internal_strconv_uint64pow10), ("unicode/utf8.acceptRanges", laid_unicode_utf8_acceptRanges), ("unicode/utf8.first", laid_unicode_utf8_first)] }
def DumpParsesSaid : Prop := dumpParsesRow.holds Tryd.pinned (OpenSpec.ofChange dumpParsesSpec)

/-- ITS FALSE NEIGHBOUR: 'it returns false'. Refute it at one input. -/
def dumpParsesWrong : ChangeSpec := { name := "dumpParses", fn := fun _ => fun
  | [d] => { results := [.lit (.bool false)], args := [d] }
  | _ => none }
def DumpParsesWrongFalsely : Prop := dumpParsesRow.holds Tryd.pinned (OpenSpec.ofChange dumpParsesWrong)

/-- 'cuneiformlaw21.ConfParses': WHATEVER THE INPUT: true; the input reads as it did. -/
def confParsesSpec : ChangeSpec := { name := "confParses", fn := fun _ => fun
  | [d] => { results := [.lit (.bool true)], args := [d] }
  | _ => none }
def confParsesRow : OpenClaim := { program := "ytmpepleddmidfaadoor", sum := "6e3d72b04e1688615083074ad7452229a255f5ee30e32c89601882a316a81f9c", func := "cuneiform/cuneiformlaw21.ConfParses", spec := "confParses", inPlace := ["internal/bytealg.IndexByteString", "internal/bytealg.IndexString"], unfollowed := true, recurses := true, named := ["unicode/utf8.first", "unicode/utf8.acceptRanges", "internal/bytealg.MaxLen", "strconv.ErrSyntax", "strconv.ErrRange", "internal/strconv.uint64pow10", "math/bits.deBruijn32tab", "math/bits.deBruijn64tab"], plainKeys := false, apart := false, laid := [("math/bits.deBruijn32tab", laid_math_bits_deBruijn32tab), ("math/bits.deBruijn64tab", laid_math_bits_deBruijn64tab), ("internal/strconv.uint64pow10", laid_internal_strconv_uint64pow10), ("unicode/utf8.acceptRanges", laid_unicode_utf8_acceptRanges), ("strconv.ErrRange", laid_strconv_ErrRange), ("strconv.ErrSyntax", laid_strconv_ErrSyntax), ("unicode/utf8.first", laid_unicode_utf8_first)] }
def ConfParsesSaid : Prop := confParsesRow.holds Tryd.pinned (OpenSpec.ofChange confParsesSpec)

/-- ITS FALSE NEIGHBOUR: 'it returns false'. Refute it at one input. -/
def confParsesWrong : ChangeSpec := { name := "confParses", fn := fun _ => fun
  | [d] => { results := [.lit (.bool false)], args := [d] }
  | _ => none }
def ConfParsesWrongFalsely : Prop := confParsesRow.holds Tryd.pinned (OpenSpec.ofChange confParsesWrong)

/-- 'cuneiformlaw26.NoiseRuns': WHATEVER THE INPUT: true; the input reads as it did. -/
def noiseRunsSpec : ChangeSpec := { name := "noiseRuns", fn := fun _ => fun
  | [d1, d2] => { results := [.lit (.bool true)], args := [d1, d2] }
  | _ => none }
def noiseRunsRow : OpenClaim := { program := "ytmpepleddmidfaadoor", sum := "6e3d72b04e1688615083074ad7452229a255f5ee30e32c89601882a316a81f9c", func := "cuneiform/cuneiformlaw26.NoiseRuns", spec := "noiseRuns", inPlace := ["internal/bytealg.IndexByteString", "internal/bytealg.IndexString"], unfollowed := true, recurses := true, named := ["unicode/utf8.first", "unicode/utf8.acceptRanges", "internal/bytealg.MaxLen", "strconv.ErrSyntax", "strconv.ErrRange", "internal/strconv.uint64pow10", "math/bits.deBruijn32tab", "math/bits.deBruijn64tab"], plainKeys := false, apart := false, laid := [("math/bits.deBruijn32tab", laid_math_bits_deBruijn32tab), ("math/bits.deBruijn64tab", laid_math_bits_deBruijn64tab), ("internal/strconv.uint64pow10", laid_internal_strconv_uint64pow10), ("unicode/utf8.acceptRanges", laid_unicode_utf8_acceptRanges), ("strconv.ErrRange", laid_strconv_ErrRange), ("strconv.ErrSyntax", laid_strconv_ErrSyntax), ("unicode/utf8.first", laid_unicode_utf8_first)] }
def NoiseRunsSaid : Prop := noiseRunsRow.holds Tryd.pinned (OpenSpec.ofChange noiseRunsSpec)

/-- ITS FALSE NEIGHBOUR: 'it returns false'. Refute it at one input. -/
def noiseRunsWrong : ChangeSpec := { name := "noiseRuns", fn := fun _ => fun
  | [d1, d2] => { results := [.lit (.bool false)], args := [d1, d2] }
  | _ => none }
def NoiseRunsWrongFalsely : Prop := noiseRunsRow.holds Tryd.pinned (OpenSpec.ofChange noiseRunsWrong)

/-- 'cuneiformlaw21.ConfTells': WHATEVER THE INPUT: true; the input reads as it did. -/
def confTellsSpec : ChangeSpec := { name := "confTells", fn := fun _ => fun
  | [d1, d2, d3] => { results := [.lit (.bool true)], args := [d1, d2, d3] }
  | _ => none }
def confTellsRow : OpenClaim := { program := "ytmpepleddmidfaadoor", sum := "6e3d72b04e1688615083074ad7452229a255f5ee30e32c89601882a316a81f9c", func := "cuneiform/cuneiformlaw21.ConfTells", spec := "confTells", inPlace := ["internal/bytealg.IndexByteString", "internal/bytealg.IndexString"], unfollowed := true, recurses := true, named := ["internal/strconv.uint64pow10", "math/bits.deBruijn32tab", "math/bits.deBruijn64tab", "unicode/utf8.first", "unicode/utf8.acceptRanges", "internal/bytealg.MaxLen", "strconv.ErrSyntax", "strconv.ErrRange"], plainKeys := false, apart := false, laid := [("math/bits.deBruijn32tab", laid_math_bits_deBruijn32tab), ("math/bits.deBruijn64tab", laid_math_bits_deBruijn64tab), ("internal/strconv.uint64pow10", laid_internal_strconv_uint64pow10), ("unicode/utf8.acceptRanges", laid_unicode_utf8_acceptRanges), ("strconv.ErrRange", laid_strconv_ErrRange), ("strconv.ErrSyntax", laid_strconv_ErrSyntax), ("unicode/utf8.first", laid_unicode_utf8_first)] }
def ConfTellsSaid : Prop := confTellsRow.holds Tryd.pinned (OpenSpec.ofChange confTellsSpec)

/-- ITS FALSE NEIGHBOUR: 'it returns false'. Refute it at one input. -/
def confTellsWrong : ChangeSpec := { name := "confTells", fn := fun _ => fun
  | [d1, d2, d3] => { results := [.lit (.bool false)], args := [d1, d2, d3] }
  | _ => none }
def ConfTellsWrongFalsely : Prop := confTellsRow.holds Tryd.pinned (OpenSpec.ofChange confTellsWrong)

/-- 'cuneiformlaw26.NoiseLines': WHATEVER THE INPUT: true; the input reads as it did. -/
def noiseLinesSpec : ChangeSpec := { name := "noiseLines", fn := fun _ => fun
  | [d] => { results := [.lit (.bool true)], args := [d] }
  | _ => none }
def noiseLinesRow : OpenClaim := { program := "ytmpepleddmidfaadoor", sum := "6e3d72b04e1688615083074ad7452229a255f5ee30e32c89601882a316a81f9c", func := "cuneiform/cuneiformlaw26.NoiseLines", spec := "noiseLines", inPlace := ["internal/bytealg.IndexByteString", "internal/bytealg.IndexString"], unfollowed := true, recurses := true, named := ["internal/strconv.uint64pow10", "math/bits.deBruijn32tab", "math/bits.deBruijn64tab", "unicode/utf8.first", "unicode/utf8.acceptRanges", "internal/bytealg.MaxLen", "strconv.ErrSyntax", "strconv.ErrRange"], plainKeys := false, apart := false, laid := [("math/bits.deBruijn32tab", laid_math_bits_deBruijn32tab), ("math/bits.deBruijn64tab", laid_math_bits_deBruijn64tab), ("internal/strconv.uint64pow10", laid_internal_strconv_uint64pow10), ("unicode/utf8.acceptRanges", laid_unicode_utf8_acceptRanges), ("strconv.ErrRange", laid_strconv_ErrRange), ("strconv.ErrSyntax", laid_strconv_ErrSyntax), ("unicode/utf8.first", laid_unicode_utf8_first)] }
def NoiseLinesSaid : Prop := noiseLinesRow.holds Tryd.pinned (OpenSpec.ofChange noiseLinesSpec)

/-- ITS FALSE NEIGHBOUR: 'it returns false'. Refute it at one input. -/
def noiseLinesWrong : ChangeSpec := { name := "noiseLines", fn := fun _ => fun
  | [d] => { results := [.lit (.bool false)], args := [d] }
  | _ => none }
def NoiseLinesWrongFalsely : Prop := noiseLinesRow.holds Tryd.pinned (OpenSpec.ofChange noiseLinesWrong)

/-- 'cuneiformlaw26.NoiseParses': WHATEVER THE INPUT: true; the input reads as it did. -/
def noiseParsesSpec : ChangeSpec := { name := "noiseParses", fn := fun _ => fun
  | [d] => { results := [.lit (.bool true)], args := [d] }
  | _ => none }
def noiseParsesRow : OpenClaim := { program := "ytmpepleddmidfaadoor", sum := "6e3d72b04e1688615083074ad7452229a255f5ee30e32c89601882a316a81f9c", func := "cuneiform/cuneiformlaw26.NoiseParses", spec := "noiseParses", inPlace := ["internal/bytealg.IndexByteString", "internal/bytealg.IndexString"], unfollowed := true, recurses := true, named := ["unicode/utf8.first", "unicode/utf8.acceptRanges", "internal/bytealg.MaxLen", "strconv.ErrSyntax", "strconv.ErrRange", "internal/strconv.uint64pow10", "math/bits.deBruijn32tab", "math/bits.deBruijn64tab"], plainKeys := false, apart := false, laid := [("math/bits.deBruijn32tab", laid_math_bits_deBruijn32tab), ("math/bits.deBruijn64tab", laid_math_bits_deBruijn64tab), ("internal/strconv.uint64pow10", laid_internal_strconv_uint64pow10), ("unicode/utf8.acceptRanges", laid_unicode_utf8_acceptRanges), ("strconv.ErrRange", laid_strconv_ErrRange), ("strconv.ErrSyntax", laid_strconv_ErrSyntax), ("unicode/utf8.first", laid_unicode_utf8_first)] }
def NoiseParsesSaid : Prop := noiseParsesRow.holds Tryd.pinned (OpenSpec.ofChange noiseParsesSpec)

/-- ITS FALSE NEIGHBOUR: 'it returns false'. Refute it at one input. -/
def noiseParsesWrong : ChangeSpec := { name := "noiseParses", fn := fun _ => fun
  | [d] => { results := [.lit (.bool false)], args := [d] }
  | _ => none }
def NoiseParsesWrongFalsely : Prop := noiseParsesRow.holds Tryd.pinned (OpenSpec.ofChange noiseParsesWrong)

/-- 'cuneiformlaw20.SayNumbers': WHATEVER THE INPUT: true; the input reads as it did. -/
def sayNumbersSpec : ChangeSpec := { name := "sayNumbers", fn := fun _ => fun
  | [d1, d2, d3] => { results := [.lit (.bool true)], args := [d1, d2, d3] }
  | _ => none }
def sayNumbersRow : OpenClaim := { program := "ytmpepleddmidfaadoor", sum := "6e3d72b04e1688615083074ad7452229a255f5ee30e32c89601882a316a81f9c", func := "cuneiform/cuneiformlaw20.SayNumbers", spec := "sayNumbers", inPlace := ["internal/bytealg.IndexByteString", "internal/bytealg.IndexString", "internal/abi.NoEscape", "internal/bytealg.MakeNoZero"], unfollowed := true, recurses := true, named := ["internal/strconv.uint64pow10", "math/bits.deBruijn32tab", "math/bits.deBruijn64tab", "strconv.ErrSyntax", "strconv.ErrRange", "unicode/utf8.first", "unicode/utf8.acceptRanges", "internal/bytealg.MaxLen"], plainKeys := false, apart := false, laid := [("math/bits.deBruijn32tab", laid_math_bits_deBruijn32tab), ("math/bits.deBruijn64tab", laid_math_bits_deBruijn64tab), ("internal/strconv.uint64pow10", laid_internal_strconv_uint64pow10), ("unicode/utf8.acceptRanges", laid_unicode_utf8_acceptRanges), ("strconv.ErrRange", laid_strconv_ErrRange), ("strconv.ErrSyntax", laid_strconv_ErrSyntax), ("unicode/utf8.first", laid_unicode_utf8_first)] }
def SayNumbersSaid : Prop := sayNumbersRow.holds Tryd.pinned (OpenSpec.ofChange sayNumbersSpec)

/-- ITS FALSE NEIGHBOUR: 'it returns false'. Refute it at one input. -/
def sayNumbersWrong : ChangeSpec := { name := "sayNumbers", fn := fun _ => fun
  | [d1, d2, d3] => { results := [.lit (.bool false)], args := [d1, d2, d3] }
  | _ => none }
def SayNumbersWrongFalsely : Prop := sayNumbersRow.holds Tryd.pinned (OpenSpec.ofChange sayNumbersWrong)

/-- 'cuneiformlaw30.FleetOrder': WHATEVER THE INPUT: true; the input reads as it did. -/
def fleetOrderSpec : ChangeSpec := { name := "fleetOrder", fn := fun _ => fun
  | [d1, d2] => { results := [.lit (.bool true)], args := [d1, d2] }
  | _ => none }
def fleetOrderRow : OpenClaim := { program := "ytmpepleddmidfaadoor", sum := "6e3d72b04e1688615083074ad7452229a255f5ee30e32c89601882a316a81f9c", func := "cuneiform/cuneiformlaw30.FleetOrder", spec := "fleetOrder", unfollowed := true, recurses := true, named := ["internal/strconv.uint64pow10", "math/bits.deBruijn32tab", "math/bits.deBruijn64tab"], plainKeys := false, apart := false, laid := [("math/bits.deBruijn32tab", laid_math_bits_deBruijn32tab), ("math/bits.deBruijn64tab", laid_math_bits_deBruijn64tab), ("internal/strconv.uint64pow10", laid_internal_strconv_uint64pow10)] }
def FleetOrderSaid : Prop := fleetOrderRow.holds Tryd.pinned (OpenSpec.ofChange fleetOrderSpec)

/-- ITS FALSE NEIGHBOUR: 'it returns false'. Refute it at one input. -/
def fleetOrderWrong : ChangeSpec := { name := "fleetOrder", fn := fun _ => fun
  | [d1, d2] => { results := [.lit (.bool false)], args := [d1, d2] }
  | _ => none }
def FleetOrderWrongFalsely : Prop := fleetOrderRow.holds Tryd.pinned (OpenSpec.ofChange fleetOrderWrong)

/- THE SECOND FORM. 'bulk': how many values and letters a reading holds, each counted each time it is reached (what is shared counts as often as it is met; a slice's spare places count too). A statement '..UptoSaid' is the law's where the arguments, and the package variables that the reading takes, are together of bulk at most 1048576: NARROWER than '..Said'. Prove '..Said' where nothing that the law and all that it calls make is longer than what came in: it says more and counts as full. Else prove '..UptoSaid'. A law counts once. -/
mutual
def uptoBulk {H : Type} : DataW H → Nat
  | .lit (.string bytes) => bytes.length + 1
  | .lit _ => 1
  | .nil => 1
  | .ptr d => uptoBulk d + 1
  | .slice elems spare => uptoBulkAll elems + uptoBulkAll spare + 1
  | .agg parts => uptoBulkAll parts + 1
  | .iface _ d => uptoBulk d + 1
  | .map entries => uptoBulkEntries entries + 1
  | .held _ => 1
def uptoBulkAll {H : Type} : List (DataW H) → Nat
  | [] => 0
  | d :: r => uptoBulk d + uptoBulkAll r
def uptoBulkEntries {H : Type} : List (Lit × DataW H) → Nat
  | [] => 0
  | x :: r => uptoBulkEntry x + uptoBulkEntries r
def uptoBulkEntry {H : Type} : Lit × DataW H → Nat
  | (.string bytes, d) => bytes.length + uptoBulk d + 1
  | (_, d) => uptoBulk d + 1
 end
def uptoSmall : (H : Type) → List (DataW H) → Bool := fun _ ds => decide (uptoBulkAll ds ≤ 1048576)
def OpenSpec.upto (s : _root_.Go.ChangeSpec) : _root_.Go.OpenSpec := { _root_.Go.OpenSpec.ofChange s with cond := some uptoSmall }

/-- 'cuneiformlaw23.EventMakes', WHERE WHAT IT READS IS OF BULK AT MOST 1048576: true; the input reads as it did. -/
def eventMakesUptoRow : OpenClaim := { program := "ytmpepleddmidfaadoor", sum := "6e3d72b04e1688615083074ad7452229a255f5ee30e32c89601882a316a81f9c", func := "cuneiform/cuneiformlaw23.EventMakes", spec := "eventMakes", inPlace := ["internal/abi.NoEscape", "internal/bytealg.MakeNoZero"], unfollowed := true, recurses := true, named := ["internal/strconv.uint64pow10", "math/bits.deBruijn32tab", "math/bits.deBruijn64tab"], plainKeys := false, apart := false, laid := [("math/bits.deBruijn32tab", laid_math_bits_deBruijn32tab), ("math/bits.deBruijn64tab", laid_math_bits_deBruijn64tab), ("internal/strconv.uint64pow10", laid_internal_strconv_uint64pow10)], narrowed := true }
def EventMakesUptoSaid : Prop := eventMakesUptoRow.holds Tryd.pinned (OpenSpec.upto eventMakesSpec)

/-- 'cuneiformlaw25.TallyNil', WHERE WHAT IT READS IS OF BULK AT MOST 1048576: true; the input reads as it did. -/
def tallyNilUptoRow : OpenClaim := { program := "ytmpepleddmidfaadoor", sum := "6e3d72b04e1688615083074ad7452229a255f5ee30e32c89601882a316a81f9c", func := "cuneiform/cuneiformlaw25.TallyNil", spec := "tallyNil", inPlace := ["maps.clone"], unfollowed := true, recurses := true, named := ["internal/strconv.uint64pow10", "math/bits.deBruijn32tab", "math/bits.deBruijn64tab"], plainKeys := false, apart := false, laid := [("math/bits.deBruijn32tab", laid_math_bits_deBruijn32tab), ("math/bits.deBruijn64tab", laid_math_bits_deBruijn64tab), ("internal/strconv.uint64pow10", laid_internal_strconv_uint64pow10)], narrowed := true }
def TallyNilUptoSaid : Prop := tallyNilUptoRow.holds Tryd.pinned (OpenSpec.upto tallyNilSpec)

/-- 'cuneiformlaw25.TallyMerges', WHERE WHAT IT READS IS OF BULK AT MOST 1048576: true; the input reads as it did. -/
def tallyMergesUptoRow : OpenClaim := { program := "ytmpepleddmidfaadoor", sum := "6e3d72b04e1688615083074ad7452229a255f5ee30e32c89601882a316a81f9c", func := "cuneiform/cuneiformlaw25.TallyMerges", spec := "tallyMerges", inPlace := ["maps.clone"], unfollowed := true, recurses := true, named := ["internal/strconv.uint64pow10", "math/bits.deBruijn32tab", "math/bits.deBruijn64tab"], plainKeys := false, apart := false, laid := [("math/bits.deBruijn32tab", laid_math_bits_deBruijn32tab), ("math/bits.deBruijn64tab", laid_math_bits_deBruijn64tab), ("internal/strconv.uint64pow10", laid_internal_strconv_uint64pow10)], narrowed := true }
def TallyMergesUptoSaid : Prop := tallyMergesUptoRow.holds Tryd.pinned (OpenSpec.upto tallyMergesSpec)

/-- 'cuneiformlaw29.DumpParses', WHERE WHAT IT READS IS OF BULK AT MOST 1048576: true; the input reads as it did. -/
def dumpParsesUptoRow : OpenClaim := { program := "ytmpepleddmidfaadoor", sum := "6e3d72b04e1688615083074ad7452229a255f5ee30e32c89601882a316a81f9c", func := "cuneiform/cuneiformlaw29.DumpParses", spec := "dumpParses", inPlace := ["internal/bytealg.IndexByteString", "internal/bytealg.IndexString", "internal/abi.NoEscape"], unfollowed := true, recurses := true, named := ["internal/bytealg.MaxLen", "unicode/utf8.first", "unicode/utf8.acceptRanges", "internal/strconv.uint64pow10", "math/bits.deBruijn32tab", "math/bits.deBruijn64tab"], plainKeys := false, apart := false, laid := [("math/bits.deBruijn32tab", laid_math_bits_deBruijn32tab), ("math/bits.deBruijn64tab", laid_math_bits_deBruijn64tab), ("internal/strconv.uint64pow10", laid_internal_strconv_uint64pow10), ("unicode/utf8.acceptRanges", laid_unicode_utf8_acceptRanges), ("unicode/utf8.first", laid_unicode_utf8_first)], narrowed := true }
def DumpParsesUptoSaid : Prop := dumpParsesUptoRow.holds Tryd.pinned (OpenSpec.upto dumpParsesSpec)

/-- 'cuneiformlaw21.ConfParses', WHERE WHAT IT READS IS OF BULK AT MOST 1048576: true; the input reads as it did. -/
def confParsesUptoRow : OpenClaim := { program := "ytmpepleddmidfaadoor", sum := "6e3d72b04e1688615083074ad7452229a255f5ee30e32c89601882a316a81f9c", func := "cuneiform/cuneiformlaw21.ConfParses", spec := "confParses", inPlace := ["internal/bytealg.IndexByteString", "internal/bytealg.IndexString"], unfollowed := true, recurses := true, named := ["unicode/utf8.first", "unicode/utf8.acceptRanges", "internal/bytealg.MaxLen", "strconv.ErrSyntax", "strconv.ErrRange", "internal/strconv.uint64pow10", "math/bits.deBruijn32tab", "math/bits.deBruijn64tab"], plainKeys := false, apart := false, laid := [("math/bits.deBruijn32tab", laid_math_bits_deBruijn32tab), ("math/bits.deBruijn64tab", laid_math_bits_deBruijn64tab), ("internal/strconv.uint64pow10", laid_internal_strconv_uint64pow10), ("unicode/utf8.acceptRanges", laid_unicode_utf8_acceptRanges), ("strconv.ErrRange", laid_strconv_ErrRange), ("strconv.ErrSyntax", laid_strconv_ErrSyntax), ("unicode/utf8.first", laid_unicode_utf8_first)], narrowed := true }
def ConfParsesUptoSaid : Prop := confParsesUptoRow.holds Tryd.pinned (OpenSpec.upto confParsesSpec)

/-- 'cuneiformlaw26.NoiseRuns', WHERE WHAT IT READS IS OF BULK AT MOST 1048576: true; the input reads as it did. -/
def noiseRunsUptoRow : OpenClaim := { program := "ytmpepleddmidfaadoor", sum := "6e3d72b04e1688615083074ad7452229a255f5ee30e32c89601882a316a81f9c", func := "cuneiform/cuneiformlaw26.NoiseRuns", spec := "noiseRuns", inPlace := ["internal/bytealg.IndexByteString", "internal/bytealg.IndexString"], unfollowed := true, recurses := true, named := ["unicode/utf8.first", "unicode/utf8.acceptRanges", "internal/bytealg.MaxLen", "strconv.ErrSyntax", "strconv.ErrRange", "internal/strconv.uint64pow10", "math/bits.deBruijn32tab", "math/bits.deBruijn64tab"], plainKeys := false, apart := false, laid := [("math/bits.deBruijn32tab", laid_math_bits_deBruijn32tab), ("math/bits.deBruijn64tab", laid_math_bits_deBruijn64tab), ("internal/strconv.uint64pow10", laid_internal_strconv_uint64pow10), ("unicode/utf8.acceptRanges", laid_unicode_utf8_acceptRanges), ("strconv.ErrRange", laid_strconv_ErrRange), ("strconv.ErrSyntax", laid_strconv_ErrSyntax), ("unicode/utf8.first", laid_unicode_utf8_first)], narrowed := true }
def NoiseRunsUptoSaid : Prop := noiseRunsUptoRow.holds Tryd.pinned (OpenSpec.upto noiseRunsSpec)

/-- 'cuneiformlaw21.ConfTells', WHERE WHAT IT READS IS OF BULK AT MOST 1048576: true; the input reads as it did. -/
def confTellsUptoRow : OpenClaim := { program := "ytmpepleddmidfaadoor", sum := "6e3d72b04e1688615083074ad7452229a255f5ee30e32c89601882a316a81f9c", func := "cuneiform/cuneiformlaw21.ConfTells", spec := "confTells", inPlace := ["internal/bytealg.IndexByteString", "internal/bytealg.IndexString"], unfollowed := true, recurses := true, named := ["internal/strconv.uint64pow10", "math/bits.deBruijn32tab", "math/bits.deBruijn64tab", "unicode/utf8.first", "unicode/utf8.acceptRanges", "internal/bytealg.MaxLen", "strconv.ErrSyntax", "strconv.ErrRange"], plainKeys := false, apart := false, laid := [("math/bits.deBruijn32tab", laid_math_bits_deBruijn32tab), ("math/bits.deBruijn64tab", laid_math_bits_deBruijn64tab), ("internal/strconv.uint64pow10", laid_internal_strconv_uint64pow10), ("unicode/utf8.acceptRanges", laid_unicode_utf8_acceptRanges), ("strconv.ErrRange", laid_strconv_ErrRange), ("strconv.ErrSyntax", laid_strconv_ErrSyntax), ("unicode/utf8.first", laid_unicode_utf8_first)], narrowed := true }
def ConfTellsUptoSaid : Prop := confTellsUptoRow.holds Tryd.pinned (OpenSpec.upto confTellsSpec)

/-- 'cuneiformlaw26.NoiseLines', WHERE WHAT IT READS IS OF BULK AT MOST 1048576: true; the input reads as it did. -/
def noiseLinesUptoRow : OpenClaim := { program := "ytmpepleddmidfaadoor", sum := "6e3d72b04e1688615083074ad7452229a255f5ee30e32c89601882a316a81f9c", func := "cuneiform/cuneiformlaw26.NoiseLines", spec := "noiseLines", inPlace := ["internal/bytealg.IndexByteString", "internal/bytealg.IndexString"], unfollowed := true, recurses := true, named := ["internal/strconv.uint64pow10", "math/bits.deBruijn32tab", "math/bits.deBruijn64tab", "unicode/utf8.first", "unicode/utf8.acceptRanges", "internal/bytealg.MaxLen", "strconv.ErrSyntax", "strconv.ErrRange"], plainKeys := false, apart := false, laid := [("math/bits.deBruijn32tab", laid_math_bits_deBruijn32tab), ("math/bits.deBruijn64tab", laid_math_bits_deBruijn64tab), ("internal/strconv.uint64pow10", laid_internal_strconv_uint64pow10), ("unicode/utf8.acceptRanges", laid_unicode_utf8_acceptRanges), ("strconv.ErrRange", laid_strconv_ErrRange), ("strconv.ErrSyntax", laid_strconv_ErrSyntax), ("unicode/utf8.first", laid_unicode_utf8_first)], narrowed := true }
def NoiseLinesUptoSaid : Prop := noiseLinesUptoRow.holds Tryd.pinned (OpenSpec.upto noiseLinesSpec)

/-- 'cuneiformlaw26.NoiseParses', WHERE WHAT IT READS IS OF BULK AT MOST 1048576: true; the input reads as it did. -/
def noiseParsesUptoRow : OpenClaim := { program := "ytmpepleddmidfaadoor", sum := "6e3d72b04e1688615083074ad7452229a255f5ee30e32c89601882a316a81f9c", func := "cuneiform/cuneiformlaw26.NoiseParses", spec := "noiseParses", inPlace := ["internal/bytealg.IndexByteString", "internal/bytealg.IndexString"], unfollowed := true, recurses := true, named := ["unicode/utf8.first", "unicode/utf8.acceptRanges", "internal/bytealg.MaxLen", "strconv.ErrSyntax", "strconv.ErrRange", "internal/strconv.uint64pow10", "math/bits.deBruijn32tab", "math/bits.deBruijn64tab"], plainKeys := false, apart := false, laid := [("math/bits.deBruijn32tab", laid_math_bits_deBruijn32tab), ("math/bits.deBruijn64tab", laid_math_bits_deBruijn64tab), ("internal/strconv.uint64pow10", laid_internal_strconv_uint64pow10), ("unicode/utf8.acceptRanges", laid_unicode_utf8_acceptRanges), ("strconv.ErrRange", laid_strconv_ErrRange), ("strconv.ErrSyntax", laid_strconv_ErrSyntax), ("unicode/utf8.first", laid_unicode_utf8_first)], narrowed := true }
def NoiseParsesUptoSaid : Prop := noiseParsesUptoRow.holds Tryd.pinned (OpenSpec.upto noiseParsesSpec)

/-- 'cuneiformlaw20.SayNumbers', WHERE WHAT IT READS IS OF BULK AT MOST 1048576: true; the input reads as it did. -/
def sayNumbersUptoRow : OpenClaim := { program := "ytmpepleddmidfaadoor", sum := "6e3d72b04e1688615083074ad7452229a255f5ee30e32c89601882a316a81f9c", func := "cuneiform/cuneiformlaw20.SayNumbers", spec := "sayNumbers", inPlace := ["internal/bytealg.IndexByteString", "internal/bytealg.IndexString", "internal/abi.NoEscape", "internal/bytealg.MakeNoZero"], unfollowed := true, recurses := true, named := ["internal/strconv.uint64pow10", "math/bits.deBruijn32tab", "math/bits.deBruijn64tab", "strconv.ErrSyntax", "strconv.ErrRange", "unicode/utf8.first", "unicode/utf8.acceptRanges", "internal/bytealg.MaxLen"], plainKeys := false, apart := false, laid := [("math/bits.deBruijn32tab", laid_math_bits_deBruijn32tab), ("math/bits.deBruijn64tab", laid_math_bits_deBruijn64tab), ("internal/strconv.uint64pow10", laid_internal_strconv_uint64pow10), ("unicode/utf8.acceptRanges", laid_unicode_utf8_acceptRanges), ("strconv.ErrRange", laid_strconv_ErrRange), ("strconv.ErrSyntax", laid_strconv_ErrSyntax), ("unicode/utf8.first", laid_unicode_utf8_first)], narrowed := true }
def SayNumbersUptoSaid : Prop := sayNumbersUptoRow.holds Tryd.pinned (OpenSpec.upto sayNumbersSpec)

/-- 'cuneiformlaw30.FleetOrder', WHERE WHAT IT READS IS OF BULK AT MOST 1048576: true; the input reads as it did. -/
def fleetOrderUptoRow : OpenClaim := { program := "ytmpepleddmidfaadoor", sum := "6e3d72b04e1688615083074ad7452229a255f5ee30e32c89601882a316a81f9c", func := "cuneiform/cuneiformlaw30.FleetOrder", spec := "fleetOrder", unfollowed := true, recurses := true, named := ["internal/strconv.uint64pow10", "math/bits.deBruijn32tab", "math/bits.deBruijn64tab"], plainKeys := false, apart := false, laid := [("math/bits.deBruijn32tab", laid_math_bits_deBruijn32tab), ("math/bits.deBruijn64tab", laid_math_bits_deBruijn64tab), ("internal/strconv.uint64pow10", laid_internal_strconv_uint64pow10)], narrowed := true }
def FleetOrderUptoSaid : Prop := fleetOrderUptoRow.holds Tryd.pinned (OpenSpec.upto fleetOrderSpec)

end Rows
end Go.Proofs.YtmpepleddmidfaaDoor
