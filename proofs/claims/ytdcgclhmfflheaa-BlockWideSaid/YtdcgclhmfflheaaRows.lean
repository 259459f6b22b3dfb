/-
  No cell of these rows narrows 'for every input' (looked for: loops, veiled, ifaces, maps, wideKeys, modest, calm, conditions, laid).
  DERIVED. THE GIVEN ROWS OF THIS SEAT. 14 by the template 'for every input the law returns true; each argument reads behind the call as it read before'; 0 by the template 'total and deterministic' (their statements: YtdcgclhmfflheaaTotals.lean).
  GIVEN WITH THE SEED: the statements are not yours to turn. If you find one false, say at which input.
  Laid BY PROGRAM, IN A SANDBOX (cutbox-rows.mjs): the forced cells as the released guide's own fill.sh prints them over the translation 66d1f0bad55859cd… (all of the seat's roots in one cut). By AI agents, Wed Nov 11 2026. No macro, syntax, notation, axiom, sorry.
-/
import Derived.Test.YtdcgclhmfflheaaChecked
import GoSem.Claim
import GoSem.ClaimJoined
import GoSem.ClaimMapViews
import Derived.JoinedTies
import Derived.KernelRfl
namespace Go.Proofs.Ytdcgclhmfflheaa
/- THE CELL 'sum', in the pinned program and in every row, IS THE sha256 OF THE DUMP (.gsa) THAT YtdcgclhmfflheaaProg.lean LOADS. Nothing in Lean hashes anything: it is a label: what it is worth is what the hold of that sum in a sandbox is worth. -/
noncomputable def Try.pinned : Pinned := { name := "ytdcgclhmfflheaa", sum := "66d1f0bad55859cd98d336377efe0912942f7b9357585aad11050bc3c2c4fae9", checked := Try.checked }
namespace Rows
def none {H : Type} : Left H := { results := [], args := [] }

/-- 'longcaselaw06.BlockTells': WHATEVER THE INPUT: true; the input reads as it did. -/
def blockTellsSpec : ChangeSpec := { name := "blockTells", fn := fun _ => fun
  | [d1, d2, d3] => { results := [.lit (.bool true)], args := [d1, d2, d3] }
  | _ => none }
def blockTellsRow : OpenClaim := { program := "ytdcgclhmfflheaa", sum := "66d1f0bad55859cd98d336377efe0912942f7b9357585aad11050bc3c2c4fae9", func := "longcase/longcaselaw06.BlockTells", spec := "blockTells", inPlace := ["internal/bytealg.IndexByteString", "internal/bytealg.IndexString", "internal/abi.NoEscape", "internal/bytealg.IndexByte", "internal/bytealg.Index"], named := ["internal/bytealg.MaxLen"], apart := false }
def BlockTellsSaid : Prop := blockTellsRow.holds Try.pinned (OpenSpec.ofChange blockTellsSpec)

/-- ITS FALSE NEIGHBOUR: 'it returns false'. Refute it at one input. -/
def blockTellsWrong : ChangeSpec := { name := "blockTells", fn := fun _ => fun
  | [d1, d2, d3] => { results := [.lit (.bool false)], args := [d1, d2, d3] }
  | _ => none }
def BlockTellsWrongFalsely : Prop := blockTellsRow.holds Try.pinned (OpenSpec.ofChange blockTellsWrong)

/-- 'longcaselaw06.BlockReads': WHATEVER THE INPUT: true; the input reads as it did. -/
def blockReadsSpec : ChangeSpec := { name := "blockReads", fn := fun _ => fun
  | [d1, d2, d3] => { results := [.lit (.bool true)], args := [d1, d2, d3] }
  | _ => none }
def blockReadsRow : OpenClaim := { program := "ytdcgclhmfflheaa", sum := "66d1f0bad55859cd98d336377efe0912942f7b9357585aad11050bc3c2c4fae9", func := "longcase/longcaselaw06.BlockReads", spec := "blockReads", inPlace := ["internal/bytealg.IndexByteString", "internal/bytealg.IndexString", "internal/abi.NoEscape", "internal/bytealg.IndexByte", "internal/bytealg.Index"], named := ["internal/bytealg.MaxLen"], apart := false }
def BlockReadsSaid : Prop := blockReadsRow.holds Try.pinned (OpenSpec.ofChange blockReadsSpec)

/-- ITS FALSE NEIGHBOUR: 'it returns false'. Refute it at one input. -/
def blockReadsWrong : ChangeSpec := { name := "blockReads", fn := fun _ => fun
  | [d1, d2, d3] => { results := [.lit (.bool false)], args := [d1, d2, d3] }
  | _ => none }
def BlockReadsWrongFalsely : Prop := blockReadsRow.holds Try.pinned (OpenSpec.ofChange blockReadsWrong)

/-- 'longcaselaw06.BlockBack': WHATEVER THE INPUT: true; the input reads as it did. -/
def blockBackSpec : ChangeSpec := { name := "blockBack", fn := fun _ => fun
  | [d1, d2, d3, d4] => { results := [.lit (.bool true)], args := [d1, d2, d3, d4] }
  | _ => none }
def blockBackRow : OpenClaim := { program := "ytdcgclhmfflheaa", sum := "66d1f0bad55859cd98d336377efe0912942f7b9357585aad11050bc3c2c4fae9", func := "longcase/longcaselaw06.BlockBack", spec := "blockBack", inPlace := ["internal/bytealg.IndexByteString", "internal/bytealg.IndexString", "internal/abi.NoEscape", "internal/bytealg.IndexByte", "internal/bytealg.Index"], named := ["internal/bytealg.MaxLen"], apart := false }
def BlockBackSaid : Prop := blockBackRow.holds Try.pinned (OpenSpec.ofChange blockBackSpec)

/-- ITS FALSE NEIGHBOUR: 'it returns false'. Refute it at one input. -/
def blockBackWrong : ChangeSpec := { name := "blockBack", fn := fun _ => fun
  | [d1, d2, d3, d4] => { results := [.lit (.bool false)], args := [d1, d2, d3, d4] }
  | _ => none }
def BlockBackWrongFalsely : Prop := blockBackRow.holds Try.pinned (OpenSpec.ofChange blockBackWrong)

/-- 'longcaselaw06.BlockWide': WHATEVER THE INPUT: true; the input reads as it did. -/
def blockWideSpec : ChangeSpec := { name := "blockWide", fn := fun _ => fun
  | [d1, d2] => { results := [.lit (.bool true)], args := [d1, d2] }
  | _ => none }
def blockWideRow : OpenClaim := { program := "ytdcgclhmfflheaa", sum := "66d1f0bad55859cd98d336377efe0912942f7b9357585aad11050bc3c2c4fae9", func := "longcase/longcaselaw06.BlockWide", spec := "blockWide", inPlace := ["internal/bytealg.IndexByteString", "internal/bytealg.IndexString", "internal/abi.NoEscape", "internal/bytealg.IndexByte", "internal/bytealg.Index"], named := ["internal/bytealg.MaxLen"], apart := false }
def BlockWideSaid : Prop := blockWideRow.holds Try.pinned (OpenSpec.ofChange blockWideSpec)

/-- ITS FALSE NEIGHBOUR: 'it returns false'. Refute it at one input. -/
def blockWideWrong : ChangeSpec := { name := "blockWide", fn := fun _ => fun
  | [d1, d2] => { results := [.lit (.bool false)], args := [d1, d2] }
  | _ => none }
def BlockWideWrongFalsely : Prop := blockWideRow.holds Try.pinned (OpenSpec.ofChange blockWideWrong)

/-- 'longcaselaw06.BlockRules': WHATEVER THE INPUT: true; the input reads as it did. -/
def blockRulesSpec : ChangeSpec := { name := "blockRules", fn := fun _ => fun
  | [d1, d2] => { results := [.lit (.bool true)], args := [d1, d2] }
  | _ => none }
def blockRulesRow : OpenClaim := { program := "ytdcgclhmfflheaa", sum := "66d1f0bad55859cd98d336377efe0912942f7b9357585aad11050bc3c2c4fae9", func := "longcase/longcaselaw06.BlockRules", spec := "blockRules", inPlace := ["internal/bytealg.IndexByteString", "internal/bytealg.IndexString", "internal/abi.NoEscape", "internal/bytealg.IndexByte", "internal/bytealg.Index"], named := ["internal/bytealg.MaxLen"], apart := false }
def BlockRulesSaid : Prop := blockRulesRow.holds Try.pinned (OpenSpec.ofChange blockRulesSpec)

/-- ITS FALSE NEIGHBOUR: 'it returns false'. Refute it at one input. -/
def blockRulesWrong : ChangeSpec := { name := "blockRules", fn := fun _ => fun
  | [d1, d2] => { results := [.lit (.bool false)], args := [d1, d2] }
  | _ => none }
def BlockRulesWrongFalsely : Prop := blockRulesRow.holds Try.pinned (OpenSpec.ofChange blockRulesWrong)

/-- 'longcaselaw06.BlockNames': WHATEVER THE INPUT: true; the input reads as it did. -/
def blockNamesSpec : ChangeSpec := { name := "blockNames", fn := fun _ => fun
  | [d] => { results := [.lit (.bool true)], args := [d] }
  | _ => none }
def blockNamesRow : OpenClaim := { program := "ytdcgclhmfflheaa", sum := "66d1f0bad55859cd98d336377efe0912942f7b9357585aad11050bc3c2c4fae9", func := "longcase/longcaselaw06.BlockNames", spec := "blockNames", inPlace := ["internal/bytealg.IndexByteString", "internal/bytealg.IndexString", "internal/abi.NoEscape", "internal/bytealg.IndexByte", "internal/bytealg.Index"], named := ["internal/bytealg.MaxLen"], apart := false }
def BlockNamesSaid : Prop := blockNamesRow.holds Try.pinned (OpenSpec.ofChange blockNamesSpec)

/-- ITS FALSE NEIGHBOUR: 'it returns false'. Refute it at one input. -/
def blockNamesWrong : ChangeSpec := { name := "blockNames", fn := fun _ => fun
  | [d] => { results := [.lit (.bool false)], args := [d] }
  | _ => none }
def BlockNamesWrongFalsely : Prop := blockNamesRow.holds Try.pinned (OpenSpec.ofChange blockNamesWrong)

/-- 'longcaselaw06.BlockMarks': WHATEVER THE INPUT: true; the input reads as it did. -/
def blockMarksSpec : ChangeSpec := { name := "blockMarks", fn := fun _ => fun
  | [d1, d2, d3] => { results := [.lit (.bool true)], args := [d1, d2, d3] }
  | _ => none }
def blockMarksRow : OpenClaim := { program := "ytdcgclhmfflheaa", sum := "66d1f0bad55859cd98d336377efe0912942f7b9357585aad11050bc3c2c4fae9", func := "longcase/longcaselaw06.BlockMarks", spec := "blockMarks", inPlace := ["internal/bytealg.IndexByteString", "internal/bytealg.IndexString", "internal/abi.NoEscape", "internal/bytealg.IndexByte", "internal/bytealg.Index"], named := ["internal/bytealg.MaxLen"], apart := false }
def BlockMarksSaid : Prop := blockMarksRow.holds Try.pinned (OpenSpec.ofChange blockMarksSpec)

/-- ITS FALSE NEIGHBOUR: 'it returns false'. Refute it at one input. -/
def blockMarksWrong : ChangeSpec := { name := "blockMarks", fn := fun _ => fun
  | [d1, d2, d3] => { results := [.lit (.bool false)], args := [d1, d2, d3] }
  | _ => none }
def BlockMarksWrongFalsely : Prop := blockMarksRow.holds Try.pinned (OpenSpec.ofChange blockMarksWrong)

/-- 'longcaselaw07.TzifTells': WHATEVER THE INPUT: true; the input reads as it did. -/
def tzifTellsSpec : ChangeSpec := { name := "tzifTells", fn := fun _ => fun
  | [d] => { results := [.lit (.bool true)], args := [d] }
  | _ => none }
def tzifTellsRow : OpenClaim := { program := "ytdcgclhmfflheaa", sum := "66d1f0bad55859cd98d336377efe0912942f7b9357585aad11050bc3c2c4fae9", func := "longcase/longcaselaw07.TzifTells", spec := "tzifTells", inPlace := ["internal/bytealg.IndexByteString", "internal/bytealg.IndexString", "internal/abi.NoEscape", "internal/bytealg.IndexByte", "internal/bytealg.Index"], unfollowed := true, recurses := true, named := ["internal/bytealg.MaxLen"], apart := false }
def TzifTellsSaid : Prop := tzifTellsRow.holds Try.pinned (OpenSpec.ofChange tzifTellsSpec)

/-- ITS FALSE NEIGHBOUR: 'it returns false'. Refute it at one input. -/
def tzifTellsWrong : ChangeSpec := { name := "tzifTells", fn := fun _ => fun
  | [d] => { results := [.lit (.bool false)], args := [d] }
  | _ => none }
def TzifTellsWrongFalsely : Prop := tzifTellsRow.holds Try.pinned (OpenSpec.ofChange tzifTellsWrong)

/-- 'longcaselaw07.TzifReads': WHATEVER THE INPUT: true; the input reads as it did. -/
def tzifReadsSpec : ChangeSpec := { name := "tzifReads", fn := fun _ => fun
  | [d] => { results := [.lit (.bool true)], args := [d] }
  | _ => none }
def tzifReadsRow : OpenClaim := { program := "ytdcgclhmfflheaa", sum := "66d1f0bad55859cd98d336377efe0912942f7b9357585aad11050bc3c2c4fae9", func := "longcase/longcaselaw07.TzifReads", spec := "tzifReads", inPlace := ["internal/bytealg.IndexByteString", "internal/bytealg.IndexString", "internal/abi.NoEscape", "internal/bytealg.IndexByte", "internal/bytealg.Index"], unfollowed := true, recurses := true, named := ["internal/bytealg.MaxLen"], apart := false }
def TzifReadsSaid : Prop := tzifReadsRow.holds Try.pinned (OpenSpec.ofChange tzifReadsSpec)

/-- ITS FALSE NEIGHBOUR: 'it returns false'. Refute it at one input. -/
def tzifReadsWrong : ChangeSpec := { name := "tzifReads", fn := fun _ => fun
  | [d] => { results := [.lit (.bool false)], args := [d] }
  | _ => none }
def TzifReadsWrongFalsely : Prop := tzifReadsRow.holds Try.pinned (OpenSpec.ofChange tzifReadsWrong)

/-- 'longcaselaw07.TzifBack': WHATEVER THE INPUT: true; the input reads as it did. -/
def tzifBackSpec : ChangeSpec := { name := "tzifBack", fn := fun _ => fun
  | [d1, d2, d3] => { results := [.lit (.bool true)], args := [d1, d2, d3] }
  | _ => none }
def tzifBackRow : OpenClaim := { program := "ytdcgclhmfflheaa", sum := "66d1f0bad55859cd98d336377efe0912942f7b9357585aad11050bc3c2c4fae9", func := "longcase/longcaselaw07.TzifBack", spec := "tzifBack", inPlace := ["internal/bytealg.IndexByteString", "internal/bytealg.IndexString", "internal/abi.NoEscape", "internal/bytealg.IndexByte", "internal/bytealg.Index"], unfollowed := true, recurses := true, named := ["internal/bytealg.MaxLen"], apart := false }
def TzifBackSaid : Prop := tzifBackRow.holds Try.pinned (OpenSpec.ofChange tzifBackSpec)

/-- ITS FALSE NEIGHBOUR: 'it returns false'. Refute it at one input. -/
def tzifBackWrong : ChangeSpec := { name := "tzifBack", fn := fun _ => fun
  | [d1, d2, d3] => { results := [.lit (.bool false)], args := [d1, d2, d3] }
  | _ => none }
def TzifBackWrongFalsely : Prop := tzifBackRow.holds Try.pinned (OpenSpec.ofChange tzifBackWrong)

/-- 'longcaselaw07.TzifFirst': WHATEVER THE INPUT: true; the input reads as it did. -/
def tzifFirstSpec : ChangeSpec := { name := "tzifFirst", fn := fun _ => fun
  | [d1, d2] => { results := [.lit (.bool true)], args := [d1, d2] }
  | _ => none }
def tzifFirstRow : OpenClaim := { program := "ytdcgclhmfflheaa", sum := "66d1f0bad55859cd98d336377efe0912942f7b9357585aad11050bc3c2c4fae9", func := "longcase/longcaselaw07.TzifFirst", spec := "tzifFirst", inPlace := ["internal/bytealg.IndexByteString", "internal/bytealg.IndexString", "internal/abi.NoEscape", "internal/bytealg.IndexByte", "internal/bytealg.Index"], unfollowed := true, recurses := true, named := ["internal/bytealg.MaxLen"], apart := false }
def TzifFirstSaid : Prop := tzifFirstRow.holds Try.pinned (OpenSpec.ofChange tzifFirstSpec)

/-- ITS FALSE NEIGHBOUR: 'it returns false'. Refute it at one input. -/
def tzifFirstWrong : ChangeSpec := { name := "tzifFirst", fn := fun _ => fun
  | [d1, d2] => { results := [.lit (.bool false)], args := [d1, d2] }
  | _ => none }
def TzifFirstWrongFalsely : Prop := tzifFirstRow.holds Try.pinned (OpenSpec.ofChange tzifFirstWrong)

/-- 'longcaselaw07.TzifLines': WHATEVER THE INPUT: true; the input reads as it did. -/
def tzifLinesSpec : ChangeSpec := { name := "tzifLines", fn := fun _ => fun
  | [d1, d2] => { results := [.lit (.bool true)], args := [d1, d2] }
  | _ => none }
def tzifLinesRow : OpenClaim := { program := "ytdcgclhmfflheaa", sum := "66d1f0bad55859cd98d336377efe0912942f7b9357585aad11050bc3c2c4fae9", func := "longcase/longcaselaw07.TzifLines", spec := "tzifLines", inPlace := ["internal/bytealg.IndexByteString", "internal/bytealg.IndexString", "internal/abi.NoEscape", "internal/bytealg.IndexByte", "internal/bytealg.Index"], unfollowed := true, recurses := true, named := ["internal/bytealg.MaxLen"], apart := false }
def TzifLinesSaid : Prop := tzifLinesRow.holds Try.pinned (OpenSpec.ofChange tzifLinesSpec)

/-- ITS FALSE NEIGHBOUR: 'it returns false'. Refute it at one input. -/
def tzifLinesWrong : ChangeSpec := { name := "tzifLines", fn := fun _ => fun
  | [d1, d2] => { results := [.lit (.bool false)], args := [d1, d2] }
  | _ => none }
def TzifLinesWrongFalsely : Prop := tzifLinesRow.holds Try.pinned (OpenSpec.ofChange tzifLinesWrong)

/-- 'longcaselaw07.TzifOnce': WHATEVER THE INPUT: true; the input reads as it did. -/
def tzifOnceSpec : ChangeSpec := { name := "tzifOnce", fn := fun _ => fun
  | [d] => { results := [.lit (.bool true)], args := [d] }
  | _ => none }
def tzifOnceRow : OpenClaim := { program := "ytdcgclhmfflheaa", sum := "66d1f0bad55859cd98d336377efe0912942f7b9357585aad11050bc3c2c4fae9", func := "longcase/longcaselaw07.TzifOnce", spec := "tzifOnce", inPlace := ["internal/bytealg.IndexByteString", "internal/bytealg.IndexString", "internal/abi.NoEscape", "internal/bytealg.IndexByte", "internal/bytealg.Index"], unfollowed := true, recurses := true, named := ["internal/bytealg.MaxLen"], apart := false }
def TzifOnceSaid : Prop := tzifOnceRow.holds Try.pinned (OpenSpec.ofChange tzifOnceSpec)

/-- ITS FALSE NEIGHBOUR: 'it returns false'. Refute it at one input. -/
def tzifOnceWrong : ChangeSpec := { name := "tzifOnce", fn := fun _ => fun
  | [d] => { results := [.lit (.bool false)], args := [d] }
  | _ => none }
def TzifOnceWrongFalsely : Prop := tzifOnceRow.holds Try.pinned (OpenSpec.ofChange tzifOnceWrong)

/-- 'longcaselaw07.TzifVersions': WHATEVER THE INPUT: true; the input reads as it did. -/
def tzifVersionsSpec : ChangeSpec := { name := "tzifVersions", fn := fun _ => fun
  | [d] => { results := [.lit (.bool true)], args := [d] }
  | _ => none }
def tzifVersionsRow : OpenClaim := { program := "ytdcgclhmfflheaa", sum := "66d1f0bad55859cd98d336377efe0912942f7b9357585aad11050bc3c2c4fae9", func := "longcase/longcaselaw07.TzifVersions", spec := "tzifVersions", inPlace := ["internal/bytealg.IndexByteString", "internal/bytealg.IndexString", "internal/abi.NoEscape", "internal/bytealg.IndexByte", "internal/bytealg.Index"], unfollowed := true, recurses := true, named := ["internal/bytealg.MaxLen"], apart := false }
def TzifVersionsSaid : Prop := tzifVersionsRow.holds Try.pinned (OpenSpec.ofChange tzifVersionsSpec)

/-- ITS FALSE NEIGHBOUR: 'it returns false'. Refute it at one input. -/
def tzifVersionsWrong : ChangeSpec := { name := "tzifVersions", fn := fun _ => fun
  | [d] => { results := [.lit (.bool false)], args := [d] }
  | _ => none }
def TzifVersionsWrongFalsely : Prop := tzifVersionsRow.holds Try.pinned (OpenSpec.ofChange tzifVersionsWrong)

/- THE SECOND FORM. 'bulk': how many values and letters a reading holds, each counted each time it is reached (what is shared counts as often as it is met; a slice's spare places count too). A statement '..UptoSaid' is the law's where the arguments, and the package variables that the reading takes, are together of bulk at most 1048576: NARROWER than '..Said'. Prove '..Said' where nothing that the law and all that it calls make is longer than what came in: it says more and counts as full. Else prove '..UptoSaid'. A law counts once. -/
mutual
def uptoBulk {H : Type} : DataW H → Nat
  | .lit (.string bytes) => bytes.length + 1
  | .lit _ => 1
  | .nil => 1
  | .ptr d => uptoBulk d + 1
  | .slice elems spare => uptoBulkAll elems + uptoBulkAll spare + 1
  | .agg parts => uptoBulkAll parts + 1
  | .iface _ d => uptoBulk d + 1
  | .map entries => uptoBulkEntries entries + 1
  | .held _ => 1
def uptoBulkAll {H : Type} : List (DataW H) → Nat
  | [] => 0
  | d :: r => uptoBulk d + uptoBulkAll r
def uptoBulkEntries {H : Type} : List (Lit × DataW H) → Nat
  | [] => 0
  | x :: r => uptoBulkEntry x + uptoBulkEntries r
def uptoBulkEntry {H : Type} : Lit × DataW H → Nat
  | (.string bytes, d) => bytes.length + uptoBulk d + 1
  | (_, d) => uptoBulk d + 1
 end
def uptoSmall : (H : Type) → List (DataW H) → Bool := fun _ ds => decide (uptoBulkAll ds ≤ 1048576)
def OpenSpec.upto (s : _root_.Go.ChangeSpec) : _root_.Go.OpenSpec := { _root_.Go.OpenSpec.ofChange s with cond := some uptoSmall }

/-- 'longcaselaw06.BlockTells', WHERE WHAT IT READS IS OF BULK AT MOST 1048576: true; the input reads as it did. -/
def blockTellsUptoRow : OpenClaim := { program := "ytdcgclhmfflheaa", sum := "66d1f0bad55859cd98d336377efe0912942f7b9357585aad11050bc3c2c4fae9", func := "longcase/longcaselaw06.BlockTells", spec := "blockTells", inPlace := ["internal/bytealg.IndexByteString", "internal/bytealg.IndexString", "internal/abi.NoEscape", "internal/bytealg.IndexByte", "internal/bytealg.Index"], named := ["internal/bytealg.MaxLen"], apart := false, narrowed := true }
def BlockTellsUptoSaid : Prop := blockTellsUptoRow.holds Try.pinned (OpenSpec.upto blockTellsSpec)

/-- 'longcaselaw06.BlockReads', WHERE WHAT IT READS IS OF BULK AT MOST 1048576: true; the input reads as it did. -/
def blockReadsUptoRow : OpenClaim := { program := "ytdcgclhmfflheaa", sum := "66d1f0bad55859cd98d336377efe0912942f7b9357585aad11050bc3c2c4fae9", func := "longcase/longcaselaw06.BlockReads", spec := "blockReads", inPlace := ["internal/bytealg.IndexByteString", "internal/bytealg.IndexString", "internal/abi.NoEscape", "internal/bytealg.IndexByte", "internal/bytealg.Index"], named := ["internal/bytealg.MaxLen"], apart := false, narrowed := true }
def BlockReadsUptoSaid : Prop := blockReadsUptoRow.holds Try.pinned (OpenSpec.upto blockReadsSpec)

/-- 'longcaselaw06.BlockBack', WHERE WHAT IT READS IS OF BULK AT MOST 1048576: true; the input reads as it did. -/
def blockBackUptoRow : OpenClaim := { program := "ytdcgclhmfflheaa", sum := "66d1f0bad55859cd98d336377efe0912942f7b9357585aad11050bc3c2c4fae9", func := "longcase/longcaselaw06.BlockBack", spec := "blockBack", inPlace := ["internal/bytealg.IndexByteString", "internal/bytealg.IndexString", "internal/abi.NoEscape", "internal/bytealg.IndexByte", "internal/bytealg.Index"], named := ["internal/bytealg.MaxLen"], apart := false, narrowed := true }
def BlockBackUptoSaid : Prop := blockBackUptoRow.holds Try.pinned (OpenSpec.upto blockBackSpec)

/-- 'longcaselaw06.BlockWide', WHERE WHAT IT READS IS OF BULK AT MOST 1048576: true; the input reads as it did. -/
def blockWideUptoRow : OpenClaim := { program := "ytdcgclhmfflheaa", sum := "66d1f0bad55859cd98d336377efe0912942f7b9357585aad11050bc3c2c4fae9", func := "longcase/longcaselaw06.BlockWide", spec := "blockWide", inPlace := ["internal/bytealg.IndexByteString", "internal/bytealg.IndexString", "internal/abi.NoEscape", "internal/bytealg.IndexByte", "internal/bytealg.Index"], named := ["internal/bytealg.MaxLen"], apart := false, narrowed := true }
def BlockWideUptoSaid : Prop := blockWideUptoRow.holds Try.pinned (OpenSpec.upto blockWideSpec)

/-- 'longcaselaw06.BlockRules', WHERE WHAT IT READS IS OF BULK AT MOST 1048576: true; the input reads as it did. -/
def blockRulesUptoRow : OpenClaim := { program := "ytdcgclhmfflheaa", sum := "66d1f0bad55859cd98d336377efe0912942f7b9357585aad11050bc3c2c4fae9", func := "longcase/longcaselaw06.BlockRules", spec := "blockRules", inPlace := ["internal/bytealg.IndexByteString", "internal/bytealg.IndexString", "internal/abi.NoEscape", "internal/bytealg.IndexByte", "internal/bytealg.Index"], named := ["internal/bytealg.MaxLen"], apart := false, narrowed := true }
def BlockRulesUptoSaid : Prop := blockRulesUptoRow.holds Try.pinned (OpenSpec.upto blockRulesSpec)

/-- 'longcaselaw06.BlockNames', WHERE WHAT IT READS IS OF BULK AT MOST 1048576: true; the input reads as it did. -/
def blockNamesUptoRow : OpenClaim := { program := "ytdcgclhmfflheaa", sum := "66d1f0bad55859cd98d336377efe0912942f7b9357585aad11050bc3c2c4fae9", func := "longcase/longcaselaw06.BlockNames", spec := "blockNames", inPlace := ["internal/bytealg.IndexByteString", "internal/bytealg.IndexString", "internal/abi.NoEscape", "internal/bytealg.IndexByte", "internal/bytealg.Index"], named := ["internal/bytealg.MaxLen"], apart := false, narrowed := true }
def BlockNamesUptoSaid : Prop := blockNamesUptoRow.holds Try.pinned (OpenSpec.upto blockNamesSpec)

/-- 'longcaselaw06.BlockMarks', WHERE WHAT IT READS IS OF BULK AT MOST 1048576: true; the input reads as it did. -/
def blockMarksUptoRow : OpenClaim := { program := "ytdcgclhmfflheaa", sum := "66d1f0bad55859cd98d336377efe0912942f7b9357585aad11050bc3c2c4fae9", func := "longcase/longcaselaw06.BlockMarks", spec := "blockMarks", inPlace := ["internal/bytealg.IndexByteString", "internal/bytealg.IndexString", "internal/abi.NoEscape", "internal/bytealg.IndexByte", "internal/bytealg.Index"], named := ["internal/bytealg.MaxLen"], apart := false, narrowed := true }
def BlockMarksUptoSaid : Prop := blockMarksUptoRow.holds Try.pinned (OpenSpec.upto blockMarksSpec)

/-- 'longcaselaw07.TzifTells', WHERE WHAT IT READS IS OF BULK AT MOST 1048576: true; the input reads as it did. -/
def tzifTellsUptoRow : OpenClaim := { program := "ytdcgclhmfflheaa", sum := "66d1f0bad55859cd98d336377efe0912942f7b9357585aad11050bc3c2c4fae9", func := "longcase/longcaselaw07.TzifTells", spec := "tzifTells", inPlace := ["internal/bytealg.IndexByteString", "internal/bytealg.IndexString", "internal/abi.NoEscape", "internal/bytealg.IndexByte", "internal/bytealg.Index"], unfollowed := true, recurses := true, named := ["internal/bytealg.MaxLen"], apart := false, narrowed := true }
def TzifTellsUptoSaid : Prop := tzifTellsUptoRow.holds Try.pinned (OpenSpec.upto tzifTellsSpec)

/-- 'longcaselaw07.TzifReads', WHERE WHAT IT READS IS OF BULK AT MOST 1048576: true; the input reads as it did. -/
def tzifReadsUptoRow : OpenClaim := { program := "ytdcgclhmfflheaa", sum := "66d1f0bad55859cd98d336377efe0912942f7b9357585aad11050bc3c2c4fae9", func := "longcase/longcaselaw07.TzifReads", spec := "tzifReads", inPlace := ["internal/bytealg.IndexByteString", "internal/bytealg.IndexString", "internal/abi.NoEscape", "internal/bytealg.IndexByte", "internal/bytealg.Index"], unfollowed := true, recurses := true, named := ["internal/bytealg.MaxLen"], apart := false, narrowed := true }
def TzifReadsUptoSaid : Prop := tzifReadsUptoRow.holds Try.pinned (OpenSpec.upto tzifReadsSpec)

/-- 'longcaselaw07.TzifBack', WHERE WHAT IT READS IS OF BULK AT MOST 1048576: true; the input reads as it did. -/
def tzifBackUptoRow : OpenClaim := { program := "ytdcgclhmfflheaa", sum := "66d1f0bad55859cd98d336377efe0912942f7b9357585aad11050bc3c2c4fae9", func := "longcase/longcaselaw07.TzifBack", spec := "tzifBack", inPlace := ["internal/bytealg.IndexByteString", "internal/bytealg.IndexString", "internal/abi.NoEscape", "internal/bytealg.IndexByte", "internal/bytealg.Index"], unfollowed := true, recurses := true, named := ["internal/bytealg.MaxLen"], apart := false, narrowed := true }
def TzifBackUptoSaid : Prop := tzifBackUptoRow.holds Try.pinned (OpenSpec.upto tzifBackSpec)

/-- 'longcaselaw07.TzifFirst', WHERE WHAT IT READS IS OF BULK AT MOST 1048576: true; the input reads as it did. -/
def tzifFirstUptoRow : OpenClaim := { program := "ytdcgclhmfflheaa", sum := "66d1f0bad55859cd98d336377efe0912942f7b9357585aad11050bc3c2c4fae9", func := "longcase/longcaselaw07.TzifFirst", spec := "tzifFirst", inPlace := ["internal/bytealg.IndexByteString", "internal/bytealg.IndexString", "internal/abi.NoEscape", "internal/bytealg.IndexByte", "internal/bytealg.Index"], unfollowed := true, recurses := true, named := ["internal/bytealg.MaxLen"], apart := false, narrowed := true }
def TzifFirstUptoSaid : Prop := tzifFirstUptoRow.holds Try.pinned (OpenSpec.upto tzifFirstSpec)

/-- 'longcaselaw07.TzifLines', WHERE WHAT IT READS IS OF BULK AT MOST 1048576: true; the input reads as it did. -/
def tzifLinesUptoRow : OpenClaim := { program := "ytdcgclhmfflheaa", sum := "66d1f0bad55859cd98d336377efe0912942f7b9357585aad11050bc3c2c4fae9", func := "longcase/longcaselaw07.TzifLines", spec := "tzifLines", inPlace := ["internal/bytealg.IndexByteString", "internal/bytealg.IndexString", "internal/abi.NoEscape", "internal/bytealg.IndexByte", "internal/bytealg.Index"], unfollowed := true, recurses := true, named := ["internal/bytealg.MaxLen"], apart := false, narrowed := true }
def TzifLinesUptoSaid : Prop := tzifLinesUptoRow.holds Try.pinned (OpenSpec.upto tzifLinesSpec)

/-- 'longcaselaw07.TzifOnce', WHERE WHAT IT READS IS OF BULK AT MOST 1048576: true; the input reads as it did. -/
def tzifOnceUptoRow : OpenClaim := { program := "ytdcgclhmfflheaa", sum := "66d1f0bad55859cd98d336377efe0912942f7b9357585aad11050bc3c2c4fae9", func := "longcase/longcaselaw07.TzifOnce", spec := "tzifOnce", inPlace := ["internal/bytealg.IndexByteString", "internal/bytealg.IndexString", "internal/abi.NoEscape", "internal/bytealg.IndexByte", "internal/bytealg.Index"], unfollowed := true, recurses := true, named := ["internal/bytealg.MaxLen"], apart := false, narrowed := true }
def TzifOnceUptoSaid : Prop := tzifOnceUptoRow.holds Try.pinned (OpenSpec.upto tzifOnceSpec)

/-- 'longcaselaw07.TzifVersions', WHERE WHAT IT READS IS OF BULK AT MOST 1048576: true; the input reads as it did. -/
def tzifVersionsUptoRow : OpenClaim := { program := "ytdcgclhmfflheaa", sum := "66d1f0bad55859cd98d336377efe0912942f7b9357585aad11050bc3c2c4fae9", func := "longcase/longcaselaw07.TzifVersions", spec := "tzifVersions", inPlace := ["internal/bytealg.IndexByteString", "internal/bytealg.IndexString", "internal/abi.NoEscape", "internal/bytealg.IndexByte", "internal/bytealg.Index"], unfollowed := true, recurses := true, named := ["internal/bytealg.MaxLen"], apart := false, narrowed := true }
def TzifVersionsUptoSaid : Prop := tzifVersionsUptoRow.holds Try.pinned (OpenSpec.upto tzifVersionsSpec)

end Rows
end Go.Proofs.Ytdcgclhmfflheaa
