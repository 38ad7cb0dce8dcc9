/-
  No cell of these rows narrows 'for every input' (looked for: loops, veiled, ifaces, maps, wideKeys, modest, calm, conditions, laid).
  DERIVED. THE GIVEN ROWS OF THIS SEAT. 14 by the template 'for every input the law returns true; each argument reads behind the call as it read before'; 0 by the template 'total and deterministic' (their statements: YthlcognpfangkaaTotals.lean).
  GIVEN WITH THE SEED: the statements are not yours to turn. If you find one false, say at which input.
  Laid BY PROGRAM, IN A SANDBOX (cutbox-rows.mjs): the forced cells as the released guide's own fill.sh prints them over the translation 421b9e6ca628cc38… (all of the seat's roots in one cut). By AI agents, Wed Nov 11 2026. No macro, syntax, notation, axiom, sorry.
-/
import Derived.Test.YthlcognpfangkaaChecked
import GoSem.Claim
import GoSem.ClaimJoined
import GoSem.ClaimMapViews
import Derived.JoinedTies
import Derived.KernelRfl
namespace Go.Proofs.Ythlcognpfangkaa
/- THE CELL 'sum', in the pinned program and in every row, IS THE sha256 OF THE DUMP (.gsa) THAT YthlcognpfangkaaProg.lean LOADS. Nothing in Lean hashes anything: it is a label: what it is worth is what the hold of that sum in a sandbox is worth. -/
noncomputable def Try.pinned : Pinned := { name := "ythlcognpfangkaa", sum := "421b9e6ca628cc38b30babb2cb63d33da69fa2aec7d1b9c289589c9ae3db1b68", checked := Try.checked }
namespace Rows
def none {H : Type} : Left H := { results := [], args := [] }

/-- 'tankardlaw09.HeapPlays': WHATEVER THE INPUT: true; the input reads as it did. -/
def heapPlaysSpec : ChangeSpec := { name := "heapPlays", fn := fun _ => fun
  | [d] => { results := [.lit (.bool true)], args := [d] }
  | _ => none }
def heapPlaysRow : OpenClaim := { program := "ythlcognpfangkaa", sum := "421b9e6ca628cc38b30babb2cb63d33da69fa2aec7d1b9c289589c9ae3db1b68", func := "tankard/tankardlaw09.HeapPlays", spec := "heapPlays", unfollowed := true, recurses := true, apart := false }
def HeapPlaysSaid : Prop := heapPlaysRow.holds Try.pinned (OpenSpec.ofChange heapPlaysSpec)

/-- ITS FALSE NEIGHBOUR: 'it returns false'. Refute it at one input. -/
def heapPlaysWrong : ChangeSpec := { name := "heapPlays", fn := fun _ => fun
  | [d] => { results := [.lit (.bool false)], args := [d] }
  | _ => none }
def HeapPlaysWrongFalsely : Prop := heapPlaysRow.holds Try.pinned (OpenSpec.ofChange heapPlaysWrong)

/-- 'tankardlaw09.HeapSorts': WHATEVER THE INPUT: true; the input reads as it did. -/
def heapSortsSpec : ChangeSpec := { name := "heapSorts", fn := fun _ => fun
  | [d] => { results := [.lit (.bool true)], args := [d] }
  | _ => none }
def heapSortsRow : OpenClaim := { program := "ythlcognpfangkaa", sum := "421b9e6ca628cc38b30babb2cb63d33da69fa2aec7d1b9c289589c9ae3db1b68", func := "tankard/tankardlaw09.HeapSorts", spec := "heapSorts", unfollowed := true, recurses := true, apart := false }
def HeapSortsSaid : Prop := heapSortsRow.holds Try.pinned (OpenSpec.ofChange heapSortsSpec)

/-- ITS FALSE NEIGHBOUR: 'it returns false'. Refute it at one input. -/
def heapSortsWrong : ChangeSpec := { name := "heapSorts", fn := fun _ => fun
  | [d] => { results := [.lit (.bool false)], args := [d] }
  | _ => none }
def HeapSortsWrongFalsely : Prop := heapSortsRow.holds Try.pinned (OpenSpec.ofChange heapSortsWrong)

/-- 'tankardlaw01.WordPuts': WHATEVER THE INPUT: true; the input reads as it did. -/
def wordPutsSpec : ChangeSpec := { name := "wordPuts", fn := fun _ => fun
  | [d1, d2, d3, d4] => { results := [.lit (.bool true)], args := [d1, d2, d3, d4] }
  | _ => none }
def wordPutsRow : OpenClaim := { program := "ythlcognpfangkaa", sum := "421b9e6ca628cc38b30babb2cb63d33da69fa2aec7d1b9c289589c9ae3db1b68", func := "tankard/tankardlaw01.WordPuts", spec := "wordPuts", recurses := true, apart := false }
def WordPutsSaid : Prop := wordPutsRow.holds Try.pinned (OpenSpec.ofChange wordPutsSpec)

/-- ITS FALSE NEIGHBOUR: 'it returns false'. Refute it at one input. -/
def wordPutsWrong : ChangeSpec := { name := "wordPuts", fn := fun _ => fun
  | [d1, d2, d3, d4] => { results := [.lit (.bool false)], args := [d1, d2, d3, d4] }
  | _ => none }
def WordPutsWrongFalsely : Prop := wordPutsRow.holds Try.pinned (OpenSpec.ofChange wordPutsWrong)

/-- 'tankardlaw01.WordReads': WHATEVER THE INPUT: true; the input reads as it did. -/
def wordReadsSpec : ChangeSpec := { name := "wordReads", fn := fun _ => fun
  | [d1, d2] => { results := [.lit (.bool true)], args := [d1, d2] }
  | _ => none }
def wordReadsRow : OpenClaim := { program := "ythlcognpfangkaa", sum := "421b9e6ca628cc38b30babb2cb63d33da69fa2aec7d1b9c289589c9ae3db1b68", func := "tankard/tankardlaw01.WordReads", spec := "wordReads", apart := false }
def WordReadsSaid : Prop := wordReadsRow.holds Try.pinned (OpenSpec.ofChange wordReadsSpec)

/-- ITS FALSE NEIGHBOUR: 'it returns false'. Refute it at one input. -/
def wordReadsWrong : ChangeSpec := { name := "wordReads", fn := fun _ => fun
  | [d1, d2] => { results := [.lit (.bool false)], args := [d1, d2] }
  | _ => none }
def WordReadsWrongFalsely : Prop := wordReadsRow.holds Try.pinned (OpenSpec.ofChange wordReadsWrong)

/-- 'tankardlaw02.CrcSums': WHATEVER THE INPUT: true; the input reads as it did. -/
def crcSumsSpec : ChangeSpec := { name := "crcSums", fn := fun _ => fun
  | [d] => { results := [.lit (.bool true)], args := [d] }
  | _ => none }
def crcSumsRow : OpenClaim := { program := "ythlcognpfangkaa", sum := "421b9e6ca628cc38b30babb2cb63d33da69fa2aec7d1b9c289589c9ae3db1b68", func := "tankard/tankardlaw02.CrcSums", spec := "crcSums", recurses := true, apart := false }
def CrcSumsSaid : Prop := crcSumsRow.holds Try.pinned (OpenSpec.ofChange crcSumsSpec)

/-- ITS FALSE NEIGHBOUR: 'it returns false'. Refute it at one input. -/
def crcSumsWrong : ChangeSpec := { name := "crcSums", fn := fun _ => fun
  | [d] => { results := [.lit (.bool false)], args := [d] }
  | _ => none }
def CrcSumsWrongFalsely : Prop := crcSumsRow.holds Try.pinned (OpenSpec.ofChange crcSumsWrong)

/-- 'tankardlaw02.CrcOpens': WHATEVER THE INPUT: true; the input reads as it did. -/
def crcOpensSpec : ChangeSpec := { name := "crcOpens", fn := fun _ => fun
  | [d] => { results := [.lit (.bool true)], args := [d] }
  | _ => none }
def crcOpensRow : OpenClaim := { program := "ythlcognpfangkaa", sum := "421b9e6ca628cc38b30babb2cb63d33da69fa2aec7d1b9c289589c9ae3db1b68", func := "tankard/tankardlaw02.CrcOpens", spec := "crcOpens", recurses := true, apart := false }
def CrcOpensSaid : Prop := crcOpensRow.holds Try.pinned (OpenSpec.ofChange crcOpensSpec)

/-- ITS FALSE NEIGHBOUR: 'it returns false'. Refute it at one input. -/
def crcOpensWrong : ChangeSpec := { name := "crcOpens", fn := fun _ => fun
  | [d] => { results := [.lit (.bool false)], args := [d] }
  | _ => none }
def CrcOpensWrongFalsely : Prop := crcOpensRow.holds Try.pinned (OpenSpec.ofChange crcOpensWrong)

/-- 'tankardlaw02.CrcOn': WHATEVER THE INPUT: true; the input reads as it did. -/
def crcOnSpec : ChangeSpec := { name := "crcOn", fn := fun _ => fun
  | [d1, d2] => { results := [.lit (.bool true)], args := [d1, d2] }
  | _ => none }
def crcOnRow : OpenClaim := { program := "ythlcognpfangkaa", sum := "421b9e6ca628cc38b30babb2cb63d33da69fa2aec7d1b9c289589c9ae3db1b68", func := "tankard/tankardlaw02.CrcOn", spec := "crcOn", apart := false }
def CrcOnSaid : Prop := crcOnRow.holds Try.pinned (OpenSpec.ofChange crcOnSpec)

/-- ITS FALSE NEIGHBOUR: 'it returns false'. Refute it at one input. -/
def crcOnWrong : ChangeSpec := { name := "crcOn", fn := fun _ => fun
  | [d1, d2] => { results := [.lit (.bool false)], args := [d1, d2] }
  | _ => none }
def CrcOnWrongFalsely : Prop := crcOnRow.holds Try.pinned (OpenSpec.ofChange crcOnWrong)

/-- 'tankardlaw02.CrcTells': WHATEVER THE INPUT: true; the input reads as it did. -/
def crcTellsSpec : ChangeSpec := { name := "crcTells", fn := fun _ => fun
  | [d1, d2, d3] => { results := [.lit (.bool true)], args := [d1, d2, d3] }
  | _ => none }
def crcTellsRow : OpenClaim := { program := "ythlcognpfangkaa", sum := "421b9e6ca628cc38b30babb2cb63d33da69fa2aec7d1b9c289589c9ae3db1b68", func := "tankard/tankardlaw02.CrcTells", spec := "crcTells", apart := false }
def CrcTellsSaid : Prop := crcTellsRow.holds Try.pinned (OpenSpec.ofChange crcTellsSpec)

/-- ITS FALSE NEIGHBOUR: 'it returns false'. Refute it at one input. -/
def crcTellsWrong : ChangeSpec := { name := "crcTells", fn := fun _ => fun
  | [d1, d2, d3] => { results := [.lit (.bool false)], args := [d1, d2, d3] }
  | _ => none }
def CrcTellsWrongFalsely : Prop := crcTellsRow.holds Try.pinned (OpenSpec.ofChange crcTellsWrong)

/-- 'tankardlaw01.WordBack': WHATEVER THE INPUT: true; the input reads as it did. -/
def wordBackSpec : ChangeSpec := { name := "wordBack", fn := fun _ => fun
  | [d1, d2, d3, d4] => { results := [.lit (.bool true)], args := [d1, d2, d3, d4] }
  | _ => none }
def wordBackRow : OpenClaim := { program := "ythlcognpfangkaa", sum := "421b9e6ca628cc38b30babb2cb63d33da69fa2aec7d1b9c289589c9ae3db1b68", func := "tankard/tankardlaw01.WordBack", spec := "wordBack", apart := false }
def WordBackSaid : Prop := wordBackRow.holds Try.pinned (OpenSpec.ofChange wordBackSpec)

/-- ITS FALSE NEIGHBOUR: 'it returns false'. Refute it at one input. -/
def wordBackWrong : ChangeSpec := { name := "wordBack", fn := fun _ => fun
  | [d1, d2, d3, d4] => { results := [.lit (.bool false)], args := [d1, d2, d3, d4] }
  | _ => none }
def WordBackWrongFalsely : Prop := wordBackRow.holds Try.pinned (OpenSpec.ofChange wordBackWrong)

/-- 'tankardlaw07.TapeLasts': WHATEVER THE INPUT: true; the input reads as it did. -/
def tapeLastsSpec : ChangeSpec := { name := "tapeLasts", fn := fun _ => fun
  | [d1, d2, d3] => { results := [.lit (.bool true)], args := [d1, d2, d3] }
  | _ => none }
def tapeLastsRow : OpenClaim := { program := "ythlcognpfangkaa", sum := "421b9e6ca628cc38b30babb2cb63d33da69fa2aec7d1b9c289589c9ae3db1b68", func := "tankard/tankardlaw07.TapeLasts", spec := "tapeLasts", apart := false }
def TapeLastsSaid : Prop := tapeLastsRow.holds Try.pinned (OpenSpec.ofChange tapeLastsSpec)

/-- ITS FALSE NEIGHBOUR: 'it returns false'. Refute it at one input. -/
def tapeLastsWrong : ChangeSpec := { name := "tapeLasts", fn := fun _ => fun
  | [d1, d2, d3] => { results := [.lit (.bool false)], args := [d1, d2, d3] }
  | _ => none }
def TapeLastsWrongFalsely : Prop := tapeLastsRow.holds Try.pinned (OpenSpec.ofChange tapeLastsWrong)

/-- 'tankardlaw07.TapePlays': WHATEVER THE INPUT: true; the input reads as it did. -/
def tapePlaysSpec : ChangeSpec := { name := "tapePlays", fn := fun _ => fun
  | [d1, d2] => { results := [.lit (.bool true)], args := [d1, d2] }
  | _ => none }
def tapePlaysRow : OpenClaim := { program := "ythlcognpfangkaa", sum := "421b9e6ca628cc38b30babb2cb63d33da69fa2aec7d1b9c289589c9ae3db1b68", func := "tankard/tankardlaw07.TapePlays", spec := "tapePlays", apart := false }
def TapePlaysSaid : Prop := tapePlaysRow.holds Try.pinned (OpenSpec.ofChange tapePlaysSpec)

/-- ITS FALSE NEIGHBOUR: 'it returns false'. Refute it at one input. -/
def tapePlaysWrong : ChangeSpec := { name := "tapePlays", fn := fun _ => fun
  | [d1, d2] => { results := [.lit (.bool false)], args := [d1, d2] }
  | _ => none }
def TapePlaysWrongFalsely : Prop := tapePlaysRow.holds Try.pinned (OpenSpec.ofChange tapePlaysWrong)

/-- 'tankardlaw08.WalRecords': WHATEVER THE INPUT: true; the input reads as it did. -/
def walRecordsSpec : ChangeSpec := { name := "walRecords", fn := fun _ => fun
  | [d] => { results := [.lit (.bool true)], args := [d] }
  | _ => none }
def walRecordsRow : OpenClaim := { program := "ythlcognpfangkaa", sum := "421b9e6ca628cc38b30babb2cb63d33da69fa2aec7d1b9c289589c9ae3db1b68", func := "tankard/tankardlaw08.WalRecords", spec := "walRecords", recurses := true, apart := false }
def WalRecordsSaid : Prop := walRecordsRow.holds Try.pinned (OpenSpec.ofChange walRecordsSpec)

/-- ITS FALSE NEIGHBOUR: 'it returns false'. Refute it at one input. -/
def walRecordsWrong : ChangeSpec := { name := "walRecords", fn := fun _ => fun
  | [d] => { results := [.lit (.bool false)], args := [d] }
  | _ => none }
def WalRecordsWrongFalsely : Prop := walRecordsRow.holds Try.pinned (OpenSpec.ofChange walRecordsWrong)

/-- 'tankardlaw08.WalKeeps': WHATEVER THE INPUT: true; the input reads as it did. -/
def walKeepsSpec : ChangeSpec := { name := "walKeeps", fn := fun _ => fun
  | [d1, d2] => { results := [.lit (.bool true)], args := [d1, d2] }
  | _ => none }
def walKeepsRow : OpenClaim := { program := "ythlcognpfangkaa", sum := "421b9e6ca628cc38b30babb2cb63d33da69fa2aec7d1b9c289589c9ae3db1b68", func := "tankard/tankardlaw08.WalKeeps", spec := "walKeeps", apart := false }
def WalKeepsSaid : Prop := walKeepsRow.holds Try.pinned (OpenSpec.ofChange walKeepsSpec)

/-- ITS FALSE NEIGHBOUR: 'it returns false'. Refute it at one input. -/
def walKeepsWrong : ChangeSpec := { name := "walKeeps", fn := fun _ => fun
  | [d1, d2] => { results := [.lit (.bool false)], args := [d1, d2] }
  | _ => none }
def WalKeepsWrongFalsely : Prop := walKeepsRow.holds Try.pinned (OpenSpec.ofChange walKeepsWrong)

/-- 'tankardlaw08.WalPlays': WHATEVER THE INPUT: true; the input reads as it did. -/
def walPlaysSpec : ChangeSpec := { name := "walPlays", fn := fun _ => fun
  | [d1, d2, d3] => { results := [.lit (.bool true)], args := [d1, d2, d3] }
  | _ => none }
def walPlaysRow : OpenClaim := { program := "ythlcognpfangkaa", sum := "421b9e6ca628cc38b30babb2cb63d33da69fa2aec7d1b9c289589c9ae3db1b68", func := "tankard/tankardlaw08.WalPlays", spec := "walPlays", recurses := true, apart := false }
def WalPlaysSaid : Prop := walPlaysRow.holds Try.pinned (OpenSpec.ofChange walPlaysSpec)

/-- ITS FALSE NEIGHBOUR: 'it returns false'. Refute it at one input. -/
def walPlaysWrong : ChangeSpec := { name := "walPlays", fn := fun _ => fun
  | [d1, d2, d3] => { results := [.lit (.bool false)], args := [d1, d2, d3] }
  | _ => none }
def WalPlaysWrongFalsely : Prop := walPlaysRow.holds Try.pinned (OpenSpec.ofChange walPlaysWrong)

/- THE SECOND FORM. 'bulk': how many values and letters a reading holds, each counted each time it is reached (what is shared counts as often as it is met; a slice's spare places count too). A statement '..UptoSaid' is the law's where the arguments, and the package variables that the reading takes, are together of bulk at most 1048576: NARROWER than '..Said'. Prove '..Said' where nothing that the law and all that it calls make is longer than what came in: it says more and counts as full. Else prove '..UptoSaid'. A law counts once. -/
mutual
def uptoBulk {H : Type} : DataW H → Nat
  | .lit (.string bytes) => bytes.length + 1
  | .lit _ => 1
  | .nil => 1
  | .ptr d => uptoBulk d + 1
  | .slice elems spare => uptoBulkAll elems + uptoBulkAll spare + 1
  | .agg parts => uptoBulkAll parts + 1
  | .iface _ d => uptoBulk d + 1
  | .map entries => uptoBulkEntries entries + 1
  | .held _ => 1
def uptoBulkAll {H : Type} : List (DataW H) → Nat
  | [] => 0
  | d :: r => uptoBulk d + uptoBulkAll r
def uptoBulkEntries {H : Type} : List (Lit × DataW H) → Nat
  | [] => 0
  | x :: r => uptoBulkEntry x + uptoBulkEntries r
def uptoBulkEntry {H : Type} : Lit × DataW H → Nat
  | (.string bytes, d) => bytes.length + uptoBulk d + 1
  | (_, d) => uptoBulk d + 1
 end
def uptoSmall : (H : Type) → List (DataW H) → Bool := fun _ ds => decide (uptoBulkAll ds ≤ 1048576)
def OpenSpec.upto (s : _root_.Go.ChangeSpec) : _root_.Go.OpenSpec := { _root_.Go.OpenSpec.ofChange s with cond := some uptoSmall }

/-- 'tankardlaw09.HeapPlays', WHERE WHAT IT READS IS OF BULK AT MOST 1048576: true; the input reads as it did. -/
def heapPlaysUptoRow : OpenClaim := { program := "ythlcognpfangkaa", sum := "421b9e6ca628cc38b30babb2cb63d33da69fa2aec7d1b9c289589c9ae3db1b68", func := "tankard/tankardlaw09.HeapPlays", spec := "heapPlays", unfollowed := true, recurses := true, apart := false, narrowed := true }
def HeapPlaysUptoSaid : Prop := heapPlaysUptoRow.holds Try.pinned (OpenSpec.upto heapPlaysSpec)

/-- 'tankardlaw09.HeapSorts', WHERE WHAT IT READS IS OF BULK AT MOST 1048576: true; the input reads as it did. -/
def heapSortsUptoRow : OpenClaim := { program := "ythlcognpfangkaa", sum := "421b9e6ca628cc38b30babb2cb63d33da69fa2aec7d1b9c289589c9ae3db1b68", func := "tankard/tankardlaw09.HeapSorts", spec := "heapSorts", unfollowed := true, recurses := true, apart := false, narrowed := true }
def HeapSortsUptoSaid : Prop := heapSortsUptoRow.holds Try.pinned (OpenSpec.upto heapSortsSpec)

/-- 'tankardlaw01.WordPuts', WHERE WHAT IT READS IS OF BULK AT MOST 1048576: true; the input reads as it did. -/
def wordPutsUptoRow : OpenClaim := { program := "ythlcognpfangkaa", sum := "421b9e6ca628cc38b30babb2cb63d33da69fa2aec7d1b9c289589c9ae3db1b68", func := "tankard/tankardlaw01.WordPuts", spec := "wordPuts", recurses := true, apart := false, narrowed := true }
def WordPutsUptoSaid : Prop := wordPutsUptoRow.holds Try.pinned (OpenSpec.upto wordPutsSpec)

/-- 'tankardlaw01.WordReads', WHERE WHAT IT READS IS OF BULK AT MOST 1048576: true; the input reads as it did. -/
def wordReadsUptoRow : OpenClaim := { program := "ythlcognpfangkaa", sum := "421b9e6ca628cc38b30babb2cb63d33da69fa2aec7d1b9c289589c9ae3db1b68", func := "tankard/tankardlaw01.WordReads", spec := "wordReads", apart := false, narrowed := true }
def WordReadsUptoSaid : Prop := wordReadsUptoRow.holds Try.pinned (OpenSpec.upto wordReadsSpec)

/-- 'tankardlaw02.CrcSums', WHERE WHAT IT READS IS OF BULK AT MOST 1048576: true; the input reads as it did. -/
def crcSumsUptoRow : OpenClaim := { program := "ythlcognpfangkaa", sum := "421b9e6ca628cc38b30babb2cb63d33da69fa2aec7d1b9c289589c9ae3db1b68", func := "tankard/tankardlaw02.CrcSums", spec := "crcSums", recurses := true, apart := false, narrowed := true }
def CrcSumsUptoSaid : Prop := crcSumsUptoRow.holds Try.pinned (OpenSpec.upto crcSumsSpec)

/-- 'tankardlaw02.CrcOpens', WHERE WHAT IT READS IS OF BULK AT MOST 1048576: true; the input reads as it did. -/
def crcOpensUptoRow : OpenClaim := { program := "ythlcognpfangkaa", sum := "421b9e6ca628cc38b30babb2cb63d33da69fa2aec7d1b9c289589c9ae3db1b68", func := "tankard/tankardlaw02.CrcOpens", spec := "crcOpens", recurses := true, apart := false, narrowed := true }
def CrcOpensUptoSaid : Prop := crcOpensUptoRow.holds Try.pinned (OpenSpec.upto crcOpensSpec)

/-- 'tankardlaw02.CrcOn', WHERE WHAT IT READS IS OF BULK AT MOST 1048576: true; the input reads as it did. -/
def crcOnUptoRow : OpenClaim := { program := "ythlcognpfangkaa", sum := "421b9e6ca628cc38b30babb2cb63d33da69fa2aec7d1b9c289589c9ae3db1b68", func := "tankard/tankardlaw02.CrcOn", spec := "crcOn", apart := false, narrowed := true }
def CrcOnUptoSaid : Prop := crcOnUptoRow.holds Try.pinned (OpenSpec.upto crcOnSpec)

/-- 'tankardlaw02.CrcTells', WHERE WHAT IT READS IS OF BULK AT MOST 1048576: true; the input reads as it did. -/
def crcTellsUptoRow : OpenClaim := { program := "ythlcognpfangkaa", sum := "421b9e6ca628cc38b30babb2cb63d33da69fa2aec7d1b9c289589c9ae3db1b68", func := "tankard/tankardlaw02.CrcTells", spec := "crcTells", apart := false, narrowed := true }
def CrcTellsUptoSaid : Prop := crcTellsUptoRow.holds Try.pinned (OpenSpec.upto crcTellsSpec)

/-- 'tankardlaw01.WordBack', WHERE WHAT IT READS IS OF BULK AT MOST 1048576: true; the input reads as it did. -/
def wordBackUptoRow : OpenClaim := { program := "ythlcognpfangkaa", sum := "421b9e6ca628cc38b30babb2cb63d33da69fa2aec7d1b9c289589c9ae3db1b68", func := "tankard/tankardlaw01.WordBack", spec := "wordBack", apart := false, narrowed := true }
def WordBackUptoSaid : Prop := wordBackUptoRow.holds Try.pinned (OpenSpec.upto wordBackSpec)

/-- 'tankardlaw07.TapeLasts', WHERE WHAT IT READS IS OF BULK AT MOST 1048576: true; the input reads as it did. -/
def tapeLastsUptoRow : OpenClaim := { program := "ythlcognpfangkaa", sum := "421b9e6ca628cc38b30babb2cb63d33da69fa2aec7d1b9c289589c9ae3db1b68", func := "tankard/tankardlaw07.TapeLasts", spec := "tapeLasts", apart := false, narrowed := true }
def TapeLastsUptoSaid : Prop := tapeLastsUptoRow.holds Try.pinned (OpenSpec.upto tapeLastsSpec)

/-- 'tankardlaw07.TapePlays', WHERE WHAT IT READS IS OF BULK AT MOST 1048576: true; the input reads as it did. -/
def tapePlaysUptoRow : OpenClaim := { program := "ythlcognpfangkaa", sum := "421b9e6ca628cc38b30babb2cb63d33da69fa2aec7d1b9c289589c9ae3db1b68", func := "tankard/tankardlaw07.TapePlays", spec := "tapePlays", apart := false, narrowed := true }
def TapePlaysUptoSaid : Prop := tapePlaysUptoRow.holds Try.pinned (OpenSpec.upto tapePlaysSpec)

/-- 'tankardlaw08.WalRecords', WHERE WHAT IT READS IS OF BULK AT MOST 1048576: true; the input reads as it did. -/
def walRecordsUptoRow : OpenClaim := { program := "ythlcognpfangkaa", sum := "421b9e6ca628cc38b30babb2cb63d33da69fa2aec7d1b9c289589c9ae3db1b68", func := "tankard/tankardlaw08.WalRecords", spec := "walRecords", recurses := true, apart := false, narrowed := true }
def WalRecordsUptoSaid : Prop := walRecordsUptoRow.holds Try.pinned (OpenSpec.upto walRecordsSpec)

/-- 'tankardlaw08.WalKeeps', WHERE WHAT IT READS IS OF BULK AT MOST 1048576: true; the input reads as it did. -/
def walKeepsUptoRow : OpenClaim := { program := "ythlcognpfangkaa", sum := "421b9e6ca628cc38b30babb2cb63d33da69fa2aec7d1b9c289589c9ae3db1b68", func := "tankard/tankardlaw08.WalKeeps", spec := "walKeeps", apart := false, narrowed := true }
def WalKeepsUptoSaid : Prop := walKeepsUptoRow.holds Try.pinned (OpenSpec.upto walKeepsSpec)

/-- 'tankardlaw08.WalPlays', WHERE WHAT IT READS IS OF BULK AT MOST 1048576: true; the input reads as it did. -/
def walPlaysUptoRow : OpenClaim := { program := "ythlcognpfangkaa", sum := "421b9e6ca628cc38b30babb2cb63d33da69fa2aec7d1b9c289589c9ae3db1b68", func := "tankard/tankardlaw08.WalPlays", spec := "walPlays", recurses := true, apart := false, narrowed := true }
def WalPlaysUptoSaid : Prop := walPlaysUptoRow.holds Try.pinned (OpenSpec.upto walPlaysSpec)

end Rows
end Go.Proofs.Ythlcognpfangkaa
