/-
  No cell of these rows narrows 'for every input' (looked for: loops, veiled, ifaces, maps, wideKeys, modest, calm, conditions, laid).
  DERIVED. THE GIVEN ROWS OF THIS SEAT. 18 by the template 'for every input the law returns true; each argument reads behind the call as it read before'; 0 by the template 'total and deterministic' (their statements: YthkfgjdbgnbjkaaTotals.lean).
  GIVEN WITH THE SEED: the statements are not yours to turn. If you find one false, say at which input.
  Laid BY PROGRAM, IN A SANDBOX (cutbox-rows.mjs): the forced cells as the released guide's own fill.sh prints them over the translation 77a81d7835a4dcb9… (all of the seat's roots in one cut). By AI agents, Wed Nov 11 2026. No macro, syntax, notation, axiom, sorry.
-/
import Derived.Test.YthkfgjdbgnbjkaaChecked
import GoSem.Claim
import GoSem.ClaimJoined
import GoSem.ClaimMapViews
import Derived.JoinedTies
import Derived.KernelRfl
namespace Go.Proofs.Ythkfgjdbgnbjkaa
/- THE CELL 'sum', in the pinned program and in every row, IS THE sha256 OF THE DUMP (.gsa) THAT YthkfgjdbgnbjkaaProg.lean LOADS. Nothing in Lean hashes anything: it is a label: what it is worth is what the hold of that sum in a sandbox is worth. -/
noncomputable def Try.pinned : Pinned := { name := "ythkfgjdbgnbjkaa", sum := "77a81d7835a4dcb96b251713d1225f6fed9d1ec8888ff0c99bbaef74c5b1e5bd", checked := Try.checked }
namespace Rows
def none {H : Type} : Left H := { results := [], args := [] }

/-- 'consortlaw04.CrcSums': WHATEVER THE INPUT: true; the input reads as it did. -/
def crcSumsSpec : ChangeSpec := { name := "crcSums", fn := fun _ => fun
  | [d1, d2] => { results := [.lit (.bool true)], args := [d1, d2] }
  | _ => none }
def crcSumsRow : OpenClaim := { program := "ythkfgjdbgnbjkaa", sum := "77a81d7835a4dcb96b251713d1225f6fed9d1ec8888ff0c99bbaef74c5b1e5bd", func := "consort/consortlaw04.CrcSums", spec := "crcSums", apart := false }
def CrcSumsSaid : Prop := crcSumsRow.holds Try.pinned (OpenSpec.ofChange crcSumsSpec)

/-- ITS FALSE NEIGHBOUR: 'it returns false'. Refute it at one input. -/
def crcSumsWrong : ChangeSpec := { name := "crcSums", fn := fun _ => fun
  | [d1, d2] => { results := [.lit (.bool false)], args := [d1, d2] }
  | _ => none }
def CrcSumsWrongFalsely : Prop := crcSumsRow.holds Try.pinned (OpenSpec.ofChange crcSumsWrong)

/-- 'consortlaw04.CrcBack': WHATEVER THE INPUT: true; the input reads as it did. -/
def crcBackSpec : ChangeSpec := { name := "crcBack", fn := fun _ => fun
  | [d1, d2, d3] => { results := [.lit (.bool true)], args := [d1, d2, d3] }
  | _ => none }
def crcBackRow : OpenClaim := { program := "ythkfgjdbgnbjkaa", sum := "77a81d7835a4dcb96b251713d1225f6fed9d1ec8888ff0c99bbaef74c5b1e5bd", func := "consort/consortlaw04.CrcBack", spec := "crcBack", apart := false }
def CrcBackSaid : Prop := crcBackRow.holds Try.pinned (OpenSpec.ofChange crcBackSpec)

/-- ITS FALSE NEIGHBOUR: 'it returns false'. Refute it at one input. -/
def crcBackWrong : ChangeSpec := { name := "crcBack", fn := fun _ => fun
  | [d1, d2, d3] => { results := [.lit (.bool false)], args := [d1, d2, d3] }
  | _ => none }
def CrcBackWrongFalsely : Prop := crcBackRow.holds Try.pinned (OpenSpec.ofChange crcBackWrong)

/-- 'consortlaw04.CrcBursts': WHATEVER THE INPUT: true; the input reads as it did. -/
def crcBurstsSpec : ChangeSpec := { name := "crcBursts", fn := fun _ => fun
  | [d1, d2, d3] => { results := [.lit (.bool true)], args := [d1, d2, d3] }
  | _ => none }
def crcBurstsRow : OpenClaim := { program := "ythkfgjdbgnbjkaa", sum := "77a81d7835a4dcb96b251713d1225f6fed9d1ec8888ff0c99bbaef74c5b1e5bd", func := "consort/consortlaw04.CrcBursts", spec := "crcBursts", apart := false }
def CrcBurstsSaid : Prop := crcBurstsRow.holds Try.pinned (OpenSpec.ofChange crcBurstsSpec)

/-- ITS FALSE NEIGHBOUR: 'it returns false'. Refute it at one input. -/
def crcBurstsWrong : ChangeSpec := { name := "crcBursts", fn := fun _ => fun
  | [d1, d2, d3] => { results := [.lit (.bool false)], args := [d1, d2, d3] }
  | _ => none }
def CrcBurstsWrongFalsely : Prop := crcBurstsRow.holds Try.pinned (OpenSpec.ofChange crcBurstsWrong)

/-- 'consortlaw04.CrcParts': WHATEVER THE INPUT: true; the input reads as it did. -/
def crcPartsSpec : ChangeSpec := { name := "crcParts", fn := fun _ => fun
  | [d1, d2, d3] => { results := [.lit (.bool true)], args := [d1, d2, d3] }
  | _ => none }
def crcPartsRow : OpenClaim := { program := "ythkfgjdbgnbjkaa", sum := "77a81d7835a4dcb96b251713d1225f6fed9d1ec8888ff0c99bbaef74c5b1e5bd", func := "consort/consortlaw04.CrcParts", spec := "crcParts", apart := false }
def CrcPartsSaid : Prop := crcPartsRow.holds Try.pinned (OpenSpec.ofChange crcPartsSpec)

/-- ITS FALSE NEIGHBOUR: 'it returns false'. Refute it at one input. -/
def crcPartsWrong : ChangeSpec := { name := "crcParts", fn := fun _ => fun
  | [d1, d2, d3] => { results := [.lit (.bool false)], args := [d1, d2, d3] }
  | _ => none }
def CrcPartsWrongFalsely : Prop := crcPartsRow.holds Try.pinned (OpenSpec.ofChange crcPartsWrong)

/-- 'consortlaw04.CrcOnly': WHATEVER THE INPUT: true; the input reads as it did. -/
def crcOnlySpec : ChangeSpec := { name := "crcOnly", fn := fun _ => fun
  | [d] => { results := [.lit (.bool true)], args := [d] }
  | _ => none }
def crcOnlyRow : OpenClaim := { program := "ythkfgjdbgnbjkaa", sum := "77a81d7835a4dcb96b251713d1225f6fed9d1ec8888ff0c99bbaef74c5b1e5bd", func := "consort/consortlaw04.CrcOnly", spec := "crcOnly", apart := false }
def CrcOnlySaid : Prop := crcOnlyRow.holds Try.pinned (OpenSpec.ofChange crcOnlySpec)

/-- ITS FALSE NEIGHBOUR: 'it returns false'. Refute it at one input. -/
def crcOnlyWrong : ChangeSpec := { name := "crcOnly", fn := fun _ => fun
  | [d] => { results := [.lit (.bool false)], args := [d] }
  | _ => none }
def CrcOnlyWrongFalsely : Prop := crcOnlyRow.holds Try.pinned (OpenSpec.ofChange crcOnlyWrong)

/-- 'consortlaw05.FramePrints': WHATEVER THE INPUT: true; the input reads as it did. -/
def framePrintsSpec : ChangeSpec := { name := "framePrints", fn := fun _ => fun
  | [d] => { results := [.lit (.bool true)], args := [d] }
  | _ => none }
def framePrintsRow : OpenClaim := { program := "ythkfgjdbgnbjkaa", sum := "77a81d7835a4dcb96b251713d1225f6fed9d1ec8888ff0c99bbaef74c5b1e5bd", func := "consort/consortlaw05.FramePrints", spec := "framePrints", apart := false }
def FramePrintsSaid : Prop := framePrintsRow.holds Try.pinned (OpenSpec.ofChange framePrintsSpec)

/-- ITS FALSE NEIGHBOUR: 'it returns false'. Refute it at one input. -/
def framePrintsWrong : ChangeSpec := { name := "framePrints", fn := fun _ => fun
  | [d] => { results := [.lit (.bool false)], args := [d] }
  | _ => none }
def FramePrintsWrongFalsely : Prop := framePrintsRow.holds Try.pinned (OpenSpec.ofChange framePrintsWrong)

/-- 'consortlaw05.FrameParses': WHATEVER THE INPUT: true; the input reads as it did. -/
def frameParsesSpec : ChangeSpec := { name := "frameParses", fn := fun _ => fun
  | [d] => { results := [.lit (.bool true)], args := [d] }
  | _ => none }
def frameParsesRow : OpenClaim := { program := "ythkfgjdbgnbjkaa", sum := "77a81d7835a4dcb96b251713d1225f6fed9d1ec8888ff0c99bbaef74c5b1e5bd", func := "consort/consortlaw05.FrameParses", spec := "frameParses", apart := false }
def FrameParsesSaid : Prop := frameParsesRow.holds Try.pinned (OpenSpec.ofChange frameParsesSpec)

/-- ITS FALSE NEIGHBOUR: 'it returns false'. Refute it at one input. -/
def frameParsesWrong : ChangeSpec := { name := "frameParses", fn := fun _ => fun
  | [d] => { results := [.lit (.bool false)], args := [d] }
  | _ => none }
def FrameParsesWrongFalsely : Prop := frameParsesRow.holds Try.pinned (OpenSpec.ofChange frameParsesWrong)

/-- 'consortlaw05.FrameBack': WHATEVER THE INPUT: true; the input reads as it did. -/
def frameBackSpec : ChangeSpec := { name := "frameBack", fn := fun _ => fun
  | [d1, d2, d3] => { results := [.lit (.bool true)], args := [d1, d2, d3] }
  | _ => none }
def frameBackRow : OpenClaim := { program := "ythkfgjdbgnbjkaa", sum := "77a81d7835a4dcb96b251713d1225f6fed9d1ec8888ff0c99bbaef74c5b1e5bd", func := "consort/consortlaw05.FrameBack", spec := "frameBack", apart := false }
def FrameBackSaid : Prop := frameBackRow.holds Try.pinned (OpenSpec.ofChange frameBackSpec)

/-- ITS FALSE NEIGHBOUR: 'it returns false'. Refute it at one input. -/
def frameBackWrong : ChangeSpec := { name := "frameBack", fn := fun _ => fun
  | [d1, d2, d3] => { results := [.lit (.bool false)], args := [d1, d2, d3] }
  | _ => none }
def FrameBackWrongFalsely : Prop := frameBackRow.holds Try.pinned (OpenSpec.ofChange frameBackWrong)

/-- 'consortlaw05.FrameOne': WHATEVER THE INPUT: true; the input reads as it did. -/
def frameOneSpec : ChangeSpec := { name := "frameOne", fn := fun _ => fun
  | [d] => { results := [.lit (.bool true)], args := [d] }
  | _ => none }
def frameOneRow : OpenClaim := { program := "ythkfgjdbgnbjkaa", sum := "77a81d7835a4dcb96b251713d1225f6fed9d1ec8888ff0c99bbaef74c5b1e5bd", func := "consort/consortlaw05.FrameOne", spec := "frameOne", apart := false }
def FrameOneSaid : Prop := frameOneRow.holds Try.pinned (OpenSpec.ofChange frameOneSpec)

/-- ITS FALSE NEIGHBOUR: 'it returns false'. Refute it at one input. -/
def frameOneWrong : ChangeSpec := { name := "frameOne", fn := fun _ => fun
  | [d] => { results := [.lit (.bool false)], args := [d] }
  | _ => none }
def FrameOneWrongFalsely : Prop := frameOneRow.holds Try.pinned (OpenSpec.ofChange frameOneWrong)

/-- 'consortlaw05.FrameSize': WHATEVER THE INPUT: true; the input reads as it did. -/
def frameSizeSpec : ChangeSpec := { name := "frameSize", fn := fun _ => fun
  | [d] => { results := [.lit (.bool true)], args := [d] }
  | _ => none }
def frameSizeRow : OpenClaim := { program := "ythkfgjdbgnbjkaa", sum := "77a81d7835a4dcb96b251713d1225f6fed9d1ec8888ff0c99bbaef74c5b1e5bd", func := "consort/consortlaw05.FrameSize", spec := "frameSize", apart := false }
def FrameSizeSaid : Prop := frameSizeRow.holds Try.pinned (OpenSpec.ofChange frameSizeSpec)

/-- ITS FALSE NEIGHBOUR: 'it returns false'. Refute it at one input. -/
def frameSizeWrong : ChangeSpec := { name := "frameSize", fn := fun _ => fun
  | [d] => { results := [.lit (.bool false)], args := [d] }
  | _ => none }
def FrameSizeWrongFalsely : Prop := frameSizeRow.holds Try.pinned (OpenSpec.ofChange frameSizeWrong)

/-- 'consortlaw08.DiskPlays': WHATEVER THE INPUT: true; the input reads as it did. -/
def diskPlaysSpec : ChangeSpec := { name := "diskPlays", fn := fun _ => fun
  | [d] => { results := [.lit (.bool true)], args := [d] }
  | _ => none }
def diskPlaysRow : OpenClaim := { program := "ythkfgjdbgnbjkaa", sum := "77a81d7835a4dcb96b251713d1225f6fed9d1ec8888ff0c99bbaef74c5b1e5bd", func := "consort/consortlaw08.DiskPlays", spec := "diskPlays", apart := false }
def DiskPlaysSaid : Prop := diskPlaysRow.holds Try.pinned (OpenSpec.ofChange diskPlaysSpec)

/-- ITS FALSE NEIGHBOUR: 'it returns false'. Refute it at one input. -/
def diskPlaysWrong : ChangeSpec := { name := "diskPlays", fn := fun _ => fun
  | [d] => { results := [.lit (.bool false)], args := [d] }
  | _ => none }
def DiskPlaysWrongFalsely : Prop := diskPlaysRow.holds Try.pinned (OpenSpec.ofChange diskPlaysWrong)

/-- 'consortlaw08.DiskLast': WHATEVER THE INPUT: true; the input reads as it did. -/
def diskLastSpec : ChangeSpec := { name := "diskLast", fn := fun _ => fun
  | [d] => { results := [.lit (.bool true)], args := [d] }
  | _ => none }
def diskLastRow : OpenClaim := { program := "ythkfgjdbgnbjkaa", sum := "77a81d7835a4dcb96b251713d1225f6fed9d1ec8888ff0c99bbaef74c5b1e5bd", func := "consort/consortlaw08.DiskLast", spec := "diskLast", apart := false }
def DiskLastSaid : Prop := diskLastRow.holds Try.pinned (OpenSpec.ofChange diskLastSpec)

/-- ITS FALSE NEIGHBOUR: 'it returns false'. Refute it at one input. -/
def diskLastWrong : ChangeSpec := { name := "diskLast", fn := fun _ => fun
  | [d] => { results := [.lit (.bool false)], args := [d] }
  | _ => none }
def DiskLastWrongFalsely : Prop := diskLastRow.holds Try.pinned (OpenSpec.ofChange diskLastWrong)

/-- 'consortlaw08.DiskSlots': WHATEVER THE INPUT: true; the input reads as it did. -/
def diskSlotsSpec : ChangeSpec := { name := "diskSlots", fn := fun _ => fun
  | [d] => { results := [.lit (.bool true)], args := [d] }
  | _ => none }
def diskSlotsRow : OpenClaim := { program := "ythkfgjdbgnbjkaa", sum := "77a81d7835a4dcb96b251713d1225f6fed9d1ec8888ff0c99bbaef74c5b1e5bd", func := "consort/consortlaw08.DiskSlots", spec := "diskSlots", apart := false }
def DiskSlotsSaid : Prop := diskSlotsRow.holds Try.pinned (OpenSpec.ofChange diskSlotsSpec)

/-- ITS FALSE NEIGHBOUR: 'it returns false'. Refute it at one input. -/
def diskSlotsWrong : ChangeSpec := { name := "diskSlots", fn := fun _ => fun
  | [d] => { results := [.lit (.bool false)], args := [d] }
  | _ => none }
def DiskSlotsWrongFalsely : Prop := diskSlotsRow.holds Try.pinned (OpenSpec.ofChange diskSlotsWrong)

/-- 'consortlaw08.DiskCopies': WHATEVER THE INPUT: true; the input reads as it did. -/
def diskCopiesSpec : ChangeSpec := { name := "diskCopies", fn := fun _ => fun
  | [d1, d2] => { results := [.lit (.bool true)], args := [d1, d2] }
  | _ => none }
def diskCopiesRow : OpenClaim := { program := "ythkfgjdbgnbjkaa", sum := "77a81d7835a4dcb96b251713d1225f6fed9d1ec8888ff0c99bbaef74c5b1e5bd", func := "consort/consortlaw08.DiskCopies", spec := "diskCopies", apart := false }
def DiskCopiesSaid : Prop := diskCopiesRow.holds Try.pinned (OpenSpec.ofChange diskCopiesSpec)

/-- ITS FALSE NEIGHBOUR: 'it returns false'. Refute it at one input. -/
def diskCopiesWrong : ChangeSpec := { name := "diskCopies", fn := fun _ => fun
  | [d1, d2] => { results := [.lit (.bool false)], args := [d1, d2] }
  | _ => none }
def DiskCopiesWrongFalsely : Prop := diskCopiesRow.holds Try.pinned (OpenSpec.ofChange diskCopiesWrong)

/-- 'consortlaw06.PacketParses': WHATEVER THE INPUT: true; the input reads as it did. -/
def packetParsesSpec : ChangeSpec := { name := "packetParses", fn := fun _ => fun
  | [d1, d2, d3] => { results := [.lit (.bool true)], args := [d1, d2, d3] }
  | _ => none }
def packetParsesRow : OpenClaim := { program := "ythkfgjdbgnbjkaa", sum := "77a81d7835a4dcb96b251713d1225f6fed9d1ec8888ff0c99bbaef74c5b1e5bd", func := "consort/consortlaw06.PacketParses", spec := "packetParses", unfollowed := true, recurses := true, apart := false }
def PacketParsesSaid : Prop := packetParsesRow.holds Try.pinned (OpenSpec.ofChange packetParsesSpec)

/-- ITS FALSE NEIGHBOUR: 'it returns false'. Refute it at one input. -/
def packetParsesWrong : ChangeSpec := { name := "packetParses", fn := fun _ => fun
  | [d1, d2, d3] => { results := [.lit (.bool false)], args := [d1, d2, d3] }
  | _ => none }
def PacketParsesWrongFalsely : Prop := packetParsesRow.holds Try.pinned (OpenSpec.ofChange packetParsesWrong)

/-- 'consortlaw06.PacketBack': WHATEVER THE INPUT: true; the input reads as it did. -/
def packetBackSpec : ChangeSpec := { name := "packetBack", fn := fun _ => fun
  | [d] => { results := [.lit (.bool true)], args := [d] }
  | _ => none }
def packetBackRow : OpenClaim := { program := "ythkfgjdbgnbjkaa", sum := "77a81d7835a4dcb96b251713d1225f6fed9d1ec8888ff0c99bbaef74c5b1e5bd", func := "consort/consortlaw06.PacketBack", spec := "packetBack", unfollowed := true, recurses := true, apart := false }
def PacketBackSaid : Prop := packetBackRow.holds Try.pinned (OpenSpec.ofChange packetBackSpec)

/-- ITS FALSE NEIGHBOUR: 'it returns false'. Refute it at one input. -/
def packetBackWrong : ChangeSpec := { name := "packetBack", fn := fun _ => fun
  | [d] => { results := [.lit (.bool false)], args := [d] }
  | _ => none }
def PacketBackWrongFalsely : Prop := packetBackRow.holds Try.pinned (OpenSpec.ofChange packetBackWrong)

/-- 'consortlaw06.PacketOne': WHATEVER THE INPUT: true; the input reads as it did. -/
def packetOneSpec : ChangeSpec := { name := "packetOne", fn := fun _ => fun
  | [d1, d2, d3] => { results := [.lit (.bool true)], args := [d1, d2, d3] }
  | _ => none }
def packetOneRow : OpenClaim := { program := "ythkfgjdbgnbjkaa", sum := "77a81d7835a4dcb96b251713d1225f6fed9d1ec8888ff0c99bbaef74c5b1e5bd", func := "consort/consortlaw06.PacketOne", spec := "packetOne", unfollowed := true, recurses := true, apart := false }
def PacketOneSaid : Prop := packetOneRow.holds Try.pinned (OpenSpec.ofChange packetOneSpec)

/-- ITS FALSE NEIGHBOUR: 'it returns false'. Refute it at one input. -/
def packetOneWrong : ChangeSpec := { name := "packetOne", fn := fun _ => fun
  | [d1, d2, d3] => { results := [.lit (.bool false)], args := [d1, d2, d3] }
  | _ => none }
def PacketOneWrongFalsely : Prop := packetOneRow.holds Try.pinned (OpenSpec.ofChange packetOneWrong)

/-- 'consortlaw06.PacketApart': WHATEVER THE INPUT: true; the input reads as it did. -/
def packetApartSpec : ChangeSpec := { name := "packetApart", fn := fun _ => fun
  | [d] => { results := [.lit (.bool true)], args := [d] }
  | _ => none }
def packetApartRow : OpenClaim := { program := "ythkfgjdbgnbjkaa", sum := "77a81d7835a4dcb96b251713d1225f6fed9d1ec8888ff0c99bbaef74c5b1e5bd", func := "consort/consortlaw06.PacketApart", spec := "packetApart", unfollowed := true, recurses := true, apart := false }
def PacketApartSaid : Prop := packetApartRow.holds Try.pinned (OpenSpec.ofChange packetApartSpec)

/-- ITS FALSE NEIGHBOUR: 'it returns false'. Refute it at one input. -/
def packetApartWrong : ChangeSpec := { name := "packetApart", fn := fun _ => fun
  | [d] => { results := [.lit (.bool false)], args := [d] }
  | _ => none }
def PacketApartWrongFalsely : Prop := packetApartRow.holds Try.pinned (OpenSpec.ofChange packetApartWrong)

/- THE SECOND FORM. 'bulk': how many values and letters a reading holds, each counted each time it is reached (what is shared counts as often as it is met; a slice's spare places count too). A statement '..UptoSaid' is the law's where the arguments, and the package variables that the reading takes, are together of bulk at most 1048576: NARROWER than '..Said'. Prove '..Said' where nothing that the law and all that it calls make is longer than what came in: it says more and counts as full. Else prove '..UptoSaid'. A law counts once. -/
mutual
def uptoBulk {H : Type} : DataW H → Nat
  | .lit (.string bytes) => bytes.length + 1
  | .lit _ => 1
  | .nil => 1
  | .ptr d => uptoBulk d + 1
  | .slice elems spare => uptoBulkAll elems + uptoBulkAll spare + 1
  | .agg parts => uptoBulkAll parts + 1
  | .iface _ d => uptoBulk d + 1
  | .map entries => uptoBulkEntries entries + 1
  | .held _ => 1
def uptoBulkAll {H : Type} : List (DataW H) → Nat
  | [] => 0
  | d :: r => uptoBulk d + uptoBulkAll r
def uptoBulkEntries {H : Type} : List (Lit × DataW H) → Nat
  | [] => 0
  | x :: r => uptoBulkEntry x + uptoBulkEntries r
def uptoBulkEntry {H : Type} : Lit × DataW H → Nat
  | (.string bytes, d) => bytes.length + uptoBulk d + 1
  | (_, d) => uptoBulk d + 1
 end
def uptoSmall : (H : Type) → List (DataW H) → Bool := fun _ ds => decide (uptoBulkAll ds ≤ 1048576)
def OpenSpec.upto (s : _root_.Go.ChangeSpec) : _root_.Go.OpenSpec := { _root_.Go.OpenSpec.ofChange s with cond := some uptoSmall }

/-- 'consortlaw04.CrcSums', WHERE WHAT IT READS IS OF BULK AT MOST 1048576: true; the input reads as it did. -/
def crcSumsUptoRow : OpenClaim := { program := "ythkfgjdbgnbjkaa", sum := "77a81d7835a4dcb96b251713d1225f6fed9d1ec8888ff0c99bbaef74c5b1e5bd", func := "consort/consortlaw04.CrcSums", spec := "crcSums", apart := false, narrowed := true }
def CrcSumsUptoSaid : Prop := crcSumsUptoRow.holds Try.pinned (OpenSpec.upto crcSumsSpec)

/-- 'consortlaw04.CrcBack', WHERE WHAT IT READS IS OF BULK AT MOST 1048576: true; the input reads as it did. -/
def crcBackUptoRow : OpenClaim := { program := "ythkfgjdbgnbjkaa", sum := "77a81d7835a4dcb96b251713d1225f6fed9d1ec8888ff0c99bbaef74c5b1e5bd", func := "consort/consortlaw04.CrcBack", spec := "crcBack", apart := false, narrowed := true }
def CrcBackUptoSaid : Prop := crcBackUptoRow.holds Try.pinned (OpenSpec.upto crcBackSpec)

/-- 'consortlaw04.CrcBursts', WHERE WHAT IT READS IS OF BULK AT MOST 1048576: true; the input reads as it did. -/
def crcBurstsUptoRow : OpenClaim := { program := "ythkfgjdbgnbjkaa", sum := "77a81d7835a4dcb96b251713d1225f6fed9d1ec8888ff0c99bbaef74c5b1e5bd", func := "consort/consortlaw04.CrcBursts", spec := "crcBursts", apart := false, narrowed := true }
def CrcBurstsUptoSaid : Prop := crcBurstsUptoRow.holds Try.pinned (OpenSpec.upto crcBurstsSpec)

/-- 'consortlaw04.CrcParts', WHERE WHAT IT READS IS OF BULK AT MOST 1048576: true; the input reads as it did. -/
def crcPartsUptoRow : OpenClaim := { program := "ythkfgjdbgnbjkaa", sum := "77a81d7835a4dcb96b251713d1225f6fed9d1ec8888ff0c99bbaef74c5b1e5bd", func := "consort/consortlaw04.CrcParts", spec := "crcParts", apart := false, narrowed := true }
def CrcPartsUptoSaid : Prop := crcPartsUptoRow.holds Try.pinned (OpenSpec.upto crcPartsSpec)

/-- 'consortlaw04.CrcOnly', WHERE WHAT IT READS IS OF BULK AT MOST 1048576: true; the input reads as it did. -/
def crcOnlyUptoRow : OpenClaim := { program := "ythkfgjdbgnbjkaa", sum := "77a81d7835a4dcb96b251713d1225f6fed9d1ec8888ff0c99bbaef74c5b1e5bd", func := "consort/consortlaw04.CrcOnly", spec := "crcOnly", apart := false, narrowed := true }
def CrcOnlyUptoSaid : Prop := crcOnlyUptoRow.holds Try.pinned (OpenSpec.upto crcOnlySpec)

/-- 'consortlaw05.FramePrints', WHERE WHAT IT READS IS OF BULK AT MOST 1048576: true; the input reads as it did. -/
def framePrintsUptoRow : OpenClaim := { program := "ythkfgjdbgnbjkaa", sum := "77a81d7835a4dcb96b251713d1225f6fed9d1ec8888ff0c99bbaef74c5b1e5bd", func := "consort/consortlaw05.FramePrints", spec := "framePrints", apart := false, narrowed := true }
def FramePrintsUptoSaid : Prop := framePrintsUptoRow.holds Try.pinned (OpenSpec.upto framePrintsSpec)

/-- 'consortlaw05.FrameParses', WHERE WHAT IT READS IS OF BULK AT MOST 1048576: true; the input reads as it did. -/
def frameParsesUptoRow : OpenClaim := { program := "ythkfgjdbgnbjkaa", sum := "77a81d7835a4dcb96b251713d1225f6fed9d1ec8888ff0c99bbaef74c5b1e5bd", func := "consort/consortlaw05.FrameParses", spec := "frameParses", apart := false, narrowed := true }
def FrameParsesUptoSaid : Prop := frameParsesUptoRow.holds Try.pinned (OpenSpec.upto frameParsesSpec)

/-- 'consortlaw05.FrameBack', WHERE WHAT IT READS IS OF BULK AT MOST 1048576: true; the input reads as it did. -/
def frameBackUptoRow : OpenClaim := { program := "ythkfgjdbgnbjkaa", sum := "77a81d7835a4dcb96b251713d1225f6fed9d1ec8888ff0c99bbaef74c5b1e5bd", func := "consort/consortlaw05.FrameBack", spec := "frameBack", apart := false, narrowed := true }
def FrameBackUptoSaid : Prop := frameBackUptoRow.holds Try.pinned (OpenSpec.upto frameBackSpec)

/-- 'consortlaw05.FrameOne', WHERE WHAT IT READS IS OF BULK AT MOST 1048576: true; the input reads as it did. -/
def frameOneUptoRow : OpenClaim := { program := "ythkfgjdbgnbjkaa", sum := "77a81d7835a4dcb96b251713d1225f6fed9d1ec8888ff0c99bbaef74c5b1e5bd", func := "consort/consortlaw05.FrameOne", spec := "frameOne", apart := false, narrowed := true }
def FrameOneUptoSaid : Prop := frameOneUptoRow.holds Try.pinned (OpenSpec.upto frameOneSpec)

/-- 'consortlaw05.FrameSize', WHERE WHAT IT READS IS OF BULK AT MOST 1048576: true; the input reads as it did. -/
def frameSizeUptoRow : OpenClaim := { program := "ythkfgjdbgnbjkaa", sum := "77a81d7835a4dcb96b251713d1225f6fed9d1ec8888ff0c99bbaef74c5b1e5bd", func := "consort/consortlaw05.FrameSize", spec := "frameSize", apart := false, narrowed := true }
def FrameSizeUptoSaid : Prop := frameSizeUptoRow.holds Try.pinned (OpenSpec.upto frameSizeSpec)

/-- 'consortlaw08.DiskPlays', WHERE WHAT IT READS IS OF BULK AT MOST 1048576: true; the input reads as it did. -/
def diskPlaysUptoRow : OpenClaim := { program := "ythkfgjdbgnbjkaa", sum := "77a81d7835a4dcb96b251713d1225f6fed9d1ec8888ff0c99bbaef74c5b1e5bd", func := "consort/consortlaw08.DiskPlays", spec := "diskPlays", apart := false, narrowed := true }
def DiskPlaysUptoSaid : Prop := diskPlaysUptoRow.holds Try.pinned (OpenSpec.upto diskPlaysSpec)

/-- 'consortlaw08.DiskLast', WHERE WHAT IT READS IS OF BULK AT MOST 1048576: true; the input reads as it did. -/
def diskLastUptoRow : OpenClaim := { program := "ythkfgjdbgnbjkaa", sum := "77a81d7835a4dcb96b251713d1225f6fed9d1ec8888ff0c99bbaef74c5b1e5bd", func := "consort/consortlaw08.DiskLast", spec := "diskLast", apart := false, narrowed := true }
def DiskLastUptoSaid : Prop := diskLastUptoRow.holds Try.pinned (OpenSpec.upto diskLastSpec)

/-- 'consortlaw08.DiskSlots', WHERE WHAT IT READS IS OF BULK AT MOST 1048576: true; the input reads as it did. -/
def diskSlotsUptoRow : OpenClaim := { program := "ythkfgjdbgnbjkaa", sum := "77a81d7835a4dcb96b251713d1225f6fed9d1ec8888ff0c99bbaef74c5b1e5bd", func := "consort/consortlaw08.DiskSlots", spec := "diskSlots", apart := false, narrowed := true }
def DiskSlotsUptoSaid : Prop := diskSlotsUptoRow.holds Try.pinned (OpenSpec.upto diskSlotsSpec)

/-- 'consortlaw08.DiskCopies', WHERE WHAT IT READS IS OF BULK AT MOST 1048576: true; the input reads as it did. -/
def diskCopiesUptoRow : OpenClaim := { program := "ythkfgjdbgnbjkaa", sum := "77a81d7835a4dcb96b251713d1225f6fed9d1ec8888ff0c99bbaef74c5b1e5bd", func := "consort/consortlaw08.DiskCopies", spec := "diskCopies", apart := false, narrowed := true }
def DiskCopiesUptoSaid : Prop := diskCopiesUptoRow.holds Try.pinned (OpenSpec.upto diskCopiesSpec)

/-- 'consortlaw06.PacketParses', WHERE WHAT IT READS IS OF BULK AT MOST 1048576: true; the input reads as it did. -/
def packetParsesUptoRow : OpenClaim := { program := "ythkfgjdbgnbjkaa", sum := "77a81d7835a4dcb96b251713d1225f6fed9d1ec8888ff0c99bbaef74c5b1e5bd", func := "consort/consortlaw06.PacketParses", spec := "packetParses", unfollowed := true, recurses := true, apart := false, narrowed := true }
def PacketParsesUptoSaid : Prop := packetParsesUptoRow.holds Try.pinned (OpenSpec.upto packetParsesSpec)

/-- 'consortlaw06.PacketBack', WHERE WHAT IT READS IS OF BULK AT MOST 1048576: true; the input reads as it did. -/
def packetBackUptoRow : OpenClaim := { program := "ythkfgjdbgnbjkaa", sum := "77a81d7835a4dcb96b251713d1225f6fed9d1ec8888ff0c99bbaef74c5b1e5bd", func := "consort/consortlaw06.PacketBack", spec := "packetBack", unfollowed := true, recurses := true, apart := false, narrowed := true }
def PacketBackUptoSaid : Prop := packetBackUptoRow.holds Try.pinned (OpenSpec.upto packetBackSpec)

/-- 'consortlaw06.PacketOne', WHERE WHAT IT READS IS OF BULK AT MOST 1048576: true; the input reads as it did. -/
def packetOneUptoRow : OpenClaim := { program := "ythkfgjdbgnbjkaa", sum := "77a81d7835a4dcb96b251713d1225f6fed9d1ec8888ff0c99bbaef74c5b1e5bd", func := "consort/consortlaw06.PacketOne", spec := "packetOne", unfollowed := true, recurses := true, apart := false, narrowed := true }
def PacketOneUptoSaid : Prop := packetOneUptoRow.holds Try.pinned (OpenSpec.upto packetOneSpec)

/-- 'consortlaw06.PacketApart', WHERE WHAT IT READS IS OF BULK AT MOST 1048576: true; the input reads as it did. -/
def packetApartUptoRow : OpenClaim := { program := "ythkfgjdbgnbjkaa", sum := "77a81d7835a4dcb96b251713d1225f6fed9d1ec8888ff0c99bbaef74c5b1e5bd", func := "consort/consortlaw06.PacketApart", spec := "packetApart", unfollowed := true, recurses := true, apart := false, narrowed := true }
def PacketApartUptoSaid : Prop := packetApartUptoRow.holds Try.pinned (OpenSpec.upto packetApartSpec)

end Rows
end Go.Proofs.Ythkfgjdbgnbjkaa
