/-
  No cell of these rows narrows 'for every input' (looked for: loops, veiled, ifaces, maps, wideKeys, modest, calm, conditions, laid).
  DERIVED. THE GIVEN ROWS OF THIS SEAT. 14 by the template 'for every input the law returns true; each argument reads behind the call as it read before'; 0 by the template 'total and deterministic' (their statements: YtlfhjlkhhaoicaaTotals.lean).
  GIVEN WITH THE SEED: the statements are not yours to turn. If you find one false, say at which input.
  Laid BY PROGRAM, IN A SANDBOX (cutbox-rows.mjs): the forced cells as the released guide's own fill.sh prints them over the translation aedf5ec4df72b4a4… (all of the seat's roots in one cut). By AI agents, Wed Nov 11 2026. No macro, syntax, notation, axiom, sorry.
-/
import Derived.Test.YtlfhjlkhhaoicaaChecked
import GoSem.Claim
import GoSem.ClaimJoined
import GoSem.ClaimMapViews
import Derived.JoinedTies
import Derived.KernelRfl
namespace Go.Proofs.Ytlfhjlkhhaoicaa
/- THE CELL 'sum', in the pinned program and in every row, IS THE sha256 OF THE DUMP (.gsa) THAT YtlfhjlkhhaoicaaProg.lean LOADS. Nothing in Lean hashes anything: it is a label: what it is worth is what the hold of that sum in a sandbox is worth. -/
noncomputable def Try.pinned : Pinned := { name := "ytlfhjlkhhaoicaa", sum := "aedf5ec4df72b4a44a9c2b53515b9310b6117cd86f3fa91b3bd020e8f664d30d", checked := Try.checked }
namespace Rows
def none {H : Type} : Left H := { results := [], args := [] }

/-- 'kithlaw12.ReadyClosed': WHATEVER THE INPUT: true; the input reads as it did. -/
def readyClosedSpec : ChangeSpec := { name := "readyClosed", fn := fun _ => fun
  | [d1, d2] => { results := [.lit (.bool true)], args := [d1, d2] }
  | _ => none }
def readyClosedRow : OpenClaim := { program := "ytlfhjlkhhaoicaa", sum := "aedf5ec4df72b4a44a9c2b53515b9310b6117cd86f3fa91b3bd020e8f664d30d", func := "kith/kithlaw12.ReadyClosed", spec := "readyClosed", plainKeys := false, apart := false }
def ReadyClosedSaid : Prop := readyClosedRow.holds Try.pinned (OpenSpec.ofChange readyClosedSpec)

/-- ITS FALSE NEIGHBOUR: 'it returns false'. Refute it at one input. -/
def readyClosedWrong : ChangeSpec := { name := "readyClosed", fn := fun _ => fun
  | [d1, d2] => { results := [.lit (.bool false)], args := [d1, d2] }
  | _ => none }
def ReadyClosedWrongFalsely : Prop := readyClosedRow.holds Try.pinned (OpenSpec.ofChange readyClosedWrong)

/-- 'kithlaw12.ReadyOne': WHATEVER THE INPUT: true; the input reads as it did. -/
def readyOneSpec : ChangeSpec := { name := "readyOne", fn := fun _ => fun
  | [d1, d2, d3] => { results := [.lit (.bool true)], args := [d1, d2, d3] }
  | _ => none }
def readyOneRow : OpenClaim := { program := "ytlfhjlkhhaoicaa", sum := "aedf5ec4df72b4a44a9c2b53515b9310b6117cd86f3fa91b3bd020e8f664d30d", func := "kith/kithlaw12.ReadyOne", spec := "readyOne", unfollowed := true, recurses := true, plainKeys := false, apart := false }
def ReadyOneSaid : Prop := readyOneRow.holds Try.pinned (OpenSpec.ofChange readyOneSpec)

/-- ITS FALSE NEIGHBOUR: 'it returns false'. Refute it at one input. -/
def readyOneWrong : ChangeSpec := { name := "readyOne", fn := fun _ => fun
  | [d1, d2, d3] => { results := [.lit (.bool false)], args := [d1, d2, d3] }
  | _ => none }
def ReadyOneWrongFalsely : Prop := readyOneRow.holds Try.pinned (OpenSpec.ofChange readyOneWrong)

/-- 'kithlaw13.InboxFull': WHATEVER THE INPUT: true; the input reads as it did. -/
def inboxFullSpec : ChangeSpec := { name := "inboxFull", fn := fun _ => fun
  | [d] => { results := [.lit (.bool true)], args := [d] }
  | _ => none }
def inboxFullRow : OpenClaim := { program := "ytlfhjlkhhaoicaa", sum := "aedf5ec4df72b4a44a9c2b53515b9310b6117cd86f3fa91b3bd020e8f664d30d", func := "kith/kithlaw13.InboxFull", spec := "inboxFull", unfollowed := true, recurses := true, plainKeys := false, apart := false }
def InboxFullSaid : Prop := inboxFullRow.holds Try.pinned (OpenSpec.ofChange inboxFullSpec)

/-- ITS FALSE NEIGHBOUR: 'it returns false'. Refute it at one input. -/
def inboxFullWrong : ChangeSpec := { name := "inboxFull", fn := fun _ => fun
  | [d] => { results := [.lit (.bool false)], args := [d] }
  | _ => none }
def InboxFullWrongFalsely : Prop := inboxFullRow.holds Try.pinned (OpenSpec.ofChange inboxFullWrong)

/-- 'kithlaw13.InboxLoses': WHATEVER THE INPUT: true; the input reads as it did. -/
def inboxLosesSpec : ChangeSpec := { name := "inboxLoses", fn := fun _ => fun
  | [d1, d2] => { results := [.lit (.bool true)], args := [d1, d2] }
  | _ => none }
def inboxLosesRow : OpenClaim := { program := "ytlfhjlkhhaoicaa", sum := "aedf5ec4df72b4a44a9c2b53515b9310b6117cd86f3fa91b3bd020e8f664d30d", func := "kith/kithlaw13.InboxLoses", spec := "inboxLoses", unfollowed := true, recurses := true, plainKeys := false, apart := false }
def InboxLosesSaid : Prop := inboxLosesRow.holds Try.pinned (OpenSpec.ofChange inboxLosesSpec)

/-- ITS FALSE NEIGHBOUR: 'it returns false'. Refute it at one input. -/
def inboxLosesWrong : ChangeSpec := { name := "inboxLoses", fn := fun _ => fun
  | [d1, d2] => { results := [.lit (.bool false)], args := [d1, d2] }
  | _ => none }
def InboxLosesWrongFalsely : Prop := inboxLosesRow.holds Try.pinned (OpenSpec.ofChange inboxLosesWrong)

/-- 'kithlaw08.PastSpoilt': WHATEVER THE INPUT: true; the input reads as it did. -/
def pastSpoiltSpec : ChangeSpec := { name := "pastSpoilt", fn := fun _ => fun
  | [d1, d2, d3] => { results := [.lit (.bool true)], args := [d1, d2, d3] }
  | _ => none }
def pastSpoiltRow : OpenClaim := { program := "ytlfhjlkhhaoicaa", sum := "aedf5ec4df72b4a44a9c2b53515b9310b6117cd86f3fa91b3bd020e8f664d30d", func := "kith/kithlaw08.PastSpoilt", spec := "pastSpoilt", unfollowed := true, recurses := true, plainKeys := false, apart := false }
def PastSpoiltSaid : Prop := pastSpoiltRow.holds Try.pinned (OpenSpec.ofChange pastSpoiltSpec)

/-- ITS FALSE NEIGHBOUR: 'it returns false'. Refute it at one input. -/
def pastSpoiltWrong : ChangeSpec := { name := "pastSpoilt", fn := fun _ => fun
  | [d1, d2, d3] => { results := [.lit (.bool false)], args := [d1, d2, d3] }
  | _ => none }
def PastSpoiltWrongFalsely : Prop := pastSpoiltRow.holds Try.pinned (OpenSpec.ofChange pastSpoiltWrong)

/-- 'kithlaw08.PastPrefix': WHATEVER THE INPUT: true; the input reads as it did. -/
def pastPrefixSpec : ChangeSpec := { name := "pastPrefix", fn := fun _ => fun
  | [d1, d2] => { results := [.lit (.bool true)], args := [d1, d2] }
  | _ => none }
def pastPrefixRow : OpenClaim := { program := "ytlfhjlkhhaoicaa", sum := "aedf5ec4df72b4a44a9c2b53515b9310b6117cd86f3fa91b3bd020e8f664d30d", func := "kith/kithlaw08.PastPrefix", spec := "pastPrefix", unfollowed := true, recurses := true, plainKeys := false, apart := false }
def PastPrefixSaid : Prop := pastPrefixRow.holds Try.pinned (OpenSpec.ofChange pastPrefixSpec)

/-- ITS FALSE NEIGHBOUR: 'it returns false'. Refute it at one input. -/
def pastPrefixWrong : ChangeSpec := { name := "pastPrefix", fn := fun _ => fun
  | [d1, d2] => { results := [.lit (.bool false)], args := [d1, d2] }
  | _ => none }
def PastPrefixWrongFalsely : Prop := pastPrefixRow.holds Try.pinned (OpenSpec.ofChange pastPrefixWrong)

/-- 'kithlaw08.PastMore': WHATEVER THE INPUT: true; the input reads as it did. -/
def pastMoreSpec : ChangeSpec := { name := "pastMore", fn := fun _ => fun
  | [d1, d2] => { results := [.lit (.bool true)], args := [d1, d2] }
  | _ => none }
def pastMoreRow : OpenClaim := { program := "ytlfhjlkhhaoicaa", sum := "aedf5ec4df72b4a44a9c2b53515b9310b6117cd86f3fa91b3bd020e8f664d30d", func := "kith/kithlaw08.PastMore", spec := "pastMore", unfollowed := true, recurses := true, plainKeys := false, apart := false }
def PastMoreSaid : Prop := pastMoreRow.holds Try.pinned (OpenSpec.ofChange pastMoreSpec)

/-- ITS FALSE NEIGHBOUR: 'it returns false'. Refute it at one input. -/
def pastMoreWrong : ChangeSpec := { name := "pastMore", fn := fun _ => fun
  | [d1, d2] => { results := [.lit (.bool false)], args := [d1, d2] }
  | _ => none }
def PastMoreWrongFalsely : Prop := pastMoreRow.holds Try.pinned (OpenSpec.ofChange pastMoreWrong)

/-- 'kithlaw08.PastOrder': WHATEVER THE INPUT: true; the input reads as it did. -/
def pastOrderSpec : ChangeSpec := { name := "pastOrder", fn := fun _ => fun
  | [d] => { results := [.lit (.bool true)], args := [d] }
  | _ => none }
def pastOrderRow : OpenClaim := { program := "ytlfhjlkhhaoicaa", sum := "aedf5ec4df72b4a44a9c2b53515b9310b6117cd86f3fa91b3bd020e8f664d30d", func := "kith/kithlaw08.PastOrder", spec := "pastOrder", unfollowed := true, recurses := true, plainKeys := false, apart := false }
def PastOrderSaid : Prop := pastOrderRow.holds Try.pinned (OpenSpec.ofChange pastOrderSpec)

/-- ITS FALSE NEIGHBOUR: 'it returns false'. Refute it at one input. -/
def pastOrderWrong : ChangeSpec := { name := "pastOrder", fn := fun _ => fun
  | [d] => { results := [.lit (.bool false)], args := [d] }
  | _ => none }
def PastOrderWrongFalsely : Prop := pastOrderRow.holds Try.pinned (OpenSpec.ofChange pastOrderWrong)

/-- 'kithlaw12.ReadyPieces': WHATEVER THE INPUT: true; the input reads as it did. -/
def readyPiecesSpec : ChangeSpec := { name := "readyPieces", fn := fun _ => fun
  | [d1, d2, d3] => { results := [.lit (.bool true)], args := [d1, d2, d3] }
  | _ => none }
def readyPiecesRow : OpenClaim := { program := "ytlfhjlkhhaoicaa", sum := "aedf5ec4df72b4a44a9c2b53515b9310b6117cd86f3fa91b3bd020e8f664d30d", func := "kith/kithlaw12.ReadyPieces", spec := "readyPieces", unfollowed := true, recurses := true, plainKeys := false, apart := false }
def ReadyPiecesSaid : Prop := readyPiecesRow.holds Try.pinned (OpenSpec.ofChange readyPiecesSpec)

/-- ITS FALSE NEIGHBOUR: 'it returns false'. Refute it at one input. -/
def readyPiecesWrong : ChangeSpec := { name := "readyPieces", fn := fun _ => fun
  | [d1, d2, d3] => { results := [.lit (.bool false)], args := [d1, d2, d3] }
  | _ => none }
def ReadyPiecesWrongFalsely : Prop := readyPiecesRow.holds Try.pinned (OpenSpec.ofChange readyPiecesWrong)

/-- 'kithlaw13.InboxOwn': WHATEVER THE INPUT: true; the input reads as it did. -/
def inboxOwnSpec : ChangeSpec := { name := "inboxOwn", fn := fun _ => fun
  | [d] => { results := [.lit (.bool true)], args := [d] }
  | _ => none }
def inboxOwnRow : OpenClaim := { program := "ytlfhjlkhhaoicaa", sum := "aedf5ec4df72b4a44a9c2b53515b9310b6117cd86f3fa91b3bd020e8f664d30d", func := "kith/kithlaw13.InboxOwn", spec := "inboxOwn", unfollowed := true, recurses := true, plainKeys := false, apart := false }
def InboxOwnSaid : Prop := inboxOwnRow.holds Try.pinned (OpenSpec.ofChange inboxOwnSpec)

/-- ITS FALSE NEIGHBOUR: 'it returns false'. Refute it at one input. -/
def inboxOwnWrong : ChangeSpec := { name := "inboxOwn", fn := fun _ => fun
  | [d] => { results := [.lit (.bool false)], args := [d] }
  | _ => none }
def InboxOwnWrongFalsely : Prop := inboxOwnRow.holds Try.pinned (OpenSpec.ofChange inboxOwnWrong)

/-- 'kithlaw12.ReadyGrows': WHATEVER THE INPUT: true; the input reads as it did. -/
def readyGrowsSpec : ChangeSpec := { name := "readyGrows", fn := fun _ => fun
  | [d1, d2, d3] => { results := [.lit (.bool true)], args := [d1, d2, d3] }
  | _ => none }
def readyGrowsRow : OpenClaim := { program := "ytlfhjlkhhaoicaa", sum := "aedf5ec4df72b4a44a9c2b53515b9310b6117cd86f3fa91b3bd020e8f664d30d", func := "kith/kithlaw12.ReadyGrows", spec := "readyGrows", unfollowed := true, recurses := true, plainKeys := false, apart := false }
def ReadyGrowsSaid : Prop := readyGrowsRow.holds Try.pinned (OpenSpec.ofChange readyGrowsSpec)

/-- ITS FALSE NEIGHBOUR: 'it returns false'. Refute it at one input. -/
def readyGrowsWrong : ChangeSpec := { name := "readyGrows", fn := fun _ => fun
  | [d1, d2, d3] => { results := [.lit (.bool false)], args := [d1, d2, d3] }
  | _ => none }
def ReadyGrowsWrongFalsely : Prop := readyGrowsRow.holds Try.pinned (OpenSpec.ofChange readyGrowsWrong)

/-- 'kithlaw13.InboxPieces': WHATEVER THE INPUT: true; the input reads as it did. -/
def inboxPiecesSpec : ChangeSpec := { name := "inboxPieces", fn := fun _ => fun
  | [d1, d2, d3] => { results := [.lit (.bool true)], args := [d1, d2, d3] }
  | _ => none }
def inboxPiecesRow : OpenClaim := { program := "ytlfhjlkhhaoicaa", sum := "aedf5ec4df72b4a44a9c2b53515b9310b6117cd86f3fa91b3bd020e8f664d30d", func := "kith/kithlaw13.InboxPieces", spec := "inboxPieces", unfollowed := true, recurses := true, plainKeys := false, apart := false }
def InboxPiecesSaid : Prop := inboxPiecesRow.holds Try.pinned (OpenSpec.ofChange inboxPiecesSpec)

/-- ITS FALSE NEIGHBOUR: 'it returns false'. Refute it at one input. -/
def inboxPiecesWrong : ChangeSpec := { name := "inboxPieces", fn := fun _ => fun
  | [d1, d2, d3] => { results := [.lit (.bool false)], args := [d1, d2, d3] }
  | _ => none }
def InboxPiecesWrongFalsely : Prop := inboxPiecesRow.holds Try.pinned (OpenSpec.ofChange inboxPiecesWrong)

/-- 'kithlaw08.PastSorts': WHATEVER THE INPUT: true; the input reads as it did. -/
def pastSortsSpec : ChangeSpec := { name := "pastSorts", fn := fun _ => fun
  | [d] => { results := [.lit (.bool true)], args := [d] }
  | _ => none }
def pastSortsRow : OpenClaim := { program := "ytlfhjlkhhaoicaa", sum := "aedf5ec4df72b4a44a9c2b53515b9310b6117cd86f3fa91b3bd020e8f664d30d", func := "kith/kithlaw08.PastSorts", spec := "pastSorts", unfollowed := true, recurses := true, plainKeys := false, apart := false }
def PastSortsSaid : Prop := pastSortsRow.holds Try.pinned (OpenSpec.ofChange pastSortsSpec)

/-- ITS FALSE NEIGHBOUR: 'it returns false'. Refute it at one input. -/
def pastSortsWrong : ChangeSpec := { name := "pastSorts", fn := fun _ => fun
  | [d] => { results := [.lit (.bool false)], args := [d] }
  | _ => none }
def PastSortsWrongFalsely : Prop := pastSortsRow.holds Try.pinned (OpenSpec.ofChange pastSortsWrong)

/-- 'kithlaw08.PastMade': WHATEVER THE INPUT: true; the input reads as it did. -/
def pastMadeSpec : ChangeSpec := { name := "pastMade", fn := fun _ => fun
  | [d1, d2] => { results := [.lit (.bool true)], args := [d1, d2] }
  | _ => none }
def pastMadeRow : OpenClaim := { program := "ytlfhjlkhhaoicaa", sum := "aedf5ec4df72b4a44a9c2b53515b9310b6117cd86f3fa91b3bd020e8f664d30d", func := "kith/kithlaw08.PastMade", spec := "pastMade", unfollowed := true, recurses := true, plainKeys := false, apart := false }
def PastMadeSaid : Prop := pastMadeRow.holds Try.pinned (OpenSpec.ofChange pastMadeSpec)

/-- ITS FALSE NEIGHBOUR: 'it returns false'. Refute it at one input. -/
def pastMadeWrong : ChangeSpec := { name := "pastMade", fn := fun _ => fun
  | [d1, d2] => { results := [.lit (.bool false)], args := [d1, d2] }
  | _ => none }
def PastMadeWrongFalsely : Prop := pastMadeRow.holds Try.pinned (OpenSpec.ofChange pastMadeWrong)

/- THE SECOND FORM. 'bulk': how many values and letters a reading holds, each counted each time it is reached (what is shared counts as often as it is met; a slice's spare places count too). A statement '..UptoSaid' is the law's where the arguments, and the package variables that the reading takes, are together of bulk at most 1048576: NARROWER than '..Said'. Prove '..Said' where nothing that the law and all that it calls make is longer than what came in: it says more and counts as full. Else prove '..UptoSaid'. A law counts once. -/
mutual
def uptoBulk {H : Type} : DataW H → Nat
  | .lit (.string bytes) => bytes.length + 1
  | .lit _ => 1
  | .nil => 1
  | .ptr d => uptoBulk d + 1
  | .slice elems spare => uptoBulkAll elems + uptoBulkAll spare + 1
  | .agg parts => uptoBulkAll parts + 1
  | .iface _ d => uptoBulk d + 1
  | .map entries => uptoBulkEntries entries + 1
  | .held _ => 1
def uptoBulkAll {H : Type} : List (DataW H) → Nat
  | [] => 0
  | d :: r => uptoBulk d + uptoBulkAll r
def uptoBulkEntries {H : Type} : List (Lit × DataW H) → Nat
  | [] => 0
  | x :: r => uptoBulkEntry x + uptoBulkEntries r
def uptoBulkEntry {H : Type} : Lit × DataW H → Nat
  | (.string bytes, d) => bytes.length + uptoBulk d + 1
  | (_, d) => uptoBulk d + 1
 end
def uptoSmall : (H : Type) → List (DataW H) → Bool := fun _ ds => decide (uptoBulkAll ds ≤ 1048576)
def OpenSpec.upto (s : _root_.Go.ChangeSpec) : _root_.Go.OpenSpec := { _root_.Go.OpenSpec.ofChange s with cond := some uptoSmall }

/-- 'kithlaw12.ReadyClosed', WHERE WHAT IT READS IS OF BULK AT MOST 1048576: true; the input reads as it did. -/
def readyClosedUptoRow : OpenClaim := { program := "ytlfhjlkhhaoicaa", sum := "aedf5ec4df72b4a44a9c2b53515b9310b6117cd86f3fa91b3bd020e8f664d30d", func := "kith/kithlaw12.ReadyClosed", spec := "readyClosed", plainKeys := false, apart := false, narrowed := true }
def ReadyClosedUptoSaid : Prop := readyClosedUptoRow.holds Try.pinned (OpenSpec.upto readyClosedSpec)

/-- 'kithlaw12.ReadyOne', WHERE WHAT IT READS IS OF BULK AT MOST 1048576: true; the input reads as it did. -/
def readyOneUptoRow : OpenClaim := { program := "ytlfhjlkhhaoicaa", sum := "aedf5ec4df72b4a44a9c2b53515b9310b6117cd86f3fa91b3bd020e8f664d30d", func := "kith/kithlaw12.ReadyOne", spec := "readyOne", unfollowed := true, recurses := true, plainKeys := false, apart := false, narrowed := true }
def ReadyOneUptoSaid : Prop := readyOneUptoRow.holds Try.pinned (OpenSpec.upto readyOneSpec)

/-- 'kithlaw13.InboxFull', WHERE WHAT IT READS IS OF BULK AT MOST 1048576: true; the input reads as it did. -/
def inboxFullUptoRow : OpenClaim := { program := "ytlfhjlkhhaoicaa", sum := "aedf5ec4df72b4a44a9c2b53515b9310b6117cd86f3fa91b3bd020e8f664d30d", func := "kith/kithlaw13.InboxFull", spec := "inboxFull", unfollowed := true, recurses := true, plainKeys := false, apart := false, narrowed := true }
def InboxFullUptoSaid : Prop := inboxFullUptoRow.holds Try.pinned (OpenSpec.upto inboxFullSpec)

/-- 'kithlaw13.InboxLoses', WHERE WHAT IT READS IS OF BULK AT MOST 1048576: true; the input reads as it did. -/
def inboxLosesUptoRow : OpenClaim := { program := "ytlfhjlkhhaoicaa", sum := "aedf5ec4df72b4a44a9c2b53515b9310b6117cd86f3fa91b3bd020e8f664d30d", func := "kith/kithlaw13.InboxLoses", spec := "inboxLoses", unfollowed := true, recurses := true, plainKeys := false, apart := false, narrowed := true }
def InboxLosesUptoSaid : Prop := inboxLosesUptoRow.holds Try.pinned (OpenSpec.upto inboxLosesSpec)

/-- 'kithlaw08.PastSpoilt', WHERE WHAT IT READS IS OF BULK AT MOST 1048576: true; the input reads as it did. -/
def pastSpoiltUptoRow : OpenClaim := { program := "ytlfhjlkhhaoicaa", sum := "aedf5ec4df72b4a44a9c2b53515b9310b6117cd86f3fa91b3bd020e8f664d30d", func := "kith/kithlaw08.PastSpoilt", spec := "pastSpoilt", unfollowed := true, recurses := true, plainKeys := false, apart := false, narrowed := true }
def PastSpoiltUptoSaid : Prop := pastSpoiltUptoRow.holds Try.pinned (OpenSpec.upto pastSpoiltSpec)

/-- 'kithlaw08.PastPrefix', WHERE WHAT IT READS IS OF BULK AT MOST 1048576: true; the input reads as it did. -/
def pastPrefixUptoRow : OpenClaim := { program := "ytlfhjlkhhaoicaa", sum := "aedf5ec4df72b4a44a9c2b53515b9310b6117cd86f3fa91b3bd020e8f664d30d", func := "kith/kithlaw08.PastPrefix", spec := "pastPrefix", unfollowed := true, recurses := true, plainKeys := false, apart := false, narrowed := true }
def PastPrefixUptoSaid : Prop := pastPrefixUptoRow.holds Try.pinned (OpenSpec.upto pastPrefixSpec)

/-- 'kithlaw08.PastMore', WHERE WHAT IT READS IS OF BULK AT MOST 1048576: true; the input reads as it did. -/
def pastMoreUptoRow : OpenClaim := { program := "ytlfhjlkhhaoicaa", sum := "aedf5ec4df72b4a44a9c2b53515b9310b6117cd86f3fa91b3bd020e8f664d30d", func := "kith/kithlaw08.PastMore", spec := "pastMore", unfollowed := true, recurses := true, plainKeys := false, apart := false, narrowed := true }
def PastMoreUptoSaid : Prop := pastMoreUptoRow.holds Try.pinned (OpenSpec.upto pastMoreSpec)

/-- 'kithlaw08.PastOrder', WHERE WHAT IT READS IS OF BULK AT MOST 1048576: true; the input reads as it did. -/
def pastOrderUptoRow : OpenClaim := { program := "ytlfhjlkhhaoicaa", sum := "aedf5ec4df72b4a44a9c2b53515b9310b6117cd86f3fa91b3bd020e8f664d30d", func := "kith/kithlaw08.PastOrder", spec := "pastOrder", unfollowed := true, recurses := true, plainKeys := false, apart := false, narrowed := true }
def PastOrderUptoSaid : Prop := pastOrderUptoRow.holds Try.pinned (OpenSpec.upto pastOrderSpec)

/-- 'kithlaw12.ReadyPieces', WHERE WHAT IT READS IS OF BULK AT MOST 1048576: true; the input reads as it did. -/
def readyPiecesUptoRow : OpenClaim := { program := "ytlfhjlkhhaoicaa", sum := "aedf5ec4df72b4a44a9c2b53515b9310b6117cd86f3fa91b3bd020e8f664d30d", func := "kith/kithlaw12.ReadyPieces", spec := "readyPieces", unfollowed := true, recurses := true, plainKeys := false, apart := false, narrowed := true }
def ReadyPiecesUptoSaid : Prop := readyPiecesUptoRow.holds Try.pinned (OpenSpec.upto readyPiecesSpec)

/-- 'kithlaw13.InboxOwn', WHERE WHAT IT READS IS OF BULK AT MOST 1048576: true; the input reads as it did. -/
def inboxOwnUptoRow : OpenClaim := { program := "ytlfhjlkhhaoicaa", sum := "aedf5ec4df72b4a44a9c2b53515b9310b6117cd86f3fa91b3bd020e8f664d30d", func := "kith/kithlaw13.InboxOwn", spec := "inboxOwn", unfollowed := true, recurses := true, plainKeys := false, apart := false, narrowed := true }
def InboxOwnUptoSaid : Prop := inboxOwnUptoRow.holds Try.pinned (OpenSpec.upto inboxOwnSpec)

/-- 'kithlaw12.ReadyGrows', WHERE WHAT IT READS IS OF BULK AT MOST 1048576: true; the input reads as it did. -/
def readyGrowsUptoRow : OpenClaim := { program := "ytlfhjlkhhaoicaa", sum := "aedf5ec4df72b4a44a9c2b53515b9310b6117cd86f3fa91b3bd020e8f664d30d", func := "kith/kithlaw12.ReadyGrows", spec := "readyGrows", unfollowed := true, recurses := true, plainKeys := false, apart := false, narrowed := true }
def ReadyGrowsUptoSaid : Prop := readyGrowsUptoRow.holds Try.pinned (OpenSpec.upto readyGrowsSpec)

/-- 'kithlaw13.InboxPieces', WHERE WHAT IT READS IS OF BULK AT MOST 1048576: true; the input reads as it did. -/
def inboxPiecesUptoRow : OpenClaim := { program := "ytlfhjlkhhaoicaa", sum := "aedf5ec4df72b4a44a9c2b53515b9310b6117cd86f3fa91b3bd020e8f664d30d", func := "kith/kithlaw13.InboxPieces", spec := "inboxPieces", unfollowed := true, recurses := true, plainKeys := false, apart := false, narrowed := true }
def InboxPiecesUptoSaid : Prop := inboxPiecesUptoRow.holds Try.pinned (OpenSpec.upto inboxPiecesSpec)

/-- 'kithlaw08.PastSorts', WHERE WHAT IT READS IS OF BULK AT MOST 1048576: true; the input reads as it did. -/
def pastSortsUptoRow : OpenClaim := { program := "ytlfhjlkhhaoicaa", sum := "aedf5ec4df72b4a44a9c2b53515b9310b6117cd86f3fa91b3bd020e8f664d30d", func := "kith/kithlaw08.PastSorts", spec := "pastSorts", unfollowed := true, recurses := true, plainKeys := false, apart := false, narrowed := true }
def PastSortsUptoSaid : Prop := pastSortsUptoRow.holds Try.pinned (OpenSpec.upto pastSortsSpec)

/-- 'kithlaw08.PastMade', WHERE WHAT IT READS IS OF BULK AT MOST 1048576: true; the input reads as it did. -/
def pastMadeUptoRow : OpenClaim := { program := "ytlfhjlkhhaoicaa", sum := "aedf5ec4df72b4a44a9c2b53515b9310b6117cd86f3fa91b3bd020e8f664d30d", func := "kith/kithlaw08.PastMade", spec := "pastMade", unfollowed := true, recurses := true, plainKeys := false, apart := false, narrowed := true }
def PastMadeUptoSaid : Prop := pastMadeUptoRow.holds Try.pinned (OpenSpec.upto pastMadeSpec)

end Rows
end Go.Proofs.Ytlfhjlkhhaoicaa
