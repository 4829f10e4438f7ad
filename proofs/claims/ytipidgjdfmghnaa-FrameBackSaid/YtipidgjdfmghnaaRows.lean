/-
  No cell of these rows narrows 'for every input' (looked for: loops, veiled, ifaces, maps, wideKeys, modest, calm, conditions, laid).
  DERIVED. THE GIVEN ROWS OF THIS SEAT. 6 by the template 'for every input the law returns true; each argument reads behind the call as it read before'; 0 by the template 'total and deterministic' (their statements: YtipidgjdfmghnaaTotals.lean).
  GIVEN WITH THE SEED: the statements are not yours to turn. If you find one false, say at which input.
  Laid BY PROGRAM, IN A SANDBOX (cutbox-rows.mjs): the forced cells as the released guide's own fill.sh prints them over the translation 5320c28902eca71a… (all of the seat's roots in one cut). By AI agents, Wed Nov 11 2026. No macro, syntax, notation, axiom, sorry.
-/
import Derived.Test.YtipidgjdfmghnaaChecked
import GoSem.Claim
import GoSem.ClaimJoined
import GoSem.ClaimMapViews
import Derived.JoinedTies
import Derived.KernelRfl
namespace Go.Proofs.Ytipidgjdfmghnaa
/- THE CELL 'sum', in the pinned program and in every row, IS THE sha256 OF THE DUMP (.gsa) THAT YtipidgjdfmghnaaProg.lean LOADS. Nothing in Lean hashes anything: it is a label: what it is worth is what the hold of that sum in a sandbox is worth. -/
noncomputable def Try.pinned : Pinned := { name := "ytipidgjdfmghnaa", sum := "5320c28902eca71a2154e49f1e98cd6f4de9a29bbbe95329c4ca81dcbe8d600d", checked := Try.checked }
namespace Rows
def none {H : Type} : Left H := { results := [], args := [] }

/-- 'yettlaw08.FrameTells': WHATEVER THE INPUT: true; the input reads as it did. -/
def frameTellsSpec : ChangeSpec := { name := "frameTells", fn := fun _ => fun
  | [d1, d2, d3] => { results := [.lit (.bool true)], args := [d1, d2, d3] }
  | _ => none }
def frameTellsRow : OpenClaim := { program := "ytipidgjdfmghnaa", sum := "5320c28902eca71a2154e49f1e98cd6f4de9a29bbbe95329c4ca81dcbe8d600d", func := "yett/yettlaw08.FrameTells", spec := "frameTells", apart := false }
def FrameTellsSaid : Prop := frameTellsRow.holds Try.pinned (OpenSpec.ofChange frameTellsSpec)

/-- ITS FALSE NEIGHBOUR: 'it returns false'. Refute it at one input. -/
def frameTellsWrong : ChangeSpec := { name := "frameTells", fn := fun _ => fun
  | [d1, d2, d3] => { results := [.lit (.bool false)], args := [d1, d2, d3] }
  | _ => none }
def FrameTellsWrongFalsely : Prop := frameTellsRow.holds Try.pinned (OpenSpec.ofChange frameTellsWrong)

/-- 'yettlaw08.FramePushes': WHATEVER THE INPUT: true; the input reads as it did. -/
def framePushesSpec : ChangeSpec := { name := "framePushes", fn := fun _ => fun
  | [d1, d2] => { results := [.lit (.bool true)], args := [d1, d2] }
  | _ => none }
def framePushesRow : OpenClaim := { program := "ytipidgjdfmghnaa", sum := "5320c28902eca71a2154e49f1e98cd6f4de9a29bbbe95329c4ca81dcbe8d600d", func := "yett/yettlaw08.FramePushes", spec := "framePushes", apart := false }
def FramePushesSaid : Prop := framePushesRow.holds Try.pinned (OpenSpec.ofChange framePushesSpec)

/-- ITS FALSE NEIGHBOUR: 'it returns false'. Refute it at one input. -/
def framePushesWrong : ChangeSpec := { name := "framePushes", fn := fun _ => fun
  | [d1, d2] => { results := [.lit (.bool false)], args := [d1, d2] }
  | _ => none }
def FramePushesWrongFalsely : Prop := framePushesRow.holds Try.pinned (OpenSpec.ofChange framePushesWrong)

/-- 'yettlaw08.FramePieces': WHATEVER THE INPUT: true; the input reads as it did. -/
def framePiecesSpec : ChangeSpec := { name := "framePieces", fn := fun _ => fun
  | [d1, d2] => { results := [.lit (.bool true)], args := [d1, d2] }
  | _ => none }
def framePiecesRow : OpenClaim := { program := "ytipidgjdfmghnaa", sum := "5320c28902eca71a2154e49f1e98cd6f4de9a29bbbe95329c4ca81dcbe8d600d", func := "yett/yettlaw08.FramePieces", spec := "framePieces", apart := false }
def FramePiecesSaid : Prop := framePiecesRow.holds Try.pinned (OpenSpec.ofChange framePiecesSpec)

/-- ITS FALSE NEIGHBOUR: 'it returns false'. Refute it at one input. -/
def framePiecesWrong : ChangeSpec := { name := "framePieces", fn := fun _ => fun
  | [d1, d2] => { results := [.lit (.bool false)], args := [d1, d2] }
  | _ => none }
def FramePiecesWrongFalsely : Prop := framePiecesRow.holds Try.pinned (OpenSpec.ofChange framePiecesWrong)

/-- 'yettlaw08.FrameBack': WHATEVER THE INPUT: true; the input reads as it did. -/
def frameBackSpec : ChangeSpec := { name := "frameBack", fn := fun _ => fun
  | [d1, d2] => { results := [.lit (.bool true)], args := [d1, d2] }
  | _ => none }
def frameBackRow : OpenClaim := { program := "ytipidgjdfmghnaa", sum := "5320c28902eca71a2154e49f1e98cd6f4de9a29bbbe95329c4ca81dcbe8d600d", func := "yett/yettlaw08.FrameBack", spec := "frameBack", apart := false }
def FrameBackSaid : Prop := frameBackRow.holds Try.pinned (OpenSpec.ofChange frameBackSpec)

/-- ITS FALSE NEIGHBOUR: 'it returns false'. Refute it at one input. -/
def frameBackWrong : ChangeSpec := { name := "frameBack", fn := fun _ => fun
  | [d1, d2] => { results := [.lit (.bool false)], args := [d1, d2] }
  | _ => none }
def FrameBackWrongFalsely : Prop := frameBackRow.holds Try.pinned (OpenSpec.ofChange frameBackWrong)

/-- 'yettlaw08.FrameCounts': WHATEVER THE INPUT: true; the input reads as it did. -/
def frameCountsSpec : ChangeSpec := { name := "frameCounts", fn := fun _ => fun
  | [d1, d2] => { results := [.lit (.bool true)], args := [d1, d2] }
  | _ => none }
def frameCountsRow : OpenClaim := { program := "ytipidgjdfmghnaa", sum := "5320c28902eca71a2154e49f1e98cd6f4de9a29bbbe95329c4ca81dcbe8d600d", func := "yett/yettlaw08.FrameCounts", spec := "frameCounts", apart := false }
def FrameCountsSaid : Prop := frameCountsRow.holds Try.pinned (OpenSpec.ofChange frameCountsSpec)

/-- ITS FALSE NEIGHBOUR: 'it returns false'. Refute it at one input. -/
def frameCountsWrong : ChangeSpec := { name := "frameCounts", fn := fun _ => fun
  | [d1, d2] => { results := [.lit (.bool false)], args := [d1, d2] }
  | _ => none }
def FrameCountsWrongFalsely : Prop := frameCountsRow.holds Try.pinned (OpenSpec.ofChange frameCountsWrong)

/-- 'yettlaw08.FrameBads': WHATEVER THE INPUT: true; the input reads as it did. -/
def frameBadsSpec : ChangeSpec := { name := "frameBads", fn := fun _ => fun
  | [d1, d2, d3] => { results := [.lit (.bool true)], args := [d1, d2, d3] }
  | _ => none }
def frameBadsRow : OpenClaim := { program := "ytipidgjdfmghnaa", sum := "5320c28902eca71a2154e49f1e98cd6f4de9a29bbbe95329c4ca81dcbe8d600d", func := "yett/yettlaw08.FrameBads", spec := "frameBads", apart := false }
def FrameBadsSaid : Prop := frameBadsRow.holds Try.pinned (OpenSpec.ofChange frameBadsSpec)

/-- ITS FALSE NEIGHBOUR: 'it returns false'. Refute it at one input. -/
def frameBadsWrong : ChangeSpec := { name := "frameBads", fn := fun _ => fun
  | [d1, d2, d3] => { results := [.lit (.bool false)], args := [d1, d2, d3] }
  | _ => none }
def FrameBadsWrongFalsely : Prop := frameBadsRow.holds Try.pinned (OpenSpec.ofChange frameBadsWrong)

/- THE SECOND FORM. 'bulk': how many values and letters a reading holds, each counted each time it is reached (what is shared counts as often as it is met; a slice's spare places count too). A statement '..UptoSaid' is the law's where the arguments, and the package variables that the reading takes, are together of bulk at most 1048576: NARROWER than '..Said'. Prove '..Said' where nothing that the law and all that it calls make is longer than what came in: it says more and counts as full. Else prove '..UptoSaid'. A law counts once. -/
mutual
def uptoBulk {H : Type} : DataW H → Nat
  | .lit (.string bytes) => bytes.length + 1
  | .lit _ => 1
  | .nil => 1
  | .ptr d => uptoBulk d + 1
  | .slice elems spare => uptoBulkAll elems + uptoBulkAll spare + 1
  | .agg parts => uptoBulkAll parts + 1
  | .iface _ d => uptoBulk d + 1
  | .map entries => uptoBulkEntries entries + 1
  | .held _ => 1
def uptoBulkAll {H : Type} : List (DataW H) → Nat
  | [] => 0
  | d :: r => uptoBulk d + uptoBulkAll r
def uptoBulkEntries {H : Type} : List (Lit × DataW H) → Nat
  | [] => 0
  | x :: r => uptoBulkEntry x + uptoBulkEntries r
def uptoBulkEntry {H : Type} : Lit × DataW H → Nat
  | (.string bytes, d) => bytes.length + uptoBulk d + 1
  | (_, d) => uptoBulk d + 1
 end
def uptoSmall : (H : Type) → List (DataW H) → Bool := fun _ ds => decide (uptoBulkAll ds ≤ 1048576)
def OpenSpec.upto (s : _root_.Go.ChangeSpec) : _root_.Go.OpenSpec := { _root_.Go.OpenSpec.ofChange s with cond := some uptoSmall }

/-- 'yettlaw08.FrameTells', WHERE WHAT IT READS IS OF BULK AT MOST 1048576: true; the input reads as it did. -/
def frameTellsUptoRow : OpenClaim := { program := "ytipidgjdfmghnaa", sum := "5320c28902eca71a2154e49f1e98cd6f4de9a29bbbe95329c4ca81dcbe8d600d", func := "yett/yettlaw08.FrameTells", spec := "frameTells", apart := false, narrowed := true }
def FrameTellsUptoSaid : Prop := frameTellsUptoRow.holds Try.pinned (OpenSpec.upto frameTellsSpec)

/-- 'yettlaw08.FramePushes', WHERE WHAT IT READS IS OF BULK AT MOST 1048576: true; the input reads as it did. -/
def framePushesUptoRow : OpenClaim := { program := "ytipidgjdfmghnaa", sum := "5320c28902eca71a2154e49f1e98cd6f4de9a29bbbe95329c4ca81dcbe8d600d", func := "yett/yettlaw08.FramePushes", spec := "framePushes", apart := false, narrowed := true }
def FramePushesUptoSaid : Prop := framePushesUptoRow.holds Try.pinned (OpenSpec.upto framePushesSpec)

/-- 'yettlaw08.FramePieces', WHERE WHAT IT READS IS OF BULK AT MOST 1048576: true; the input reads as it did. -/
def framePiecesUptoRow : OpenClaim := { program := "ytipidgjdfmghnaa", sum := "5320c28902eca71a2154e49f1e98cd6f4de9a29bbbe95329c4ca81dcbe8d600d", func := "yett/yettlaw08.FramePieces", spec := "framePieces", apart := false, narrowed := true }
def FramePiecesUptoSaid : Prop := framePiecesUptoRow.holds Try.pinned (OpenSpec.upto framePiecesSpec)

/-- 'yettlaw08.FrameBack', WHERE WHAT IT READS IS OF BULK AT MOST 1048576: true; the input reads as it did. -/
def frameBackUptoRow : OpenClaim := { program := "ytipidgjdfmghnaa", sum := "5320c28902eca71a2154e49f1e98cd6f4de9a29bbbe95329c4ca81dcbe8d600d", func := "yett/yettlaw08.FrameBack", spec := "frameBack", apart := false, narrowed := true }
def FrameBackUptoSaid : Prop := frameBackUptoRow.holds Try.pinned (OpenSpec.upto frameBackSpec)

/-- 'yettlaw08.FrameCounts', WHERE WHAT IT READS IS OF BULK AT MOST 1048576: true; the input reads as it did. -/
def frameCountsUptoRow : OpenClaim := { program := "ytipidgjdfmghnaa", sum := "5320c28902eca71a2154e49f1e98cd6f4de9a29bbbe95329c4ca81dcbe8d600d", func := "yett/yettlaw08.FrameCounts", spec := "frameCounts", apart := false, narrowed := true }
def FrameCountsUptoSaid : Prop := frameCountsUptoRow.holds Try.pinned (OpenSpec.upto frameCountsSpec)

/-- 'yettlaw08.FrameBads', WHERE WHAT IT READS IS OF BULK AT MOST 1048576: true; the input reads as it did. -/
def frameBadsUptoRow : OpenClaim := { program := "ytipidgjdfmghnaa", sum := "5320c28902eca71a2154e49f1e98cd6f4de9a29bbbe95329c4ca81dcbe8d600d", func := "yett/yettlaw08.FrameBads", spec := "frameBads", apart := false, narrowed := true }
def FrameBadsUptoSaid : Prop := frameBadsUptoRow.holds Try.pinned (OpenSpec.upto frameBadsSpec)

end Rows
end Go.Proofs.Ytipidgjdfmghnaa
