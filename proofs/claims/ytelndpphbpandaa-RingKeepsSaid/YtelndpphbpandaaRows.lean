/-
  No cell of these rows narrows 'for every input' (looked for: loops, veiled, ifaces, maps, wideKeys, modest, calm, conditions, laid).
  DERIVED. THE GIVEN ROWS OF THIS SEAT. 5 by the template 'for every input the law returns true; each argument reads behind the call as it read before'; 0 by the template 'total and deterministic' (their statements: YtelndpphbpandaaTotals.lean).
  GIVEN WITH THE SEED: the statements are not yours to turn. If you find one false, say at which input.
  Laid BY PROGRAM, IN A SANDBOX (cutbox-rows.mjs): the forced cells as the released guide's own fill.sh prints them over the translation dc41fad0e2d477e7… (all of the seat's roots in one cut). By AI agents, Wed Nov 11 2026. No macro, syntax, notation, axiom, sorry.
-/
import Derived.Test.YtelndpphbpandaaChecked
import GoSem.Claim
import GoSem.ClaimJoined
import GoSem.ClaimMapViews
import Derived.JoinedTies
import Derived.KernelRfl
namespace Go.Proofs.Ytelndpphbpandaa
/- THE CELL 'sum', in the pinned program and in every row, IS THE sha256 OF THE DUMP (.gsa) THAT YtelndpphbpandaaProg.lean LOADS. Nothing in Lean hashes anything: it is a label: what it is worth is what the hold of that sum in a sandbox is worth. -/
noncomputable def Try.pinned : Pinned := { name := "ytelndpphbpandaa", sum := "dc41fad0e2d477e797d0e7bb682734a986c4e5db92025f5a45f4f1920671f890", checked := Try.checked }
namespace Rows
def none {H : Type} : Left H := { results := [], args := [] }

/-- 'yettlaw11.RingTells': WHATEVER THE INPUT: true; the input reads as it did. -/
def ringTellsSpec : ChangeSpec := { name := "ringTells", fn := fun _ => fun
  | [d] => { results := [.lit (.bool true)], args := [d] }
  | _ => none }
def ringTellsRow : OpenClaim := { program := "ytelndpphbpandaa", sum := "dc41fad0e2d477e797d0e7bb682734a986c4e5db92025f5a45f4f1920671f890", func := "yett/yettlaw11.RingTells", spec := "ringTells", apart := false }
def RingTellsSaid : Prop := ringTellsRow.holds Try.pinned (OpenSpec.ofChange ringTellsSpec)

/-- ITS FALSE NEIGHBOUR: 'it returns false'. Refute it at one input. -/
def ringTellsWrong : ChangeSpec := { name := "ringTells", fn := fun _ => fun
  | [d] => { results := [.lit (.bool false)], args := [d] }
  | _ => none }
def RingTellsWrongFalsely : Prop := ringTellsRow.holds Try.pinned (OpenSpec.ofChange ringTellsWrong)

/-- 'yettlaw11.RingDoes': WHATEVER THE INPUT: true; the input reads as it did. -/
def ringDoesSpec : ChangeSpec := { name := "ringDoes", fn := fun _ => fun
  | [d1, d2, d3] => { results := [.lit (.bool true)], args := [d1, d2, d3] }
  | _ => none }
def ringDoesRow : OpenClaim := { program := "ytelndpphbpandaa", sum := "dc41fad0e2d477e797d0e7bb682734a986c4e5db92025f5a45f4f1920671f890", func := "yett/yettlaw11.RingDoes", spec := "ringDoes", apart := false }
def RingDoesSaid : Prop := ringDoesRow.holds Try.pinned (OpenSpec.ofChange ringDoesSpec)

/-- ITS FALSE NEIGHBOUR: 'it returns false'. Refute it at one input. -/
def ringDoesWrong : ChangeSpec := { name := "ringDoes", fn := fun _ => fun
  | [d1, d2, d3] => { results := [.lit (.bool false)], args := [d1, d2, d3] }
  | _ => none }
def RingDoesWrongFalsely : Prop := ringDoesRow.holds Try.pinned (OpenSpec.ofChange ringDoesWrong)

/-- 'yettlaw11.RingKeeps': WHATEVER THE INPUT: true; the input reads as it did. -/
def ringKeepsSpec : ChangeSpec := { name := "ringKeeps", fn := fun _ => fun
  | [d] => { results := [.lit (.bool true)], args := [d] }
  | _ => none }
def ringKeepsRow : OpenClaim := { program := "ytelndpphbpandaa", sum := "dc41fad0e2d477e797d0e7bb682734a986c4e5db92025f5a45f4f1920671f890", func := "yett/yettlaw11.RingKeeps", spec := "ringKeeps", apart := false }
def RingKeepsSaid : Prop := ringKeepsRow.holds Try.pinned (OpenSpec.ofChange ringKeepsSpec)

/-- ITS FALSE NEIGHBOUR: 'it returns false'. Refute it at one input. -/
def ringKeepsWrong : ChangeSpec := { name := "ringKeeps", fn := fun _ => fun
  | [d] => { results := [.lit (.bool false)], args := [d] }
  | _ => none }
def RingKeepsWrongFalsely : Prop := ringKeepsRow.holds Try.pinned (OpenSpec.ofChange ringKeepsWrong)

/-- 'yettlaw11.RingOne': WHATEVER THE INPUT: true; the input reads as it did. -/
def ringOneSpec : ChangeSpec := { name := "ringOne", fn := fun _ => fun
  | [d] => { results := [.lit (.bool true)], args := [d] }
  | _ => none }
def ringOneRow : OpenClaim := { program := "ytelndpphbpandaa", sum := "dc41fad0e2d477e797d0e7bb682734a986c4e5db92025f5a45f4f1920671f890", func := "yett/yettlaw11.RingOne", spec := "ringOne", apart := false }
def RingOneSaid : Prop := ringOneRow.holds Try.pinned (OpenSpec.ofChange ringOneSpec)

/-- ITS FALSE NEIGHBOUR: 'it returns false'. Refute it at one input. -/
def ringOneWrong : ChangeSpec := { name := "ringOne", fn := fun _ => fun
  | [d] => { results := [.lit (.bool false)], args := [d] }
  | _ => none }
def RingOneWrongFalsely : Prop := ringOneRow.holds Try.pinned (OpenSpec.ofChange ringOneWrong)

/-- 'yettlaw11.RingNext': WHATEVER THE INPUT: true; the input reads as it did. -/
def ringNextSpec : ChangeSpec := { name := "ringNext", fn := fun _ => fun
  | [d1, d2] => { results := [.lit (.bool true)], args := [d1, d2] }
  | _ => none }
def ringNextRow : OpenClaim := { program := "ytelndpphbpandaa", sum := "dc41fad0e2d477e797d0e7bb682734a986c4e5db92025f5a45f4f1920671f890", func := "yett/yettlaw11.RingNext", spec := "ringNext", apart := false }
def RingNextSaid : Prop := ringNextRow.holds Try.pinned (OpenSpec.ofChange ringNextSpec)

/-- ITS FALSE NEIGHBOUR: 'it returns false'. Refute it at one input. -/
def ringNextWrong : ChangeSpec := { name := "ringNext", fn := fun _ => fun
  | [d1, d2] => { results := [.lit (.bool false)], args := [d1, d2] }
  | _ => none }
def RingNextWrongFalsely : Prop := ringNextRow.holds Try.pinned (OpenSpec.ofChange ringNextWrong)

/- THE SECOND FORM. 'bulk': how many values and letters a reading holds, each counted each time it is reached (what is shared counts as often as it is met; a slice's spare places count too). A statement '..UptoSaid' is the law's where the arguments, and the package variables that the reading takes, are together of bulk at most 1048576: NARROWER than '..Said'. Prove '..Said' where nothing that the law and all that it calls make is longer than what came in: it says more and counts as full. Else prove '..UptoSaid'. A law counts once. -/
mutual
def uptoBulk {H : Type} : DataW H → Nat
  | .lit (.string bytes) => bytes.length + 1
  | .lit _ => 1
  | .nil => 1
  | .ptr d => uptoBulk d + 1
  | .slice elems spare => uptoBulkAll elems + uptoBulkAll spare + 1
  | .agg parts => uptoBulkAll parts + 1
  | .iface _ d => uptoBulk d + 1
  | .map entries => uptoBulkEntries entries + 1
  | .held _ => 1
def uptoBulkAll {H : Type} : List (DataW H) → Nat
  | [] => 0
  | d :: r => uptoBulk d + uptoBulkAll r
def uptoBulkEntries {H : Type} : List (Lit × DataW H) → Nat
  | [] => 0
  | x :: r => uptoBulkEntry x + uptoBulkEntries r
def uptoBulkEntry {H : Type} : Lit × DataW H → Nat
  | (.string bytes, d) => bytes.length + uptoBulk d + 1
  | (_, d) => uptoBulk d + 1
 end
def uptoSmall : (H : Type) → List (DataW H) → Bool := fun _ ds => decide (uptoBulkAll ds ≤ 1048576)
def OpenSpec.upto (s : _root_.Go.ChangeSpec) : _root_.Go.OpenSpec := { _root_.Go.OpenSpec.ofChange s with cond := some uptoSmall }

/-- 'yettlaw11.RingTells', WHERE WHAT IT READS IS OF BULK AT MOST 1048576: true; the input reads as it did. -/
def ringTellsUptoRow : OpenClaim := { program := "ytelndpphbpandaa", sum := "dc41fad0e2d477e797d0e7bb682734a986c4e5db92025f5a45f4f1920671f890", func := "yett/yettlaw11.RingTells", spec := "ringTells", apart := false, narrowed := true }
def RingTellsUptoSaid : Prop := ringTellsUptoRow.holds Try.pinned (OpenSpec.upto ringTellsSpec)

/-- 'yettlaw11.RingDoes', WHERE WHAT IT READS IS OF BULK AT MOST 1048576: true; the input reads as it did. -/
def ringDoesUptoRow : OpenClaim := { program := "ytelndpphbpandaa", sum := "dc41fad0e2d477e797d0e7bb682734a986c4e5db92025f5a45f4f1920671f890", func := "yett/yettlaw11.RingDoes", spec := "ringDoes", apart := false, narrowed := true }
def RingDoesUptoSaid : Prop := ringDoesUptoRow.holds Try.pinned (OpenSpec.upto ringDoesSpec)

/-- 'yettlaw11.RingKeeps', WHERE WHAT IT READS IS OF BULK AT MOST 1048576: true; the input reads as it did. -/
def ringKeepsUptoRow : OpenClaim := { program := "ytelndpphbpandaa", sum := "dc41fad0e2d477e797d0e7bb682734a986c4e5db92025f5a45f4f1920671f890", func := "yett/yettlaw11.RingKeeps", spec := "ringKeeps", apart := false, narrowed := true }
def RingKeepsUptoSaid : Prop := ringKeepsUptoRow.holds Try.pinned (OpenSpec.upto ringKeepsSpec)

/-- 'yettlaw11.RingOne', WHERE WHAT IT READS IS OF BULK AT MOST 1048576: true; the input reads as it did. -/
def ringOneUptoRow : OpenClaim := { program := "ytelndpphbpandaa", sum := "dc41fad0e2d477e797d0e7bb682734a986c4e5db92025f5a45f4f1920671f890", func := "yett/yettlaw11.RingOne", spec := "ringOne", apart := false, narrowed := true }
def RingOneUptoSaid : Prop := ringOneUptoRow.holds Try.pinned (OpenSpec.upto ringOneSpec)

/-- 'yettlaw11.RingNext', WHERE WHAT IT READS IS OF BULK AT MOST 1048576: true; the input reads as it did. -/
def ringNextUptoRow : OpenClaim := { program := "ytelndpphbpandaa", sum := "dc41fad0e2d477e797d0e7bb682734a986c4e5db92025f5a45f4f1920671f890", func := "yett/yettlaw11.RingNext", spec := "ringNext", apart := false, narrowed := true }
def RingNextUptoSaid : Prop := ringNextUptoRow.holds Try.pinned (OpenSpec.upto ringNextSpec)

end Rows
end Go.Proofs.Ytelndpphbpandaa
