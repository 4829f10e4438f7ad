/-
  No cell of these rows narrows 'for every input' (looked for: loops, veiled, ifaces, maps, wideKeys, modest, calm, conditions, laid).
  DERIVED. THE GIVEN ROWS OF THIS SEAT. 5 by the template 'for every input the law returns true; each argument reads behind the call as it read before'; 0 by the template 'total and deterministic' (their statements: YtcccgjpmfbmplaaTotals.lean).
  GIVEN WITH THE SEED: the statements are not yours to turn. If you find one false, say at which input.
  Laid BY PROGRAM, IN A SANDBOX (cutbox-rows.mjs): the forced cells as the released guide's own fill.sh prints them over the translation 1e7d8ff54a3cb7f8… (all of the seat's roots in one cut). By AI agents, Wed Nov 11 2026. No macro, syntax, notation, axiom, sorry.
-/
import Derived.Test.YtcccgjpmfbmplaaChecked
import GoSem.Claim
import GoSem.ClaimJoined
import GoSem.ClaimMapViews
import Derived.JoinedTies
import Derived.KernelRfl
namespace Go.Proofs.Ytcccgjpmfbmplaa
/- THE CELL 'sum', in the pinned program and in every row, IS THE sha256 OF THE DUMP (.gsa) THAT YtcccgjpmfbmplaaProg.lean LOADS. Nothing in Lean hashes anything: it is a label: what it is worth is what the hold of that sum in a sandbox is worth. -/
noncomputable def Try.pinned : Pinned := { name := "ytcccgjpmfbmplaa", sum := "1e7d8ff54a3cb7f81c7970d84d86259589574bea69630b81d715b3e41aaa0dcd", checked := Try.checked }
namespace Rows
def none {H : Type} : Left H := { results := [], args := [] }

/-- 'yettlaw09.HubTells': WHATEVER THE INPUT: true; the input reads as it did. -/
def hubTellsSpec : ChangeSpec := { name := "hubTells", fn := fun _ => fun
  | [d1, d2] => { results := [.lit (.bool true)], args := [d1, d2] }
  | _ => none }
def hubTellsRow : OpenClaim := { program := "ytcccgjpmfbmplaa", sum := "1e7d8ff54a3cb7f81c7970d84d86259589574bea69630b81d715b3e41aaa0dcd", func := "yett/yettlaw09.HubTells", spec := "hubTells", apart := false }
def HubTellsSaid : Prop := hubTellsRow.holds Try.pinned (OpenSpec.ofChange hubTellsSpec)

/-- ITS FALSE NEIGHBOUR: 'it returns false'. Refute it at one input. -/
def hubTellsWrong : ChangeSpec := { name := "hubTells", fn := fun _ => fun
  | [d1, d2] => { results := [.lit (.bool false)], args := [d1, d2] }
  | _ => none }
def HubTellsWrongFalsely : Prop := hubTellsRow.holds Try.pinned (OpenSpec.ofChange hubTellsWrong)

/-- 'yettlaw09.HubDoes': WHATEVER THE INPUT: true; the input reads as it did. -/
def hubDoesSpec : ChangeSpec := { name := "hubDoes", fn := fun _ => fun
  | [d1, d2, d3] => { results := [.lit (.bool true)], args := [d1, d2, d3] }
  | _ => none }
def hubDoesRow : OpenClaim := { program := "ytcccgjpmfbmplaa", sum := "1e7d8ff54a3cb7f81c7970d84d86259589574bea69630b81d715b3e41aaa0dcd", func := "yett/yettlaw09.HubDoes", spec := "hubDoes", apart := false }
def HubDoesSaid : Prop := hubDoesRow.holds Try.pinned (OpenSpec.ofChange hubDoesSpec)

/-- ITS FALSE NEIGHBOUR: 'it returns false'. Refute it at one input. -/
def hubDoesWrong : ChangeSpec := { name := "hubDoes", fn := fun _ => fun
  | [d1, d2, d3] => { results := [.lit (.bool false)], args := [d1, d2, d3] }
  | _ => none }
def HubDoesWrongFalsely : Prop := hubDoesRow.holds Try.pinned (OpenSpec.ofChange hubDoesWrong)

/-- 'yettlaw09.HubFair': WHATEVER THE INPUT: true; the input reads as it did. -/
def hubFairSpec : ChangeSpec := { name := "hubFair", fn := fun _ => fun
  | [d] => { results := [.lit (.bool true)], args := [d] }
  | _ => none }
def hubFairRow : OpenClaim := { program := "ytcccgjpmfbmplaa", sum := "1e7d8ff54a3cb7f81c7970d84d86259589574bea69630b81d715b3e41aaa0dcd", func := "yett/yettlaw09.HubFair", spec := "hubFair", apart := false }
def HubFairSaid : Prop := hubFairRow.holds Try.pinned (OpenSpec.ofChange hubFairSpec)

/-- ITS FALSE NEIGHBOUR: 'it returns false'. Refute it at one input. -/
def hubFairWrong : ChangeSpec := { name := "hubFair", fn := fun _ => fun
  | [d] => { results := [.lit (.bool false)], args := [d] }
  | _ => none }
def HubFairWrongFalsely : Prop := hubFairRow.holds Try.pinned (OpenSpec.ofChange hubFairWrong)

/-- 'yettlaw09.HubApart': WHATEVER THE INPUT: true; the input reads as it did. -/
def hubApartSpec : ChangeSpec := { name := "hubApart", fn := fun _ => fun
  | [d] => { results := [.lit (.bool true)], args := [d] }
  | _ => none }
def hubApartRow : OpenClaim := { program := "ytcccgjpmfbmplaa", sum := "1e7d8ff54a3cb7f81c7970d84d86259589574bea69630b81d715b3e41aaa0dcd", func := "yett/yettlaw09.HubApart", spec := "hubApart", apart := false }
def HubApartSaid : Prop := hubApartRow.holds Try.pinned (OpenSpec.ofChange hubApartSpec)

/-- ITS FALSE NEIGHBOUR: 'it returns false'. Refute it at one input. -/
def hubApartWrong : ChangeSpec := { name := "hubApart", fn := fun _ => fun
  | [d] => { results := [.lit (.bool false)], args := [d] }
  | _ => none }
def HubApartWrongFalsely : Prop := hubApartRow.holds Try.pinned (OpenSpec.ofChange hubApartWrong)

/-- 'yettlaw09.HubLives': WHATEVER THE INPUT: true; the input reads as it did. -/
def hubLivesSpec : ChangeSpec := { name := "hubLives", fn := fun _ => fun
  | [d] => { results := [.lit (.bool true)], args := [d] }
  | _ => none }
def hubLivesRow : OpenClaim := { program := "ytcccgjpmfbmplaa", sum := "1e7d8ff54a3cb7f81c7970d84d86259589574bea69630b81d715b3e41aaa0dcd", func := "yett/yettlaw09.HubLives", spec := "hubLives", apart := false }
def HubLivesSaid : Prop := hubLivesRow.holds Try.pinned (OpenSpec.ofChange hubLivesSpec)

/-- ITS FALSE NEIGHBOUR: 'it returns false'. Refute it at one input. -/
def hubLivesWrong : ChangeSpec := { name := "hubLives", fn := fun _ => fun
  | [d] => { results := [.lit (.bool false)], args := [d] }
  | _ => none }
def HubLivesWrongFalsely : Prop := hubLivesRow.holds Try.pinned (OpenSpec.ofChange hubLivesWrong)

/- THE SECOND FORM. 'bulk': how many values and letters a reading holds, each counted each time it is reached (what is shared counts as often as it is met; a slice's spare places count too). A statement '..UptoSaid' is the law's where the arguments, and the package variables that the reading takes, are together of bulk at most 1048576: NARROWER than '..Said'. Prove '..Said' where nothing that the law and all that it calls make is longer than what came in: it says more and counts as full. Else prove '..UptoSaid'. A law counts once. -/
mutual
def uptoBulk {H : Type} : DataW H → Nat
  | .lit (.string bytes) => bytes.length + 1
  | .lit _ => 1
  | .nil => 1
  | .ptr d => uptoBulk d + 1
  | .slice elems spare => uptoBulkAll elems + uptoBulkAll spare + 1
  | .agg parts => uptoBulkAll parts + 1
  | .iface _ d => uptoBulk d + 1
  | .map entries => uptoBulkEntries entries + 1
  | .held _ => 1
def uptoBulkAll {H : Type} : List (DataW H) → Nat
  | [] => 0
  | d :: r => uptoBulk d + uptoBulkAll r
def uptoBulkEntries {H : Type} : List (Lit × DataW H) → Nat
  | [] => 0
  | x :: r => uptoBulkEntry x + uptoBulkEntries r
def uptoBulkEntry {H : Type} : Lit × DataW H → Nat
  | (.string bytes, d) => bytes.length + uptoBulk d + 1
  | (_, d) => uptoBulk d + 1
 end
def uptoSmall : (H : Type) → List (DataW H) → Bool := fun _ ds => decide (uptoBulkAll ds ≤ 1048576)
def OpenSpec.upto (s : _root_.Go.ChangeSpec) : _root_.Go.OpenSpec := { _root_.Go.OpenSpec.ofChange s with cond := some uptoSmall }

/-- 'yettlaw09.HubTells', WHERE WHAT IT READS IS OF BULK AT MOST 1048576: true; the input reads as it did. -/
def hubTellsUptoRow : OpenClaim := { program := "ytcccgjpmfbmplaa", sum := "1e7d8ff54a3cb7f81c7970d84d86259589574bea69630b81d715b3e41aaa0dcd", func := "yett/yettlaw09.HubTells", spec := "hubTells", apart := false, narrowed := true }
def HubTellsUptoSaid : Prop := hubTellsUptoRow.holds Try.pinned (OpenSpec.upto hubTellsSpec)

/-- 'yettlaw09.HubDoes', WHERE WHAT IT READS IS OF BULK AT MOST 1048576: true; the input reads as it did. -/
def hubDoesUptoRow : OpenClaim := { program := "ytcccgjpmfbmplaa", sum := "1e7d8ff54a3cb7f81c7970d84d86259589574bea69630b81d715b3e41aaa0dcd", func := "yett/yettlaw09.HubDoes", spec := "hubDoes", apart := false, narrowed := true }
def HubDoesUptoSaid : Prop := hubDoesUptoRow.holds Try.pinned (OpenSpec.upto hubDoesSpec)

/-- 'yettlaw09.HubFair', WHERE WHAT IT READS IS OF BULK AT MOST 1048576: true; the input reads as it did. -/
def hubFairUptoRow : OpenClaim := { program := "ytcccgjpmfbmplaa", sum := "1e7d8ff54a3cb7f81c7970d84d86259589574bea69630b81d715b3e41aaa0dcd", func := "yett/yettlaw09.HubFair", spec := "hubFair", apart := false, narrowed := true }
def HubFairUptoSaid : Prop := hubFairUptoRow.holds Try.pinned (OpenSpec.upto hubFairSpec)

/-- 'yettlaw09.HubApart', WHERE WHAT IT READS IS OF BULK AT MOST 1048576: true; the input reads as it did. -/
def hubApartUptoRow : OpenClaim := { program := "ytcccgjpmfbmplaa", sum := "1e7d8ff54a3cb7f81c7970d84d86259589574bea69630b81d715b3e41aaa0dcd", func := "yett/yettlaw09.HubApart", spec := "hubApart", apart := false, narrowed := true }
def HubApartUptoSaid : Prop := hubApartUptoRow.holds Try.pinned (OpenSpec.upto hubApartSpec)

/-- 'yettlaw09.HubLives', WHERE WHAT IT READS IS OF BULK AT MOST 1048576: true; the input reads as it did. -/
def hubLivesUptoRow : OpenClaim := { program := "ytcccgjpmfbmplaa", sum := "1e7d8ff54a3cb7f81c7970d84d86259589574bea69630b81d715b3e41aaa0dcd", func := "yett/yettlaw09.HubLives", spec := "hubLives", apart := false, narrowed := true }
def HubLivesUptoSaid : Prop := hubLivesUptoRow.holds Try.pinned (OpenSpec.upto hubLivesSpec)

end Rows
end Go.Proofs.Ytcccgjpmfbmplaa
