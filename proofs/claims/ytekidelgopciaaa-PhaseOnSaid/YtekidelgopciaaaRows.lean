/-
  No cell of these rows narrows 'for every input' (looked for: loops, veiled, ifaces, maps, wideKeys, modest, calm, conditions, laid).
  DERIVED. THE GIVEN ROWS OF THIS SEAT. 6 by the template 'for every input the law returns true; each argument reads behind the call as it read before'; 0 by the template 'total and deterministic' (their statements: YtekidelgopciaaaTotals.lean).
  GIVEN WITH THE SEED: the statements are not yours to turn. If you find one false, say at which input.
  Laid BY PROGRAM, IN A SANDBOX (cutbox-rows.mjs): the forced cells as the released guide's own fill.sh prints them over the translation c7b1296fcef3f5b2… (all of the seat's roots in one cut). By AI agents, Wed Nov 11 2026. No macro, syntax, notation, axiom, sorry.
-/
import Derived.Test.YtekidelgopciaaaChecked
import GoSem.Claim
import GoSem.ClaimJoined
import GoSem.ClaimMapViews
import Derived.JoinedTies
import Derived.KernelRfl
namespace Go.Proofs.Ytekidelgopciaaa
/- THE CELL 'sum', in the pinned program and in every row, IS THE sha256 OF THE DUMP (.gsa) THAT YtekidelgopciaaaProg.lean LOADS. Nothing in Lean hashes anything: it is a label: what it is worth is what the hold of that sum in a sandbox is worth. -/
noncomputable def Try.pinned : Pinned := { name := "ytekidelgopciaaa", sum := "c7b1296fcef3f5b22dca0c74140e68202253449ff4cadb788f50a515e2e1db86", checked := Try.checked }
namespace Rows
def none {H : Type} : Left H := { results := [], args := [] }

/-- 'yettlaw14.PhaseTells': WHATEVER THE INPUT: true; the input reads as it did. -/
def phaseTellsSpec : ChangeSpec := { name := "phaseTells", fn := fun _ => fun
  | [d1, d2] => { results := [.lit (.bool true)], args := [d1, d2] }
  | _ => none }
def phaseTellsRow : OpenClaim := { program := "ytekidelgopciaaa", sum := "c7b1296fcef3f5b22dca0c74140e68202253449ff4cadb788f50a515e2e1db86", func := "yett/yettlaw14.PhaseTells", spec := "phaseTells", apart := false }
def PhaseTellsSaid : Prop := phaseTellsRow.holds Try.pinned (OpenSpec.ofChange phaseTellsSpec)

/-- ITS FALSE NEIGHBOUR: 'it returns false'. Refute it at one input. -/
def phaseTellsWrong : ChangeSpec := { name := "phaseTells", fn := fun _ => fun
  | [d1, d2] => { results := [.lit (.bool false)], args := [d1, d2] }
  | _ => none }
def PhaseTellsWrongFalsely : Prop := phaseTellsRow.holds Try.pinned (OpenSpec.ofChange phaseTellsWrong)

/-- 'yettlaw14.PhaseRuns': WHATEVER THE INPUT: true; the input reads as it did. -/
def phaseRunsSpec : ChangeSpec := { name := "phaseRuns", fn := fun _ => fun
  | [d1, d2, d3] => { results := [.lit (.bool true)], args := [d1, d2, d3] }
  | _ => none }
def phaseRunsRow : OpenClaim := { program := "ytekidelgopciaaa", sum := "c7b1296fcef3f5b22dca0c74140e68202253449ff4cadb788f50a515e2e1db86", func := "yett/yettlaw14.PhaseRuns", spec := "phaseRuns", apart := false }
def PhaseRunsSaid : Prop := phaseRunsRow.holds Try.pinned (OpenSpec.ofChange phaseRunsSpec)

/-- ITS FALSE NEIGHBOUR: 'it returns false'. Refute it at one input. -/
def phaseRunsWrong : ChangeSpec := { name := "phaseRuns", fn := fun _ => fun
  | [d1, d2, d3] => { results := [.lit (.bool false)], args := [d1, d2, d3] }
  | _ => none }
def PhaseRunsWrongFalsely : Prop := phaseRunsRow.holds Try.pinned (OpenSpec.ofChange phaseRunsWrong)

/-- 'yettlaw14.PhaseGates': WHATEVER THE INPUT: true; the input reads as it did. -/
def phaseGatesSpec : ChangeSpec := { name := "phaseGates", fn := fun _ => fun
  | [d] => { results := [.lit (.bool true)], args := [d] }
  | _ => none }
def phaseGatesRow : OpenClaim := { program := "ytekidelgopciaaa", sum := "c7b1296fcef3f5b22dca0c74140e68202253449ff4cadb788f50a515e2e1db86", func := "yett/yettlaw14.PhaseGates", spec := "phaseGates", apart := false }
def PhaseGatesSaid : Prop := phaseGatesRow.holds Try.pinned (OpenSpec.ofChange phaseGatesSpec)

/-- ITS FALSE NEIGHBOUR: 'it returns false'. Refute it at one input. -/
def phaseGatesWrong : ChangeSpec := { name := "phaseGates", fn := fun _ => fun
  | [d] => { results := [.lit (.bool false)], args := [d] }
  | _ => none }
def PhaseGatesWrongFalsely : Prop := phaseGatesRow.holds Try.pinned (OpenSpec.ofChange phaseGatesWrong)

/-- 'yettlaw14.PhaseDark': WHATEVER THE INPUT: true; the input reads as it did. -/
def phaseDarkSpec : ChangeSpec := { name := "phaseDark", fn := fun _ => fun
  | [d1, d2] => { results := [.lit (.bool true)], args := [d1, d2] }
  | _ => none }
def phaseDarkRow : OpenClaim := { program := "ytekidelgopciaaa", sum := "c7b1296fcef3f5b22dca0c74140e68202253449ff4cadb788f50a515e2e1db86", func := "yett/yettlaw14.PhaseDark", spec := "phaseDark", apart := false }
def PhaseDarkSaid : Prop := phaseDarkRow.holds Try.pinned (OpenSpec.ofChange phaseDarkSpec)

/-- ITS FALSE NEIGHBOUR: 'it returns false'. Refute it at one input. -/
def phaseDarkWrong : ChangeSpec := { name := "phaseDark", fn := fun _ => fun
  | [d1, d2] => { results := [.lit (.bool false)], args := [d1, d2] }
  | _ => none }
def PhaseDarkWrongFalsely : Prop := phaseDarkRow.holds Try.pinned (OpenSpec.ofChange phaseDarkWrong)

/-- 'yettlaw14.PhaseNames': WHATEVER THE INPUT: true; the input reads as it did. -/
def phaseNamesSpec : ChangeSpec := { name := "phaseNames", fn := fun _ => fun
  | [d1, d2] => { results := [.lit (.bool true)], args := [d1, d2] }
  | _ => none }
def phaseNamesRow : OpenClaim := { program := "ytekidelgopciaaa", sum := "c7b1296fcef3f5b22dca0c74140e68202253449ff4cadb788f50a515e2e1db86", func := "yett/yettlaw14.PhaseNames", spec := "phaseNames", apart := false }
def PhaseNamesSaid : Prop := phaseNamesRow.holds Try.pinned (OpenSpec.ofChange phaseNamesSpec)

/-- ITS FALSE NEIGHBOUR: 'it returns false'. Refute it at one input. -/
def phaseNamesWrong : ChangeSpec := { name := "phaseNames", fn := fun _ => fun
  | [d1, d2] => { results := [.lit (.bool false)], args := [d1, d2] }
  | _ => none }
def PhaseNamesWrongFalsely : Prop := phaseNamesRow.holds Try.pinned (OpenSpec.ofChange phaseNamesWrong)

/-- 'yettlaw14.PhaseOn': WHATEVER THE INPUT: true; the input reads as it did. -/
def phaseOnSpec : ChangeSpec := { name := "phaseOn", fn := fun _ => fun
  | [d] => { results := [.lit (.bool true)], args := [d] }
  | _ => none }
def phaseOnRow : OpenClaim := { program := "ytekidelgopciaaa", sum := "c7b1296fcef3f5b22dca0c74140e68202253449ff4cadb788f50a515e2e1db86", func := "yett/yettlaw14.PhaseOn", spec := "phaseOn", apart := false }
def PhaseOnSaid : Prop := phaseOnRow.holds Try.pinned (OpenSpec.ofChange phaseOnSpec)

/-- ITS FALSE NEIGHBOUR: 'it returns false'. Refute it at one input. -/
def phaseOnWrong : ChangeSpec := { name := "phaseOn", fn := fun _ => fun
  | [d] => { results := [.lit (.bool false)], args := [d] }
  | _ => none }
def PhaseOnWrongFalsely : Prop := phaseOnRow.holds Try.pinned (OpenSpec.ofChange phaseOnWrong)

/- THE SECOND FORM. 'bulk': how many values and letters a reading holds, each counted each time it is reached (what is shared counts as often as it is met; a slice's spare places count too). A statement '..UptoSaid' is the law's where the arguments, and the package variables that the reading takes, are together of bulk at most 1048576: NARROWER than '..Said'. Prove '..Said' where nothing that the law and all that it calls make is longer than what came in: it says more and counts as full. Else prove '..UptoSaid'. A law counts once. -/
mutual
def uptoBulk {H : Type} : DataW H → Nat
  | .lit (.string bytes) => bytes.length + 1
  | .lit _ => 1
  | .nil => 1
  | .ptr d => uptoBulk d + 1
  | .slice elems spare => uptoBulkAll elems + uptoBulkAll spare + 1
  | .agg parts => uptoBulkAll parts + 1
  | .iface _ d => uptoBulk d + 1
  | .map entries => uptoBulkEntries entries + 1
  | .held _ => 1
def uptoBulkAll {H : Type} : List (DataW H) → Nat
  | [] => 0
  | d :: r => uptoBulk d + uptoBulkAll r
def uptoBulkEntries {H : Type} : List (Lit × DataW H) → Nat
  | [] => 0
  | x :: r => uptoBulkEntry x + uptoBulkEntries r
def uptoBulkEntry {H : Type} : Lit × DataW H → Nat
  | (.string bytes, d) => bytes.length + uptoBulk d + 1
  | (_, d) => uptoBulk d + 1
 end
def uptoSmall : (H : Type) → List (DataW H) → Bool := fun _ ds => decide (uptoBulkAll ds ≤ 1048576)
def OpenSpec.upto (s : _root_.Go.ChangeSpec) : _root_.Go.OpenSpec := { _root_.Go.OpenSpec.ofChange s with cond := some uptoSmall }

/-- 'yettlaw14.PhaseTells', WHERE WHAT IT READS IS OF BULK AT MOST 1048576: true; the input reads as it did. -/
def phaseTellsUptoRow : OpenClaim := { program := "ytekidelgopciaaa", sum := "c7b1296fcef3f5b22dca0c74140e68202253449ff4cadb788f50a515e2e1db86", func := "yett/yettlaw14.PhaseTells", spec := "phaseTells", apart := false, narrowed := true }
def PhaseTellsUptoSaid : Prop := phaseTellsUptoRow.holds Try.pinned (OpenSpec.upto phaseTellsSpec)

/-- 'yettlaw14.PhaseRuns', WHERE WHAT IT READS IS OF BULK AT MOST 1048576: true; the input reads as it did. -/
def phaseRunsUptoRow : OpenClaim := { program := "ytekidelgopciaaa", sum := "c7b1296fcef3f5b22dca0c74140e68202253449ff4cadb788f50a515e2e1db86", func := "yett/yettlaw14.PhaseRuns", spec := "phaseRuns", apart := false, narrowed := true }
def PhaseRunsUptoSaid : Prop := phaseRunsUptoRow.holds Try.pinned (OpenSpec.upto phaseRunsSpec)

/-- 'yettlaw14.PhaseGates', WHERE WHAT IT READS IS OF BULK AT MOST 1048576: true; the input reads as it did. -/
def phaseGatesUptoRow : OpenClaim := { program := "ytekidelgopciaaa", sum := "c7b1296fcef3f5b22dca0c74140e68202253449ff4cadb788f50a515e2e1db86", func := "yett/yettlaw14.PhaseGates", spec := "phaseGates", apart := false, narrowed := true }
def PhaseGatesUptoSaid : Prop := phaseGatesUptoRow.holds Try.pinned (OpenSpec.upto phaseGatesSpec)

/-- 'yettlaw14.PhaseDark', WHERE WHAT IT READS IS OF BULK AT MOST 1048576: true; the input reads as it did. -/
def phaseDarkUptoRow : OpenClaim := { program := "ytekidelgopciaaa", sum := "c7b1296fcef3f5b22dca0c74140e68202253449ff4cadb788f50a515e2e1db86", func := "yett/yettlaw14.PhaseDark", spec := "phaseDark", apart := false, narrowed := true }
def PhaseDarkUptoSaid : Prop := phaseDarkUptoRow.holds Try.pinned (OpenSpec.upto phaseDarkSpec)

/-- 'yettlaw14.PhaseNames', WHERE WHAT IT READS IS OF BULK AT MOST 1048576: true; the input reads as it did. -/
def phaseNamesUptoRow : OpenClaim := { program := "ytekidelgopciaaa", sum := "c7b1296fcef3f5b22dca0c74140e68202253449ff4cadb788f50a515e2e1db86", func := "yett/yettlaw14.PhaseNames", spec := "phaseNames", apart := false, narrowed := true }
def PhaseNamesUptoSaid : Prop := phaseNamesUptoRow.holds Try.pinned (OpenSpec.upto phaseNamesSpec)

/-- 'yettlaw14.PhaseOn', WHERE WHAT IT READS IS OF BULK AT MOST 1048576: true; the input reads as it did. -/
def phaseOnUptoRow : OpenClaim := { program := "ytekidelgopciaaa", sum := "c7b1296fcef3f5b22dca0c74140e68202253449ff4cadb788f50a515e2e1db86", func := "yett/yettlaw14.PhaseOn", spec := "phaseOn", apart := false, narrowed := true }
def PhaseOnUptoSaid : Prop := phaseOnUptoRow.holds Try.pinned (OpenSpec.upto phaseOnSpec)

end Rows
end Go.Proofs.Ytekidelgopciaaa
