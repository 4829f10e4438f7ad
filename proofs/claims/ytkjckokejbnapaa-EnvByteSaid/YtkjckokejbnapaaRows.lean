/-
  No cell of these rows narrows 'for every input' (looked for: loops, veiled, ifaces, maps, wideKeys, modest, calm, conditions, laid).
  DERIVED. THE GIVEN ROWS OF THIS SEAT. 6 by the template 'for every input the law returns true; each argument reads behind the call as it read before'; 0 by the template 'total and deterministic' (their statements: YtkjckokejbnapaaTotals.lean).
  GIVEN WITH THE SEED: the statements are not yours to turn. If you find one false, say at which input.
  Laid BY PROGRAM, IN A SANDBOX (cutbox-rows.mjs): the forced cells as the released guide's own fill.sh prints them over the translation 53e19f8ccb4c3f54… (all of the seat's roots in one cut). By AI agents, Wed Nov 11 2026. No macro, syntax, notation, axiom, sorry.
-/
import Derived.Test.YtkjckokejbnapaaChecked
import GoSem.Claim
import GoSem.ClaimJoined
import GoSem.ClaimMapViews
import Derived.JoinedTies
import Derived.KernelRfl
namespace Go.Proofs.Ytkjckokejbnapaa
/- THE CELL 'sum', in the pinned program and in every row, IS THE sha256 OF THE DUMP (.gsa) THAT YtkjckokejbnapaaProg.lean LOADS. Nothing in Lean hashes anything: it is a label: what it is worth is what the hold of that sum in a sandbox is worth. -/
noncomputable def Try.pinned : Pinned := { name := "ytkjckokejbnapaa", sum := "53e19f8ccb4c3f54b8955d68f90c48274013ca1c833316f7d4a0975dd42ebf5a", checked := Try.checked }
namespace Rows
def none {H : Type} : Left H := { results := [], args := [] }

/-- 'yettlaw12.EnvTells': WHATEVER THE INPUT: true; the input reads as it did. -/
def envTellsSpec : ChangeSpec := { name := "envTells", fn := fun _ => fun
  | [d1, d2] => { results := [.lit (.bool true)], args := [d1, d2] }
  | _ => none }
def envTellsRow : OpenClaim := { program := "ytkjckokejbnapaa", sum := "53e19f8ccb4c3f54b8955d68f90c48274013ca1c833316f7d4a0975dd42ebf5a", func := "yett/yettlaw12.EnvTells", spec := "envTells", unfollowed := true, recurses := true, apart := false }
def EnvTellsSaid : Prop := envTellsRow.holds Try.pinned (OpenSpec.ofChange envTellsSpec)

/-- ITS FALSE NEIGHBOUR: 'it returns false'. Refute it at one input. -/
def envTellsWrong : ChangeSpec := { name := "envTells", fn := fun _ => fun
  | [d1, d2] => { results := [.lit (.bool false)], args := [d1, d2] }
  | _ => none }
def EnvTellsWrongFalsely : Prop := envTellsRow.holds Try.pinned (OpenSpec.ofChange envTellsWrong)

/-- 'yettlaw12.EnvReads': WHATEVER THE INPUT: true; the input reads as it did. -/
def envReadsSpec : ChangeSpec := { name := "envReads", fn := fun _ => fun
  | [d] => { results := [.lit (.bool true)], args := [d] }
  | _ => none }
def envReadsRow : OpenClaim := { program := "ytkjckokejbnapaa", sum := "53e19f8ccb4c3f54b8955d68f90c48274013ca1c833316f7d4a0975dd42ebf5a", func := "yett/yettlaw12.EnvReads", spec := "envReads", unfollowed := true, recurses := true, apart := false }
def EnvReadsSaid : Prop := envReadsRow.holds Try.pinned (OpenSpec.ofChange envReadsSpec)

/-- ITS FALSE NEIGHBOUR: 'it returns false'. Refute it at one input. -/
def envReadsWrong : ChangeSpec := { name := "envReads", fn := fun _ => fun
  | [d] => { results := [.lit (.bool false)], args := [d] }
  | _ => none }
def EnvReadsWrongFalsely : Prop := envReadsRow.holds Try.pinned (OpenSpec.ofChange envReadsWrong)

/-- 'yettlaw12.EnvBack': WHATEVER THE INPUT: true; the input reads as it did. -/
def envBackSpec : ChangeSpec := { name := "envBack", fn := fun _ => fun
  | [d1, d2] => { results := [.lit (.bool true)], args := [d1, d2] }
  | _ => none }
def envBackRow : OpenClaim := { program := "ytkjckokejbnapaa", sum := "53e19f8ccb4c3f54b8955d68f90c48274013ca1c833316f7d4a0975dd42ebf5a", func := "yett/yettlaw12.EnvBack", spec := "envBack", unfollowed := true, recurses := true, apart := false }
def EnvBackSaid : Prop := envBackRow.holds Try.pinned (OpenSpec.ofChange envBackSpec)

/-- ITS FALSE NEIGHBOUR: 'it returns false'. Refute it at one input. -/
def envBackWrong : ChangeSpec := { name := "envBack", fn := fun _ => fun
  | [d1, d2] => { results := [.lit (.bool false)], args := [d1, d2] }
  | _ => none }
def EnvBackWrongFalsely : Prop := envBackRow.holds Try.pinned (OpenSpec.ofChange envBackWrong)

/-- 'yettlaw12.EnvApart': WHATEVER THE INPUT: true; the input reads as it did. -/
def envApartSpec : ChangeSpec := { name := "envApart", fn := fun _ => fun
  | [d1, d2] => { results := [.lit (.bool true)], args := [d1, d2] }
  | _ => none }
def envApartRow : OpenClaim := { program := "ytkjckokejbnapaa", sum := "53e19f8ccb4c3f54b8955d68f90c48274013ca1c833316f7d4a0975dd42ebf5a", func := "yett/yettlaw12.EnvApart", spec := "envApart", unfollowed := true, recurses := true, apart := false }
def EnvApartSaid : Prop := envApartRow.holds Try.pinned (OpenSpec.ofChange envApartSpec)

/-- ITS FALSE NEIGHBOUR: 'it returns false'. Refute it at one input. -/
def envApartWrong : ChangeSpec := { name := "envApart", fn := fun _ => fun
  | [d1, d2] => { results := [.lit (.bool false)], args := [d1, d2] }
  | _ => none }
def EnvApartWrongFalsely : Prop := envApartRow.holds Try.pinned (OpenSpec.ofChange envApartWrong)

/-- 'yettlaw12.EnvLong': WHATEVER THE INPUT: true; the input reads as it did. -/
def envLongSpec : ChangeSpec := { name := "envLong", fn := fun _ => fun
  | [d1, d2, d3] => { results := [.lit (.bool true)], args := [d1, d2, d3] }
  | _ => none }
def envLongRow : OpenClaim := { program := "ytkjckokejbnapaa", sum := "53e19f8ccb4c3f54b8955d68f90c48274013ca1c833316f7d4a0975dd42ebf5a", func := "yett/yettlaw12.EnvLong", spec := "envLong", unfollowed := true, recurses := true, apart := false }
def EnvLongSaid : Prop := envLongRow.holds Try.pinned (OpenSpec.ofChange envLongSpec)

/-- ITS FALSE NEIGHBOUR: 'it returns false'. Refute it at one input. -/
def envLongWrong : ChangeSpec := { name := "envLong", fn := fun _ => fun
  | [d1, d2, d3] => { results := [.lit (.bool false)], args := [d1, d2, d3] }
  | _ => none }
def EnvLongWrongFalsely : Prop := envLongRow.holds Try.pinned (OpenSpec.ofChange envLongWrong)

/-- 'yettlaw12.EnvByte': WHATEVER THE INPUT: true; the input reads as it did. -/
def envByteSpec : ChangeSpec := { name := "envByte", fn := fun _ => fun
  | [d1, d2, d3] => { results := [.lit (.bool true)], args := [d1, d2, d3] }
  | _ => none }
def envByteRow : OpenClaim := { program := "ytkjckokejbnapaa", sum := "53e19f8ccb4c3f54b8955d68f90c48274013ca1c833316f7d4a0975dd42ebf5a", func := "yett/yettlaw12.EnvByte", spec := "envByte", unfollowed := true, recurses := true, apart := false }
def EnvByteSaid : Prop := envByteRow.holds Try.pinned (OpenSpec.ofChange envByteSpec)

/-- ITS FALSE NEIGHBOUR: 'it returns false'. Refute it at one input. -/
def envByteWrong : ChangeSpec := { name := "envByte", fn := fun _ => fun
  | [d1, d2, d3] => { results := [.lit (.bool false)], args := [d1, d2, d3] }
  | _ => none }
def EnvByteWrongFalsely : Prop := envByteRow.holds Try.pinned (OpenSpec.ofChange envByteWrong)

/- THE SECOND FORM. 'bulk': how many values and letters a reading holds, each counted each time it is reached (what is shared counts as often as it is met; a slice's spare places count too). A statement '..UptoSaid' is the law's where the arguments, and the package variables that the reading takes, are together of bulk at most 1048576: NARROWER than '..Said'. Prove '..Said' where nothing that the law and all that it calls make is longer than what came in: it says more and counts as full. Else prove '..UptoSaid'. A law counts once. -/
mutual
def uptoBulk {H : Type} : DataW H → Nat
  | .lit (.string bytes) => bytes.length + 1
  | .lit _ => 1
  | .nil => 1
  | .ptr d => uptoBulk d + 1
  | .slice elems spare => uptoBulkAll elems + uptoBulkAll spare + 1
  | .agg parts => uptoBulkAll parts + 1
  | .iface _ d => uptoBulk d + 1
  | .map entries => uptoBulkEntries entries + 1
  | .held _ => 1
def uptoBulkAll {H : Type} : List (DataW H) → Nat
  | [] => 0
  | d :: r => uptoBulk d + uptoBulkAll r
def uptoBulkEntries {H : Type} : List (Lit × DataW H) → Nat
  | [] => 0
  | x :: r => uptoBulkEntry x + uptoBulkEntries r
def uptoBulkEntry {H : Type} : Lit × DataW H → Nat
  | (.string bytes, d) => bytes.length + uptoBulk d + 1
  | (_, d) => uptoBulk d + 1
 end
def uptoSmall : (H : Type) → List (DataW H) → Bool := fun _ ds => decide (uptoBulkAll ds ≤ 1048576)
def OpenSpec.upto (s : _root_.Go.ChangeSpec) : _root_.Go.OpenSpec := { _root_.Go.OpenSpec.ofChange s with cond := some uptoSmall }

/-- 'yettlaw12.EnvTells', WHERE WHAT IT READS IS OF BULK AT MOST 1048576: true; the input reads as it did. -/
def envTellsUptoRow : OpenClaim := { program := "ytkjckokejbnapaa", sum := "53e19f8ccb4c3f54b8955d68f90c48274013ca1c833316f7d4a0975dd42ebf5a", func := "yett/yettlaw12.EnvTells", spec := "envTells", unfollowed := true, recurses := true, apart := false, narrowed := true }
def EnvTellsUptoSaid : Prop := envTellsUptoRow.holds Try.pinned (OpenSpec.upto envTellsSpec)

/-- 'yettlaw12.EnvReads', WHERE WHAT IT READS IS OF BULK AT MOST 1048576: true; the input reads as it did. -/
def envReadsUptoRow : OpenClaim := { program := "ytkjckokejbnapaa", sum := "53e19f8ccb4c3f54b8955d68f90c48274013ca1c833316f7d4a0975dd42ebf5a", func := "yett/yettlaw12.EnvReads", spec := "envReads", unfollowed := true, recurses := true, apart := false, narrowed := true }
def EnvReadsUptoSaid : Prop := envReadsUptoRow.holds Try.pinned (OpenSpec.upto envReadsSpec)

/-- 'yettlaw12.EnvBack', WHERE WHAT IT READS IS OF BULK AT MOST 1048576: true; the input reads as it did. -/
def envBackUptoRow : OpenClaim := { program := "ytkjckokejbnapaa", sum := "53e19f8ccb4c3f54b8955d68f90c48274013ca1c833316f7d4a0975dd42ebf5a", func := "yett/yettlaw12.EnvBack", spec := "envBack", unfollowed := true, recurses := true, apart := false, narrowed := true }
def EnvBackUptoSaid : Prop := envBackUptoRow.holds Try.pinned (OpenSpec.upto envBackSpec)

/-- 'yettlaw12.EnvApart', WHERE WHAT IT READS IS OF BULK AT MOST 1048576: true; the input reads as it did. -/
def envApartUptoRow : OpenClaim := { program := "ytkjckokejbnapaa", sum := "53e19f8ccb4c3f54b8955d68f90c48274013ca1c833316f7d4a0975dd42ebf5a", func := "yett/yettlaw12.EnvApart", spec := "envApart", unfollowed := true, recurses := true, apart := false, narrowed := true }
def EnvApartUptoSaid : Prop := envApartUptoRow.holds Try.pinned (OpenSpec.upto envApartSpec)

/-- 'yettlaw12.EnvLong', WHERE WHAT IT READS IS OF BULK AT MOST 1048576: true; the input reads as it did. -/
def envLongUptoRow : OpenClaim := { program := "ytkjckokejbnapaa", sum := "53e19f8ccb4c3f54b8955d68f90c48274013ca1c833316f7d4a0975dd42ebf5a", func := "yett/yettlaw12.EnvLong", spec := "envLong", unfollowed := true, recurses := true, apart := false, narrowed := true }
def EnvLongUptoSaid : Prop := envLongUptoRow.holds Try.pinned (OpenSpec.upto envLongSpec)

/-- 'yettlaw12.EnvByte', WHERE WHAT IT READS IS OF BULK AT MOST 1048576: true; the input reads as it did. -/
def envByteUptoRow : OpenClaim := { program := "ytkjckokejbnapaa", sum := "53e19f8ccb4c3f54b8955d68f90c48274013ca1c833316f7d4a0975dd42ebf5a", func := "yett/yettlaw12.EnvByte", spec := "envByte", unfollowed := true, recurses := true, apart := false, narrowed := true }
def EnvByteUptoSaid : Prop := envByteUptoRow.holds Try.pinned (OpenSpec.upto envByteSpec)

end Rows
end Go.Proofs.Ytkjckokejbnapaa
