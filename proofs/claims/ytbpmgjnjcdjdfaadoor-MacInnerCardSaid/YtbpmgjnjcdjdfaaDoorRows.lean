/-
  NARROWER THAN 'FOR EVERY INPUT', by the rows' own cells (each row's printed sentence says how): MacTells: laid · MacDerives: laid · MacBlocks: laid · MacInner: laid · MacApart: laid · MacSame: laid · MacLimits: laid.
  DERIVED. THE GIVEN ROWS OF THIS SEAT. 7 by the template 'for every input the law returns true; each argument reads behind the call as it read before'; 0 by the template 'total and deterministic' (their statements: YtbpmgjnjcdjdfaaDoorTotals.lean).
  GIVEN WITH THE SEED: the statements are not yours to turn. If you find one false, say at which input.
  Laid BY PROGRAM, IN A SANDBOX (cutbox-rows.mjs): the forced cells as the released guide's own fill.sh prints them over the translation c1573d37260c7e0c… (all of the seat's roots in one cut). By AI agents, Wed Nov 11 2026. No macro, syntax, notation, axiom, sorry.
-/
import Derived.Test.YtbpmgjnjcdjdfaaDoorChecked
import GoSem.Claim
import GoSem.ClaimJoined
import GoSem.ClaimMapViews
import Derived.JoinedTies
import Derived.KernelRfl
namespace Go.Proofs.YtbpmgjnjcdjdfaaDoor
/- THE CELL 'sum', in the pinned program and in every row, IS THE sha256 OF THE DUMP (.gsa) THAT YtbpmgjnjcdjdfaaDoorProg.lean LOADS. Nothing in Lean hashes anything: it is a label: what it is worth is what the hold of that sum in a sandbox is worth. -/
noncomputable def Tryd.pinned : Pinned := { name := "ytbpmgjnjcdjdfaadoor", sum := "c1573d37260c7e0c92b51d357780a5ebfe1f841219a091dcdd9c80361b88596b", checked := Tryd.checked }
namespace Rows
def none {H : Type} : Left H := { results := [], args := [] }

/- WHAT THE LISTED PACKAGE-LEVEL VARIABLES READ AS WHEN THE CALL BEGINS. Each datum BY PROGRAM (the guide's laid-datum.mjs) off the statement by which the dump's own 'gosem.cut.vars' lays the variable. In a bare row this is a premise. The card (YtbpmgjnjcdjdfaaDoorCards.lean) ties it to the program's text. -/
def laid_yett_sha_keys {H : Type} : DataW H := .agg [.lit (.int .u32 1116352408), .lit (.int .u32 1899447441), .lit (.int .u32 3049323471), .lit (.int .u32 3921009573), .lit (.int .u32 961987163), .lit (.int .u32 1508970993), .lit (.int .u32 2453635748), .lit (.int .u32 2870763221), .lit (.int .u32 3624381080), .lit (.int .u32 310598401), .lit (.int .u32 607225278), .lit (.int .u32 1426881987), .lit (.int .u32 1925078388), .lit (.int .u32 2162078206), .lit (.int .u32 2614888103), .lit (.int .u32 3248222580), .lit (.int .u32 3835390401), .lit (.int .u32 4022224774), .lit (.int .u32 264347078), .lit (.int .u32 604807628), .lit (.int .u32 770255983), .lit (.int .u32 1249150122), .lit (.int .u32 1555081692), .lit (.int .u32 1996064986), .lit (.int .u32 2554220882), .lit (.int .u32 2821834349), .lit (.int .u32 2952996808), .lit (.int .u32 3210313671), .lit (.int .u32 3336571891), .lit (.int .u32 3584528711), .lit (.int .u32 113926993), .lit (.int .u32 338241895), .lit (.int .u32 666307205), .lit (.int .u32 773529912), .lit (.int .u32 1294757372), .lit (.int .u32 1396182291), .lit (.int .u32 1695183700), .lit (.int .u32 1986661051), .lit (.int .u32 2177026350), .lit (.int .u32 2456956037), .lit (.int .u32 2730485921), .lit (.int .u32 2820302411), .lit (.int .u32 3259730800), .lit (.int .u32 3345764771), .lit (.int .u32 3516065817), .lit (.int .u32 3600352804), .lit (.int .u32 4094571909), .lit (.int .u32 275423344), .lit (.int .u32 430227734), .lit (.int .u32 506948616), .lit (.int .u32 659060556), .lit (.int .u32 883997877), .lit (.int .u32 958139571), .lit (.int .u32 1322822218), .lit (.int .u32 1537002063), .lit (.int .u32 1747873779), .lit (.int .u32 1955562222), .lit (.int .u32 2024104815), .lit (.int .u32 2227730452), .lit (.int .u32 2361852424), .lit (.int .u32 2428436474), .lit (.int .u32 2756734187), .lit (.int .u32 3204031479), .lit (.int .u32 3329325298)]

/-- 'yettlaw03.MacTells': WHATEVER THE INPUT: true; the input reads as it did. -/
def macTellsSpec : ChangeSpec := { name := "macTells", fn := fun _ => fun
  | [d1, d2] => { results := [.lit (.bool true)], args := [d1, d2] }
  | _ => none }
def macTellsRow : OpenClaim := { program := "ytbpmgjnjcdjdfaadoor", sum := "c1573d37260c7e0c92b51d357780a5ebfe1f841219a091dcdd9c80361b88596b", func := "yett/yettlaw03.MacTells", spec := "macTells", unfollowed := true, recurses := true, named := ["yett/sha.keys"], apart := false, laid := [("yett/sha.keys", laid_yett_sha_keys)] }
def MacTellsSaid : Prop := macTellsRow.holds Tryd.pinned (OpenSpec.ofChange macTellsSpec)

/-- ITS FALSE NEIGHBOUR: 'it returns false'. Refute it at one input. -/
def macTellsWrong : ChangeSpec := { name := "macTells", fn := fun _ => fun
  | [d1, d2] => { results := [.lit (.bool false)], args := [d1, d2] }
  | _ => none }
def MacTellsWrongFalsely : Prop := macTellsRow.holds Tryd.pinned (OpenSpec.ofChange macTellsWrong)

/-- 'yettlaw03.MacDerives': WHATEVER THE INPUT: true; the input reads as it did. -/
def macDerivesSpec : ChangeSpec := { name := "macDerives", fn := fun _ => fun
  | [d1, d2, d3] => { results := [.lit (.bool true)], args := [d1, d2, d3] }
  | _ => none }
def macDerivesRow : OpenClaim := { program := "ytbpmgjnjcdjdfaadoor", sum := "c1573d37260c7e0c92b51d357780a5ebfe1f841219a091dcdd9c80361b88596b", func := "yett/yettlaw03.MacDerives", spec := "macDerives", unfollowed := true, recurses := true, named := ["yett/sha.keys"], apart := false, laid := [("yett/sha.keys", laid_yett_sha_keys)] }
def MacDerivesSaid : Prop := macDerivesRow.holds Tryd.pinned (OpenSpec.ofChange macDerivesSpec)

/-- ITS FALSE NEIGHBOUR: 'it returns false'. Refute it at one input. -/
def macDerivesWrong : ChangeSpec := { name := "macDerives", fn := fun _ => fun
  | [d1, d2, d3] => { results := [.lit (.bool false)], args := [d1, d2, d3] }
  | _ => none }
def MacDerivesWrongFalsely : Prop := macDerivesRow.holds Tryd.pinned (OpenSpec.ofChange macDerivesWrong)

/-- 'yettlaw03.MacBlocks': WHATEVER THE INPUT: true; the input reads as it did. -/
def macBlocksSpec : ChangeSpec := { name := "macBlocks", fn := fun _ => fun
  | [d1, d2] => { results := [.lit (.bool true)], args := [d1, d2] }
  | _ => none }
def macBlocksRow : OpenClaim := { program := "ytbpmgjnjcdjdfaadoor", sum := "c1573d37260c7e0c92b51d357780a5ebfe1f841219a091dcdd9c80361b88596b", func := "yett/yettlaw03.MacBlocks", spec := "macBlocks", unfollowed := true, recurses := true, named := ["yett/sha.keys"], apart := false, laid := [("yett/sha.keys", laid_yett_sha_keys)] }
def MacBlocksSaid : Prop := macBlocksRow.holds Tryd.pinned (OpenSpec.ofChange macBlocksSpec)

/-- ITS FALSE NEIGHBOUR: 'it returns false'. Refute it at one input. -/
def macBlocksWrong : ChangeSpec := { name := "macBlocks", fn := fun _ => fun
  | [d1, d2] => { results := [.lit (.bool false)], args := [d1, d2] }
  | _ => none }
def MacBlocksWrongFalsely : Prop := macBlocksRow.holds Tryd.pinned (OpenSpec.ofChange macBlocksWrong)

/-- 'yettlaw03.MacInner': WHATEVER THE INPUT: true; the input reads as it did. -/
def macInnerSpec : ChangeSpec := { name := "macInner", fn := fun _ => fun
  | [d1, d2] => { results := [.lit (.bool true)], args := [d1, d2] }
  | _ => none }
def macInnerRow : OpenClaim := { program := "ytbpmgjnjcdjdfaadoor", sum := "c1573d37260c7e0c92b51d357780a5ebfe1f841219a091dcdd9c80361b88596b", func := "yett/yettlaw03.MacInner", spec := "macInner", unfollowed := true, recurses := true, named := ["yett/sha.keys"], apart := false, laid := [("yett/sha.keys", laid_yett_sha_keys)] }
def MacInnerSaid : Prop := macInnerRow.holds Tryd.pinned (OpenSpec.ofChange macInnerSpec)

/-- ITS FALSE NEIGHBOUR: 'it returns false'. Refute it at one input. -/
def macInnerWrong : ChangeSpec := { name := "macInner", fn := fun _ => fun
  | [d1, d2] => { results := [.lit (.bool false)], args := [d1, d2] }
  | _ => none }
def MacInnerWrongFalsely : Prop := macInnerRow.holds Tryd.pinned (OpenSpec.ofChange macInnerWrong)

/-- 'yettlaw03.MacApart': WHATEVER THE INPUT: true; the input reads as it did. -/
def macApartSpec : ChangeSpec := { name := "macApart", fn := fun _ => fun
  | [d] => { results := [.lit (.bool true)], args := [d] }
  | _ => none }
def macApartRow : OpenClaim := { program := "ytbpmgjnjcdjdfaadoor", sum := "c1573d37260c7e0c92b51d357780a5ebfe1f841219a091dcdd9c80361b88596b", func := "yett/yettlaw03.MacApart", spec := "macApart", unfollowed := true, recurses := true, named := ["yett/sha.keys"], apart := false, laid := [("yett/sha.keys", laid_yett_sha_keys)] }
def MacApartSaid : Prop := macApartRow.holds Tryd.pinned (OpenSpec.ofChange macApartSpec)

/-- ITS FALSE NEIGHBOUR: 'it returns false'. Refute it at one input. -/
def macApartWrong : ChangeSpec := { name := "macApart", fn := fun _ => fun
  | [d] => { results := [.lit (.bool false)], args := [d] }
  | _ => none }
def MacApartWrongFalsely : Prop := macApartRow.holds Tryd.pinned (OpenSpec.ofChange macApartWrong)

/-- 'yettlaw03.MacSame': WHATEVER THE INPUT: true; the input reads as it did. -/
def macSameSpec : ChangeSpec := { name := "macSame", fn := fun _ => fun
  | [d1, d2, d3] => { results := [.lit (.bool true)], args := [d1, d2, d3] }
  | _ => none }
def macSameRow : OpenClaim := { program := "ytbpmgjnjcdjdfaadoor", sum := "c1573d37260c7e0c92b51d357780a5ebfe1f841219a091dcdd9c80361b88596b", func := "yett/yettlaw03.MacSame", spec := "macSame", unfollowed := true, recurses := true, named := ["yett/sha.keys"], apart := false, laid := [("yett/sha.keys", laid_yett_sha_keys)] }
def MacSameSaid : Prop := macSameRow.holds Tryd.pinned (OpenSpec.ofChange macSameSpec)

/-- ITS FALSE NEIGHBOUR: 'it returns false'. Refute it at one input. -/
def macSameWrong : ChangeSpec := { name := "macSame", fn := fun _ => fun
  | [d1, d2, d3] => { results := [.lit (.bool false)], args := [d1, d2, d3] }
  | _ => none }
def MacSameWrongFalsely : Prop := macSameRow.holds Tryd.pinned (OpenSpec.ofChange macSameWrong)

/-- 'yettlaw03.MacLimits': WHATEVER THE INPUT: true; the input reads as it did. -/
def macLimitsSpec : ChangeSpec := { name := "macLimits", fn := fun _ => fun
  | [d1, d2, d3] => { results := [.lit (.bool true)], args := [d1, d2, d3] }
  | _ => none }
def macLimitsRow : OpenClaim := { program := "ytbpmgjnjcdjdfaadoor", sum := "c1573d37260c7e0c92b51d357780a5ebfe1f841219a091dcdd9c80361b88596b", func := "yett/yettlaw03.MacLimits", spec := "macLimits", unfollowed := true, recurses := true, named := ["yett/sha.keys"], apart := false, laid := [("yett/sha.keys", laid_yett_sha_keys)] }
def MacLimitsSaid : Prop := macLimitsRow.holds Tryd.pinned (OpenSpec.ofChange macLimitsSpec)

/-- ITS FALSE NEIGHBOUR: 'it returns false'. Refute it at one input. -/
def macLimitsWrong : ChangeSpec := { name := "macLimits", fn := fun _ => fun
  | [d1, d2, d3] => { results := [.lit (.bool false)], args := [d1, d2, d3] }
  | _ => none }
def MacLimitsWrongFalsely : Prop := macLimitsRow.holds Tryd.pinned (OpenSpec.ofChange macLimitsWrong)

/- THE SECOND FORM. 'bulk': how many values and letters a reading holds, each counted each time it is reached (what is shared counts as often as it is met; a slice's spare places count too). A statement '..UptoSaid' is the law's where the arguments, and the package variables that the reading takes, are together of bulk at most 1048576: NARROWER than '..Said'. Prove '..Said' where nothing that the law and all that it calls make is longer than what came in: it says more and counts as full. Else prove '..UptoSaid'. A law counts once. -/
mutual
def uptoBulk {H : Type} : DataW H → Nat
  | .lit (.string bytes) => bytes.length + 1
  | .lit _ => 1
  | .nil => 1
  | .ptr d => uptoBulk d + 1
  | .slice elems spare => uptoBulkAll elems + uptoBulkAll spare + 1
  | .agg parts => uptoBulkAll parts + 1
  | .iface _ d => uptoBulk d + 1
  | .map entries => uptoBulkEntries entries + 1
  | .held _ => 1
def uptoBulkAll {H : Type} : List (DataW H) → Nat
  | [] => 0
  | d :: r => uptoBulk d + uptoBulkAll r
def uptoBulkEntries {H : Type} : List (Lit × DataW H) → Nat
  | [] => 0
  | x :: r => uptoBulkEntry x + uptoBulkEntries r
def uptoBulkEntry {H : Type} : Lit × DataW H → Nat
  | (.string bytes, d) => bytes.length + uptoBulk d + 1
  | (_, d) => uptoBulk d + 1
 end
def uptoSmall : (H : Type) → List (DataW H) → Bool := fun _ ds => decide (uptoBulkAll ds ≤ 1048576)
def OpenSpec.upto (s : _root_.Go.ChangeSpec) : _root_.Go.OpenSpec := { _root_.Go.OpenSpec.ofChange s with cond := some uptoSmall }

/-- 'yettlaw03.MacTells', WHERE WHAT IT READS IS OF BULK AT MOST 1048576: true; the input reads as it did. -/
def macTellsUptoRow : OpenClaim := { program := "ytbpmgjnjcdjdfaadoor", sum := "c1573d37260c7e0c92b51d357780a5ebfe1f841219a091dcdd9c80361b88596b", func := "yett/yettlaw03.MacTells", spec := "macTells", unfollowed := true, recurses := true, named := ["yett/sha.keys"], apart := false, laid := [("yett/sha.keys", laid_yett_sha_keys)], narrowed := true }
def MacTellsUptoSaid : Prop := macTellsUptoRow.holds Tryd.pinned (OpenSpec.upto macTellsSpec)

/-- 'yettlaw03.MacDerives', WHERE WHAT IT READS IS OF BULK AT MOST 1048576: true; the input reads as it did. -/
def macDerivesUptoRow : OpenClaim := { program := "ytbpmgjnjcdjdfaadoor", sum := "c1573d37260c7e0c92b51d357780a5ebfe1f841219a091dcdd9c80361b88596b", func := "yett/yettlaw03.MacDerives", spec := "macDerives", unfollowed := true, recurses := true, named := ["yett/sha.keys"], apart := false, laid := [("yett/sha.keys", laid_yett_sha_keys)], narrowed := true }
def MacDerivesUptoSaid : Prop := macDerivesUptoRow.holds Tryd.pinned (OpenSpec.upto macDerivesSpec)

/-- 'yettlaw03.MacBlocks', WHERE WHAT IT READS IS OF BULK AT MOST 1048576: true; the input reads as it did. -/
def macBlocksUptoRow : OpenClaim := { program := "ytbpmgjnjcdjdfaadoor", sum := "c1573d37260c7e0c92b51d357780a5ebfe1f841219a091dcdd9c80361b88596b", func := "yett/yettlaw03.MacBlocks", spec := "macBlocks", unfollowed := true, recurses := true, named := ["yett/sha.keys"], apart := false, laid := [("yett/sha.keys", laid_yett_sha_keys)], narrowed := true }
def MacBlocksUptoSaid : Prop := macBlocksUptoRow.holds Tryd.pinned (OpenSpec.upto macBlocksSpec)

/-- 'yettlaw03.MacInner', WHERE WHAT IT READS IS OF BULK AT MOST 1048576: true; the input reads as it did. -/
def macInnerUptoRow : OpenClaim := { program := "ytbpmgjnjcdjdfaadoor", sum := "c1573d37260c7e0c92b51d357780a5ebfe1f841219a091dcdd9c80361b88596b", func := "yett/yettlaw03.MacInner", spec := "macInner", unfollowed := true, recurses := true, named := ["yett/sha.keys"], apart := false, laid := [("yett/sha.keys", laid_yett_sha_keys)], narrowed := true }
def MacInnerUptoSaid : Prop := macInnerUptoRow.holds Tryd.pinned (OpenSpec.upto macInnerSpec)

/-- 'yettlaw03.MacApart', WHERE WHAT IT READS IS OF BULK AT MOST 1048576: true; the input reads as it did. -/
def macApartUptoRow : OpenClaim := { program := "ytbpmgjnjcdjdfaadoor", sum := "c1573d37260c7e0c92b51d357780a5ebfe1f841219a091dcdd9c80361b88596b", func := "yett/yettlaw03.MacApart", spec := "macApart", unfollowed := true, recurses := true, named := ["yett/sha.keys"], apart := false, laid := [("yett/sha.keys", laid_yett_sha_keys)], narrowed := true }
def MacApartUptoSaid : Prop := macApartUptoRow.holds Tryd.pinned (OpenSpec.upto macApartSpec)

/-- 'yettlaw03.MacSame', WHERE WHAT IT READS IS OF BULK AT MOST 1048576: true; the input reads as it did. -/
def macSameUptoRow : OpenClaim := { program := "ytbpmgjnjcdjdfaadoor", sum := "c1573d37260c7e0c92b51d357780a5ebfe1f841219a091dcdd9c80361b88596b", func := "yett/yettlaw03.MacSame", spec := "macSame", unfollowed := true, recurses := true, named := ["yett/sha.keys"], apart := false, laid := [("yett/sha.keys", laid_yett_sha_keys)], narrowed := true }
def MacSameUptoSaid : Prop := macSameUptoRow.holds Tryd.pinned (OpenSpec.upto macSameSpec)

/-- 'yettlaw03.MacLimits', WHERE WHAT IT READS IS OF BULK AT MOST 1048576: true; the input reads as it did. -/
def macLimitsUptoRow : OpenClaim := { program := "ytbpmgjnjcdjdfaadoor", sum := "c1573d37260c7e0c92b51d357780a5ebfe1f841219a091dcdd9c80361b88596b", func := "yett/yettlaw03.MacLimits", spec := "macLimits", unfollowed := true, recurses := true, named := ["yett/sha.keys"], apart := false, laid := [("yett/sha.keys", laid_yett_sha_keys)], narrowed := true }
def MacLimitsUptoSaid : Prop := macLimitsUptoRow.holds Tryd.pinned (OpenSpec.upto macLimitsSpec)

end Rows
end Go.Proofs.YtbpmgjnjcdjdfaaDoor
