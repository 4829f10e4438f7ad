/-
  NARROWER THAN 'FOR EVERY INPUT', by the rows' own cells (each row's printed sentence says how): LaneSends: laid · LaneTakes: laid · LaneBack: laid · LaneOnly: laid · LaneStays: laid · LaneForged: laid · LaneLeft: laid · LaneTells: laid · LaneKeys: laid.
  DERIVED. THE GIVEN ROWS OF THIS SEAT. 9 by the template 'for every input the law returns true; each argument reads behind the call as it read before'; 0 by the template 'total and deterministic' (their statements: YtadpiemjgfndgaaGreatDoorTotals.lean).
  GIVEN WITH THE SEED: the statements are not yours to turn. If you find one false, say at which input.
  Laid BY PROGRAM, IN A SANDBOX (cutbox-rows.mjs): the forced cells as the released guide's own fill.sh prints them over the translation 93f35d44993621e0… (all of the seat's roots in one cut). By AI agents, Wed Nov 11 2026. No macro, syntax, notation, axiom, sorry.
-/
import Derived.Test.YtadpiemjgfndgaaGreatDoorChecked
import GoSem.Claim
import GoSem.ClaimJoined
import GoSem.ClaimMapViews
import Derived.JoinedTies
import Derived.KernelRfl
namespace Go.Proofs.YtadpiemjgfndgaaGreatDoor
/- THE CELL 'sum', in the pinned program and in every row, IS THE sha256 OF THE DUMP (.gsa) THAT YtadpiemjgfndgaaGreatDoorProg.lean LOADS. Nothing in Lean hashes anything: it is a label: what it is worth is what the hold of that sum in a sandbox is worth. -/
noncomputable def Tryz.pinned : Pinned := { name := "ytadpiemjgfndgaagreatdoor", sum := "93f35d44993621e0f189a7de6261eff662fc24d79396d3675527731f43c44704", checked := Tryz.checked }
namespace Rows
def none {H : Type} : Left H := { results := [], args := [] }

/- WHAT THE LISTED PACKAGE-LEVEL VARIABLES READ AS WHEN THE CALL BEGINS. Each datum BY PROGRAM (the guide's laid-datum.mjs) off the statement by which the dump's own 'gosem.cut.vars' lays the variable. In a bare row this is a premise. The card (YtadpiemjgfndgaaGreatDoorCards.lean) ties it to the program's text. -/
def laid_yett_sha_keys {H : Type} : DataW H := .agg [.lit (.int .u32 1116352408), .lit (.int .u32 1899447441), .lit (.int .u32 3049323471), .lit (.int .u32 3921009573), .lit (.int .u32 961987163), .lit (.int .u32 1508970993), .lit (.int .u32 2453635748), .lit (.int .u32 2870763221), .lit (.int .u32 3624381080), .lit (.int .u32 310598401), .lit (.int .u32 607225278), .lit (.int .u32 1426881987), .lit (.int .u32 1925078388), .lit (.int .u32 2162078206), .lit (.int .u32 2614888103), .lit (.int .u32 3248222580), .lit (.int .u32 3835390401), .lit (.int .u32 4022224774), .lit (.int .u32 264347078), .lit (.int .u32 604807628), .lit (.int .u32 770255983), .lit (.int .u32 1249150122), .lit (.int .u32 1555081692), .lit (.int .u32 1996064986), .lit (.int .u32 2554220882), .lit (.int .u32 2821834349), .lit (.int .u32 2952996808), .lit (.int .u32 3210313671), .lit (.int .u32 3336571891), .lit (.int .u32 3584528711), .lit (.int .u32 113926993), .lit (.int .u32 338241895), .lit (.int .u32 666307205), .lit (.int .u32 773529912), .lit (.int .u32 1294757372), .lit (.int .u32 1396182291), .lit (.int .u32 1695183700), .lit (.int .u32 1986661051), .lit (.int .u32 2177026350), .lit (.int .u32 2456956037), .lit (.int .u32 2730485921), .lit (.int .u32 2820302411), .lit (.int .u32 3259730800), .lit (.int .u32 3345764771), .lit (.int .u32 3516065817), .lit (.int .u32 3600352804), .lit (.int .u32 4094571909), .lit (.int .u32 275423344), .lit (.int .u32 430227734), .lit (.int .u32 506948616), .lit (.int .u32 659060556), .lit (.int .u32 883997877), .lit (.int .u32 958139571), .lit (.int .u32 1322822218), .lit (.int .u32 1537002063), .lit (.int .u32 1747873779), .lit (.int .u32 1955562222), .lit (.int .u32 2024104815), .lit (.int .u32 2227730452), .lit (.int .u32 2361852424), .lit (.int .u32 2428436474), .lit (.int .u32 2756734187), .lit (.int .u32 3204031479), .lit (.int .u32 3329325298)]

/-- 'yettlaw18.LaneSends': WHATEVER THE INPUT: true; the input reads as it did. -/
def laneSendsSpec : ChangeSpec := { name := "laneSends", fn := fun _ => fun
  | [d1, d2, d3] => { results := [.lit (.bool true)], args := [d1, d2, d3] }
  | _ => none }
def laneSendsRow : OpenClaim := { program := "ytadpiemjgfndgaagreatdoor", sum := "93f35d44993621e0f189a7de6261eff662fc24d79396d3675527731f43c44704", func := "yett/yettlaw18.LaneSends", spec := "laneSends", unfollowed := true, recurses := true, named := ["yett/sha.keys"], apart := false, laid := [("yett/sha.keys", laid_yett_sha_keys)] }
def LaneSendsSaid : Prop := laneSendsRow.holds Tryz.pinned (OpenSpec.ofChange laneSendsSpec)

/-- ITS FALSE NEIGHBOUR: 'it returns false'. Refute it at one input. -/
def laneSendsWrong : ChangeSpec := { name := "laneSends", fn := fun _ => fun
  | [d1, d2, d3] => { results := [.lit (.bool false)], args := [d1, d2, d3] }
  | _ => none }
def LaneSendsWrongFalsely : Prop := laneSendsRow.holds Tryz.pinned (OpenSpec.ofChange laneSendsWrong)

/-- 'yettlaw18.LaneTakes': WHATEVER THE INPUT: true; the input reads as it did. -/
def laneTakesSpec : ChangeSpec := { name := "laneTakes", fn := fun _ => fun
  | [d1, d2, d3] => { results := [.lit (.bool true)], args := [d1, d2, d3] }
  | _ => none }
def laneTakesRow : OpenClaim := { program := "ytadpiemjgfndgaagreatdoor", sum := "93f35d44993621e0f189a7de6261eff662fc24d79396d3675527731f43c44704", func := "yett/yettlaw18.LaneTakes", spec := "laneTakes", unfollowed := true, recurses := true, named := ["yett/sha.keys"], apart := false, laid := [("yett/sha.keys", laid_yett_sha_keys)] }
def LaneTakesSaid : Prop := laneTakesRow.holds Tryz.pinned (OpenSpec.ofChange laneTakesSpec)

/-- ITS FALSE NEIGHBOUR: 'it returns false'. Refute it at one input. -/
def laneTakesWrong : ChangeSpec := { name := "laneTakes", fn := fun _ => fun
  | [d1, d2, d3] => { results := [.lit (.bool false)], args := [d1, d2, d3] }
  | _ => none }
def LaneTakesWrongFalsely : Prop := laneTakesRow.holds Tryz.pinned (OpenSpec.ofChange laneTakesWrong)

/-- 'yettlaw18.LaneBack': WHATEVER THE INPUT: true; the input reads as it did. -/
def laneBackSpec : ChangeSpec := { name := "laneBack", fn := fun _ => fun
  | [d1, d2] => { results := [.lit (.bool true)], args := [d1, d2] }
  | _ => none }
def laneBackRow : OpenClaim := { program := "ytadpiemjgfndgaagreatdoor", sum := "93f35d44993621e0f189a7de6261eff662fc24d79396d3675527731f43c44704", func := "yett/yettlaw18.LaneBack", spec := "laneBack", unfollowed := true, recurses := true, named := ["yett/sha.keys"], apart := false, laid := [("yett/sha.keys", laid_yett_sha_keys)] }
def LaneBackSaid : Prop := laneBackRow.holds Tryz.pinned (OpenSpec.ofChange laneBackSpec)

/-- ITS FALSE NEIGHBOUR: 'it returns false'. Refute it at one input. -/
def laneBackWrong : ChangeSpec := { name := "laneBack", fn := fun _ => fun
  | [d1, d2] => { results := [.lit (.bool false)], args := [d1, d2] }
  | _ => none }
def LaneBackWrongFalsely : Prop := laneBackRow.holds Tryz.pinned (OpenSpec.ofChange laneBackWrong)

/-- 'yettlaw18.LaneOnly': WHATEVER THE INPUT: true; the input reads as it did. -/
def laneOnlySpec : ChangeSpec := { name := "laneOnly", fn := fun _ => fun
  | [d1, d2] => { results := [.lit (.bool true)], args := [d1, d2] }
  | _ => none }
def laneOnlyRow : OpenClaim := { program := "ytadpiemjgfndgaagreatdoor", sum := "93f35d44993621e0f189a7de6261eff662fc24d79396d3675527731f43c44704", func := "yett/yettlaw18.LaneOnly", spec := "laneOnly", unfollowed := true, recurses := true, named := ["yett/sha.keys"], apart := false, laid := [("yett/sha.keys", laid_yett_sha_keys)] }
def LaneOnlySaid : Prop := laneOnlyRow.holds Tryz.pinned (OpenSpec.ofChange laneOnlySpec)

/-- ITS FALSE NEIGHBOUR: 'it returns false'. Refute it at one input. -/
def laneOnlyWrong : ChangeSpec := { name := "laneOnly", fn := fun _ => fun
  | [d1, d2] => { results := [.lit (.bool false)], args := [d1, d2] }
  | _ => none }
def LaneOnlyWrongFalsely : Prop := laneOnlyRow.holds Tryz.pinned (OpenSpec.ofChange laneOnlyWrong)

/-- 'yettlaw18.LaneStays': WHATEVER THE INPUT: true; the input reads as it did. -/
def laneStaysSpec : ChangeSpec := { name := "laneStays", fn := fun _ => fun
  | [d] => { results := [.lit (.bool true)], args := [d] }
  | _ => none }
def laneStaysRow : OpenClaim := { program := "ytadpiemjgfndgaagreatdoor", sum := "93f35d44993621e0f189a7de6261eff662fc24d79396d3675527731f43c44704", func := "yett/yettlaw18.LaneStays", spec := "laneStays", unfollowed := true, recurses := true, named := ["yett/sha.keys"], apart := false, laid := [("yett/sha.keys", laid_yett_sha_keys)] }
def LaneStaysSaid : Prop := laneStaysRow.holds Tryz.pinned (OpenSpec.ofChange laneStaysSpec)

/-- ITS FALSE NEIGHBOUR: 'it returns false'. Refute it at one input. -/
def laneStaysWrong : ChangeSpec := { name := "laneStays", fn := fun _ => fun
  | [d] => { results := [.lit (.bool false)], args := [d] }
  | _ => none }
def LaneStaysWrongFalsely : Prop := laneStaysRow.holds Tryz.pinned (OpenSpec.ofChange laneStaysWrong)

/-- 'yettlaw18.LaneForged': WHATEVER THE INPUT: true; the input reads as it did. -/
def laneForgedSpec : ChangeSpec := { name := "laneForged", fn := fun _ => fun
  | [d] => { results := [.lit (.bool true)], args := [d] }
  | _ => none }
def laneForgedRow : OpenClaim := { program := "ytadpiemjgfndgaagreatdoor", sum := "93f35d44993621e0f189a7de6261eff662fc24d79396d3675527731f43c44704", func := "yett/yettlaw18.LaneForged", spec := "laneForged", unfollowed := true, recurses := true, named := ["yett/sha.keys"], apart := false, laid := [("yett/sha.keys", laid_yett_sha_keys)] }
def LaneForgedSaid : Prop := laneForgedRow.holds Tryz.pinned (OpenSpec.ofChange laneForgedSpec)

/-- ITS FALSE NEIGHBOUR: 'it returns false'. Refute it at one input. -/
def laneForgedWrong : ChangeSpec := { name := "laneForged", fn := fun _ => fun
  | [d] => { results := [.lit (.bool false)], args := [d] }
  | _ => none }
def LaneForgedWrongFalsely : Prop := laneForgedRow.holds Tryz.pinned (OpenSpec.ofChange laneForgedWrong)

/-- 'yettlaw18.LaneLeft': WHATEVER THE INPUT: true; the input reads as it did. -/
def laneLeftSpec : ChangeSpec := { name := "laneLeft", fn := fun _ => fun
  | [d] => { results := [.lit (.bool true)], args := [d] }
  | _ => none }
def laneLeftRow : OpenClaim := { program := "ytadpiemjgfndgaagreatdoor", sum := "93f35d44993621e0f189a7de6261eff662fc24d79396d3675527731f43c44704", func := "yett/yettlaw18.LaneLeft", spec := "laneLeft", unfollowed := true, recurses := true, named := ["yett/sha.keys"], apart := false, laid := [("yett/sha.keys", laid_yett_sha_keys)] }
def LaneLeftSaid : Prop := laneLeftRow.holds Tryz.pinned (OpenSpec.ofChange laneLeftSpec)

/-- ITS FALSE NEIGHBOUR: 'it returns false'. Refute it at one input. -/
def laneLeftWrong : ChangeSpec := { name := "laneLeft", fn := fun _ => fun
  | [d] => { results := [.lit (.bool false)], args := [d] }
  | _ => none }
def LaneLeftWrongFalsely : Prop := laneLeftRow.holds Tryz.pinned (OpenSpec.ofChange laneLeftWrong)

/-- 'yettlaw18.LaneTells': WHATEVER THE INPUT: true; the input reads as it did. -/
def laneTellsSpec : ChangeSpec := { name := "laneTells", fn := fun _ => fun
  | [d] => { results := [.lit (.bool true)], args := [d] }
  | _ => none }
def laneTellsRow : OpenClaim := { program := "ytadpiemjgfndgaagreatdoor", sum := "93f35d44993621e0f189a7de6261eff662fc24d79396d3675527731f43c44704", func := "yett/yettlaw18.LaneTells", spec := "laneTells", unfollowed := true, recurses := true, named := ["yett/sha.keys"], apart := false, laid := [("yett/sha.keys", laid_yett_sha_keys)] }
def LaneTellsSaid : Prop := laneTellsRow.holds Tryz.pinned (OpenSpec.ofChange laneTellsSpec)

/-- ITS FALSE NEIGHBOUR: 'it returns false'. Refute it at one input. -/
def laneTellsWrong : ChangeSpec := { name := "laneTells", fn := fun _ => fun
  | [d] => { results := [.lit (.bool false)], args := [d] }
  | _ => none }
def LaneTellsWrongFalsely : Prop := laneTellsRow.holds Tryz.pinned (OpenSpec.ofChange laneTellsWrong)

/-- 'yettlaw18.LaneKeys': WHATEVER THE INPUT: true; the input reads as it did. -/
def laneKeysSpec : ChangeSpec := { name := "laneKeys", fn := fun _ => fun
  | [d] => { results := [.lit (.bool true)], args := [d] }
  | _ => none }
def laneKeysRow : OpenClaim := { program := "ytadpiemjgfndgaagreatdoor", sum := "93f35d44993621e0f189a7de6261eff662fc24d79396d3675527731f43c44704", func := "yett/yettlaw18.LaneKeys", spec := "laneKeys", unfollowed := true, recurses := true, named := ["yett/sha.keys"], apart := false, laid := [("yett/sha.keys", laid_yett_sha_keys)] }
def LaneKeysSaid : Prop := laneKeysRow.holds Tryz.pinned (OpenSpec.ofChange laneKeysSpec)

/-- ITS FALSE NEIGHBOUR: 'it returns false'. Refute it at one input. -/
def laneKeysWrong : ChangeSpec := { name := "laneKeys", fn := fun _ => fun
  | [d] => { results := [.lit (.bool false)], args := [d] }
  | _ => none }
def LaneKeysWrongFalsely : Prop := laneKeysRow.holds Tryz.pinned (OpenSpec.ofChange laneKeysWrong)

/- THE SECOND FORM. 'bulk': how many values and letters a reading holds, each counted each time it is reached (what is shared counts as often as it is met; a slice's spare places count too). A statement '..UptoSaid' is the law's where the arguments, and the package variables that the reading takes, are together of bulk at most 1048576: NARROWER than '..Said'. Prove '..Said' where nothing that the law and all that it calls make is longer than what came in: it says more and counts as full. Else prove '..UptoSaid'. A law counts once. -/
mutual
def uptoBulk {H : Type} : DataW H → Nat
  | .lit (.string bytes) => bytes.length + 1
  | .lit _ => 1
  | .nil => 1
  | .ptr d => uptoBulk d + 1
  | .slice elems spare => uptoBulkAll elems + uptoBulkAll spare + 1
  | .agg parts => uptoBulkAll parts + 1
  | .iface _ d => uptoBulk d + 1
  | .map entries => uptoBulkEntries entries + 1
  | .held _ => 1
def uptoBulkAll {H : Type} : List (DataW H) → Nat
  | [] => 0
  | d :: r => uptoBulk d + uptoBulkAll r
def uptoBulkEntries {H : Type} : List (Lit × DataW H) → Nat
  | [] => 0
  | x :: r => uptoBulkEntry x + uptoBulkEntries r
def uptoBulkEntry {H : Type} : Lit × DataW H → Nat
  | (.string bytes, d) => bytes.length + uptoBulk d + 1
  | (_, d) => uptoBulk d + 1
 end
def uptoSmall : (H : Type) → List (DataW H) → Bool := fun _ ds => decide (uptoBulkAll ds ≤ 1048576)
def OpenSpec.upto (s : _root_.Go.ChangeSpec) : _root_.Go.OpenSpec := { _root_.Go.OpenSpec.ofChange s with cond := some uptoSmall }

/-- 'yettlaw18.LaneSends', WHERE WHAT IT READS IS OF BULK AT MOST 1048576: true; the input reads as it did. -/
def laneSendsUptoRow : OpenClaim := { program := "ytadpiemjgfndgaagreatdoor", sum := "93f35d44993621e0f189a7de6261eff662fc24d79396d3675527731f43c44704", func := "yett/yettlaw18.LaneSends", spec := "laneSends", unfollowed := true, recurses := true, named := ["yett/sha.keys"], apart := false, laid := [("yett/sha.keys", laid_yett_sha_keys)], narrowed := true }
def LaneSendsUptoSaid : Prop := laneSendsUptoRow.holds Tryz.pinned (OpenSpec.upto laneSendsSpec)

/-- 'yettlaw18.LaneTakes', WHERE WHAT IT READS IS OF BULK AT MOST 1048576: true; the input reads as it did. -/
def laneTakesUptoRow : OpenClaim := { program := "ytadpiemjgfndgaagreatdoor", sum := "93f35d44993621e0f189a7de6261eff662fc24d79396d3675527731f43c44704", func := "yett/yettlaw18.LaneTakes", spec := "laneTakes", unfollowed := true, recurses := true, named := ["yett/sha.keys"], apart := false, laid := [("yett/sha.keys", laid_yett_sha_keys)], narrowed := true }
def LaneTakesUptoSaid : Prop := laneTakesUptoRow.holds Tryz.pinned (OpenSpec.upto laneTakesSpec)

/-- 'yettlaw18.LaneBack', WHERE WHAT IT READS IS OF BULK AT MOST 1048576: true; the input reads as it did. -/
def laneBackUptoRow : OpenClaim := { program := "ytadpiemjgfndgaagreatdoor", sum := "93f35d44993621e0f189a7de6261eff662fc24d79396d3675527731f43c44704", func := "yett/yettlaw18.LaneBack", spec := "laneBack", unfollowed := true, recurses := true, named := ["yett/sha.keys"], apart := false, laid := [("yett/sha.keys", laid_yett_sha_keys)], narrowed := true }
def LaneBackUptoSaid : Prop := laneBackUptoRow.holds Tryz.pinned (OpenSpec.upto laneBackSpec)

/-- 'yettlaw18.LaneOnly', WHERE WHAT IT READS IS OF BULK AT MOST 1048576: true; the input reads as it did. -/
def laneOnlyUptoRow : OpenClaim := { program := "ytadpiemjgfndgaagreatdoor", sum := "93f35d44993621e0f189a7de6261eff662fc24d79396d3675527731f43c44704", func := "yett/yettlaw18.LaneOnly", spec := "laneOnly", unfollowed := true, recurses := true, named := ["yett/sha.keys"], apart := false, laid := [("yett/sha.keys", laid_yett_sha_keys)], narrowed := true }
def LaneOnlyUptoSaid : Prop := laneOnlyUptoRow.holds Tryz.pinned (OpenSpec.upto laneOnlySpec)

/-- 'yettlaw18.LaneStays', WHERE WHAT IT READS IS OF BULK AT MOST 1048576: true; the input reads as it did. -/
def laneStaysUptoRow : OpenClaim := { program := "ytadpiemjgfndgaagreatdoor", sum := "93f35d44993621e0f189a7de6261eff662fc24d79396d3675527731f43c44704", func := "yett/yettlaw18.LaneStays", spec := "laneStays", unfollowed := true, recurses := true, named := ["yett/sha.keys"], apart := false, laid := [("yett/sha.keys", laid_yett_sha_keys)], narrowed := true }
def LaneStaysUptoSaid : Prop := laneStaysUptoRow.holds Tryz.pinned (OpenSpec.upto laneStaysSpec)

/-- 'yettlaw18.LaneForged', WHERE WHAT IT READS IS OF BULK AT MOST 1048576: true; the input reads as it did. -/
def laneForgedUptoRow : OpenClaim := { program := "ytadpiemjgfndgaagreatdoor", sum := "93f35d44993621e0f189a7de6261eff662fc24d79396d3675527731f43c44704", func := "yett/yettlaw18.LaneForged", spec := "laneForged", unfollowed := true, recurses := true, named := ["yett/sha.keys"], apart := false, laid := [("yett/sha.keys", laid_yett_sha_keys)], narrowed := true }
def LaneForgedUptoSaid : Prop := laneForgedUptoRow.holds Tryz.pinned (OpenSpec.upto laneForgedSpec)

/-- 'yettlaw18.LaneLeft', WHERE WHAT IT READS IS OF BULK AT MOST 1048576: true; the input reads as it did. -/
def laneLeftUptoRow : OpenClaim := { program := "ytadpiemjgfndgaagreatdoor", sum := "93f35d44993621e0f189a7de6261eff662fc24d79396d3675527731f43c44704", func := "yett/yettlaw18.LaneLeft", spec := "laneLeft", unfollowed := true, recurses := true, named := ["yett/sha.keys"], apart := false, laid := [("yett/sha.keys", laid_yett_sha_keys)], narrowed := true }
def LaneLeftUptoSaid : Prop := laneLeftUptoRow.holds Tryz.pinned (OpenSpec.upto laneLeftSpec)

/-- 'yettlaw18.LaneTells', WHERE WHAT IT READS IS OF BULK AT MOST 1048576: true; the input reads as it did. -/
def laneTellsUptoRow : OpenClaim := { program := "ytadpiemjgfndgaagreatdoor", sum := "93f35d44993621e0f189a7de6261eff662fc24d79396d3675527731f43c44704", func := "yett/yettlaw18.LaneTells", spec := "laneTells", unfollowed := true, recurses := true, named := ["yett/sha.keys"], apart := false, laid := [("yett/sha.keys", laid_yett_sha_keys)], narrowed := true }
def LaneTellsUptoSaid : Prop := laneTellsUptoRow.holds Tryz.pinned (OpenSpec.upto laneTellsSpec)

/-- 'yettlaw18.LaneKeys', WHERE WHAT IT READS IS OF BULK AT MOST 1048576: true; the input reads as it did. -/
def laneKeysUptoRow : OpenClaim := { program := "ytadpiemjgfndgaagreatdoor", sum := "93f35d44993621e0f189a7de6261eff662fc24d79396d3675527731f43c44704", func := "yett/yettlaw18.LaneKeys", spec := "laneKeys", unfollowed := true, recurses := true, named := ["yett/sha.keys"], apart := false, laid := [("yett/sha.keys", laid_yett_sha_keys)], narrowed := true }
def LaneKeysUptoSaid : Prop := laneKeysUptoRow.holds Tryz.pinned (OpenSpec.upto laneKeysSpec)

end Rows
end Go.Proofs.YtadpiemjgfndgaaGreatDoor
