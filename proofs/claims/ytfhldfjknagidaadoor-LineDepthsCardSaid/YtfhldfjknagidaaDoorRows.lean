/-
  NARROWER THAN 'FOR EVERY INPUT', by the rows' own cells (each row's printed sentence says how): DagClosed: laid · DagKeeps: laid · DagTwice: laid · DagDoes: laid · ListStays: laid · ListCounts: laid · LineDepths: laid.
  DERIVED. THE GIVEN ROWS OF THIS SEAT. 7 by the template 'for every input the law returns true; each argument reads behind the call as it read before'; 0 by the template 'total and deterministic' (their statements: YtfhldfjknagidaaDoorTotals.lean).
  GIVEN WITH THE SEED: the statements are not yours to turn. If you find one false, say at which input.
  Laid BY PROGRAM, IN A SANDBOX (cutbox-rows.mjs): the forced cells as the released guide's own fill.sh prints them over the translation fc14f990e420361a… (all of the seat's roots in one cut). By AI agents, Wed Nov 11 2026. No macro, syntax, notation, axiom, sorry.
-/
import Derived.Test.YtfhldfjknagidaaDoorChecked
import GoSem.Claim
import GoSem.ClaimJoined
import GoSem.ClaimMapViews
import Derived.JoinedTies
import Derived.KernelRfl
namespace Go.Proofs.YtfhldfjknagidaaDoor
/- THE CELL 'sum', in the pinned program and in every row, IS THE sha256 OF THE DUMP (.gsa) THAT YtfhldfjknagidaaDoorProg.lean LOADS. Nothing in Lean hashes anything: it is a label: what it is worth is what the hold of that sum in a sandbox is worth. -/
noncomputable def Tryd.pinned : Pinned := { name := "ytfhldfjknagidaadoor", sum := "fc14f990e420361affcff0a479d1ad24350667fda20acef915e4a36b3256790d", checked := Tryd.checked }
namespace Rows
def none {H : Type} : Left H := { results := [], args := [] }

/- WHAT THE LISTED PACKAGE-LEVEL VARIABLES READ AS WHEN THE CALL BEGINS. Each datum BY PROGRAM (the guide's laid-datum.mjs) off the statement by which the dump's own 'gosem.cut.vars' lays the variable. In a bare row this is a premise. The card (YtfhldfjknagidaaDoorCards.lean) ties it to the program's text. -/
def laid_tribunal_sha_start {H : Type} : DataW H := .agg [.lit (.int .u32 1779033703), .lit (.int .u32 3144134277), .lit (.int .u32 1013904242), .lit (.int .u32 2773480762), .lit (.int .u32 1359893119), .lit (.int .u32 2600822924), .lit (.int .u32 528734635), .lit (.int .u32 1541459225)]
def laid_tribunal_sha_round {H : Type} : DataW H := .agg [.lit (.int .u32 1116352408), .lit (.int .u32 1899447441), .lit (.int .u32 3049323471), .lit (.int .u32 3921009573), .lit (.int .u32 961987163), .lit (.int .u32 1508970993), .lit (.int .u32 2453635748), .lit (.int .u32 2870763221), .lit (.int .u32 3624381080), .lit (.int .u32 310598401), .lit (.int .u32 607225278), .lit (.int .u32 1426881987), .lit (.int .u32 1925078388), .lit (.int .u32 2162078206), .lit (.int .u32 2614888103), .lit (.int .u32 3248222580), .lit (.int .u32 3835390401), .lit (.int .u32 4022224774), .lit (.int .u32 264347078), .lit (.int .u32 604807628), .lit (.int .u32 770255983), .lit (.int .u32 1249150122), .lit (.int .u32 1555081692), .lit (.int .u32 1996064986), .lit (.int .u32 2554220882), .lit (.int .u32 2821834349), .lit (.int .u32 2952996808), .lit (.int .u32 3210313671), .lit (.int .u32 3336571891), .lit (.int .u32 3584528711), .lit (.int .u32 113926993), .lit (.int .u32 338241895), .lit (.int .u32 666307205), .lit (.int .u32 773529912), .lit (.int .u32 1294757372), .lit (.int .u32 1396182291), .lit (.int .u32 1695183700), .lit (.int .u32 1986661051), .lit (.int .u32 2177026350), .lit (.int .u32 2456956037), .lit (.int .u32 2730485921), .lit (.int .u32 2820302411), .lit (.int .u32 3259730800), .lit (.int .u32 3345764771), .lit (.int .u32 3516065817), .lit (.int .u32 3600352804), .lit (.int .u32 4094571909), .lit (.int .u32 275423344), .lit (.int .u32 430227734), .lit (.int .u32 506948616), .lit (.int .u32 659060556), .lit (.int .u32 883997877), .lit (.int .u32 958139571), .lit (.int .u32 1322822218), .lit (.int .u32 1537002063), .lit (.int .u32 1747873779), .lit (.int .u32 1955562222), .lit (.int .u32 2024104815), .lit (.int .u32 2227730452), .lit (.int .u32 2361852424), .lit (.int .u32 2428436474), .lit (.int .u32 2756734187), .lit (.int .u32 3204031479), .lit (.int .u32 3329325298)]

/-- 'tribunallaw10.DagClosed': WHATEVER THE INPUT: true; the input reads as it did. -/
def dagClosedSpec : ChangeSpec := { name := "dagClosed", fn := fun _ => fun
  | [d1, d2] => { results := [.lit (.bool true)], args := [d1, d2] }
  | _ => none }
def dagClosedRow : OpenClaim := { program := "ytfhldfjknagidaadoor", sum := "fc14f990e420361affcff0a479d1ad24350667fda20acef915e4a36b3256790d", func := "tribunal/tribunallaw10.DagClosed", spec := "dagClosed", inPlace := ["internal/bytealg.Compare"], unfollowed := true, recurses := true, named := ["tribunal/sha.start", "tribunal/sha.round"], plainKeys := false, apart := false, laid := [("tribunal/sha.start", laid_tribunal_sha_start), ("tribunal/sha.round", laid_tribunal_sha_round)] }
def DagClosedSaid : Prop := dagClosedRow.holds Tryd.pinned (OpenSpec.ofChange dagClosedSpec)

/-- ITS FALSE NEIGHBOUR: 'it returns false'. Refute it at one input. -/
def dagClosedWrong : ChangeSpec := { name := "dagClosed", fn := fun _ => fun
  | [d1, d2] => { results := [.lit (.bool false)], args := [d1, d2] }
  | _ => none }
def DagClosedWrongFalsely : Prop := dagClosedRow.holds Tryd.pinned (OpenSpec.ofChange dagClosedWrong)

/-- 'tribunallaw10.DagKeeps': WHATEVER THE INPUT: true; the input reads as it did. -/
def dagKeepsSpec : ChangeSpec := { name := "dagKeeps", fn := fun _ => fun
  | [d] => { results := [.lit (.bool true)], args := [d] }
  | _ => none }
def dagKeepsRow : OpenClaim := { program := "ytfhldfjknagidaadoor", sum := "fc14f990e420361affcff0a479d1ad24350667fda20acef915e4a36b3256790d", func := "tribunal/tribunallaw10.DagKeeps", spec := "dagKeeps", inPlace := ["internal/bytealg.Compare"], unfollowed := true, recurses := true, named := ["tribunal/sha.start", "tribunal/sha.round"], plainKeys := false, apart := false, laid := [("tribunal/sha.start", laid_tribunal_sha_start), ("tribunal/sha.round", laid_tribunal_sha_round)] }
def DagKeepsSaid : Prop := dagKeepsRow.holds Tryd.pinned (OpenSpec.ofChange dagKeepsSpec)

/-- ITS FALSE NEIGHBOUR: 'it returns false'. Refute it at one input. -/
def dagKeepsWrong : ChangeSpec := { name := "dagKeeps", fn := fun _ => fun
  | [d] => { results := [.lit (.bool false)], args := [d] }
  | _ => none }
def DagKeepsWrongFalsely : Prop := dagKeepsRow.holds Tryd.pinned (OpenSpec.ofChange dagKeepsWrong)

/-- 'tribunallaw10.DagTwice': WHATEVER THE INPUT: true; the input reads as it did. -/
def dagTwiceSpec : ChangeSpec := { name := "dagTwice", fn := fun _ => fun
  | [d] => { results := [.lit (.bool true)], args := [d] }
  | _ => none }
def dagTwiceRow : OpenClaim := { program := "ytfhldfjknagidaadoor", sum := "fc14f990e420361affcff0a479d1ad24350667fda20acef915e4a36b3256790d", func := "tribunal/tribunallaw10.DagTwice", spec := "dagTwice", inPlace := ["internal/bytealg.Compare"], unfollowed := true, recurses := true, named := ["tribunal/sha.start", "tribunal/sha.round"], plainKeys := false, apart := false, laid := [("tribunal/sha.start", laid_tribunal_sha_start), ("tribunal/sha.round", laid_tribunal_sha_round)] }
def DagTwiceSaid : Prop := dagTwiceRow.holds Tryd.pinned (OpenSpec.ofChange dagTwiceSpec)

/-- ITS FALSE NEIGHBOUR: 'it returns false'. Refute it at one input. -/
def dagTwiceWrong : ChangeSpec := { name := "dagTwice", fn := fun _ => fun
  | [d] => { results := [.lit (.bool false)], args := [d] }
  | _ => none }
def DagTwiceWrongFalsely : Prop := dagTwiceRow.holds Tryd.pinned (OpenSpec.ofChange dagTwiceWrong)

/-- 'tribunallaw10.DagDoes': WHATEVER THE INPUT: true; the input reads as it did. -/
def dagDoesSpec : ChangeSpec := { name := "dagDoes", fn := fun _ => fun
  | [d1, d2, d3, d4, d5] => { results := [.lit (.bool true)], args := [d1, d2, d3, d4, d5] }
  | _ => none }
def dagDoesRow : OpenClaim := { program := "ytfhldfjknagidaadoor", sum := "fc14f990e420361affcff0a479d1ad24350667fda20acef915e4a36b3256790d", func := "tribunal/tribunallaw10.DagDoes", spec := "dagDoes", inPlace := ["internal/bytealg.Compare"], unfollowed := true, recurses := true, named := ["tribunal/sha.start", "tribunal/sha.round"], plainKeys := false, apart := false, laid := [("tribunal/sha.start", laid_tribunal_sha_start), ("tribunal/sha.round", laid_tribunal_sha_round)] }
def DagDoesSaid : Prop := dagDoesRow.holds Tryd.pinned (OpenSpec.ofChange dagDoesSpec)

/-- ITS FALSE NEIGHBOUR: 'it returns false'. Refute it at one input. -/
def dagDoesWrong : ChangeSpec := { name := "dagDoes", fn := fun _ => fun
  | [d1, d2, d3, d4, d5] => { results := [.lit (.bool false)], args := [d1, d2, d3, d4, d5] }
  | _ => none }
def DagDoesWrongFalsely : Prop := dagDoesRow.holds Tryd.pinned (OpenSpec.ofChange dagDoesWrong)

/-- 'tribunallaw13.ListStays': WHATEVER THE INPUT: true; the input reads as it did. -/
def listStaysSpec : ChangeSpec := { name := "listStays", fn := fun _ => fun
  | [d1, d2] => { results := [.lit (.bool true)], args := [d1, d2] }
  | _ => none }
def listStaysRow : OpenClaim := { program := "ytfhldfjknagidaadoor", sum := "fc14f990e420361affcff0a479d1ad24350667fda20acef915e4a36b3256790d", func := "tribunal/tribunallaw13.ListStays", spec := "listStays", inPlace := ["internal/bytealg.Compare"], unfollowed := true, recurses := true, named := ["tribunal/sha.start", "tribunal/sha.round"], plainKeys := false, apart := false, laid := [("tribunal/sha.start", laid_tribunal_sha_start), ("tribunal/sha.round", laid_tribunal_sha_round)] }
def ListStaysSaid : Prop := listStaysRow.holds Tryd.pinned (OpenSpec.ofChange listStaysSpec)

/-- ITS FALSE NEIGHBOUR: 'it returns false'. Refute it at one input. -/
def listStaysWrong : ChangeSpec := { name := "listStays", fn := fun _ => fun
  | [d1, d2] => { results := [.lit (.bool false)], args := [d1, d2] }
  | _ => none }
def ListStaysWrongFalsely : Prop := listStaysRow.holds Tryd.pinned (OpenSpec.ofChange listStaysWrong)

/-- 'tribunallaw13.ListCounts': WHATEVER THE INPUT: true; the input reads as it did. -/
def listCountsSpec : ChangeSpec := { name := "listCounts", fn := fun _ => fun
  | [d] => { results := [.lit (.bool true)], args := [d] }
  | _ => none }
def listCountsRow : OpenClaim := { program := "ytfhldfjknagidaadoor", sum := "fc14f990e420361affcff0a479d1ad24350667fda20acef915e4a36b3256790d", func := "tribunal/tribunallaw13.ListCounts", spec := "listCounts", inPlace := ["internal/bytealg.Compare"], unfollowed := true, recurses := true, named := ["tribunal/sha.start", "tribunal/sha.round"], plainKeys := false, apart := false, laid := [("tribunal/sha.start", laid_tribunal_sha_start), ("tribunal/sha.round", laid_tribunal_sha_round)] }
def ListCountsSaid : Prop := listCountsRow.holds Tryd.pinned (OpenSpec.ofChange listCountsSpec)

/-- ITS FALSE NEIGHBOUR: 'it returns false'. Refute it at one input. -/
def listCountsWrong : ChangeSpec := { name := "listCounts", fn := fun _ => fun
  | [d] => { results := [.lit (.bool false)], args := [d] }
  | _ => none }
def ListCountsWrongFalsely : Prop := listCountsRow.holds Tryd.pinned (OpenSpec.ofChange listCountsWrong)

/-- 'tribunallaw11.LineDepths': WHATEVER THE INPUT: true; the input reads as it did. -/
def lineDepthsSpec : ChangeSpec := { name := "lineDepths", fn := fun _ => fun
  | [d] => { results := [.lit (.bool true)], args := [d] }
  | _ => none }
def lineDepthsRow : OpenClaim := { program := "ytfhldfjknagidaadoor", sum := "fc14f990e420361affcff0a479d1ad24350667fda20acef915e4a36b3256790d", func := "tribunal/tribunallaw11.LineDepths", spec := "lineDepths", inPlace := ["internal/bytealg.Compare"], unfollowed := true, recurses := true, named := ["tribunal/sha.start", "tribunal/sha.round"], plainKeys := false, apart := false, laid := [("tribunal/sha.start", laid_tribunal_sha_start), ("tribunal/sha.round", laid_tribunal_sha_round)] }
def LineDepthsSaid : Prop := lineDepthsRow.holds Tryd.pinned (OpenSpec.ofChange lineDepthsSpec)

/-- ITS FALSE NEIGHBOUR: 'it returns false'. Refute it at one input. -/
def lineDepthsWrong : ChangeSpec := { name := "lineDepths", fn := fun _ => fun
  | [d] => { results := [.lit (.bool false)], args := [d] }
  | _ => none }
def LineDepthsWrongFalsely : Prop := lineDepthsRow.holds Tryd.pinned (OpenSpec.ofChange lineDepthsWrong)

/- THE SECOND FORM. 'bulk': how many values and letters a reading holds, each counted each time it is reached (what is shared counts as often as it is met; a slice's spare places count too). A statement '..UptoSaid' is the law's where the arguments, and the package variables that the reading takes, are together of bulk at most 1048576: NARROWER than '..Said'. Prove '..Said' where nothing that the law and all that it calls make is longer than what came in: it says more and counts as full. Else prove '..UptoSaid'. A law counts once. -/
mutual
def uptoBulk {H : Type} : DataW H → Nat
  | .lit (.string bytes) => bytes.length + 1
  | .lit _ => 1
  | .nil => 1
  | .ptr d => uptoBulk d + 1
  | .slice elems spare => uptoBulkAll elems + uptoBulkAll spare + 1
  | .agg parts => uptoBulkAll parts + 1
  | .iface _ d => uptoBulk d + 1
  | .map entries => uptoBulkEntries entries + 1
  | .held _ => 1
def uptoBulkAll {H : Type} : List (DataW H) → Nat
  | [] => 0
  | d :: r => uptoBulk d + uptoBulkAll r
def uptoBulkEntries {H : Type} : List (Lit × DataW H) → Nat
  | [] => 0
  | x :: r => uptoBulkEntry x + uptoBulkEntries r
def uptoBulkEntry {H : Type} : Lit × DataW H → Nat
  | (.string bytes, d) => bytes.length + uptoBulk d + 1
  | (_, d) => uptoBulk d + 1
 end
def uptoSmall : (H : Type) → List (DataW H) → Bool := fun _ ds => decide (uptoBulkAll ds ≤ 1048576)
def OpenSpec.upto (s : _root_.Go.ChangeSpec) : _root_.Go.OpenSpec := { _root_.Go.OpenSpec.ofChange s with cond := some uptoSmall }

/-- 'tribunallaw10.DagClosed', WHERE WHAT IT READS IS OF BULK AT MOST 1048576: true; the input reads as it did. -/
def dagClosedUptoRow : OpenClaim := { program := "ytfhldfjknagidaadoor", sum := "fc14f990e420361affcff0a479d1ad24350667fda20acef915e4a36b3256790d", func := "tribunal/tribunallaw10.DagClosed", spec := "dagClosed", inPlace := ["internal/bytealg.Compare"], unfollowed := true, recurses := true, named := ["tribunal/sha.start", "tribunal/sha.round"], plainKeys := false, apart := false, laid := [("tribunal/sha.start", laid_tribunal_sha_start), ("tribunal/sha.round", laid_tribunal_sha_round)], narrowed := true }
def DagClosedUptoSaid : Prop := dagClosedUptoRow.holds Tryd.pinned (OpenSpec.upto dagClosedSpec)

/-- 'tribunallaw10.DagKeeps', WHERE WHAT IT READS IS OF BULK AT MOST 1048576: true; the input reads as it did. -/
def dagKeepsUptoRow : OpenClaim := { program := "ytfhldfjknagidaadoor", sum := "fc14f990e420361affcff0a479d1ad24350667fda20acef915e4a36b3256790d", func := "tribunal/tribunallaw10.DagKeeps", spec := "dagKeeps", inPlace := ["internal/bytealg.Compare"], unfollowed := true, recurses := true, named := ["tribunal/sha.start", "tribunal/sha.round"], plainKeys := false, apart := false, laid := [("tribunal/sha.start", laid_tribunal_sha_start), ("tribunal/sha.round", laid_tribunal_sha_round)], narrowed := true }
def DagKeepsUptoSaid : Prop := dagKeepsUptoRow.holds Tryd.pinned (OpenSpec.upto dagKeepsSpec)

/-- 'tribunallaw10.DagTwice', WHERE WHAT IT READS IS OF BULK AT MOST 1048576: true; the input reads as it did. -/
def dagTwiceUptoRow : OpenClaim := { program := "ytfhldfjknagidaadoor", sum := "fc14f990e420361affcff0a479d1ad24350667fda20acef915e4a36b3256790d", func := "tribunal/tribunallaw10.DagTwice", spec := "dagTwice", inPlace := ["internal/bytealg.Compare"], unfollowed := true, recurses := true, named := ["tribunal/sha.start", "tribunal/sha.round"], plainKeys := false, apart := false, laid := [("tribunal/sha.start", laid_tribunal_sha_start), ("tribunal/sha.round", laid_tribunal_sha_round)], narrowed := true }
def DagTwiceUptoSaid : Prop := dagTwiceUptoRow.holds Tryd.pinned (OpenSpec.upto dagTwiceSpec)

/-- 'tribunallaw10.DagDoes', WHERE WHAT IT READS IS OF BULK AT MOST 1048576: true; the input reads as it did. -/
def dagDoesUptoRow : OpenClaim := { program := "ytfhldfjknagidaadoor", sum := "fc14f990e420361affcff0a479d1ad24350667fda20acef915e4a36b3256790d", func := "tribunal/tribunallaw10.DagDoes", spec := "dagDoes", inPlace := ["internal/bytealg.Compare"], unfollowed := true, recurses := true, named := ["tribunal/sha.start", "tribunal/sha.round"], plainKeys := false, apart := false, laid := [("tribunal/sha.start", laid_tribunal_sha_start), ("tribunal/sha.round", laid_tribunal_sha_round)], narrowed := true }
def DagDoesUptoSaid : Prop := dagDoesUptoRow.holds Tryd.pinned (OpenSpec.upto dagDoesSpec)

/-- 'tribunallaw13.ListStays', WHERE WHAT IT READS IS OF BULK AT MOST 1048576: true; the input reads as it did. -/
def listStaysUptoRow : OpenClaim := { program := "ytfhldfjknagidaadoor", sum := "fc14f990e420361affcff0a479d1ad24350667fda20acef915e4a36b3256790d", func := "tribunal/tribunallaw13.ListStays", spec := "listStays", inPlace := ["internal/bytealg.Compare"], unfollowed := true, recurses := true, named := ["tribunal/sha.start", "tribunal/sha.round"], plainKeys := false, apart := false, laid := [("tribunal/sha.start", laid_tribunal_sha_start), ("tribunal/sha.round", laid_tribunal_sha_round)], narrowed := true }
def ListStaysUptoSaid : Prop := listStaysUptoRow.holds Tryd.pinned (OpenSpec.upto listStaysSpec)

/-- 'tribunallaw13.ListCounts', WHERE WHAT IT READS IS OF BULK AT MOST 1048576: true; the input reads as it did. -/
def listCountsUptoRow : OpenClaim := { program := "ytfhldfjknagidaadoor", sum := "fc14f990e420361affcff0a479d1ad24350667fda20acef915e4a36b3256790d", func := "tribunal/tribunallaw13.ListCounts", spec := "listCounts", inPlace := ["internal/bytealg.Compare"], unfollowed := true, recurses := true, named := ["tribunal/sha.start", "tribunal/sha.round"], plainKeys := false, apart := false, laid := [("tribunal/sha.start", laid_tribunal_sha_start), ("tribunal/sha.round", laid_tribunal_sha_round)], narrowed := true }
def ListCountsUptoSaid : Prop := listCountsUptoRow.holds Tryd.pinned (OpenSpec.upto listCountsSpec)

/-- 'tribunallaw11.LineDepths', WHERE WHAT IT READS IS OF BULK AT MOST 1048576: true; the input reads as it did. -/
def lineDepthsUptoRow : OpenClaim := { program := "ytfhldfjknagidaadoor", sum := "fc14f990e420361affcff0a479d1ad24350667fda20acef915e4a36b3256790d", func := "tribunal/tribunallaw11.LineDepths", spec := "lineDepths", inPlace := ["internal/bytealg.Compare"], unfollowed := true, recurses := true, named := ["tribunal/sha.start", "tribunal/sha.round"], plainKeys := false, apart := false, laid := [("tribunal/sha.start", laid_tribunal_sha_start), ("tribunal/sha.round", laid_tribunal_sha_round)], narrowed := true }
def LineDepthsUptoSaid : Prop := lineDepthsUptoRow.holds Tryd.pinned (OpenSpec.upto lineDepthsSpec)

end Rows
end Go.Proofs.YtfhldfjknagidaaDoor
