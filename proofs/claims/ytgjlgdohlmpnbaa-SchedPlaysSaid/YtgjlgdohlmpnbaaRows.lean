/-
  No cell of these rows narrows 'for every input' (looked for: loops, veiled, ifaces, maps, wideKeys, modest, calm, conditions, laid).
  DERIVED. THE GIVEN ROWS OF THIS SEAT. 11 by the template 'for every input the law returns true; each argument reads behind the call as it read before'; 0 by the template 'total and deterministic' (their statements: YtgjlgdohlmpnbaaTotals.lean).
  GIVEN WITH THE SEED: the statements are not yours to turn. If you find one false, say at which input.
  Laid BY PROGRAM, IN A SANDBOX (cutbox-rows.mjs): the forced cells as the released guide's own fill.sh prints them over the translation 8c94a6db97536f0e… (all of the seat's roots in one cut). By AI agents, Wed Nov 11 2026. No macro, syntax, notation, axiom, sorry.
-/
import Derived.Test.YtgjlgdohlmpnbaaChecked
import GoSem.Claim
import GoSem.ClaimJoined
import GoSem.ClaimMapViews
import Derived.JoinedTies
import Derived.KernelRfl
namespace Go.Proofs.Ytgjlgdohlmpnbaa
/- THE CELL 'sum', in the pinned program and in every row, IS THE sha256 OF THE DUMP (.gsa) THAT YtgjlgdohlmpnbaaProg.lean LOADS. Nothing in Lean hashes anything: it is a label: what it is worth is what the hold of that sum in a sandbox is worth. -/
noncomputable def Try.pinned : Pinned := { name := "ytgjlgdohlmpnbaa", sum := "8c94a6db97536f0e94a8b282bbe5b408caba8b26387a821df273beb8d4a8ae56", checked := Try.checked }
namespace Rows
def none {H : Type} : Left H := { results := [], args := [] }

/-- 'carlinglaw21.GraphOrders': WHATEVER THE INPUT: true; the input reads as it did. -/
def graphOrdersSpec : ChangeSpec := { name := "graphOrders", fn := fun _ => fun
  | [d] => { results := [.lit (.bool true)], args := [d] }
  | _ => none }
def graphOrdersRow : OpenClaim := { program := "ytgjlgdohlmpnbaa", sum := "8c94a6db97536f0e94a8b282bbe5b408caba8b26387a821df273beb8d4a8ae56", func := "carling/carlinglaw21.GraphOrders", spec := "graphOrders", unfollowed := true, recurses := true, apart := false }
def GraphOrdersSaid : Prop := graphOrdersRow.holds Try.pinned (OpenSpec.ofChange graphOrdersSpec)

/-- ITS FALSE NEIGHBOUR: 'it returns false'. Refute it at one input. -/
def graphOrdersWrong : ChangeSpec := { name := "graphOrders", fn := fun _ => fun
  | [d] => { results := [.lit (.bool false)], args := [d] }
  | _ => none }
def GraphOrdersWrongFalsely : Prop := graphOrdersRow.holds Try.pinned (OpenSpec.ofChange graphOrdersWrong)

/-- 'carlinglaw21.GraphBehind': WHATEVER THE INPUT: true; the input reads as it did. -/
def graphBehindSpec : ChangeSpec := { name := "graphBehind", fn := fun _ => fun
  | [d] => { results := [.lit (.bool true)], args := [d] }
  | _ => none }
def graphBehindRow : OpenClaim := { program := "ytgjlgdohlmpnbaa", sum := "8c94a6db97536f0e94a8b282bbe5b408caba8b26387a821df273beb8d4a8ae56", func := "carling/carlinglaw21.GraphBehind", spec := "graphBehind", unfollowed := true, recurses := true, apart := false }
def GraphBehindSaid : Prop := graphBehindRow.holds Try.pinned (OpenSpec.ofChange graphBehindSpec)

/-- ITS FALSE NEIGHBOUR: 'it returns false'. Refute it at one input. -/
def graphBehindWrong : ChangeSpec := { name := "graphBehind", fn := fun _ => fun
  | [d] => { results := [.lit (.bool false)], args := [d] }
  | _ => none }
def GraphBehindWrongFalsely : Prop := graphBehindRow.holds Try.pinned (OpenSpec.ofChange graphBehindWrong)

/-- 'carlinglaw21.GraphFree': WHATEVER THE INPUT: true; the input reads as it did. -/
def graphFreeSpec : ChangeSpec := { name := "graphFree", fn := fun _ => fun
  | [d] => { results := [.lit (.bool true)], args := [d] }
  | _ => none }
def graphFreeRow : OpenClaim := { program := "ytgjlgdohlmpnbaa", sum := "8c94a6db97536f0e94a8b282bbe5b408caba8b26387a821df273beb8d4a8ae56", func := "carling/carlinglaw21.GraphFree", spec := "graphFree", unfollowed := true, recurses := true, apart := false }
def GraphFreeSaid : Prop := graphFreeRow.holds Try.pinned (OpenSpec.ofChange graphFreeSpec)

/-- ITS FALSE NEIGHBOUR: 'it returns false'. Refute it at one input. -/
def graphFreeWrong : ChangeSpec := { name := "graphFree", fn := fun _ => fun
  | [d] => { results := [.lit (.bool false)], args := [d] }
  | _ => none }
def GraphFreeWrongFalsely : Prop := graphFreeRow.holds Try.pinned (OpenSpec.ofChange graphFreeWrong)

/-- 'carlinglaw21.GraphTells': WHATEVER THE INPUT: true; the input reads as it did. -/
def graphTellsSpec : ChangeSpec := { name := "graphTells", fn := fun _ => fun
  | [d1, d2, d3] => { results := [.lit (.bool true)], args := [d1, d2, d3] }
  | _ => none }
def graphTellsRow : OpenClaim := { program := "ytgjlgdohlmpnbaa", sum := "8c94a6db97536f0e94a8b282bbe5b408caba8b26387a821df273beb8d4a8ae56", func := "carling/carlinglaw21.GraphTells", spec := "graphTells", unfollowed := true, recurses := true, apart := false }
def GraphTellsSaid : Prop := graphTellsRow.holds Try.pinned (OpenSpec.ofChange graphTellsSpec)

/-- ITS FALSE NEIGHBOUR: 'it returns false'. Refute it at one input. -/
def graphTellsWrong : ChangeSpec := { name := "graphTells", fn := fun _ => fun
  | [d1, d2, d3] => { results := [.lit (.bool false)], args := [d1, d2, d3] }
  | _ => none }
def GraphTellsWrongFalsely : Prop := graphTellsRow.holds Try.pinned (OpenSpec.ofChange graphTellsWrong)

/-- 'carlinglaw21.GraphCycle': WHATEVER THE INPUT: true; the input reads as it did. -/
def graphCycleSpec : ChangeSpec := { name := "graphCycle", fn := fun _ => fun
  | [d] => { results := [.lit (.bool true)], args := [d] }
  | _ => none }
def graphCycleRow : OpenClaim := { program := "ytgjlgdohlmpnbaa", sum := "8c94a6db97536f0e94a8b282bbe5b408caba8b26387a821df273beb8d4a8ae56", func := "carling/carlinglaw21.GraphCycle", spec := "graphCycle", unfollowed := true, recurses := true, apart := false }
def GraphCycleSaid : Prop := graphCycleRow.holds Try.pinned (OpenSpec.ofChange graphCycleSpec)

/-- ITS FALSE NEIGHBOUR: 'it returns false'. Refute it at one input. -/
def graphCycleWrong : ChangeSpec := { name := "graphCycle", fn := fun _ => fun
  | [d] => { results := [.lit (.bool false)], args := [d] }
  | _ => none }
def GraphCycleWrongFalsely : Prop := graphCycleRow.holds Try.pinned (OpenSpec.ofChange graphCycleWrong)

/-- 'carlinglaw21.GraphUsers': WHATEVER THE INPUT: true; the input reads as it did. -/
def graphUsersSpec : ChangeSpec := { name := "graphUsers", fn := fun _ => fun
  | [d1, d2] => { results := [.lit (.bool true)], args := [d1, d2] }
  | _ => none }
def graphUsersRow : OpenClaim := { program := "ytgjlgdohlmpnbaa", sum := "8c94a6db97536f0e94a8b282bbe5b408caba8b26387a821df273beb8d4a8ae56", func := "carling/carlinglaw21.GraphUsers", spec := "graphUsers", unfollowed := true, recurses := true, apart := false }
def GraphUsersSaid : Prop := graphUsersRow.holds Try.pinned (OpenSpec.ofChange graphUsersSpec)

/-- ITS FALSE NEIGHBOUR: 'it returns false'. Refute it at one input. -/
def graphUsersWrong : ChangeSpec := { name := "graphUsers", fn := fun _ => fun
  | [d1, d2] => { results := [.lit (.bool false)], args := [d1, d2] }
  | _ => none }
def GraphUsersWrongFalsely : Prop := graphUsersRow.holds Try.pinned (OpenSpec.ofChange graphUsersWrong)

/-- 'carlinglaw21.GraphRing': WHATEVER THE INPUT: true; the input reads as it did. -/
def graphRingSpec : ChangeSpec := { name := "graphRing", fn := fun _ => fun
  | [d1, d2, d3] => { results := [.lit (.bool true)], args := [d1, d2, d3] }
  | _ => none }
def graphRingRow : OpenClaim := { program := "ytgjlgdohlmpnbaa", sum := "8c94a6db97536f0e94a8b282bbe5b408caba8b26387a821df273beb8d4a8ae56", func := "carling/carlinglaw21.GraphRing", spec := "graphRing", unfollowed := true, recurses := true, apart := false }
def GraphRingSaid : Prop := graphRingRow.holds Try.pinned (OpenSpec.ofChange graphRingSpec)

/-- ITS FALSE NEIGHBOUR: 'it returns false'. Refute it at one input. -/
def graphRingWrong : ChangeSpec := { name := "graphRing", fn := fun _ => fun
  | [d1, d2, d3] => { results := [.lit (.bool false)], args := [d1, d2, d3] }
  | _ => none }
def GraphRingWrongFalsely : Prop := graphRingRow.holds Try.pinned (OpenSpec.ofChange graphRingWrong)

/-- 'carlinglaw22.SchedOnce': WHATEVER THE INPUT: true; the input reads as it did. -/
def schedOnceSpec : ChangeSpec := { name := "schedOnce", fn := fun _ => fun
  | [d1, d2, d3] => { results := [.lit (.bool true)], args := [d1, d2, d3] }
  | _ => none }
def schedOnceRow : OpenClaim := { program := "ytgjlgdohlmpnbaa", sum := "8c94a6db97536f0e94a8b282bbe5b408caba8b26387a821df273beb8d4a8ae56", func := "carling/carlinglaw22.SchedOnce", spec := "schedOnce", unfollowed := true, recurses := true, apart := false }
def SchedOnceSaid : Prop := schedOnceRow.holds Try.pinned (OpenSpec.ofChange schedOnceSpec)

/-- ITS FALSE NEIGHBOUR: 'it returns false'. Refute it at one input. -/
def schedOnceWrong : ChangeSpec := { name := "schedOnce", fn := fun _ => fun
  | [d1, d2, d3] => { results := [.lit (.bool false)], args := [d1, d2, d3] }
  | _ => none }
def SchedOnceWrongFalsely : Prop := schedOnceRow.holds Try.pinned (OpenSpec.ofChange schedOnceWrong)

/-- 'carlinglaw22.SchedPlays': WHATEVER THE INPUT: true; the input reads as it did. -/
def schedPlaysSpec : ChangeSpec := { name := "schedPlays", fn := fun _ => fun
  | [d1, d2, d3] => { results := [.lit (.bool true)], args := [d1, d2, d3] }
  | _ => none }
def schedPlaysRow : OpenClaim := { program := "ytgjlgdohlmpnbaa", sum := "8c94a6db97536f0e94a8b282bbe5b408caba8b26387a821df273beb8d4a8ae56", func := "carling/carlinglaw22.SchedPlays", spec := "schedPlays", unfollowed := true, recurses := true, apart := false }
def SchedPlaysSaid : Prop := schedPlaysRow.holds Try.pinned (OpenSpec.ofChange schedPlaysSpec)

/-- ITS FALSE NEIGHBOUR: 'it returns false'. Refute it at one input. -/
def schedPlaysWrong : ChangeSpec := { name := "schedPlays", fn := fun _ => fun
  | [d1, d2, d3] => { results := [.lit (.bool false)], args := [d1, d2, d3] }
  | _ => none }
def SchedPlaysWrongFalsely : Prop := schedPlaysRow.holds Try.pinned (OpenSpec.ofChange schedPlaysWrong)

/-- 'carlinglaw22.SchedAll': WHATEVER THE INPUT: true; the input reads as it did. -/
def schedAllSpec : ChangeSpec := { name := "schedAll", fn := fun _ => fun
  | [d1, d2] => { results := [.lit (.bool true)], args := [d1, d2] }
  | _ => none }
def schedAllRow : OpenClaim := { program := "ytgjlgdohlmpnbaa", sum := "8c94a6db97536f0e94a8b282bbe5b408caba8b26387a821df273beb8d4a8ae56", func := "carling/carlinglaw22.SchedAll", spec := "schedAll", unfollowed := true, recurses := true, apart := false }
def SchedAllSaid : Prop := schedAllRow.holds Try.pinned (OpenSpec.ofChange schedAllSpec)

/-- ITS FALSE NEIGHBOUR: 'it returns false'. Refute it at one input. -/
def schedAllWrong : ChangeSpec := { name := "schedAll", fn := fun _ => fun
  | [d1, d2] => { results := [.lit (.bool false)], args := [d1, d2] }
  | _ => none }
def SchedAllWrongFalsely : Prop := schedAllRow.holds Try.pinned (OpenSpec.ofChange schedAllWrong)

/-- 'carlinglaw22.SchedAlone': WHATEVER THE INPUT: true; the input reads as it did. -/
def schedAloneSpec : ChangeSpec := { name := "schedAlone", fn := fun _ => fun
  | [d1, d2] => { results := [.lit (.bool true)], args := [d1, d2] }
  | _ => none }
def schedAloneRow : OpenClaim := { program := "ytgjlgdohlmpnbaa", sum := "8c94a6db97536f0e94a8b282bbe5b408caba8b26387a821df273beb8d4a8ae56", func := "carling/carlinglaw22.SchedAlone", spec := "schedAlone", unfollowed := true, recurses := true, apart := false }
def SchedAloneSaid : Prop := schedAloneRow.holds Try.pinned (OpenSpec.ofChange schedAloneSpec)

/-- ITS FALSE NEIGHBOUR: 'it returns false'. Refute it at one input. -/
def schedAloneWrong : ChangeSpec := { name := "schedAlone", fn := fun _ => fun
  | [d1, d2] => { results := [.lit (.bool false)], args := [d1, d2] }
  | _ => none }
def SchedAloneWrongFalsely : Prop := schedAloneRow.holds Try.pinned (OpenSpec.ofChange schedAloneWrong)

/- THE SECOND FORM. 'bulk': how many values and letters a reading holds, each counted each time it is reached (what is shared counts as often as it is met; a slice's spare places count too). A statement '..UptoSaid' is the law's where the arguments, and the package variables that the reading takes, are together of bulk at most 1048576: NARROWER than '..Said'. Prove '..Said' where nothing that the law and all that it calls make is longer than what came in: it says more and counts as full. Else prove '..UptoSaid'. A law counts once. -/
mutual
def uptoBulk {H : Type} : DataW H → Nat
  | .lit (.string bytes) => bytes.length + 1
  | .lit _ => 1
  | .nil => 1
  | .ptr d => uptoBulk d + 1
  | .slice elems spare => uptoBulkAll elems + uptoBulkAll spare + 1
  | .agg parts => uptoBulkAll parts + 1
  | .iface _ d => uptoBulk d + 1
  | .map entries => uptoBulkEntries entries + 1
  | .held _ => 1
def uptoBulkAll {H : Type} : List (DataW H) → Nat
  | [] => 0
  | d :: r => uptoBulk d + uptoBulkAll r
def uptoBulkEntries {H : Type} : List (Lit × DataW H) → Nat
  | [] => 0
  | x :: r => uptoBulkEntry x + uptoBulkEntries r
def uptoBulkEntry {H : Type} : Lit × DataW H → Nat
  | (.string bytes, d) => bytes.length + uptoBulk d + 1
  | (_, d) => uptoBulk d + 1
 end
def uptoSmall : (H : Type) → List (DataW H) → Bool := fun _ ds => decide (uptoBulkAll ds ≤ 1048576)
def OpenSpec.upto (s : _root_.Go.ChangeSpec) : _root_.Go.OpenSpec := { _root_.Go.OpenSpec.ofChange s with cond := some uptoSmall }

/-- 'carlinglaw21.GraphOrders', WHERE WHAT IT READS IS OF BULK AT MOST 1048576: true; the input reads as it did. -/
def graphOrdersUptoRow : OpenClaim := { program := "ytgjlgdohlmpnbaa", sum := "8c94a6db97536f0e94a8b282bbe5b408caba8b26387a821df273beb8d4a8ae56", func := "carling/carlinglaw21.GraphOrders", spec := "graphOrders", unfollowed := true, recurses := true, apart := false, narrowed := true }
def GraphOrdersUptoSaid : Prop := graphOrdersUptoRow.holds Try.pinned (OpenSpec.upto graphOrdersSpec)

/-- 'carlinglaw21.GraphBehind', WHERE WHAT IT READS IS OF BULK AT MOST 1048576: true; the input reads as it did. -/
def graphBehindUptoRow : OpenClaim := { program := "ytgjlgdohlmpnbaa", sum := "8c94a6db97536f0e94a8b282bbe5b408caba8b26387a821df273beb8d4a8ae56", func := "carling/carlinglaw21.GraphBehind", spec := "graphBehind", unfollowed := true, recurses := true, apart := false, narrowed := true }
def GraphBehindUptoSaid : Prop := graphBehindUptoRow.holds Try.pinned (OpenSpec.upto graphBehindSpec)

/-- 'carlinglaw21.GraphFree', WHERE WHAT IT READS IS OF BULK AT MOST 1048576: true; the input reads as it did. -/
def graphFreeUptoRow : OpenClaim := { program := "ytgjlgdohlmpnbaa", sum := "8c94a6db97536f0e94a8b282bbe5b408caba8b26387a821df273beb8d4a8ae56", func := "carling/carlinglaw21.GraphFree", spec := "graphFree", unfollowed := true, recurses := true, apart := false, narrowed := true }
def GraphFreeUptoSaid : Prop := graphFreeUptoRow.holds Try.pinned (OpenSpec.upto graphFreeSpec)

/-- 'carlinglaw21.GraphTells', WHERE WHAT IT READS IS OF BULK AT MOST 1048576: true; the input reads as it did. -/
def graphTellsUptoRow : OpenClaim := { program := "ytgjlgdohlmpnbaa", sum := "8c94a6db97536f0e94a8b282bbe5b408caba8b26387a821df273beb8d4a8ae56", func := "carling/carlinglaw21.GraphTells", spec := "graphTells", unfollowed := true, recurses := true, apart := false, narrowed := true }
def GraphTellsUptoSaid : Prop := graphTellsUptoRow.holds Try.pinned (OpenSpec.upto graphTellsSpec)

/-- 'carlinglaw21.GraphCycle', WHERE WHAT IT READS IS OF BULK AT MOST 1048576: true; the input reads as it did. -/
def graphCycleUptoRow : OpenClaim := { program := "ytgjlgdohlmpnbaa", sum := "8c94a6db97536f0e94a8b282bbe5b408caba8b26387a821df273beb8d4a8ae56", func := "carling/carlinglaw21.GraphCycle", spec := "graphCycle", unfollowed := true, recurses := true, apart := false, narrowed := true }
def GraphCycleUptoSaid : Prop := graphCycleUptoRow.holds Try.pinned (OpenSpec.upto graphCycleSpec)

/-- 'carlinglaw21.GraphUsers', WHERE WHAT IT READS IS OF BULK AT MOST 1048576: true; the input reads as it did. -/
def graphUsersUptoRow : OpenClaim := { program := "ytgjlgdohlmpnbaa", sum := "8c94a6db97536f0e94a8b282bbe5b408caba8b26387a821df273beb8d4a8ae56", func := "carling/carlinglaw21.GraphUsers", spec := "graphUsers", unfollowed := true, recurses := true, apart := false, narrowed := true }
def GraphUsersUptoSaid : Prop := graphUsersUptoRow.holds Try.pinned (OpenSpec.upto graphUsersSpec)

/-- 'carlinglaw21.GraphRing', WHERE WHAT IT READS IS OF BULK AT MOST 1048576: true; the input reads as it did. -/
def graphRingUptoRow : OpenClaim := { program := "ytgjlgdohlmpnbaa", sum := "8c94a6db97536f0e94a8b282bbe5b408caba8b26387a821df273beb8d4a8ae56", func := "carling/carlinglaw21.GraphRing", spec := "graphRing", unfollowed := true, recurses := true, apart := false, narrowed := true }
def GraphRingUptoSaid : Prop := graphRingUptoRow.holds Try.pinned (OpenSpec.upto graphRingSpec)

/-- 'carlinglaw22.SchedOnce', WHERE WHAT IT READS IS OF BULK AT MOST 1048576: true; the input reads as it did. -/
def schedOnceUptoRow : OpenClaim := { program := "ytgjlgdohlmpnbaa", sum := "8c94a6db97536f0e94a8b282bbe5b408caba8b26387a821df273beb8d4a8ae56", func := "carling/carlinglaw22.SchedOnce", spec := "schedOnce", unfollowed := true, recurses := true, apart := false, narrowed := true }
def SchedOnceUptoSaid : Prop := schedOnceUptoRow.holds Try.pinned (OpenSpec.upto schedOnceSpec)

/-- 'carlinglaw22.SchedPlays', WHERE WHAT IT READS IS OF BULK AT MOST 1048576: true; the input reads as it did. -/
def schedPlaysUptoRow : OpenClaim := { program := "ytgjlgdohlmpnbaa", sum := "8c94a6db97536f0e94a8b282bbe5b408caba8b26387a821df273beb8d4a8ae56", func := "carling/carlinglaw22.SchedPlays", spec := "schedPlays", unfollowed := true, recurses := true, apart := false, narrowed := true }
def SchedPlaysUptoSaid : Prop := schedPlaysUptoRow.holds Try.pinned (OpenSpec.upto schedPlaysSpec)

/-- 'carlinglaw22.SchedAll', WHERE WHAT IT READS IS OF BULK AT MOST 1048576: true; the input reads as it did. -/
def schedAllUptoRow : OpenClaim := { program := "ytgjlgdohlmpnbaa", sum := "8c94a6db97536f0e94a8b282bbe5b408caba8b26387a821df273beb8d4a8ae56", func := "carling/carlinglaw22.SchedAll", spec := "schedAll", unfollowed := true, recurses := true, apart := false, narrowed := true }
def SchedAllUptoSaid : Prop := schedAllUptoRow.holds Try.pinned (OpenSpec.upto schedAllSpec)

/-- 'carlinglaw22.SchedAlone', WHERE WHAT IT READS IS OF BULK AT MOST 1048576: true; the input reads as it did. -/
def schedAloneUptoRow : OpenClaim := { program := "ytgjlgdohlmpnbaa", sum := "8c94a6db97536f0e94a8b282bbe5b408caba8b26387a821df273beb8d4a8ae56", func := "carling/carlinglaw22.SchedAlone", spec := "schedAlone", unfollowed := true, recurses := true, apart := false, narrowed := true }
def SchedAloneUptoSaid : Prop := schedAloneUptoRow.holds Try.pinned (OpenSpec.upto schedAloneSpec)

end Rows
end Go.Proofs.Ytgjlgdohlmpnbaa
