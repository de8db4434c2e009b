/-
  NARROWER THAN 'FOR EVERY INPUT', by the rows' own cells (each row's printed sentence says how): SexpPrints: loops · SexpBack: loops.
  DERIVED. THE GIVEN ROWS OF THIS SEAT. 6 by the template 'for every input the law returns true; each argument reads behind the call as it read before'; 0 by the template 'total and deterministic' (their statements: YtciojbdkoojlhaaTotals.lean).
  GIVEN WITH THE SEED: the statements are not yours to turn. If you find one false, say at which input.
  Laid BY PROGRAM, IN A SANDBOX (cutbox-rows.mjs): the forced cells as the released guide's own fill.sh prints them over the translation 4272c13915788d1b… (all of the seat's roots in one cut). By AI agents, Wed Nov 11 2026. No macro, syntax, notation, axiom, sorry.
-/
import Derived.Test.YtciojbdkoojlhaaChecked
import GoSem.Claim
import GoSem.ClaimJoined
import GoSem.ClaimMapViews
import Derived.JoinedTies
import Derived.KernelRfl
namespace Go.Proofs.Ytciojbdkoojlhaa
/- THE CELL 'sum', in the pinned program and in every row, IS THE sha256 OF THE DUMP (.gsa) THAT YtciojbdkoojlhaaProg.lean LOADS. Nothing in Lean hashes anything: it is a label: what it is worth is what the hold of that sum in a sandbox is worth. -/
noncomputable def Try.pinned : Pinned := { name := "ytciojbdkoojlhaa", sum := "4272c13915788d1b4c0dfb23b4ff64bf27f69a5080fbd4568fb3efb4c6e19090", checked := Try.checked }
namespace Rows
def none {H : Type} : Left H := { results := [], args := [] }

/-- 'carlinglaw02.SexpJoins': WHATEVER THE INPUT: true; the input reads as it did. -/
def sexpJoinsSpec : ChangeSpec := { name := "sexpJoins", fn := fun _ => fun
  | [d1, d2] => { results := [.lit (.bool true)], args := [d1, d2] }
  | _ => none }
def sexpJoinsRow : OpenClaim := { program := "ytciojbdkoojlhaa", sum := "4272c13915788d1b4c0dfb23b4ff64bf27f69a5080fbd4568fb3efb4c6e19090", func := "carling/carlinglaw02.SexpJoins", spec := "sexpJoins", inPlace := ["internal/bytealg.IndexByteString", "internal/abi.NoEscape"], unfollowed := true, recurses := true, apart := false }
def SexpJoinsSaid : Prop := sexpJoinsRow.holds Try.pinned (OpenSpec.ofChange sexpJoinsSpec)

/-- ITS FALSE NEIGHBOUR: 'it returns false'. Refute it at one input. -/
def sexpJoinsWrong : ChangeSpec := { name := "sexpJoins", fn := fun _ => fun
  | [d1, d2] => { results := [.lit (.bool false)], args := [d1, d2] }
  | _ => none }
def SexpJoinsWrongFalsely : Prop := sexpJoinsRow.holds Try.pinned (OpenSpec.ofChange sexpJoinsWrong)

/-- 'carlinglaw02.SexpWord': WHATEVER THE INPUT: true; the input reads as it did. -/
def sexpWordSpec : ChangeSpec := { name := "sexpWord", fn := fun _ => fun
  | [d] => { results := [.lit (.bool true)], args := [d] }
  | _ => none }
def sexpWordRow : OpenClaim := { program := "ytciojbdkoojlhaa", sum := "4272c13915788d1b4c0dfb23b4ff64bf27f69a5080fbd4568fb3efb4c6e19090", func := "carling/carlinglaw02.SexpWord", spec := "sexpWord", inPlace := ["internal/bytealg.IndexByteString", "internal/abi.NoEscape"], unfollowed := true, recurses := true, apart := false }
def SexpWordSaid : Prop := sexpWordRow.holds Try.pinned (OpenSpec.ofChange sexpWordSpec)

/-- ITS FALSE NEIGHBOUR: 'it returns false'. Refute it at one input. -/
def sexpWordWrong : ChangeSpec := { name := "sexpWord", fn := fun _ => fun
  | [d] => { results := [.lit (.bool false)], args := [d] }
  | _ => none }
def SexpWordWrongFalsely : Prop := sexpWordRow.holds Try.pinned (OpenSpec.ofChange sexpWordWrong)

/-- 'carlinglaw02.SexpParses': WHATEVER THE INPUT: true; the input reads as it did. -/
def sexpParsesSpec : ChangeSpec := { name := "sexpParses", fn := fun _ => fun
  | [d] => { results := [.lit (.bool true)], args := [d] }
  | _ => none }
def sexpParsesRow : OpenClaim := { program := "ytciojbdkoojlhaa", sum := "4272c13915788d1b4c0dfb23b4ff64bf27f69a5080fbd4568fb3efb4c6e19090", func := "carling/carlinglaw02.SexpParses", spec := "sexpParses", inPlace := ["internal/bytealg.IndexByteString", "internal/abi.NoEscape"], unfollowed := true, recurses := true, apart := false }
def SexpParsesSaid : Prop := sexpParsesRow.holds Try.pinned (OpenSpec.ofChange sexpParsesSpec)

/-- ITS FALSE NEIGHBOUR: 'it returns false'. Refute it at one input. -/
def sexpParsesWrong : ChangeSpec := { name := "sexpParses", fn := fun _ => fun
  | [d] => { results := [.lit (.bool false)], args := [d] }
  | _ => none }
def SexpParsesWrongFalsely : Prop := sexpParsesRow.holds Try.pinned (OpenSpec.ofChange sexpParsesWrong)

/-- 'carlinglaw02.SexpPrints': WHATEVER THE INPUT: true; the input reads as it did. -/
def sexpPrintsSpec : ChangeSpec := { name := "sexpPrints", fn := fun _ => fun
  | [d1, d2] => { results := [.lit (.bool true)], args := [d1, d2] }
  | _ => none }
def sexpPrintsRow : OpenClaim := { program := "ytciojbdkoojlhaa", sum := "4272c13915788d1b4c0dfb23b4ff64bf27f69a5080fbd4568fb3efb4c6e19090", func := "carling/carlinglaw02.SexpPrints", spec := "sexpPrints", inPlace := ["internal/bytealg.IndexByteString", "internal/abi.NoEscape"], unfollowed := true, recurses := true, loops := true, apart := false }
def SexpPrintsSaid : Prop := sexpPrintsRow.holds Try.pinned (OpenSpec.ofChange sexpPrintsSpec)

/-- ITS FALSE NEIGHBOUR: 'it returns false'. Refute it at one input. -/
def sexpPrintsWrong : ChangeSpec := { name := "sexpPrints", fn := fun _ => fun
  | [d1, d2] => { results := [.lit (.bool false)], args := [d1, d2] }
  | _ => none }
def SexpPrintsWrongFalsely : Prop := sexpPrintsRow.holds Try.pinned (OpenSpec.ofChange sexpPrintsWrong)

/-- 'carlinglaw02.SexpBack': WHATEVER THE INPUT: true; the input reads as it did. -/
def sexpBackSpec : ChangeSpec := { name := "sexpBack", fn := fun _ => fun
  | [d] => { results := [.lit (.bool true)], args := [d] }
  | _ => none }
def sexpBackRow : OpenClaim := { program := "ytciojbdkoojlhaa", sum := "4272c13915788d1b4c0dfb23b4ff64bf27f69a5080fbd4568fb3efb4c6e19090", func := "carling/carlinglaw02.SexpBack", spec := "sexpBack", inPlace := ["internal/bytealg.IndexByteString", "internal/abi.NoEscape"], unfollowed := true, recurses := true, loops := true, apart := false }
def SexpBackSaid : Prop := sexpBackRow.holds Try.pinned (OpenSpec.ofChange sexpBackSpec)

/-- ITS FALSE NEIGHBOUR: 'it returns false'. Refute it at one input. -/
def sexpBackWrong : ChangeSpec := { name := "sexpBack", fn := fun _ => fun
  | [d] => { results := [.lit (.bool false)], args := [d] }
  | _ => none }
def SexpBackWrongFalsely : Prop := sexpBackRow.holds Try.pinned (OpenSpec.ofChange sexpBackWrong)

/-- 'carlinglaw02.SexpLies': WHATEVER THE INPUT: true; the input reads as it did. -/
def sexpLiesSpec : ChangeSpec := { name := "sexpLies", fn := fun _ => fun
  | [d] => { results := [.lit (.bool true)], args := [d] }
  | _ => none }
def sexpLiesRow : OpenClaim := { program := "ytciojbdkoojlhaa", sum := "4272c13915788d1b4c0dfb23b4ff64bf27f69a5080fbd4568fb3efb4c6e19090", func := "carling/carlinglaw02.SexpLies", spec := "sexpLies", inPlace := ["internal/bytealg.IndexByteString", "internal/abi.NoEscape"], unfollowed := true, recurses := true, apart := false }
def SexpLiesSaid : Prop := sexpLiesRow.holds Try.pinned (OpenSpec.ofChange sexpLiesSpec)

/-- ITS FALSE NEIGHBOUR: 'it returns false'. Refute it at one input. -/
def sexpLiesWrong : ChangeSpec := { name := "sexpLies", fn := fun _ => fun
  | [d] => { results := [.lit (.bool false)], args := [d] }
  | _ => none }
def SexpLiesWrongFalsely : Prop := sexpLiesRow.holds Try.pinned (OpenSpec.ofChange sexpLiesWrong)

/- THE SECOND FORM. 'bulk': how many values and letters a reading holds, each counted each time it is reached (what is shared counts as often as it is met; a slice's spare places count too). A statement '..UptoSaid' is the law's where the arguments, and the package variables that the reading takes, are together of bulk at most 1048576: NARROWER than '..Said'. Prove '..Said' where nothing that the law and all that it calls make is longer than what came in: it says more and counts as full. Else prove '..UptoSaid'. A law counts once. -/
mutual
def uptoBulk {H : Type} : DataW H → Nat
  | .lit (.string bytes) => bytes.length + 1
  | .lit _ => 1
  | .nil => 1
  | .ptr d => uptoBulk d + 1
  | .slice elems spare => uptoBulkAll elems + uptoBulkAll spare + 1
  | .agg parts => uptoBulkAll parts + 1
  | .iface _ d => uptoBulk d + 1
  | .map entries => uptoBulkEntries entries + 1
  | .held _ => 1
def uptoBulkAll {H : Type} : List (DataW H) → Nat
  | [] => 0
  | d :: r => uptoBulk d + uptoBulkAll r
def uptoBulkEntries {H : Type} : List (Lit × DataW H) → Nat
  | [] => 0
  | x :: r => uptoBulkEntry x + uptoBulkEntries r
def uptoBulkEntry {H : Type} : Lit × DataW H → Nat
  | (.string bytes, d) => bytes.length + uptoBulk d + 1
  | (_, d) => uptoBulk d + 1
 end
def uptoSmall : (H : Type) → List (DataW H) → Bool := fun _ ds => decide (uptoBulkAll ds ≤ 1048576)
def OpenSpec.upto (s : _root_.Go.ChangeSpec) : _root_.Go.OpenSpec := { _root_.Go.OpenSpec.ofChange s with cond := some uptoSmall }

/-- 'carlinglaw02.SexpJoins', WHERE WHAT IT READS IS OF BULK AT MOST 1048576: true; the input reads as it did. -/
def sexpJoinsUptoRow : OpenClaim := { program := "ytciojbdkoojlhaa", sum := "4272c13915788d1b4c0dfb23b4ff64bf27f69a5080fbd4568fb3efb4c6e19090", func := "carling/carlinglaw02.SexpJoins", spec := "sexpJoins", inPlace := ["internal/bytealg.IndexByteString", "internal/abi.NoEscape"], unfollowed := true, recurses := true, apart := false, narrowed := true }
def SexpJoinsUptoSaid : Prop := sexpJoinsUptoRow.holds Try.pinned (OpenSpec.upto sexpJoinsSpec)

/-- 'carlinglaw02.SexpWord', WHERE WHAT IT READS IS OF BULK AT MOST 1048576: true; the input reads as it did. -/
def sexpWordUptoRow : OpenClaim := { program := "ytciojbdkoojlhaa", sum := "4272c13915788d1b4c0dfb23b4ff64bf27f69a5080fbd4568fb3efb4c6e19090", func := "carling/carlinglaw02.SexpWord", spec := "sexpWord", inPlace := ["internal/bytealg.IndexByteString", "internal/abi.NoEscape"], unfollowed := true, recurses := true, apart := false, narrowed := true }
def SexpWordUptoSaid : Prop := sexpWordUptoRow.holds Try.pinned (OpenSpec.upto sexpWordSpec)

/-- 'carlinglaw02.SexpParses', WHERE WHAT IT READS IS OF BULK AT MOST 1048576: true; the input reads as it did. -/
def sexpParsesUptoRow : OpenClaim := { program := "ytciojbdkoojlhaa", sum := "4272c13915788d1b4c0dfb23b4ff64bf27f69a5080fbd4568fb3efb4c6e19090", func := "carling/carlinglaw02.SexpParses", spec := "sexpParses", inPlace := ["internal/bytealg.IndexByteString", "internal/abi.NoEscape"], unfollowed := true, recurses := true, apart := false, narrowed := true }
def SexpParsesUptoSaid : Prop := sexpParsesUptoRow.holds Try.pinned (OpenSpec.upto sexpParsesSpec)

/-- 'carlinglaw02.SexpPrints', WHERE WHAT IT READS IS OF BULK AT MOST 1048576: true; the input reads as it did. -/
def sexpPrintsUptoRow : OpenClaim := { program := "ytciojbdkoojlhaa", sum := "4272c13915788d1b4c0dfb23b4ff64bf27f69a5080fbd4568fb3efb4c6e19090", func := "carling/carlinglaw02.SexpPrints", spec := "sexpPrints", inPlace := ["internal/bytealg.IndexByteString", "internal/abi.NoEscape"], unfollowed := true, recurses := true, loops := true, apart := false, narrowed := true }
def SexpPrintsUptoSaid : Prop := sexpPrintsUptoRow.holds Try.pinned (OpenSpec.upto sexpPrintsSpec)

/-- 'carlinglaw02.SexpBack', WHERE WHAT IT READS IS OF BULK AT MOST 1048576: true; the input reads as it did. -/
def sexpBackUptoRow : OpenClaim := { program := "ytciojbdkoojlhaa", sum := "4272c13915788d1b4c0dfb23b4ff64bf27f69a5080fbd4568fb3efb4c6e19090", func := "carling/carlinglaw02.SexpBack", spec := "sexpBack", inPlace := ["internal/bytealg.IndexByteString", "internal/abi.NoEscape"], unfollowed := true, recurses := true, loops := true, apart := false, narrowed := true }
def SexpBackUptoSaid : Prop := sexpBackUptoRow.holds Try.pinned (OpenSpec.upto sexpBackSpec)

/-- 'carlinglaw02.SexpLies', WHERE WHAT IT READS IS OF BULK AT MOST 1048576: true; the input reads as it did. -/
def sexpLiesUptoRow : OpenClaim := { program := "ytciojbdkoojlhaa", sum := "4272c13915788d1b4c0dfb23b4ff64bf27f69a5080fbd4568fb3efb4c6e19090", func := "carling/carlinglaw02.SexpLies", spec := "sexpLies", inPlace := ["internal/bytealg.IndexByteString", "internal/abi.NoEscape"], unfollowed := true, recurses := true, apart := false, narrowed := true }
def SexpLiesUptoSaid : Prop := sexpLiesUptoRow.holds Try.pinned (OpenSpec.upto sexpLiesSpec)

end Rows
end Go.Proofs.Ytciojbdkoojlhaa
