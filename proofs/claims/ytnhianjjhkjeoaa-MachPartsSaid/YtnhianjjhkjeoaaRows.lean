/-
  No cell of these rows narrows 'for every input' (looked for: loops, veiled, ifaces, maps, wideKeys, modest, calm, conditions, laid).
  DERIVED. THE GIVEN ROWS OF THIS SEAT. 6 by the template 'for every input the law returns true; each argument reads behind the call as it read before'; 0 by the template 'total and deterministic' (their statements: YtnhianjjhkjeoaaTotals.lean).
  GIVEN WITH THE SEED: the statements are not yours to turn. If you find one false, say at which input.
  Laid BY PROGRAM, IN A SANDBOX (cutbox-rows.mjs): the forced cells as the released guide's own fill.sh prints them over the translation 81bf8adb5a8b124f… (all of the seat's roots in one cut). By AI agents, Wed Nov 11 2026. No macro, syntax, notation, axiom, sorry.
-/
import Derived.Test.YtnhianjjhkjeoaaChecked
import GoSem.Claim
import GoSem.ClaimJoined
import GoSem.ClaimMapViews
import Derived.JoinedTies
import Derived.KernelRfl
namespace Go.Proofs.Ytnhianjjhkjeoaa
/- THE CELL 'sum', in the pinned program and in every row, IS THE sha256 OF THE DUMP (.gsa) THAT YtnhianjjhkjeoaaProg.lean LOADS. Nothing in Lean hashes anything: it is a label: what it is worth is what the hold of that sum in a sandbox is worth. -/
noncomputable def Try.pinned : Pinned := { name := "ytnhianjjhkjeoaa", sum := "81bf8adb5a8b124fb92401ac71b16b2a936a33d837b882c74994ab87930eba4b", checked := Try.checked }
namespace Rows
def none {H : Type} : Left H := { results := [], args := [] }

/-- 'carlinglaw13.MachBytes': WHATEVER THE INPUT: true; the input reads as it did. -/
def machBytesSpec : ChangeSpec := { name := "machBytes", fn := fun _ => fun
  | [d] => { results := [.lit (.bool true)], args := [d] }
  | _ => none }
def machBytesRow : OpenClaim := { program := "ytnhianjjhkjeoaa", sum := "81bf8adb5a8b124fb92401ac71b16b2a936a33d837b882c74994ab87930eba4b", func := "carling/carlinglaw13.MachBytes", spec := "machBytes", apart := false }
def MachBytesSaid : Prop := machBytesRow.holds Try.pinned (OpenSpec.ofChange machBytesSpec)

/-- ITS FALSE NEIGHBOUR: 'it returns false'. Refute it at one input. -/
def machBytesWrong : ChangeSpec := { name := "machBytes", fn := fun _ => fun
  | [d] => { results := [.lit (.bool false)], args := [d] }
  | _ => none }
def MachBytesWrongFalsely : Prop := machBytesRow.holds Try.pinned (OpenSpec.ofChange machBytesWrong)

/-- 'carlinglaw13.MachChecks': WHATEVER THE INPUT: true; the input reads as it did. -/
def machChecksSpec : ChangeSpec := { name := "machChecks", fn := fun _ => fun
  | [d1, d2] => { results := [.lit (.bool true)], args := [d1, d2] }
  | _ => none }
def machChecksRow : OpenClaim := { program := "ytnhianjjhkjeoaa", sum := "81bf8adb5a8b124fb92401ac71b16b2a936a33d837b882c74994ab87930eba4b", func := "carling/carlinglaw13.MachChecks", spec := "machChecks", apart := false }
def MachChecksSaid : Prop := machChecksRow.holds Try.pinned (OpenSpec.ofChange machChecksSpec)

/-- ITS FALSE NEIGHBOUR: 'it returns false'. Refute it at one input. -/
def machChecksWrong : ChangeSpec := { name := "machChecks", fn := fun _ => fun
  | [d1, d2] => { results := [.lit (.bool false)], args := [d1, d2] }
  | _ => none }
def MachChecksWrongFalsely : Prop := machChecksRow.holds Try.pinned (OpenSpec.ofChange machChecksWrong)

/-- 'carlinglaw13.MachMore': WHATEVER THE INPUT: true; the input reads as it did. -/
def machMoreSpec : ChangeSpec := { name := "machMore", fn := fun _ => fun
  | [d1, d2] => { results := [.lit (.bool true)], args := [d1, d2] }
  | _ => none }
def machMoreRow : OpenClaim := { program := "ytnhianjjhkjeoaa", sum := "81bf8adb5a8b124fb92401ac71b16b2a936a33d837b882c74994ab87930eba4b", func := "carling/carlinglaw13.MachMore", spec := "machMore", apart := false }
def MachMoreSaid : Prop := machMoreRow.holds Try.pinned (OpenSpec.ofChange machMoreSpec)

/-- ITS FALSE NEIGHBOUR: 'it returns false'. Refute it at one input. -/
def machMoreWrong : ChangeSpec := { name := "machMore", fn := fun _ => fun
  | [d1, d2] => { results := [.lit (.bool false)], args := [d1, d2] }
  | _ => none }
def MachMoreWrongFalsely : Prop := machMoreRow.holds Try.pinned (OpenSpec.ofChange machMoreWrong)

/-- 'carlinglaw13.MachOf': WHATEVER THE INPUT: true; the input reads as it did. -/
def machOfSpec : ChangeSpec := { name := "machOf", fn := fun _ => fun
  | [d] => { results := [.lit (.bool true)], args := [d] }
  | _ => none }
def machOfRow : OpenClaim := { program := "ytnhianjjhkjeoaa", sum := "81bf8adb5a8b124fb92401ac71b16b2a936a33d837b882c74994ab87930eba4b", func := "carling/carlinglaw13.MachOf", spec := "machOf", apart := false }
def MachOfSaid : Prop := machOfRow.holds Try.pinned (OpenSpec.ofChange machOfSpec)

/-- ITS FALSE NEIGHBOUR: 'it returns false'. Refute it at one input. -/
def machOfWrong : ChangeSpec := { name := "machOf", fn := fun _ => fun
  | [d] => { results := [.lit (.bool false)], args := [d] }
  | _ => none }
def MachOfWrongFalsely : Prop := machOfRow.holds Try.pinned (OpenSpec.ofChange machOfWrong)

/-- 'carlinglaw13.MachBack': WHATEVER THE INPUT: true; the input reads as it did. -/
def machBackSpec : ChangeSpec := { name := "machBack", fn := fun _ => fun
  | [d1, d2] => { results := [.lit (.bool true)], args := [d1, d2] }
  | _ => none }
def machBackRow : OpenClaim := { program := "ytnhianjjhkjeoaa", sum := "81bf8adb5a8b124fb92401ac71b16b2a936a33d837b882c74994ab87930eba4b", func := "carling/carlinglaw13.MachBack", spec := "machBack", apart := false }
def MachBackSaid : Prop := machBackRow.holds Try.pinned (OpenSpec.ofChange machBackSpec)

/-- ITS FALSE NEIGHBOUR: 'it returns false'. Refute it at one input. -/
def machBackWrong : ChangeSpec := { name := "machBack", fn := fun _ => fun
  | [d1, d2] => { results := [.lit (.bool false)], args := [d1, d2] }
  | _ => none }
def MachBackWrongFalsely : Prop := machBackRow.holds Try.pinned (OpenSpec.ofChange machBackWrong)

/-- 'carlinglaw13.MachParts': WHATEVER THE INPUT: true; the input reads as it did. -/
def machPartsSpec : ChangeSpec := { name := "machParts", fn := fun _ => fun
  | [d1, d2] => { results := [.lit (.bool true)], args := [d1, d2] }
  | _ => none }
def machPartsRow : OpenClaim := { program := "ytnhianjjhkjeoaa", sum := "81bf8adb5a8b124fb92401ac71b16b2a936a33d837b882c74994ab87930eba4b", func := "carling/carlinglaw13.MachParts", spec := "machParts", apart := false }
def MachPartsSaid : Prop := machPartsRow.holds Try.pinned (OpenSpec.ofChange machPartsSpec)

/-- ITS FALSE NEIGHBOUR: 'it returns false'. Refute it at one input. -/
def machPartsWrong : ChangeSpec := { name := "machParts", fn := fun _ => fun
  | [d1, d2] => { results := [.lit (.bool false)], args := [d1, d2] }
  | _ => none }
def MachPartsWrongFalsely : Prop := machPartsRow.holds Try.pinned (OpenSpec.ofChange machPartsWrong)

/- THE SECOND FORM. 'bulk': how many values and letters a reading holds, each counted each time it is reached (what is shared counts as often as it is met; a slice's spare places count too). A statement '..UptoSaid' is the law's where the arguments, and the package variables that the reading takes, are together of bulk at most 1048576: NARROWER than '..Said'. Prove '..Said' where nothing that the law and all that it calls make is longer than what came in: it says more and counts as full. Else prove '..UptoSaid'. A law counts once. -/
mutual
def uptoBulk {H : Type} : DataW H → Nat
  | .lit (.string bytes) => bytes.length + 1
  | .lit _ => 1
  | .nil => 1
  | .ptr d => uptoBulk d + 1
  | .slice elems spare => uptoBulkAll elems + uptoBulkAll spare + 1
  | .agg parts => uptoBulkAll parts + 1
  | .iface _ d => uptoBulk d + 1
  | .map entries => uptoBulkEntries entries + 1
  | .held _ => 1
def uptoBulkAll {H : Type} : List (DataW H) → Nat
  | [] => 0
  | d :: r => uptoBulk d + uptoBulkAll r
def uptoBulkEntries {H : Type} : List (Lit × DataW H) → Nat
  | [] => 0
  | x :: r => uptoBulkEntry x + uptoBulkEntries r
def uptoBulkEntry {H : Type} : Lit × DataW H → Nat
  | (.string bytes, d) => bytes.length + uptoBulk d + 1
  | (_, d) => uptoBulk d + 1
 end
def uptoSmall : (H : Type) → List (DataW H) → Bool := fun _ ds => decide (uptoBulkAll ds ≤ 1048576)
def OpenSpec.upto (s : _root_.Go.ChangeSpec) : _root_.Go.OpenSpec := { _root_.Go.OpenSpec.ofChange s with cond := some uptoSmall }

/-- 'carlinglaw13.MachBytes', WHERE WHAT IT READS IS OF BULK AT MOST 1048576: true; the input reads as it did. -/
def machBytesUptoRow : OpenClaim := { program := "ytnhianjjhkjeoaa", sum := "81bf8adb5a8b124fb92401ac71b16b2a936a33d837b882c74994ab87930eba4b", func := "carling/carlinglaw13.MachBytes", spec := "machBytes", apart := false, narrowed := true }
def MachBytesUptoSaid : Prop := machBytesUptoRow.holds Try.pinned (OpenSpec.upto machBytesSpec)

/-- 'carlinglaw13.MachChecks', WHERE WHAT IT READS IS OF BULK AT MOST 1048576: true; the input reads as it did. -/
def machChecksUptoRow : OpenClaim := { program := "ytnhianjjhkjeoaa", sum := "81bf8adb5a8b124fb92401ac71b16b2a936a33d837b882c74994ab87930eba4b", func := "carling/carlinglaw13.MachChecks", spec := "machChecks", apart := false, narrowed := true }
def MachChecksUptoSaid : Prop := machChecksUptoRow.holds Try.pinned (OpenSpec.upto machChecksSpec)

/-- 'carlinglaw13.MachMore', WHERE WHAT IT READS IS OF BULK AT MOST 1048576: true; the input reads as it did. -/
def machMoreUptoRow : OpenClaim := { program := "ytnhianjjhkjeoaa", sum := "81bf8adb5a8b124fb92401ac71b16b2a936a33d837b882c74994ab87930eba4b", func := "carling/carlinglaw13.MachMore", spec := "machMore", apart := false, narrowed := true }
def MachMoreUptoSaid : Prop := machMoreUptoRow.holds Try.pinned (OpenSpec.upto machMoreSpec)

/-- 'carlinglaw13.MachOf', WHERE WHAT IT READS IS OF BULK AT MOST 1048576: true; the input reads as it did. -/
def machOfUptoRow : OpenClaim := { program := "ytnhianjjhkjeoaa", sum := "81bf8adb5a8b124fb92401ac71b16b2a936a33d837b882c74994ab87930eba4b", func := "carling/carlinglaw13.MachOf", spec := "machOf", apart := false, narrowed := true }
def MachOfUptoSaid : Prop := machOfUptoRow.holds Try.pinned (OpenSpec.upto machOfSpec)

/-- 'carlinglaw13.MachBack', WHERE WHAT IT READS IS OF BULK AT MOST 1048576: true; the input reads as it did. -/
def machBackUptoRow : OpenClaim := { program := "ytnhianjjhkjeoaa", sum := "81bf8adb5a8b124fb92401ac71b16b2a936a33d837b882c74994ab87930eba4b", func := "carling/carlinglaw13.MachBack", spec := "machBack", apart := false, narrowed := true }
def MachBackUptoSaid : Prop := machBackUptoRow.holds Try.pinned (OpenSpec.upto machBackSpec)

/-- 'carlinglaw13.MachParts', WHERE WHAT IT READS IS OF BULK AT MOST 1048576: true; the input reads as it did. -/
def machPartsUptoRow : OpenClaim := { program := "ytnhianjjhkjeoaa", sum := "81bf8adb5a8b124fb92401ac71b16b2a936a33d837b882c74994ab87930eba4b", func := "carling/carlinglaw13.MachParts", spec := "machParts", apart := false, narrowed := true }
def MachPartsUptoSaid : Prop := machPartsUptoRow.holds Try.pinned (OpenSpec.upto machPartsSpec)

end Rows
end Go.Proofs.Ytnhianjjhkjeoaa
