/-
  No cell of these rows narrows 'for every input' (looked for: loops, veiled, ifaces, maps, wideKeys, modest, calm, conditions, laid).
  DERIVED. THE GIVEN ROWS OF THIS SEAT. 6 by the template 'for every input the law returns true; each argument reads behind the call as it read before'; 0 by the template 'total and deterministic' (their statements: YtfneceeaifnhkaaTotals.lean).
  GIVEN WITH THE SEED: the statements are not yours to turn. If you find one false, say at which input.
  Laid BY PROGRAM, IN A SANDBOX (cutbox-rows.mjs): the forced cells as the released guide's own fill.sh prints them over the translation 9207e420ef298c88… (all of the seat's roots in one cut). By AI agents, Wed Nov 11 2026. No macro, syntax, notation, axiom, sorry.
-/
import Derived.Test.YtfneceeaifnhkaaChecked
import GoSem.Claim
import GoSem.ClaimJoined
import GoSem.ClaimMapViews
import Derived.JoinedTies
import Derived.KernelRfl
namespace Go.Proofs.Ytfneceeaifnhkaa
/- THE CELL 'sum', in the pinned program and in every row, IS THE sha256 OF THE DUMP (.gsa) THAT YtfneceeaifnhkaaProg.lean LOADS. Nothing in Lean hashes anything: it is a label: what it is worth is what the hold of that sum in a sandbox is worth. -/
noncomputable def Try.pinned : Pinned := { name := "ytfneceeaifnhkaa", sum := "9207e420ef298c88a9293838b90f9d121f76f7b7239dff4fb0f0f7c000db1c78", checked := Try.checked }
namespace Rows
def none {H : Type} : Left H := { results := [], args := [] }

/-- 'carlinglaw01.WordOps': WHATEVER THE INPUT: true; the input reads as it did. -/
def wordOpsSpec : ChangeSpec := { name := "wordOps", fn := fun _ => fun
  | [d1, d2, d3] => { results := [.lit (.bool true)], args := [d1, d2, d3] }
  | _ => none }
def wordOpsRow : OpenClaim := { program := "ytfneceeaifnhkaa", sum := "9207e420ef298c88a9293838b90f9d121f76f7b7239dff4fb0f0f7c000db1c78", func := "carling/carlinglaw01.WordOps", spec := "wordOps", apart := false }
def WordOpsSaid : Prop := wordOpsRow.holds Try.pinned (OpenSpec.ofChange wordOpsSpec)

/-- ITS FALSE NEIGHBOUR: 'it returns false'. Refute it at one input. -/
def wordOpsWrong : ChangeSpec := { name := "wordOps", fn := fun _ => fun
  | [d1, d2, d3] => { results := [.lit (.bool false)], args := [d1, d2, d3] }
  | _ => none }
def WordOpsWrongFalsely : Prop := wordOpsRow.holds Try.pinned (OpenSpec.ofChange wordOpsWrong)

/-- 'carlinglaw01.WordUndo': WHATEVER THE INPUT: true; the input reads as it did. -/
def wordUndoSpec : ChangeSpec := { name := "wordUndo", fn := fun _ => fun
  | [d1, d2] => { results := [.lit (.bool true)], args := [d1, d2] }
  | _ => none }
def wordUndoRow : OpenClaim := { program := "ytfneceeaifnhkaa", sum := "9207e420ef298c88a9293838b90f9d121f76f7b7239dff4fb0f0f7c000db1c78", func := "carling/carlinglaw01.WordUndo", spec := "wordUndo", apart := false }
def WordUndoSaid : Prop := wordUndoRow.holds Try.pinned (OpenSpec.ofChange wordUndoSpec)

/-- ITS FALSE NEIGHBOUR: 'it returns false'. Refute it at one input. -/
def wordUndoWrong : ChangeSpec := { name := "wordUndo", fn := fun _ => fun
  | [d1, d2] => { results := [.lit (.bool false)], args := [d1, d2] }
  | _ => none }
def WordUndoWrongFalsely : Prop := wordUndoRow.holds Try.pinned (OpenSpec.ofChange wordUndoWrong)

/-- 'carlinglaw01.WordParts': WHATEVER THE INPUT: true; the input reads as it did. -/
def wordPartsSpec : ChangeSpec := { name := "wordParts", fn := fun _ => fun
  | [d1, d2] => { results := [.lit (.bool true)], args := [d1, d2] }
  | _ => none }
def wordPartsRow : OpenClaim := { program := "ytfneceeaifnhkaa", sum := "9207e420ef298c88a9293838b90f9d121f76f7b7239dff4fb0f0f7c000db1c78", func := "carling/carlinglaw01.WordParts", spec := "wordParts", apart := false }
def WordPartsSaid : Prop := wordPartsRow.holds Try.pinned (OpenSpec.ofChange wordPartsSpec)

/-- ITS FALSE NEIGHBOUR: 'it returns false'. Refute it at one input. -/
def wordPartsWrong : ChangeSpec := { name := "wordParts", fn := fun _ => fun
  | [d1, d2] => { results := [.lit (.bool false)], args := [d1, d2] }
  | _ => none }
def WordPartsWrongFalsely : Prop := wordPartsRow.holds Try.pinned (OpenSpec.ofChange wordPartsWrong)

/-- 'carlinglaw01.WordOrder': WHATEVER THE INPUT: true; the input reads as it did. -/
def wordOrderSpec : ChangeSpec := { name := "wordOrder", fn := fun _ => fun
  | [d1, d2, d3] => { results := [.lit (.bool true)], args := [d1, d2, d3] }
  | _ => none }
def wordOrderRow : OpenClaim := { program := "ytfneceeaifnhkaa", sum := "9207e420ef298c88a9293838b90f9d121f76f7b7239dff4fb0f0f7c000db1c78", func := "carling/carlinglaw01.WordOrder", spec := "wordOrder", apart := false }
def WordOrderSaid : Prop := wordOrderRow.holds Try.pinned (OpenSpec.ofChange wordOrderSpec)

/-- ITS FALSE NEIGHBOUR: 'it returns false'. Refute it at one input. -/
def wordOrderWrong : ChangeSpec := { name := "wordOrder", fn := fun _ => fun
  | [d1, d2, d3] => { results := [.lit (.bool false)], args := [d1, d2, d3] }
  | _ => none }
def WordOrderWrongFalsely : Prop := wordOrderRow.holds Try.pinned (OpenSpec.ofChange wordOrderWrong)

/-- 'carlinglaw01.WordSigns': WHATEVER THE INPUT: true; the input reads as it did. -/
def wordSignsSpec : ChangeSpec := { name := "wordSigns", fn := fun _ => fun
  | [d1, d2] => { results := [.lit (.bool true)], args := [d1, d2] }
  | _ => none }
def wordSignsRow : OpenClaim := { program := "ytfneceeaifnhkaa", sum := "9207e420ef298c88a9293838b90f9d121f76f7b7239dff4fb0f0f7c000db1c78", func := "carling/carlinglaw01.WordSigns", spec := "wordSigns", apart := false }
def WordSignsSaid : Prop := wordSignsRow.holds Try.pinned (OpenSpec.ofChange wordSignsSpec)

/-- ITS FALSE NEIGHBOUR: 'it returns false'. Refute it at one input. -/
def wordSignsWrong : ChangeSpec := { name := "wordSigns", fn := fun _ => fun
  | [d1, d2] => { results := [.lit (.bool false)], args := [d1, d2] }
  | _ => none }
def WordSignsWrongFalsely : Prop := wordSignsRow.holds Try.pinned (OpenSpec.ofChange wordSignsWrong)

/-- 'carlinglaw01.WordBack': WHATEVER THE INPUT: true; the input reads as it did. -/
def wordBackSpec : ChangeSpec := { name := "wordBack", fn := fun _ => fun
  | [d1, d2] => { results := [.lit (.bool true)], args := [d1, d2] }
  | _ => none }
def wordBackRow : OpenClaim := { program := "ytfneceeaifnhkaa", sum := "9207e420ef298c88a9293838b90f9d121f76f7b7239dff4fb0f0f7c000db1c78", func := "carling/carlinglaw01.WordBack", spec := "wordBack", apart := false }
def WordBackSaid : Prop := wordBackRow.holds Try.pinned (OpenSpec.ofChange wordBackSpec)

/-- ITS FALSE NEIGHBOUR: 'it returns false'. Refute it at one input. -/
def wordBackWrong : ChangeSpec := { name := "wordBack", fn := fun _ => fun
  | [d1, d2] => { results := [.lit (.bool false)], args := [d1, d2] }
  | _ => none }
def WordBackWrongFalsely : Prop := wordBackRow.holds Try.pinned (OpenSpec.ofChange wordBackWrong)

/- THE SECOND FORM. 'bulk': how many values and letters a reading holds, each counted each time it is reached (what is shared counts as often as it is met; a slice's spare places count too). A statement '..UptoSaid' is the law's where the arguments, and the package variables that the reading takes, are together of bulk at most 1048576: NARROWER than '..Said'. Prove '..Said' where nothing that the law and all that it calls make is longer than what came in: it says more and counts as full. Else prove '..UptoSaid'. A law counts once. -/
mutual
def uptoBulk {H : Type} : DataW H → Nat
  | .lit (.string bytes) => bytes.length + 1
  | .lit _ => 1
  | .nil => 1
  | .ptr d => uptoBulk d + 1
  | .slice elems spare => uptoBulkAll elems + uptoBulkAll spare + 1
  | .agg parts => uptoBulkAll parts + 1
  | .iface _ d => uptoBulk d + 1
  | .map entries => uptoBulkEntries entries + 1
  | .held _ => 1
def uptoBulkAll {H : Type} : List (DataW H) → Nat
  | [] => 0
  | d :: r => uptoBulk d + uptoBulkAll r
def uptoBulkEntries {H : Type} : List (Lit × DataW H) → Nat
  | [] => 0
  | x :: r => uptoBulkEntry x + uptoBulkEntries r
def uptoBulkEntry {H : Type} : Lit × DataW H → Nat
  | (.string bytes, d) => bytes.length + uptoBulk d + 1
  | (_, d) => uptoBulk d + 1
 end
def uptoSmall : (H : Type) → List (DataW H) → Bool := fun _ ds => decide (uptoBulkAll ds ≤ 1048576)
def OpenSpec.upto (s : _root_.Go.ChangeSpec) : _root_.Go.OpenSpec := { _root_.Go.OpenSpec.ofChange s with cond := some uptoSmall }

/-- 'carlinglaw01.WordOps', WHERE WHAT IT READS IS OF BULK AT MOST 1048576: true; the input reads as it did. -/
def wordOpsUptoRow : OpenClaim := { program := "ytfneceeaifnhkaa", sum := "9207e420ef298c88a9293838b90f9d121f76f7b7239dff4fb0f0f7c000db1c78", func := "carling/carlinglaw01.WordOps", spec := "wordOps", apart := false, narrowed := true }
def WordOpsUptoSaid : Prop := wordOpsUptoRow.holds Try.pinned (OpenSpec.upto wordOpsSpec)

/-- 'carlinglaw01.WordUndo', WHERE WHAT IT READS IS OF BULK AT MOST 1048576: true; the input reads as it did. -/
def wordUndoUptoRow : OpenClaim := { program := "ytfneceeaifnhkaa", sum := "9207e420ef298c88a9293838b90f9d121f76f7b7239dff4fb0f0f7c000db1c78", func := "carling/carlinglaw01.WordUndo", spec := "wordUndo", apart := false, narrowed := true }
def WordUndoUptoSaid : Prop := wordUndoUptoRow.holds Try.pinned (OpenSpec.upto wordUndoSpec)

/-- 'carlinglaw01.WordParts', WHERE WHAT IT READS IS OF BULK AT MOST 1048576: true; the input reads as it did. -/
def wordPartsUptoRow : OpenClaim := { program := "ytfneceeaifnhkaa", sum := "9207e420ef298c88a9293838b90f9d121f76f7b7239dff4fb0f0f7c000db1c78", func := "carling/carlinglaw01.WordParts", spec := "wordParts", apart := false, narrowed := true }
def WordPartsUptoSaid : Prop := wordPartsUptoRow.holds Try.pinned (OpenSpec.upto wordPartsSpec)

/-- 'carlinglaw01.WordOrder', WHERE WHAT IT READS IS OF BULK AT MOST 1048576: true; the input reads as it did. -/
def wordOrderUptoRow : OpenClaim := { program := "ytfneceeaifnhkaa", sum := "9207e420ef298c88a9293838b90f9d121f76f7b7239dff4fb0f0f7c000db1c78", func := "carling/carlinglaw01.WordOrder", spec := "wordOrder", apart := false, narrowed := true }
def WordOrderUptoSaid : Prop := wordOrderUptoRow.holds Try.pinned (OpenSpec.upto wordOrderSpec)

/-- 'carlinglaw01.WordSigns', WHERE WHAT IT READS IS OF BULK AT MOST 1048576: true; the input reads as it did. -/
def wordSignsUptoRow : OpenClaim := { program := "ytfneceeaifnhkaa", sum := "9207e420ef298c88a9293838b90f9d121f76f7b7239dff4fb0f0f7c000db1c78", func := "carling/carlinglaw01.WordSigns", spec := "wordSigns", apart := false, narrowed := true }
def WordSignsUptoSaid : Prop := wordSignsUptoRow.holds Try.pinned (OpenSpec.upto wordSignsSpec)

/-- 'carlinglaw01.WordBack', WHERE WHAT IT READS IS OF BULK AT MOST 1048576: true; the input reads as it did. -/
def wordBackUptoRow : OpenClaim := { program := "ytfneceeaifnhkaa", sum := "9207e420ef298c88a9293838b90f9d121f76f7b7239dff4fb0f0f7c000db1c78", func := "carling/carlinglaw01.WordBack", spec := "wordBack", apart := false, narrowed := true }
def WordBackUptoSaid : Prop := wordBackUptoRow.holds Try.pinned (OpenSpec.upto wordBackSpec)

end Rows
end Go.Proofs.Ytfneceeaifnhkaa
