/-
  No cell of these rows narrows 'for every input' (looked for: loops, veiled, ifaces, maps, wideKeys, modest, calm, conditions, laid).
  DERIVED. THE GIVEN ROWS OF THIS SEAT. 10 by the template 'for every input the law returns true; each argument reads behind the call as it read before'; 0 by the template 'total and deterministic' (their statements: YtdmgceckmciifaaTotals.lean).
  GIVEN WITH THE SEED: the statements are not yours to turn. If you find one false, say at which input.
  Laid BY PROGRAM, IN A SANDBOX (cutbox-rows.mjs): the forced cells as the released guide's own fill.sh prints them over the translation ae6bff1cb2e69aa5… (all of the seat's roots in one cut). By AI agents, Wed Nov 11 2026. No macro, syntax, notation, axiom, sorry.
-/
import Derived.Test.YtdmgceckmciifaaChecked
import GoSem.Claim
import GoSem.ClaimJoined
import GoSem.ClaimMapViews
import Derived.JoinedTies
import Derived.KernelRfl
namespace Go.Proofs.Ytdmgceckmciifaa
/- THE CELL 'sum', in the pinned program and in every row, IS THE sha256 OF THE DUMP (.gsa) THAT YtdmgceckmciifaaProg.lean LOADS. Nothing in Lean hashes anything: it is a label: what it is worth is what the hold of that sum in a sandbox is worth. -/
noncomputable def Try.pinned : Pinned := { name := "ytdmgceckmciifaa", sum := "ae6bff1cb2e69aa5f452c488146ce9563ed2cadd855b1a1d4a50e6c8776eb3e8", checked := Try.checked }
namespace Rows
def none {H : Type} : Left H := { results := [], args := [] }

/-- 'unbentlaw01.FracMake': WHATEVER THE INPUT: true; the input reads as it did. -/
def fracMakeSpec : ChangeSpec := { name := "fracMake", fn := fun _ => fun
  | [d1, d2] => { results := [.lit (.bool true)], args := [d1, d2] }
  | _ => none }
def fracMakeRow : OpenClaim := { program := "ytdmgceckmciifaa", sum := "ae6bff1cb2e69aa5f452c488146ce9563ed2cadd855b1a1d4a50e6c8776eb3e8", func := "unbent/unbentlaw01.FracMake", spec := "fracMake", apart := false }
def FracMakeSaid : Prop := fracMakeRow.holds Try.pinned (OpenSpec.ofChange fracMakeSpec)

/-- ITS FALSE NEIGHBOUR: 'it returns false'. Refute it at one input. -/
def fracMakeWrong : ChangeSpec := { name := "fracMake", fn := fun _ => fun
  | [d1, d2] => { results := [.lit (.bool false)], args := [d1, d2] }
  | _ => none }
def FracMakeWrongFalsely : Prop := fracMakeRow.holds Try.pinned (OpenSpec.ofChange fracMakeWrong)

/-- 'unbentlaw01.FracFix': WHATEVER THE INPUT: true; the input reads as it did. -/
def fracFixSpec : ChangeSpec := { name := "fracFix", fn := fun _ => fun
  | [d] => { results := [.lit (.bool true)], args := [d] }
  | _ => none }
def fracFixRow : OpenClaim := { program := "ytdmgceckmciifaa", sum := "ae6bff1cb2e69aa5f452c488146ce9563ed2cadd855b1a1d4a50e6c8776eb3e8", func := "unbent/unbentlaw01.FracFix", spec := "fracFix", apart := false }
def FracFixSaid : Prop := fracFixRow.holds Try.pinned (OpenSpec.ofChange fracFixSpec)

/-- ITS FALSE NEIGHBOUR: 'it returns false'. Refute it at one input. -/
def fracFixWrong : ChangeSpec := { name := "fracFix", fn := fun _ => fun
  | [d] => { results := [.lit (.bool false)], args := [d] }
  | _ => none }
def FracFixWrongFalsely : Prop := fracFixRow.holds Try.pinned (OpenSpec.ofChange fracFixWrong)

/-- 'unbentlaw01.FracOrder': WHATEVER THE INPUT: true; the input reads as it did. -/
def fracOrderSpec : ChangeSpec := { name := "fracOrder", fn := fun _ => fun
  | [d1, d2, d3] => { results := [.lit (.bool true)], args := [d1, d2, d3] }
  | _ => none }
def fracOrderRow : OpenClaim := { program := "ytdmgceckmciifaa", sum := "ae6bff1cb2e69aa5f452c488146ce9563ed2cadd855b1a1d4a50e6c8776eb3e8", func := "unbent/unbentlaw01.FracOrder", spec := "fracOrder", apart := false }
def FracOrderSaid : Prop := fracOrderRow.holds Try.pinned (OpenSpec.ofChange fracOrderSpec)

/-- ITS FALSE NEIGHBOUR: 'it returns false'. Refute it at one input. -/
def fracOrderWrong : ChangeSpec := { name := "fracOrder", fn := fun _ => fun
  | [d1, d2, d3] => { results := [.lit (.bool false)], args := [d1, d2, d3] }
  | _ => none }
def FracOrderWrongFalsely : Prop := fracOrderRow.holds Try.pinned (OpenSpec.ofChange fracOrderWrong)

/-- 'unbentlaw01.FracOps': WHATEVER THE INPUT: true; the input reads as it did. -/
def fracOpsSpec : ChangeSpec := { name := "fracOps", fn := fun _ => fun
  | [d1, d2] => { results := [.lit (.bool true)], args := [d1, d2] }
  | _ => none }
def fracOpsRow : OpenClaim := { program := "ytdmgceckmciifaa", sum := "ae6bff1cb2e69aa5f452c488146ce9563ed2cadd855b1a1d4a50e6c8776eb3e8", func := "unbent/unbentlaw01.FracOps", spec := "fracOps", apart := false }
def FracOpsSaid : Prop := fracOpsRow.holds Try.pinned (OpenSpec.ofChange fracOpsSpec)

/-- ITS FALSE NEIGHBOUR: 'it returns false'. Refute it at one input. -/
def fracOpsWrong : ChangeSpec := { name := "fracOps", fn := fun _ => fun
  | [d1, d2] => { results := [.lit (.bool false)], args := [d1, d2] }
  | _ => none }
def FracOpsWrongFalsely : Prop := fracOpsRow.holds Try.pinned (OpenSpec.ofChange fracOpsWrong)

/-- 'unbentlaw01.FracField': WHATEVER THE INPUT: true; the input reads as it did. -/
def fracFieldSpec : ChangeSpec := { name := "fracField", fn := fun _ => fun
  | [d1, d2, d3] => { results := [.lit (.bool true)], args := [d1, d2, d3] }
  | _ => none }
def fracFieldRow : OpenClaim := { program := "ytdmgceckmciifaa", sum := "ae6bff1cb2e69aa5f452c488146ce9563ed2cadd855b1a1d4a50e6c8776eb3e8", func := "unbent/unbentlaw01.FracField", spec := "fracField", apart := false }
def FracFieldSaid : Prop := fracFieldRow.holds Try.pinned (OpenSpec.ofChange fracFieldSpec)

/-- ITS FALSE NEIGHBOUR: 'it returns false'. Refute it at one input. -/
def fracFieldWrong : ChangeSpec := { name := "fracField", fn := fun _ => fun
  | [d1, d2, d3] => { results := [.lit (.bool false)], args := [d1, d2, d3] }
  | _ => none }
def FracFieldWrongFalsely : Prop := fracFieldRow.holds Try.pinned (OpenSpec.ofChange fracFieldWrong)

/-- 'unbentlaw01.FracLists': WHATEVER THE INPUT: true; the input reads as it did. -/
def fracListsSpec : ChangeSpec := { name := "fracLists", fn := fun _ => fun
  | [d1, d2] => { results := [.lit (.bool true)], args := [d1, d2] }
  | _ => none }
def fracListsRow : OpenClaim := { program := "ytdmgceckmciifaa", sum := "ae6bff1cb2e69aa5f452c488146ce9563ed2cadd855b1a1d4a50e6c8776eb3e8", func := "unbent/unbentlaw01.FracLists", spec := "fracLists", apart := false }
def FracListsSaid : Prop := fracListsRow.holds Try.pinned (OpenSpec.ofChange fracListsSpec)

/-- ITS FALSE NEIGHBOUR: 'it returns false'. Refute it at one input. -/
def fracListsWrong : ChangeSpec := { name := "fracLists", fn := fun _ => fun
  | [d1, d2] => { results := [.lit (.bool false)], args := [d1, d2] }
  | _ => none }
def FracListsWrongFalsely : Prop := fracListsRow.holds Try.pinned (OpenSpec.ofChange fracListsWrong)

/-- 'unbentlaw01.FracPrint': WHATEVER THE INPUT: true; the input reads as it did. -/
def fracPrintSpec : ChangeSpec := { name := "fracPrint", fn := fun _ => fun
  | [d] => { results := [.lit (.bool true)], args := [d] }
  | _ => none }
def fracPrintRow : OpenClaim := { program := "ytdmgceckmciifaa", sum := "ae6bff1cb2e69aa5f452c488146ce9563ed2cadd855b1a1d4a50e6c8776eb3e8", func := "unbent/unbentlaw01.FracPrint", spec := "fracPrint", inPlace := ["internal/bytealg.IndexByteString", "internal/bytealg.IndexString"], named := ["internal/bytealg.MaxLen"], apart := false }
def FracPrintSaid : Prop := fracPrintRow.holds Try.pinned (OpenSpec.ofChange fracPrintSpec)

/-- ITS FALSE NEIGHBOUR: 'it returns false'. Refute it at one input. -/
def fracPrintWrong : ChangeSpec := { name := "fracPrint", fn := fun _ => fun
  | [d] => { results := [.lit (.bool false)], args := [d] }
  | _ => none }
def FracPrintWrongFalsely : Prop := fracPrintRow.holds Try.pinned (OpenSpec.ofChange fracPrintWrong)

/-- 'unbentlaw01.FracLinearBoth': WHATEVER THE INPUT: true; the input reads as it did. -/
def fracLinearBothSpec : ChangeSpec := { name := "fracLinearBoth", fn := fun _ => fun
  | [d1, d2, d3] => { results := [.lit (.bool true)], args := [d1, d2, d3] }
  | _ => none }
def fracLinearBothRow : OpenClaim := { program := "ytdmgceckmciifaa", sum := "ae6bff1cb2e69aa5f452c488146ce9563ed2cadd855b1a1d4a50e6c8776eb3e8", func := "unbent/unbentlaw01.FracLinearBoth", spec := "fracLinearBoth", apart := false }
def FracLinearBothSaid : Prop := fracLinearBothRow.holds Try.pinned (OpenSpec.ofChange fracLinearBothSpec)

/-- ITS FALSE NEIGHBOUR: 'it returns false'. Refute it at one input. -/
def fracLinearBothWrong : ChangeSpec := { name := "fracLinearBoth", fn := fun _ => fun
  | [d1, d2, d3] => { results := [.lit (.bool false)], args := [d1, d2, d3] }
  | _ => none }
def FracLinearBothWrongFalsely : Prop := fracLinearBothRow.holds Try.pinned (OpenSpec.ofChange fracLinearBothWrong)

/-- 'unbentlaw01.FracTexts': WHATEVER THE INPUT: true; the input reads as it did. -/
def fracTextsSpec : ChangeSpec := { name := "fracTexts", fn := fun _ => fun
  | [d] => { results := [.lit (.bool true)], args := [d] }
  | _ => none }
def fracTextsRow : OpenClaim := { program := "ytdmgceckmciifaa", sum := "ae6bff1cb2e69aa5f452c488146ce9563ed2cadd855b1a1d4a50e6c8776eb3e8", func := "unbent/unbentlaw01.FracTexts", spec := "fracTexts", inPlace := ["internal/bytealg.IndexByteString", "internal/bytealg.IndexString"], named := ["internal/bytealg.MaxLen"], apart := false }
def FracTextsSaid : Prop := fracTextsRow.holds Try.pinned (OpenSpec.ofChange fracTextsSpec)

/-- ITS FALSE NEIGHBOUR: 'it returns false'. Refute it at one input. -/
def fracTextsWrong : ChangeSpec := { name := "fracTexts", fn := fun _ => fun
  | [d] => { results := [.lit (.bool false)], args := [d] }
  | _ => none }
def FracTextsWrongFalsely : Prop := fracTextsRow.holds Try.pinned (OpenSpec.ofChange fracTextsWrong)

/-- 'unbentlaw01.FracLinear': WHATEVER THE INPUT: true; the input reads as it did. -/
def fracLinearSpec : ChangeSpec := { name := "fracLinear", fn := fun _ => fun
  | [d1, d2] => { results := [.lit (.bool true)], args := [d1, d2] }
  | _ => none }
def fracLinearRow : OpenClaim := { program := "ytdmgceckmciifaa", sum := "ae6bff1cb2e69aa5f452c488146ce9563ed2cadd855b1a1d4a50e6c8776eb3e8", func := "unbent/unbentlaw01.FracLinear", spec := "fracLinear", apart := false }
def FracLinearSaid : Prop := fracLinearRow.holds Try.pinned (OpenSpec.ofChange fracLinearSpec)

/-- ITS FALSE NEIGHBOUR: 'it returns false'. Refute it at one input. -/
def fracLinearWrong : ChangeSpec := { name := "fracLinear", fn := fun _ => fun
  | [d1, d2] => { results := [.lit (.bool false)], args := [d1, d2] }
  | _ => none }
def FracLinearWrongFalsely : Prop := fracLinearRow.holds Try.pinned (OpenSpec.ofChange fracLinearWrong)

/- THE SECOND FORM. 'bulk': how many values and letters a reading holds, each counted each time it is reached (what is shared counts as often as it is met; a slice's spare places count too). A statement '..UptoSaid' is the law's where the arguments, and the package variables that the reading takes, are together of bulk at most 1048576: NARROWER than '..Said'. Prove '..Said' where nothing that the law and all that it calls make is longer than what came in: it says more and counts as full. Else prove '..UptoSaid'. A law counts once. -/
mutual
def uptoBulk {H : Type} : DataW H → Nat
  | .lit (.string bytes) => bytes.length + 1
  | .lit _ => 1
  | .nil => 1
  | .ptr d => uptoBulk d + 1
  | .slice elems spare => uptoBulkAll elems + uptoBulkAll spare + 1
  | .agg parts => uptoBulkAll parts + 1
  | .iface _ d => uptoBulk d + 1
  | .map entries => uptoBulkEntries entries + 1
  | .held _ => 1
def uptoBulkAll {H : Type} : List (DataW H) → Nat
  | [] => 0
  | d :: r => uptoBulk d + uptoBulkAll r
def uptoBulkEntries {H : Type} : List (Lit × DataW H) → Nat
  | [] => 0
  | x :: r => uptoBulkEntry x + uptoBulkEntries r
def uptoBulkEntry {H : Type} : Lit × DataW H → Nat
  | (.string bytes, d) => bytes.length + uptoBulk d + 1
  | (_, d) => uptoBulk d + 1
 end
def uptoSmall : (H : Type) → List (DataW H) → Bool := fun _ ds => decide (uptoBulkAll ds ≤ 1048576)
def OpenSpec.upto (s : _root_.Go.ChangeSpec) : _root_.Go.OpenSpec := { _root_.Go.OpenSpec.ofChange s with cond := some uptoSmall }

/-- 'unbentlaw01.FracMake', WHERE WHAT IT READS IS OF BULK AT MOST 1048576: true; the input reads as it did. -/
def fracMakeUptoRow : OpenClaim := { program := "ytdmgceckmciifaa", sum := "ae6bff1cb2e69aa5f452c488146ce9563ed2cadd855b1a1d4a50e6c8776eb3e8", func := "unbent/unbentlaw01.FracMake", spec := "fracMake", apart := false, narrowed := true }
def FracMakeUptoSaid : Prop := fracMakeUptoRow.holds Try.pinned (OpenSpec.upto fracMakeSpec)

/-- 'unbentlaw01.FracFix', WHERE WHAT IT READS IS OF BULK AT MOST 1048576: true; the input reads as it did. -/
def fracFixUptoRow : OpenClaim := { program := "ytdmgceckmciifaa", sum := "ae6bff1cb2e69aa5f452c488146ce9563ed2cadd855b1a1d4a50e6c8776eb3e8", func := "unbent/unbentlaw01.FracFix", spec := "fracFix", apart := false, narrowed := true }
def FracFixUptoSaid : Prop := fracFixUptoRow.holds Try.pinned (OpenSpec.upto fracFixSpec)

/-- 'unbentlaw01.FracOrder', WHERE WHAT IT READS IS OF BULK AT MOST 1048576: true; the input reads as it did. -/
def fracOrderUptoRow : OpenClaim := { program := "ytdmgceckmciifaa", sum := "ae6bff1cb2e69aa5f452c488146ce9563ed2cadd855b1a1d4a50e6c8776eb3e8", func := "unbent/unbentlaw01.FracOrder", spec := "fracOrder", apart := false, narrowed := true }
def FracOrderUptoSaid : Prop := fracOrderUptoRow.holds Try.pinned (OpenSpec.upto fracOrderSpec)

/-- 'unbentlaw01.FracOps', WHERE WHAT IT READS IS OF BULK AT MOST 1048576: true; the input reads as it did. -/
def fracOpsUptoRow : OpenClaim := { program := "ytdmgceckmciifaa", sum := "ae6bff1cb2e69aa5f452c488146ce9563ed2cadd855b1a1d4a50e6c8776eb3e8", func := "unbent/unbentlaw01.FracOps", spec := "fracOps", apart := false, narrowed := true }
def FracOpsUptoSaid : Prop := fracOpsUptoRow.holds Try.pinned (OpenSpec.upto fracOpsSpec)

/-- 'unbentlaw01.FracField', WHERE WHAT IT READS IS OF BULK AT MOST 1048576: true; the input reads as it did. -/
def fracFieldUptoRow : OpenClaim := { program := "ytdmgceckmciifaa", sum := "ae6bff1cb2e69aa5f452c488146ce9563ed2cadd855b1a1d4a50e6c8776eb3e8", func := "unbent/unbentlaw01.FracField", spec := "fracField", apart := false, narrowed := true }
def FracFieldUptoSaid : Prop := fracFieldUptoRow.holds Try.pinned (OpenSpec.upto fracFieldSpec)

/-- 'unbentlaw01.FracLists', WHERE WHAT IT READS IS OF BULK AT MOST 1048576: true; the input reads as it did. -/
def fracListsUptoRow : OpenClaim := { program := "ytdmgceckmciifaa", sum := "ae6bff1cb2e69aa5f452c488146ce9563ed2cadd855b1a1d4a50e6c8776eb3e8", func := "unbent/unbentlaw01.FracLists", spec := "fracLists", apart := false, narrowed := true }
def FracListsUptoSaid : Prop := fracListsUptoRow.holds Try.pinned (OpenSpec.upto fracListsSpec)

/-- 'unbentlaw01.FracPrint', WHERE WHAT IT READS IS OF BULK AT MOST 1048576: true; the input reads as it did. -/
def fracPrintUptoRow : OpenClaim := { program := "ytdmgceckmciifaa", sum := "ae6bff1cb2e69aa5f452c488146ce9563ed2cadd855b1a1d4a50e6c8776eb3e8", func := "unbent/unbentlaw01.FracPrint", spec := "fracPrint", inPlace := ["internal/bytealg.IndexByteString", "internal/bytealg.IndexString"], named := ["internal/bytealg.MaxLen"], apart := false, narrowed := true }
def FracPrintUptoSaid : Prop := fracPrintUptoRow.holds Try.pinned (OpenSpec.upto fracPrintSpec)

/-- 'unbentlaw01.FracLinearBoth', WHERE WHAT IT READS IS OF BULK AT MOST 1048576: true; the input reads as it did. -/
def fracLinearBothUptoRow : OpenClaim := { program := "ytdmgceckmciifaa", sum := "ae6bff1cb2e69aa5f452c488146ce9563ed2cadd855b1a1d4a50e6c8776eb3e8", func := "unbent/unbentlaw01.FracLinearBoth", spec := "fracLinearBoth", apart := false, narrowed := true }
def FracLinearBothUptoSaid : Prop := fracLinearBothUptoRow.holds Try.pinned (OpenSpec.upto fracLinearBothSpec)

/-- 'unbentlaw01.FracTexts', WHERE WHAT IT READS IS OF BULK AT MOST 1048576: true; the input reads as it did. -/
def fracTextsUptoRow : OpenClaim := { program := "ytdmgceckmciifaa", sum := "ae6bff1cb2e69aa5f452c488146ce9563ed2cadd855b1a1d4a50e6c8776eb3e8", func := "unbent/unbentlaw01.FracTexts", spec := "fracTexts", inPlace := ["internal/bytealg.IndexByteString", "internal/bytealg.IndexString"], named := ["internal/bytealg.MaxLen"], apart := false, narrowed := true }
def FracTextsUptoSaid : Prop := fracTextsUptoRow.holds Try.pinned (OpenSpec.upto fracTextsSpec)

/-- 'unbentlaw01.FracLinear', WHERE WHAT IT READS IS OF BULK AT MOST 1048576: true; the input reads as it did. -/
def fracLinearUptoRow : OpenClaim := { program := "ytdmgceckmciifaa", sum := "ae6bff1cb2e69aa5f452c488146ce9563ed2cadd855b1a1d4a50e6c8776eb3e8", func := "unbent/unbentlaw01.FracLinear", spec := "fracLinear", apart := false, narrowed := true }
def FracLinearUptoSaid : Prop := fracLinearUptoRow.holds Try.pinned (OpenSpec.upto fracLinearSpec)

end Rows
end Go.Proofs.Ytdmgceckmciifaa
